/-
  CastaSums: for any number and any bytes the program's sums are the document's, and it writes nothing that was there.
  Conditions: none but the row's own.
-/
import Derived.Test.YthbimhkhpkknnaaAwake
import Derived.Test.YthbimhkhpkknnaaFrame
namespace Go.Proofs.Ythbimhkhpkknnaa
open Go.ChangeShapes Go.WideShapes Go.ChangeAt Go.RowKit
set_option maxHeartbeats 400000 in
theorem castaSums_walk (s : Nat) (hs : s < 4294967296) (A : Option Addr) (c : Nat) (l : List UInt8) (w : World) (hl : l.length ≤ maxLen) (hR : Rd w 1 A l.length (bvs l)) :
    Calls Try.prog 3 #[.int .u32 s, .slice A l.length c] w fun e w' => e = .returned (.bool true) ∧ Below w.heap.size w w' := by
  have h1 : ((crc l : Int) == (crc l : Int)) = true := by simp
  have h2 : ((crcMore s l : Int) == (crcMore s l : Int)) = true := by simp
  go_enter Try.func3, Try.ntmps3
  go_wp2_with fail
  refine (awake_any _).mono ?_
  rintro e w1 ⟨rfl, hb⟩
  have hR1 := hR.below hb
  have HB := Lib.hid hb
  clear hb hR
  go_wp2_with (first
    | (go_at_call 9; refine (sum_any _ _ _ _ hl hR1).mono ?_; rintro e w2 ⟨rfl, rfl⟩)
    | (go_at_call 10; refine (rsum_any _ _ _ _ hl hR1).mono ?_; rintro e w2 ⟨rfl, rfl⟩)
    | (go_at_call 11; refine (more_any _ hs _ _ _ _ hl hR1).mono ?_; rintro e w2 ⟨rfl, rfl⟩)
    | (go_at_call 12; refine (rmore_any _ hs _ _ _ _ hl hR1).mono ?_; rintro e w2 ⟨rfl, rfl⟩))
  go_ret
  exact ⟨rfl, HB.out⟩
theorem castaSums_contract (H : Type) (enc : TypeId × Value → H) (W : World) (base : Nat) (args : Array Value) (ds : List (DataW H)) (before : List MemPlace)
    (hval : ∀ (j : Nat) t v, Try.f3.params[j]? = some t → args[j]? = some v → Value.okWide Try.prog W .any base t v)
    (hA : DataW.TrodAll enc Try.prog W 0 (fun _ => true) true Try.f3.params.toList args.toList ds before)
    (_hsz : (DataW.weightsEach Try.prog (Try.f3.params.toList ++ Rows.castaSumsSpec.plain.varTypes Try.prog) (ds ++ [])).all (· ≤ reachBytes) = true) :
    Calls Try.prog 3 args W fun e W' => e = .returned (.bool true) ∧ Below W.heap.size W W' := by
  rw [Try.params3] at hA hval
  obtain ⟨v0, vs0, d0, ds0, p0, q0, hargs, rfl, rfl, h0, r0⟩ := trodAll_cons hA
  obtain ⟨v1, vs1, d1, ds1, p1, q1, rfl, rfl, rfl, h1, r1⟩ := trodAll_cons r0
  obtain ⟨rfl, rfl, rfl⟩ := trodAll_nil r1
  obtain rfl : args = #[v0, v1] := by cases args; simp_all
  obtain ⟨a0, rfl, rfl, rfl, w0⟩ := open_int Try.underlying22 (hval 0 22 v0 rfl rfl) h0
  obtain ⟨A, c, l, rfl, hlc, hcm, hA1, hR, hd⟩ := open_bytes Try.underlying23 Try.underlying5 (by kernel_rfl) (hval 1 23 v1 rfl rfl) h1
  have hb := bounds_u32 w0
  obtain ⟨n, rfl⟩ := Int.eq_ofNat_of_zero_le hb.1
  exact castaSums_walk n (by omega) A c l W (by omega) hR
set_option maxRecDepth 100000 in
theorem castaSums_lifted (os : Os) (started : os.Started) (H : Type) (enc : TypeId × Value → H) :
    ReturnsInHanded {} Try.checked os 3 .any (Rows.castaSumsSpec.pre6 enc Try.prog Try.f3 Rows.castaSumsRow.domain false) (Rows.castaSumsSpec.post enc Try.prog Try.f3 false true false false) := by
  refine returnsInHanded_of_change_sized (C := Try.checked) own started (by kernel_rfl) Try.func3
    (ChangeSpec.witness6 (enc := enc) (C := Try.checked) false ⟨#[], #[.int .u32 0, .slice none 0 0], []⟩ 8 (by kernel_rfl) (by kernel_rfl) (by kernel_rfl) (by kernel_rfl)) ?_
  intro W base args ds gs before hval hW _ hsz _
  have hW' := hW
  obtain ⟨p, q, hA0, hV, rfl, hfz, hnd⟩ := hW
  obtain ⟨rfl, rfl⟩ := trodVars_none hV
  have hA : DataW.TrodAll enc Try.prog W 0 (fun _ => true) true Try.f3.params.toList args.toList ds p := hA0
  refine (castaSums_contract H enc W base args ds p hval hA hsz).mono fun e W' ⟨he, hb⟩ => ?_
  subst he
  have hds : ds.length = 2 := by
    rw [Try.params3] at hA
    obtain ⟨v0, vs0, d0, ds0, p0, q0, _, rfl, rfl, _, r0⟩ := trodAll_cons hA
    obtain ⟨v1, vs1, d1, ds1, p1, q1, _, rfl, rfl, _, r1⟩ := trodAll_cons r0
    obtain ⟨_, rfl, rfl⟩ := trodAll_nil r1
    rfl
  have hsh : ∃ d0 d1 : DataW H, ds = [d0, d1] := by
    match ds, hds with
    | [d0, d1], _ => exact ⟨d0, d1, rfl⟩
  obtain ⟨d0, d1, rfl⟩ := hsh
  exact ⟨_, rfl, post_law (s := Rows.castaSumsSpec) laidOut (by kernel_rfl) Try.underlying4 rfl (by kernel_rfl) hW' rfl rfl rfl hb⟩
theorem castaSums_over : Rows.castaSumsRow.holds Try.pinned (OpenSpec.ofChange Rows.castaSumsSpec) :=
  OpenClaim.holds_of_wide 3 Try.f3 rfl rfl rfl rfl rfl rfl rfl ⟨rfl, rfl, rfl, rfl, rfl⟩ rfl rfl rfl rfl rfl (by kernel_rfl) Try.func3 (by kernel_rfl)
    (of_decide_eq_true (by kernel_rfl)) (by unfold Func.isWrapper; first | (rw [if_pos (by decide +kernel)]; kernel_rfl) | (rw [if_neg (by decide +kernel)]; exact ⟨rfl, rfl⟩))
    (fun os started H enc _ => castaSums_lifted os started H enc)
/-- The statement. -/
theorem castaSums_holds : Rows.CastaSumsSaid := castaSums_over
end Go.Proofs.Ythbimhkhpkknnaa
