/-
  CastaBack: what was sealed is opened; a text may be summed in two parts.
  Conditions: what the arguments hold together is within the second form's bound.
-/
import Derived.Test.YthbimhkhpkknnaaAwake
import Derived.Test.YthbimhkhpkknnaaFrame
namespace Go.Proofs.Ythbimhkhpkknnaa
open Go.ChangeShapes Go.WideShapes Go.ChangeAt Go.RowKit
set_option linter.unusedVariables false
theorem le4_leV (l : List UInt8) : crc l = leV (UInt8.ofNat (crc l)) (UInt8.ofNat (crc l / 256)) (UInt8.ofNat (crc l / 65536)) (UInt8.ofNat (crc l / 16777216)) := by
  have := crc_lt l
  unfold leV
  simp only [UInt8.toNat_ofNat']
  omega
theorem open_sealed (b o c : Nat) (l : List UInt8) (w : World) (hl : l.length ≤ 140737488351232) (hc : 4 + l.length ≤ c) (hR : Rd w 1 (some ⟨b, o, none⟩) (4 + l.length) (bvs (sealed l))) :
    Calls Try.prog 13 #[.slice (some ⟨b, o, none⟩) (4 + l.length) c] w fun e w' =>
      ∃ v, e = .returned (.tuple #[v, .int .i64 0]) ∧ w'.ownsRow w.heap.size 5 1 v l.length (bvs l) ∧ Below w.heap.size w w' := by
  rw [Nat.add_comm 4 l.length] at hR ⊢
  exact open_good b o c _ _ _ _ l w hl hc hR (le4_leV l)
theorem sum_n (A : Option Addr) (n c : Nat) (l : List UInt8) (w w0 : World) (hn : l.length = n) (hl : n ≤ 140737488351232) (hR : Rd w0 1 A n (bvs l)) (hb : Below w0.heap.size w0 w) :
    Calls Try.prog 9 #[.slice A n c] w fun e w' => e = .returned (.int .u32 (crc l)) ∧ w = w' := by
  subst hn
  exact sum_any A c l w (by unfold maxLen; omega) (hR.below hb)
set_option maxHeartbeats 1000000 in
theorem castaBack_walk (A1 A2 : Option Addr) (c1 c2 : Nat) (l1 l2 : List UInt8) (w : World) (hl : l1.length + l2.length ≤ 1048576)
    (hA1 : A1 = none → l1.length = 0) (hA2 : A2 = none → l2.length = 0) (hR1 : Rd w 1 A1 l1.length (bvs l1)) (hR2 : Rd w 1 A2 l2.length (bvs l2)) :
    Calls Try.prog 5 #[.slice A1 l1.length c1, .slice A2 l2.length c2] w fun e w' => e = .returned (.bool true) ∧ Below w.heap.size w w' := by
  have HA1 := Lib.hid hA1; have HA2 := Lib.hid hA2
  clear hA1 hA2
  have hcr := crc_lt l1
  go_enter Try.func5, Try.ntmps5
  go_wp2_with fail
  refine (seal_any A1 c1 l1 _ (by omega) HA1.out hR1).mono ?_
  rintro e w1 ⟨v1, rfl, ho1, hb1⟩
  obtain ⟨g1, k1, rfl, _, _⟩ := ho1.form (by omega)
  have hk1 := own_cap ho1
  have HR := Lib.hid (Rd.of_own ho1); have HB1 := Lib.hid hb1
  clear ho1 hb1
  go_wp2_with fail
  refine (open_sealed g1 0 k1 l1 _ (by omega) hk1 HR.out).mono ?_
  rintro e w2 ⟨v2, rfl, ho2, hb2⟩
  obtain ⟨A4, k4, rfl⟩ := own_form ho2
  have HB2 := Lib.hid (HB1.out.trans (hb2.mono HB1.out.size))
  have HO2 := Lib.hid ho2
  clear ho2 hb2 HB1
  go_wp2_with fail
  refine (awake_any _).mono ?_
  rintro e w3 ⟨rfl, hb3⟩
  have HB3 := Lib.hid (HB2.out.trans (hb3.mono HB2.out.size))
  have hs1 := run_str_rd 23 9 5 k4 (w := w3) Try.underlying23 Try.underlying5 Try.underlying9 (own_nil HO2.out) ((Rd.of_own HO2.out).below hb3)
  have hs2 := run_str_rd 23 9 5 c1 (w := w3) Try.underlying23 Try.underlying5 Try.underlying9 HA1.out (hR1.below HB3.out)
  have hq : (l1 == l1) = true := by simp
  have hR13 := hR1.below HB3.out
  have hR23 := hR2.below HB3.out
  clear hb3 HB2
  have hm := more_any (crc l1) hcr A2 c2 l2 w3 (by unfold maxLen; omega) hR23
  have HM := hide_ hm
  clear hm
  go_wp2_with (first
    | (go_at_call 9; refine (sum_any A1 c1 l1 _ (by unfold maxLen; omega) hR13).mono ?_; rintro e w4 ⟨rfl, rfl⟩)
    | (go_at_call 11; refine HM.out.mono ?_; rintro e w4 ⟨rfl, rfl⟩; clear HM)
    | (at_builtin; refine wpList_append_rdg _ (by rfl) (.tmp 30) (.tmp 31) 23 rfl w.heap.size 5 1 1 byteT _ 0 [] rfl (own_new w3 #[] 5 1 0 w.heap.size rfl (by unfold maxLen; omega) HB3.out.size) A1 l1.length c1 (bvs l1) rfl (hR13.alloc _) (bvs_one l1) (by omega) (by unfold maxLen; omega) (by have := HB3.out.size; simp; omega) HA1.out ?_; intro v5 w5 hown5 hg5 hat5; have HB5 := Lib.hid (own_grown (HB3.out.alloc HB3.out.size _) (own_new w3 #[] 5 1 0 w.heap.size rfl (by unfold maxLen; omega) HB3.out.size) hg5 (by have := HB3.out.size; simp; omega)); have HO5 := Lib.hid hown5; clear hown5 hg5 hat5)
    | (at_builtin; refine wpList_append_rdg _ (by rfl) (.tmp 32) (.tmp 33) 23 rfl w.heap.size 5 1 1 byteT _ _ _ rfl HO5.out A2 l2.length c2 (bvs l2) rfl (hR2.below HB5.out) (bvs_one l2) (by omega) (by unfold maxLen; omega) HB5.out.size HA2.out ?_; intro v6 w6 hown6 hg6 hat6; have HB6 := Lib.hid (own_grown HB5.out HO5.out hg6 HB5.out.size); have HO6 := Lib.hid hown6; clear hown6 hg6 hat6; obtain ⟨A6, c6, rfl⟩ := own_form HO6.out)
    )
  have hR6 := Rd.of_own HO6.out
  have hbb : [] ++ bvs l1 ++ bvs l2 = bvs (l1 ++ l2) := by simp [bvs]
  rw [hbb, Nat.zero_add] at hR6
  refine (sum_n A6 (l1.length + l2.length) c6 (l1 ++ l2) w6 w6 (by simp) (by omega) hR6 (Below.refl _ _)).mono ?_
  rintro e w7 ⟨rfl, rfl⟩
  have he : ((crcMore (crc l1) l2 : Int) == (crc (l1 ++ l2) : Int)) = true := by
    rw [show crcMore (crc l1) l2 = crc (l1 ++ l2) from crcMore_append 0 l1 l2]; simp
  go_wp2
  go_ret
  exact ⟨rfl, HB6.out⟩
theorem castaBack_contract (H : Type) (enc : TypeId × Value → H) (W : World) (base : Nat) (args : Array Value) (ds : List (DataW H)) (before : List MemPlace)
    (hval : ∀ (j : Nat) t v, Try.f5.params[j]? = some t → args[j]? = some v → Value.okWide Try.prog W .any base t v)
    (hA : DataW.TrodAll enc Try.prog W 0 (fun _ => true) true Try.f5.params.toList args.toList ds before)
    (_hsz : (DataW.weightsEach Try.prog (Try.f5.params.toList ++ Rows.castaBackSpec.plain.varTypes Try.prog) (ds ++ [])).all (· ≤ reachBytes) = true)
    (hk : Rows.uptoSmall H (ds ++ []) = true) :
    Calls Try.prog 5 args W fun e W' => e = .returned (.bool true) ∧ Below W.heap.size W W' := by
  rw [Try.params5] at hA hval
  obtain ⟨v0, vs0, d0, ds0, p0, q0, hargs, rfl, rfl, h0, r0⟩ := trodAll_cons hA
  obtain ⟨v1, vs1, d1, ds1, p1, q1, rfl, rfl, rfl, h1, r1⟩ := trodAll_cons r0
  obtain ⟨rfl, rfl, rfl⟩ := trodAll_nil r1
  obtain rfl : args = #[v0, v1] := by cases args; simp_all
  obtain ⟨A1, c1, l1, rfl, hc1, _, hA1, hR1, hd1⟩ := open_bytes Try.underlying23 Try.underlying5 (by kernel_rfl) (hval 0 23 v0 rfl rfl) h0
  obtain ⟨A2, c2, l2, rfl, hc2, _, hA2, hR2, hd2⟩ := open_bytes Try.underlying23 Try.underlying5 (by kernel_rfl) (hval 1 23 v1 rfl rfl) h1
  have hb := bulk_bound hk
  have b1 := bulk_slice hd1
  have b2 := bulk_slice hd2
  simp only [Rows.uptoBulkAll] at hb
  exact castaBack_walk A1 A2 c1 c2 l1 l2 W (by omega) hA1 hA2 hR1 hR2
set_option maxRecDepth 100000 in
theorem castaBack_lifted (os : Os) (started : os.Started) (H : Type) (enc : TypeId × Value → H) (F : Stop.Interp) :
    ReturnsInHanded {} Try.checked os 5 .any ((Rows.OpenSpec.upto Rows.castaBackSpec).pre6 enc Try.prog Try.f5 Rows.castaBackUptoRow.domain false) (((Rows.OpenSpec.upto Rows.castaBackSpec).at F).post enc Try.prog Try.f5 false true false false) := by
  refine returnsInHanded_of_cond_sized (C := Try.checked) (s := Rows.OpenSpec.upto Rows.castaBackSpec) (k := Rows.uptoSmall) rfl own started (by kernel_rfl) Try.func5
    (OpenSpec.witness (enc := enc) (C := Try.checked) (s := Rows.OpenSpec.upto Rows.castaBackSpec) (k := Rows.uptoSmall) rfl false ⟨#[], #[.slice none 0 0, .slice none 0 0], []⟩ 8 (by kernel_rfl) (by kernel_rfl) (by kernel_rfl)
      (x := ([.nil, .nil], [], [])) (by kernel_rfl) rfl (by kernel_rfl)) ?_
  intro W base args ds gs before hval hW _ hk hsz _
  have hW' := hW
  obtain ⟨p, q, hA0, hV, rfl, hfz, hnd⟩ := hW
  obtain ⟨rfl, rfl⟩ := trodVars_none hV
  have hA : DataW.TrodAll enc Try.prog W 0 (fun _ => true) true Try.f5.params.toList args.toList ds p := hA0
  refine (castaBack_contract H enc W base args ds p hval hA hsz hk).mono fun e W' ⟨he, hb⟩ => ?_
  subst he
  have hds : ds.length = 2 := by
    rw [Try.params5] at hA
    obtain ⟨v0, vs0, d0, ds0, p0, q0, _, rfl, rfl, _, r0⟩ := trodAll_cons hA
    obtain ⟨v1, vs1, d1, ds1, p1, q1, _, rfl, rfl, _, r1⟩ := trodAll_cons r0
    obtain ⟨_, rfl, rfl⟩ := trodAll_nil r1
    rfl
  have hsh : ∃ d0 d1 : DataW H, ds = [d0, d1] := by
    match ds, hds with
    | [d0, d1], _ => exact ⟨d0, d1, rfl⟩
  obtain ⟨d0, d1, rfl⟩ := hsh
  exact ⟨_, rfl, post_law (s := Rows.castaBackSpec) laidOut (by kernel_rfl) Try.underlying4 rfl (by kernel_rfl) hW' rfl rfl rfl hb⟩
theorem castaBack_over : Rows.castaBackUptoRow.holds Try.pinned (Rows.OpenSpec.upto Rows.castaBackSpec) :=
  OpenClaim.holds_of_cond 5 Try.f5 rfl rfl rfl rfl rfl rfl rfl ⟨rfl, rfl, rfl, rfl, rfl⟩ rfl rfl rfl rfl rfl (by kernel_rfl) Try.func5 (by kernel_rfl)
    (of_decide_eq_true (by kernel_rfl)) (by unfold Func.isWrapper; first | (rw [if_pos (by decide +kernel)]; kernel_rfl) | (rw [if_neg (by decide +kernel)]; exact ⟨rfl, rfl⟩))
    (fun os started H enc _ F => castaBack_lifted os started H enc F)
/-- The statement. -/
theorem castaBack_holds : Rows.CastaBackUptoSaid := castaBack_over
end Go.Proofs.Ythbimhkhpkknnaa
