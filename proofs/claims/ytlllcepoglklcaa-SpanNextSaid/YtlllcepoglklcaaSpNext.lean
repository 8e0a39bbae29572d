/-
  SpanNext: for any key and any other one, nothing lies between the key and the program's next one; it writes nothing that was there.
  Conditions: none but the row's own.
-/
import Derived.Test.YtlllcepoglklcaaSpanOpen
namespace Go.Proofs.Ytlllcepoglklcaa
open Go.ChangeShapes Go.WideShapes Go.ChangeAt Go.RowKit
open Go.ChangeMaps (open_string)
set_option linter.unusedVariables false
set_option linter.unusedSimpArgs false
set_option maxHeartbeats 1000000 in
theorem spanNext_walk (k o : ByteArray) (hk : k.size ≤ 4611686018427387904) (w : World) :
    Calls Try.prog 4 #[.string k, .string o] w fun e w' => e = .returned (.bool true) ∧ Below w.heap.size w w' := by
  obtain ⟨n, hn⟩ : ∃ n, n = k ++ ⟨#[0]⟩ := ⟨_, rfl⟩
  have hnx := fun W => next_any k hk W
  rw [← hn] at hnx
  have hkn : k < n := by rw [hn]; exact next_lt k
  have hgap : k < o → n ≤ o := by rw [hn]; exact next_gap k o
  have n1 : Op.bytesLess n.toList k.toList = false := by rw [bl]; simp; grind
  have n2 : (n.toList == k.toList) = false := by rw [beq_ba]; simp; rintro rfl; grind
  have HN := hide_ hkn
  clear hn hkn
  have done : ∀ w1 w2 : World, Below w.heap.size w w1 → Below w.heap.size w (w1.alloc (.cells #[.string k, .string n] 23)) := fun w1 _ h => h.alloc h.size _
  have HD := hide_ done
  clear done
  rcases (show o < k ∨ o = k ∨ k < o by grind) with h | h | h
  · have f1 : Op.bytesLess o.toList k.toList = true := by rw [bl]; simpa
    have f2 : (o.toList == k.toList) = false := by rw [beq_ba]; simp; rintro rfl; grind
    have hh := fun W => has_no k n o W (by grind)
    clear h hgap
    go_enter Try.func4, Try.ntmps4
    go_wp2_with (first | (go_at_call 15; refine (hnx _).mono ?_; rintro e w' ⟨rfl, rfl⟩) | (go_at_call 11; refine (awake_any _).mono ?_; rintro e w1 ⟨rfl, hb1⟩; have HB := hide_ hb1; clear hb1) | (go_at_call 12; refine (hh _).mono ?_; rintro e w' ⟨rfl, rfl⟩))
    go_ret
    exact ⟨rfl, HB.out.alloc HB.out.size _⟩
  · subst h
    have hh := fun W => has_yes o n o W (by have := HN.out; grind)
    clear hgap
    go_enter Try.func4, Try.ntmps4
    go_wp2_with (first | (go_at_call 15; refine (hnx _).mono ?_; rintro e w' ⟨rfl, rfl⟩) | (go_at_call 11; refine (awake_any _).mono ?_; rintro e w1 ⟨rfl, hb1⟩; have HB := hide_ hb1; clear hb1) | (go_at_call 12; refine (hh _).mono ?_; rintro e w' ⟨rfl, rfl⟩))
    go_ret
    exact ⟨rfl, HB.out.alloc HB.out.size _⟩
  · have f1 : Op.bytesLess o.toList k.toList = false := by rw [bl]; simp; grind
    have f2 : (o.toList == k.toList) = false := by rw [beq_ba]; simp; rintro rfl; grind
    have f3 : Op.bytesLess o.toList n.toList = false := by rw [bl]; have := hgap h; simp; grind
    have hh := fun W => has_no k n o W (by have := hgap h; grind)
    clear h hgap
    go_enter Try.func4, Try.ntmps4
    go_wp2_with (first | (go_at_call 15; refine (hnx _).mono ?_; rintro e w' ⟨rfl, rfl⟩) | (go_at_call 11; refine (awake_any _).mono ?_; rintro e w1 ⟨rfl, hb1⟩; have HB := hide_ hb1; clear hb1) | (go_at_call 12; refine (hh _).mono ?_; rintro e w' ⟨rfl, rfl⟩))
    go_ret
    exact ⟨rfl, HB.out.alloc HB.out.size _⟩
theorem spanNext_contract (H : Type) (enc : TypeId × Value → H) (W : World) (base : Nat) (args : Array Value) (ds : List (DataW H)) (before : List MemPlace)
    (hval : ∀ (j : Nat) t v, Try.f4.params[j]? = some t → args[j]? = some v → Value.okWide Try.prog W .any base t v)
    (hA : DataW.TrodAll enc Try.prog W 0 (fun _ => true) true Try.f4.params.toList args.toList ds before)
    (hsz : (DataW.weightsEach Try.prog (Try.f4.params.toList ++ Rows.spanNextSpec.plain.varTypes Try.prog) (ds ++ [])).all (· ≤ reachBytes) = true) :
    Calls Try.prog 4 args W fun e W' => e = .returned (.bool true) ∧ Below W.heap.size W W' := by
  rw [Try.params4] at hA hval hsz
  obtain ⟨v0, vs0, d0, ds0, p0, q0, hargs, rfl, rfl, h0, r0⟩ := trodAll_cons hA
  obtain ⟨v1, vs1, d1, ds1, p1, q1, rfl, rfl, rfl, h1, r1⟩ := trodAll_cons r0
  obtain ⟨rfl, rfl, rfl⟩ := trodAll_nil r1
  obtain rfl : args = #[v0, v1] := by cases args; simp_all
  obtain ⟨k, rfl, rfl, rfl, hk⟩ := open_string Try.underlying9 (hval 0 9 v0 rfl rfl) h0
  obtain ⟨o, rfl, rfl, rfl, ho⟩ := open_string Try.underlying9 (hval 1 9 v1 rfl rfl) h1
  have hr := sized_string hsz (j := 0) (t := 9) (bytes := k.data.toList) rfl rfl
  have hks : k.size = k.data.toList.length := by simp
  exact spanNext_walk k o (by rw [hks]; unfold reachBytes at hr; omega) W
set_option maxRecDepth 100000 in
theorem spanNext_lifted (os : Os) (started : os.Started) (H : Type) (enc : TypeId × Value → H) :
    ReturnsInHanded {} Try.checked os 4 .any (Rows.spanNextSpec.pre6 enc Try.prog Try.f4 Rows.spanNextRow.domain false) (Rows.spanNextSpec.post enc Try.prog Try.f4 false true false false) := by
  refine returnsInHanded_of_change_sized (C := Try.checked) own started (by kernel_rfl) Try.func4
    (ChangeSpec.witness6 (enc := enc) (C := Try.checked) false ⟨#[], #[.string ByteArray.empty, .string ByteArray.empty], []⟩ 8 (by kernel_rfl) (by kernel_rfl) (by kernel_rfl) (by kernel_rfl)) ?_
  intro W base args ds gs before hval hW _ hsz _
  have hW' := hW
  obtain ⟨p, q, hA0, hV, rfl, hfz, hnd⟩ := hW
  obtain ⟨rfl, rfl⟩ := trodVars_none hV
  have hA : DataW.TrodAll enc Try.prog W 0 (fun _ => true) true Try.f4.params.toList args.toList ds p := hA0
  refine (spanNext_contract H enc W base args ds p hval hA hsz).mono fun e W' ⟨he, hb⟩ => ?_
  subst he
  have hds : ds.length = 2 := by
    rw [Try.params4] at hA
    obtain ⟨v0, vs0, d0, ds0, p0, q0, _, rfl, rfl, _, r0⟩ := trodAll_cons hA
    obtain ⟨v1, vs1, d1, ds1, p1, q1, _, rfl, rfl, _, r1⟩ := trodAll_cons r0
    obtain ⟨_, rfl, rfl⟩ := trodAll_nil r1
    rfl
  have hsh : ∃ d0 d1 : DataW H, ds = [d0, d1] := by
    match ds, hds with
    | [d0, d1], _ => exact ⟨d0, d1, rfl⟩
  obtain ⟨d0, d1, rfl⟩ := hsh
  exact ⟨_, rfl, post_law (s := Rows.spanNextSpec) laidOut (by kernel_rfl) Try.underlying4 rfl (by kernel_rfl) hW' rfl rfl rfl hb⟩
theorem spanNext_over : Rows.spanNextRow.holds Try.pinned (OpenSpec.ofChange Rows.spanNextSpec) :=
  OpenClaim.holds_of_wide 4 Try.f4 rfl rfl rfl rfl rfl rfl rfl ⟨rfl, rfl, rfl, rfl, rfl⟩ rfl rfl rfl rfl rfl (by kernel_rfl) Try.func4 (by kernel_rfl)
    (of_decide_eq_true (by kernel_rfl)) (by unfold Func.isWrapper; first | (rw [if_pos (by decide +kernel)]; kernel_rfl) | (rw [if_neg (by decide +kernel)]; exact ⟨rfl, rfl⟩))
    (fun os started H enc _ => spanNext_lifted os started H enc)
/-- The statement. -/
theorem spanNext_holds : Rows.SpanNextSaid := spanNext_over
end Go.Proofs.Ytlllcepoglklcaa
