/-
  The walk of the reference's Open.
-/
import Derived.Test.YthbimhkhpkknnaaRSeal
namespace Go.Proofs.Ythbimhkhpkknnaa
open Go.RowKit
set_option linter.unusedVariables false
set_option maxHeartbeats 400000 in
theorem ropen_short (A : Option Addr) (c : Nat) (l : List UInt8) (w : World) (hl : l.length < 4) :
    Calls Try.prog 14 #[.slice A l.length c] w fun e w' => e = .returned (.tuple #[.slice none 0 0, .int .i64 3]) ∧ w = w' := by
  go_enter Try.func14, Try.ntmps14
  go_wp2
  go_ret2
  exact ⟨rfl, rfl⟩
theorem sealed_eq (x0 x1 x2 x3 : UInt8) (l : List UInt8) : sealed l = x0 :: x1 :: x2 :: x3 :: l ↔ crc l = leV x0 x1 x2 x3 := by
  have hc := crc_lt l
  constructor
  · intro h
    have : le4 (crc l) = [x0, x1, x2, x3] := by
      have := congrArg (List.take 4) h
      simpa [sealed, le4] using this
    simp only [le4, List.cons.injEq, and_true] at this
    obtain ⟨h0, h1, h2, h3⟩ := this
    rw [← h0, ← h1, ← h2, ← h3]
    unfold leV
    simp only [UInt8.toNat_ofNat']
    omega
  · intro h
    have b0 := byte_lt x0
    have b1 := byte_lt x1
    have b2 := byte_lt x2
    have b3 := byte_lt x3
    unfold sealed le4
    have e (x : UInt8) (n : Nat) (hn : n % 256 = x.toNat) : UInt8.ofNat n = x := by
      apply UInt8.toNat_inj.1
      rw [UInt8.toNat_ofNat']; exact hn
    have e0 := e x0 (crc l) (by rw [h]; unfold leV; omega)
    have e1 := e x1 (crc l / 256) (by rw [h]; unfold leV; omega)
    have e2 := e x2 (crc l / 65536) (by rw [h]; unfold leV; omega)
    have e3 := e x3 (crc l / 16777216) (by rw [h]; unfold leV; omega)
    rw [e0, e1, e2, e3]; rfl
theorem rseal_n (A : Option Addr) (n c : Nat) (l : List UInt8) (w w0 : World) (hn : l.length = n) (hl : n ≤ 140737488351232) (hA : A = none → n = 0) (hR : Rd w0 1 A n (bvs l)) (hb : Below w0.heap.size w0 w) :
    Calls Try.prog 16 #[.slice A n c] w fun e w' => ∃ v, e = .returned v ∧ w'.ownsRow w.heap.size 5 1 v (4 + n) (bvs (sealed l)) ∧ Below w.heap.size w w' := by
  subst hn
  exact rseal_any A c l w hl hA (hR.below hb)
set_option maxHeartbeats 1000000 in
theorem ropen_bad (b o : Nat) (c : Nat) (x0 x1 x2 x3 : UInt8) (l : List UInt8) (w : World) (hl : l.length ≤ 140737488351232) (hc : 4 + l.length ≤ c)
    (hR : Rd w 1 (some ⟨b, o, none⟩) (l.length + 4) (bvs (x0 :: x1 :: x2 :: x3 :: l))) (hne : crc l ≠ leV x0 x1 x2 x3) :
    Calls Try.prog 14 #[.slice (some ⟨b, o, none⟩) (l.length + 4) c] w fun e w' => e = .returned (.tuple #[.slice none 0 0, .int .i64 2]) ∧ Below w.heap.size w w' := by
  have hT := tail4 hc hR
  have hn : (sealed l == x0 :: x1 :: x2 :: x3 :: l) = false := by
    rw [beq_eq_false_iff_ne]; exact fun h => hne ((sealed_eq _ _ _ _ _).1 h)
  have hs : ∀ c W, Below w.heap.size w W → (convert 23 9 (.slice (some ⟨b, o, none⟩) (l.length + 4) c)).run Try.prog W = .ok (.string ⟨(x0 :: x1 :: x2 :: x3 :: l).toArray⟩) W := fun c W hW =>
    run_str_rd 23 9 5 c (l := x0 :: x1 :: x2 :: x3 :: l) Try.underlying23 Try.underlying5 Try.underlying9 (by simp) (hR.below hW)
  have hs0 := fun c => hs c w.drew (Below.refl _ _).drew
  by_cases hc4 : c = 4
  all_goals
    simp only [hc4, if_true, if_false] at hT
    go_enter Try.func14, Try.ntmps14
    go_wp2_with fail
    go_region_with (first
      | (go_at_call 16; refine (rseal_n _ _ _ l _ w rfl hl (by simp) hT (Below.refl _ _).drew).mono ?_; rintro e w' ⟨v1, rfl, ho1, hb1⟩; have hbb : Below w.heap.size w w' := Below.trans (Below.refl _ _).drew hb1; have hs2 := fun c => hs c w' hbb; obtain ⟨A1, c1, rfl⟩ := own_form ho1; have hs1 := run_str_n 23 9 5 c1 (sealed_length l) Try.underlying23 Try.underlying5 Try.underlying9 (own_nil ho1) (Rd.of_own ho1)))
    all_goals
      go_wp2_with fail
      go_ret2
      exact ⟨rfl, hbb⟩
set_option maxHeartbeats 1000000 in
theorem ropen_good (b o : Nat) (c : Nat) (x0 x1 x2 x3 : UInt8) (l : List UInt8) (w : World) (hl : l.length ≤ 140737488351232) (hc : 4 + l.length ≤ c)
    (hR : Rd w 1 (some ⟨b, o, none⟩) (l.length + 4) (bvs (x0 :: x1 :: x2 :: x3 :: l))) (hne : crc l = leV x0 x1 x2 x3) :
    Calls Try.prog 14 #[.slice (some ⟨b, o, none⟩) (l.length + 4) c] w fun e w' =>
      ∃ v, e = .returned (.tuple #[v, .int .i64 0]) ∧ w'.ownsRow w.heap.size 5 1 v l.length (bvs l) ∧ Below w.heap.size w w' := by
  have hT := tail4 hc hR
  have hn : (sealed l == x0 :: x1 :: x2 :: x3 :: l) = true := by
    rw [beq_iff_eq]; exact (sealed_eq _ _ _ _ _).2 hne
  have hs : ∀ c W, Below w.heap.size w W → (convert 23 9 (.slice (some ⟨b, o, none⟩) (l.length + 4) c)).run Try.prog W = .ok (.string ⟨(x0 :: x1 :: x2 :: x3 :: l).toArray⟩) W := fun c W hW =>
    run_str_rd 23 9 5 c (l := x0 :: x1 :: x2 :: x3 :: l) Try.underlying23 Try.underlying5 Try.underlying9 (by simp) (hR.below hW)
  have hs0 := fun c => hs c w.drew (Below.refl _ _).drew
  by_cases hc4 : c = 4
  all_goals
    simp only [hc4, if_true, if_false] at hT
    go_enter Try.func14, Try.ntmps14
    go_wp2_with fail
    go_region_with (first
      | (go_at_call 16; refine (rseal_n _ _ _ l _ w rfl hl (by simp) hT (Below.refl _ _).drew).mono ?_; rintro e w' ⟨v1, rfl, ho1, hb1⟩; have hbb : Below w.heap.size w w' := Below.trans (Below.refl _ _).drew hb1; have hs2 := fun c => hs c w' hbb; obtain ⟨A1, c1, rfl⟩ := own_form ho1; have hs1 := run_str_n 23 9 5 c1 (sealed_length l) Try.underlying23 Try.underlying5 Try.underlying9 (own_nil ho1) (Rd.of_own ho1)))
    all_goals
      have hT1 := (hT.below hbb).alloc (.cells #[] 5)
      have HB := Lib.hid hbb
      clear hbb hb1 ho1 hT hs1 hs2 hs0
      go_wp2_with (at_builtin; refine wpList_append_rd _ rfl (.tmp 14) (.tmp 16) 23 rfl w.heap.size 5 1 1 byteT _ 0 [] rfl (own_new w' #[] 5 1 0 w.heap.size rfl (by unfold maxLen; omega) HB.out.size) _ l.length _ (bvs l) rfl hT1 (bvs_one l) (by omega) (by unfold maxLen; omega) (by have := HB.out.size; simp; omega) (by simp) ?_; intro v2 w2 hown2 hg2 hat2; have HB2 := Lib.hid (own_grown (HB.out.alloc HB.out.size _) (own_new w' #[] 5 1 0 w.heap.size rfl (by unfold maxLen; omega) HB.out.size) hg2 (by have := HB.out.size; simp; omega)); have HO2 := Lib.hid hown2; clear hown2 hg2 hat2)
      go_ret2
      exact ⟨v2, rfl, by simpa using HO2.out, HB2.out⟩
end Go.Proofs.Ythbimhkhpkknnaa
