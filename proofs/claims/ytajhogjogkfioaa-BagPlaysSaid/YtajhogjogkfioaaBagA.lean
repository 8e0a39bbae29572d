/-
  The walks of bytes.Clone and of the bag's small calls: Len, there.
-/
import Derived.Test.YtajhogjogkfioaaBagNew
namespace Go.Proofs.Ytajhogjogkfioaa
open Go.RowKit Go.Conc
set_option linter.unusedVariables false
theorem byteT : ElemT Try.prog 32 5 1 1 := elem_mk (z := .int .u8 0) Try.underlying32 (by kernel_rfl) rfl (by decide)
set_option maxHeartbeats 400000 in
theorem clone_any (A : Option Addr) (n c : Nat) (l : List UInt8) (w : World) (hn : l.length = n) (hl : n ≤ 140737488351232) (hA : A = none → n = 0) (hR : Rd w 1 A n (bvs l)) :
    Calls Try.prog 18 #[.slice A n c] w fun e w' => ∃ v, e = .returned v ∧ w'.ownsRow w.heap.size 5 1 v n (bvs l) ∧ Below w.heap.size w w' := by
  have HN := Lib.hid hn; clear hn
  rcases A with _ | ad
  · have h0 := hA rfl
    subst h0
    have hl0 : l = [] := List.eq_nil_of_length_eq_zero HN.out
    subst hl0
    have hq := eql_slice_nil_any (P := Try.prog) Try.underlying32
    go_enter Try.func18, Try.ntmps18
    go_wp2_with fail
    go_ret
    exact ⟨_, rfl, World.ownsRow_nil _ _ _ _, Below.refl _ _⟩
  · clear hA
    have hq := eql_slice_nil_any (P := Try.prog) Try.underlying32
    go_enter Try.func18, Try.ntmps18
    go_wp2_with (at_builtin; refine wpList_append_rd _ rfl (.tmp 5) (.tmp 6) 32 rfl w.heap.size 5 1 1 byteT _ 0 [] rfl (own_new w #[] 5 1 0 w.heap.size rfl (by unfold maxLen; omega) (Nat.le_refl _)) (some ad) n c (bvs l) rfl (hR.alloc _) (bvs_one l) (by omega) (by unfold maxLen; omega) (by simp) (by simp) ?_; intro v1 w1 hown1 hg1 hat1; have HB1 := Lib.hid (own_grown ((Below.refl w.heap.size w).alloc (Nat.le_refl _) _) (own_new w #[] 5 1 0 w.heap.size rfl (by unfold maxLen; omega) (Nat.le_refl _)) hg1 (by simp)); have HO1 := Lib.hid hown1; clear hown1 hg1 hat1)
    go_ret
    exact ⟨v1, rfl, by simpa using HO1.out, HB1.out⟩
set_option maxHeartbeats 400000 in
theorem len_nil (w : World) : Calls Try.prog 16 #[.pointer none] w fun e w' => e = .returned (.int .i64 0) ∧ w = w' := by
  go_enter Try.func16, Try.ntmps16
  go_wp2
  go_ret
  exact ⟨rfl, rfl⟩
set_option maxHeartbeats 400000 in
theorem len_any {w : World} {B p c room : Nat} {sv : Value} {L : List Ltr} (hB : BagAt w B p c sv room L) :
    Calls Try.prog 16 #[.pointer (some ⟨p, 0, none⟩)] w fun e w' => e = .returned (.int .i64 (L.length : Int)) ∧ w = w' := by
  obtain ⟨hp, _, _, _, ho, _⟩ := hB
  obtain ⟨A, cap, rfl⟩ := own_form ho
  have hc0 : w.cell? ⟨p, 0, none⟩ = some (.slice A L.length cap) := cell_of_row _ _ 0 _ _ (0, 0) hp
  clear hp ho
  go_enter Try.func16, Try.ntmps16
  go_wp2
  go_ret
  exact ⟨rfl, rfl⟩
set_option maxHeartbeats 400000 in
theorem there_nil (w : World) (i : Int) : Calls Try.prog 19 #[.pointer none, .int .i64 i] w fun e w' => e = .returned (.int .i64 1) ∧ w = w' := by
  go_enter Try.func19, Try.ntmps19
  go_wp2
  go_ret
  exact ⟨rfl, rfl⟩
set_option maxHeartbeats 400000 in
theorem there_any {w : World} {B p c room : Nat} {sv : Value} {L : List Ltr} (hB : BagAt w B p c sv room L) (i : Int) :
    Calls Try.prog 19 #[.pointer (some ⟨p, 0, none⟩), .int .i64 i] w fun e w' => e = .returned (.int .i64 (if 0 ≤ i ∧ i < L.length then 0 else 4)) ∧ w = w' := by
  obtain ⟨hp, _, _, _, ho, _⟩ := hB
  obtain ⟨A, cap, rfl⟩ := own_form ho
  have hc0 : w.cell? ⟨p, 0, none⟩ = some (.slice A L.length cap) := cell_of_row _ _ 0 _ _ (0, 0) hp
  clear hp ho
  by_cases h0 : 0 ≤ i
  · by_cases h1 : i < (L.length : Int)
    · rw [if_pos ⟨h0, h1⟩]
      go_enter Try.func19, Try.ntmps19
      go_wp2_with fail
      go_ret
      exact ⟨rfl, rfl⟩
    · rw [if_neg (by omega)]
      go_enter Try.func19, Try.ntmps19
      go_wp2_with fail
      go_ret
      exact ⟨rfl, rfl⟩
  · rw [if_neg (by omega)]
    have h2 : i < 0 := by omega
    go_enter Try.func19, Try.ntmps19
    go_wp2_with fail
    go_ret
    exact ⟨rfl, rfl⟩
end Go.Proofs.Ytajhogjogkfioaa
