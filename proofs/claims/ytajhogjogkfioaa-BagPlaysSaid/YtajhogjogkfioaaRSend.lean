/-
  The document's bag: Send.
-/
import Derived.Test.YtajhogjogkfioaaRBag
import Derived.Test.YtajhogjogkfioaaLoud
namespace Go.Proofs.Ytajhogjogkfioaa
open Go.RowKit Go.Conc
set_option linter.unusedVariables false
set_option linter.unusedSimpArgs false
set_option maxHeartbeats 400000 in
theorem rsend_arg {w : World} {B r room : Nat} {lv : Value} {L : List RL} (h : RAt w B r lv room L) (dst : Int) (v : Value) (hd : dst < 0 ∨ (0 ≤ dst ∧ 255 < dst)) :
    Calls Try.prog 7 #[.pointer (some ⟨r, 0, none⟩), .int .i64 dst, v] w fun e w' => e = .returned (.int .i64 1) ∧ w = w' := by
  rcases hd with hd | ⟨hd, h2⟩
  all_goals
    go_enter Try.func7, Try.ntmps7
    go_wp2_with fail
    go_returns
    exact ⟨rfl, rfl⟩
set_option maxHeartbeats 400000 in
theorem rsend_large {w : World} {B r room : Nat} {lv : Value} {L : List RL} (h : RAt w B r lv room L) (dst : Int) (A : Option Addr) (n cap : Nat) (h0 : 0 ≤ dst) (h2 : dst ≤ 255) (hn : 131072 < n) :
    Calls Try.prog 7 #[.pointer (some ⟨r, 0, none⟩), .int .i64 dst, .slice A n cap] w fun e w' => e = .returned (.int .i64 6) ∧ w = w' := by
  go_enter Try.func7, Try.ntmps7
  go_wp2_with fail
  go_returns
  exact ⟨rfl, rfl⟩
set_option maxHeartbeats 400000 in
theorem rsend_full {w : World} {B r room : Nat} {lv : Value} {L : List RL} (h : RAt w B r lv room L) (dst : Int) (A : Option Addr) (n cap : Nat) (h0 : 0 ≤ dst) (h2 : dst ≤ 255) (hn : n ≤ 131072) (hf : room ≤ L.length) :
    Calls Try.prog 7 #[.pointer (some ⟨r, 0, none⟩), .int .i64 dst, .slice A n cap] w fun e w' => e = .returned (.int .i64 10) ∧ Below w.heap.size w w' := by
  obtain ⟨hp, _, ho⟩ := h
  obtain ⟨A2, c2, rfl⟩ := own_form ho
  have hc0 : w.cell? ⟨r, 0, none⟩ = some (.slice A2 L.length c2) := cell_of_row _ _ 0 _ _ (0, 0) hp
  have hc1 : w.cell? ⟨r, 1, none⟩ = some (.int .i64 (room : Int)) := cell_of_row _ _ 1 _ _ (0, 0) hp
  have q1 : (room : Int) ≤ (L.length : Int) := by omega
  have l0 := later_drew_cell hc0
  have l1 := later_drew_cell hc1
  clear hp ho
  go_enter Try.func7, Try.ntmps7
  go_wp2_with fail
  refine wp_region_k (by kernel_rfl) ?_
  refine wpAnyK_take 0 (v := ?_) rfl (by kernel_rfl) (by kernel_rfl) (by kernel_rfl) (fun _ _ _ h => h) (by rfl) (by intro W hSw; go_simp; with_reducible rfl) ?_; try simp only [Act.put, List.setIfInBounds_toArray, List.set_cons_zero, List.set_cons_succ]
  refine wpAnyK_take 1 (v := ?_) rfl (by kernel_rfl) (by kernel_rfl) (by kernel_rfl) (fun _ _ _ h => h) (by rfl) (by intro W hSw; go_simp; with_reducible rfl) ?_; try simp only [Act.put, List.setIfInBounds_toArray, List.set_cons_zero, List.set_cons_succ]
  refine wpAnyK_take 2 (v := ?_) rfl (by kernel_rfl) (by kernel_rfl) (by kernel_rfl) (fun _ _ _ h => h) (by rfl) (by intro W hSw; go_simp; with_reducible rfl) ?_; try simp only [Act.put, List.setIfInBounds_toArray, List.set_cons_zero, List.set_cons_succ]
  refine wpAnyK_take 3 (v := ?_) rfl (by kernel_rfl) (by kernel_rfl) (by kernel_rfl) (fun _ _ _ h => h) (by rfl) (by intro W hSw; go_simp; with_reducible rfl) ?_; try simp only [Act.put, List.setIfInBounds_toArray, List.set_cons_zero, List.set_cons_succ]
  refine wpAnyK_take 4 (v := ?_) rfl (by kernel_rfl) (by kernel_rfl) (by kernel_rfl) (fun _ _ _ h => h) (by rfl) (by intro W hSw; go_simp; with_reducible rfl) ?_; try simp only [Act.put, List.setIfInBounds_toArray, List.set_cons_zero, List.set_cons_succ]
  refine wpAnyK_take 5 (v := ?_) rfl (by kernel_rfl) (by kernel_rfl) (by kernel_rfl) (fun _ _ _ h => h) (by rfl) (by intro W hSw; go_simp; with_reducible rfl) ?_; try simp only [Act.put, List.setIfInBounds_toArray, List.set_cons_zero, List.set_cons_succ]
  refine wpAnyK_take 6 (v := ?_) rfl (by kernel_rfl) (by kernel_rfl) (by kernel_rfl) (fun _ _ _ h => h) (by rfl) (by intro W hSw; go_simp; with_reducible rfl) ?_; try simp only [Act.put, List.setIfInBounds_toArray, List.set_cons_zero, List.set_cons_succ]
  refine wpAnyK_take 7 (v := ?_) rfl (by kernel_rfl) (by kernel_rfl) (by kernel_rfl) (fun _ _ _ h => h) (by rfl) (by intro W hSw; go_simp; with_reducible rfl) ?_; try simp only [Act.put, List.setIfInBounds_toArray, List.set_cons_zero, List.set_cons_succ]
  refine wpAnyK_take 8 (v := ?_) rfl (by kernel_rfl) (by kernel_rfl) (by kernel_rfl) (fun _ _ _ h => h) (by rfl) (by intro W hSw; go_simp; with_reducible rfl) ?_; try simp only [Act.put, List.setIfInBounds_toArray, List.set_cons_zero, List.set_cons_succ]
  refine wpAnyK_take 9 (v := ?_) rfl (by kernel_rfl) (by kernel_rfl) (by kernel_rfl) (fun _ _ _ h => h) (by rfl) (by intro W hSw; go_simp; with_reducible rfl) ?_; try simp only [Act.put, List.setIfInBounds_toArray, List.set_cons_zero, List.set_cons_succ]
  refine wpAnyK_done (by kernel_rfl) ?_ _
  go_wp2_with fail
  go_returns
  exact ⟨rfl, (Below.refl _ _).drew⟩
/-- The blocks that stand: all but the bag's own and its list's. -/
def Ron (w w' : World) (r : Nat) (lv : Value) : Prop := ∀ q, q < w.heap.size → q ≠ r → lv.ownBlock ≠ some q → w'.heap[q]? = w.heap[q]?
/-- What an append to the list leaves. -/
theorem rput_close {w W1 w2 : World} {B r room : Nat} {lv sv2 : Value} {L : List RL} {x : RL} (h : RAt w B r lv room L) (hBw : B ≤ w.heap.size) (hb : Below w.heap.size w W1) (hg : W1.grownBy w2 lv.ownBlock)
    (ho2 : w2.ownsRow B 36 3 sv2 (L.length + 1) (rrow L ++ x.cells)) :
    (∃ lv', RAt (w2.setCell ⟨r, 0, none⟩ sv2) B r lv' room (L ++ [x])) ∧ Below B w (w2.setCell ⟨r, 0, none⟩ sv2) ∧ Kept isRef w (w2.setCell ⟨r, 0, none⟩ sv2) ∧ Ron w (w2.setCell ⟨r, 0, none⟩ sv2) r lv := by
  have h1 := h.later hb
  have hp2 := kept_grown h1.2.2 hg h1.1 (by intro cs fz h; injection h with _ h; cases h)
  have k1 : Kept isRef w W1 := Kept.of_later hb
  have k2 : Kept isRef W1 w2 := Kept.grown h1.2.2 hg fun cs => isRef_row cs _
  have k3 : Kept isRef w2 (w2.setCell ⟨r, 0, none⟩ sv2) := Kept.setCell _ _ _ fun o h => by
    have h' : w2.heap[r]? = some o := h
    rw [hp2] at h'; injection h' with h'; subst h'; exact isRef_bag _ _
  refine ⟨⟨sv2, heap_setCell_same w2 r 0 _ _ sv2 hp2, h.2.1, ?_⟩, (own_grown (hb.mono hBw) h1.2.2 hg (Nat.le_trans hBw hb.size)).setCell h.2.1 _, (k1.trans k2).trans k3, fun q hq hqr hql => ?_⟩
  rotate_left
  · exact (Below.heap_setCell _ _ _ _ hqr).trans ((hg.block q (Nat.lt_of_lt_of_le hq hb.size) (fun e => hql e.symm)).trans (hb.block q hq))
  have h3 : (w2.setCell ⟨r, 0, none⟩ sv2).ownsRow B 36 3 sv2 (L.length + 1) (rrow L ++ x.cells) := by
    refine ⟨ho2.1, ?_⟩
    rcases ho2.2 with h0 | ⟨g, cap', cur, hv, hb', hh, hr⟩
    · exact .inl h0
    · have hne : g ≠ r := by rintro rfl; rw [hh] at hp2; injection hp2 with hp2; injection hp2 with _ hp2; cases hp2
      exact .inr ⟨g, cap', cur, hv, hb', (Below.heap_setCell w2 _ _ g hne).trans hh, hr⟩
  simpa [rrow] using h3
set_option maxHeartbeats 1000000 in
theorem rsend_any {w : World} {B r room : Nat} {lv : Value} {L : List RL} (h : RAt w B r lv room L) (hr4 : room ≤ 4096) (hBw : B ≤ w.heap.size) (dst : Int) (A : Option Addr) (n cap : Nat) (l : List UInt8) (h0 : 0 ≤ dst) (h2 : dst ≤ 255) (hn : n ≤ 131072) (hl : l.length = n)
    (hA : A = none → n = 0) (hR : Rd w 1 A n (bvs l)) (hf : L.length < room) :
    Calls Try.prog 7 #[.pointer (some ⟨r, 0, none⟩), .int .i64 dst, .slice A n cap] w fun e w' =>
      e = .returned (.int .i64 0) ∧ (∃ lv', RAt w' B r lv' room (L ++ [⟨dst, l, false⟩])) ∧ Below B w w' ∧ Kept isRef w w' ∧ Ron w w' r lv := by
  have hBr := h.2.1
  obtain ⟨A2, c2, rfl⟩ := own_form h.2.2
  have hp := h.1
  have ho := h.2.2
  have hc0 : w.cell? ⟨r, 0, none⟩ = some (.slice A2 L.length c2) := cell_of_row _ _ 0 _ _ (0, 0) hp
  have hc1 : w.cell? ⟨r, 1, none⟩ = some (.int .i64 (room : Int)) := cell_of_row _ _ 1 _ _ (0, 0) hp
  have q1 : (L.length : Int) < (room : Int) := by omega
  have l0 := later_drew_cell hc0
  have l1 := later_drew_cell hc1
  have HL := hide_ hl; have HA := hide_ hA; have HP := hide_ hp; have HO := hide_ ho
  clear hl hA hp ho
  go_enter Try.func7, Try.ntmps7
  go_wp2_with fail
  refine wp_region_k (by kernel_rfl) ?_
  refine wpAnyK_take 0 (v := ?_) rfl (by kernel_rfl) (by kernel_rfl) (by kernel_rfl) (fun _ _ _ h => h) (by rfl) (by intro W hSw; go_simp; with_reducible rfl) ?_; try simp only [Act.put, List.setIfInBounds_toArray, List.set_cons_zero, List.set_cons_succ]
  refine wpAnyK_take 1 (v := ?_) rfl (by kernel_rfl) (by kernel_rfl) (by kernel_rfl) (fun _ _ _ h => h) (by rfl) (by intro W hSw; go_simp; with_reducible rfl) ?_; try simp only [Act.put, List.setIfInBounds_toArray, List.set_cons_zero, List.set_cons_succ]
  refine wpAnyK_take 2 (v := ?_) rfl (by kernel_rfl) (by kernel_rfl) (by kernel_rfl) (fun _ _ _ h => h) (by rfl) (by intro W hSw; go_simp; with_reducible rfl) ?_; try simp only [Act.put, List.setIfInBounds_toArray, List.set_cons_zero, List.set_cons_succ]
  refine wpAnyK_take 3 (v := ?_) rfl (by kernel_rfl) (by kernel_rfl) (by kernel_rfl) (fun _ _ _ h => h) (by rfl) (by intro W hSw; go_simp; with_reducible rfl) ?_; try simp only [Act.put, List.setIfInBounds_toArray, List.set_cons_zero, List.set_cons_succ]
  refine wpAnyK_take 4 (v := ?_) rfl (by kernel_rfl) (by kernel_rfl) (by kernel_rfl) (fun _ _ _ h => h) (by rfl) (by intro W hSw; go_simp; with_reducible rfl) ?_; try simp only [Act.put, List.setIfInBounds_toArray, List.set_cons_zero, List.set_cons_succ]
  refine wpAnyK_take 5 (v := ?_) rfl (by kernel_rfl) (by kernel_rfl) (by kernel_rfl) (fun _ _ _ h => h) (by rfl) (by intro W hSw; go_simp; with_reducible rfl) ?_; try simp only [Act.put, List.setIfInBounds_toArray, List.set_cons_zero, List.set_cons_succ]
  refine wpAnyK_take 6 (v := ?_) rfl (by kernel_rfl) (by kernel_rfl) (by kernel_rfl) (fun _ _ _ h => h) (by rfl) (by intro W hSw; go_simp; with_reducible rfl) ?_; try simp only [Act.put, List.setIfInBounds_toArray, List.set_cons_zero, List.set_cons_succ]
  refine wpAnyK_take 7 (v := ?_) rfl (by kernel_rfl) (by kernel_rfl) (by kernel_rfl) (fun _ _ _ h => h) (by rfl) (by intro W hSw; go_simp; with_reducible rfl) ?_; try simp only [Act.put, List.setIfInBounds_toArray, List.set_cons_zero, List.set_cons_succ]
  refine wpAnyK_take 8 (v := ?_) rfl (by kernel_rfl) (by kernel_rfl) (by kernel_rfl) (fun _ _ _ h => h) (by rfl) (by intro W hSw; go_simp; with_reducible rfl) ?_; try simp only [Act.put, List.setIfInBounds_toArray, List.set_cons_zero, List.set_cons_succ]
  refine wpAnyK_take 9 (v := ?_) rfl (by kernel_rfl) (by kernel_rfl) (by kernel_rfl) (fun _ _ _ h => h) (by rfl) (by intro W hSw; go_simp; with_reducible rfl) ?_; try simp only [Act.put, List.setIfInBounds_toArray, List.set_cons_zero, List.set_cons_succ]
  refine wpAnyK_done (by kernel_rfl) ?_ _
  go_wp2_with fail
  have hs : ∀ W, Later w.drew.drew W → (convert 32 9 (.slice A n cap)).run Try.prog W = .ok (.string ⟨l.toArray⟩) W := fun W hW => run_str_n _ _ 5 cap HL.out Try.underlying32 Try.underlying5 Try.underlying9 HA.out (hR.drew.drew.below hW)
  have l2 := later_drew_cell (w := w.drew) hc0
  refine wp_region_l [10, 13] (by kernel_rfl) ?_
  refine wpAnyL_pure 0 (v := ?_) rfl (by kernel_rfl) (by kernel_rfl) (by kernel_rfl) (fun _ _ _ h => h) (by rfl) (by intro W; go_simp; with_reducible rfl) ?_; try simp only [Act.put, List.setIfInBounds_toArray, List.set_cons_zero, List.set_cons_succ]
  refine wpAnyL_pure 1 (v := ?_) rfl (by kernel_rfl) (by kernel_rfl) (by kernel_rfl) (fun _ _ _ h => h) (by rfl) (by intro W; go_simp; with_reducible rfl) ?_; try simp only [Act.put, List.setIfInBounds_toArray, List.set_cons_zero, List.set_cons_succ]
  refine wpAnyL_pure 2 (v := ?_) rfl (by kernel_rfl) (by kernel_rfl) (by kernel_rfl) (fun _ _ _ h => h) (by rfl) (by intro W; go_simp; with_reducible rfl) ?_; try simp only [Act.put, List.setIfInBounds_toArray, List.set_cons_zero, List.set_cons_succ]
  refine wpAnyL_pure 3 (v := ?_) rfl (by kernel_rfl) (by kernel_rfl) (by kernel_rfl) (fun _ _ _ h => h) (by rfl) (by intro W; go_simp; with_reducible rfl) ?_; try simp only [Act.put, List.setIfInBounds_toArray, List.set_cons_zero, List.set_cons_succ]
  refine wpAnyL_take 4 (v := ?_) rfl (by kernel_rfl) (by kernel_rfl) (by kernel_rfl) (by kernel_rfl) (fun _ _ _ h => h) (by rfl) (by intro W hSw; go_simp; with_reducible rfl) ?_; try simp only [Act.put, List.setIfInBounds_toArray, List.set_cons_zero, List.set_cons_succ]
  refine wpAnyL_pure 5 (v := ?_) rfl (by kernel_rfl) (by kernel_rfl) (by kernel_rfl) (fun _ _ _ h => h) (by rfl) (by intro W; go_simp; with_reducible rfl) ?_; try simp only [Act.put, List.setIfInBounds_toArray, List.set_cons_zero, List.set_cons_succ]
  refine wpAnyL_pure 6 (v := ?_) rfl (by kernel_rfl) (by kernel_rfl) (by kernel_rfl) (fun _ _ _ h => h) (by rfl) (by intro W; go_simp; with_reducible rfl) ?_; try simp only [Act.put, List.setIfInBounds_toArray, List.set_cons_zero, List.set_cons_succ]
  refine wpAnyL_take 7 (v := ?_) rfl (by kernel_rfl) (by kernel_rfl) (by kernel_rfl) (by kernel_rfl) (fun _ _ _ h => h) (by rfl) (by intro W hSw; go_simp; with_reducible rfl) ?_; try simp only [Act.put, List.setIfInBounds_toArray, List.set_cons_zero, List.set_cons_succ]
  refine wpAnyL_pure 8 (v := ?_) rfl (by kernel_rfl) (by kernel_rfl) (by kernel_rfl) (fun _ _ _ h => h) (by rfl) (by intro W; go_simp; with_reducible rfl) ?_; try simp only [Act.put, List.setIfInBounds_toArray, List.set_cons_zero, List.set_cons_succ]
  refine wpAnyL_one 9 (by kernel_rfl) rfl (fun K hK => ?_)
  go_simp
  first | refine hK.out _ _ (by assumption) ?_ | refine hK.out _ _ (Later.refl _) ?_ | refine hK.out _ _ (Below.alloc (Below.refl _ _) (Nat.le_refl _) _) ?_
  clear hK K; try simp only [Act.put, List.setIfInBounds_toArray, List.set_cons_zero, List.set_cons_succ]
  refine wpAnyL_loud 10 (by kernel_rfl) (by rfl) rfl (fun K hK => ?_)
  refine step_append_rd (by rfl) (.tmp 30) (.tmp 35) 29 rfl B 36 3 32 rletterT _ L.length (rrow L) rfl ((HO.out.drew.drew.alloc _)) _ 1 1 _ rfl ((Rd.new _ _ _ 1 _ rfl)) (by simp [Value.oneCell']) (by omega) (by unfold maxLen; omega) (by simp; omega) (by simp) ?_; intro v2 w2 hown2 hg2 hat2; obtain ⟨A3, c3, rfl⟩ := own_form hown2; have hp2 := kept_grown (HO.out.drew.drew.alloc _) hg2 ((Below.heap_alloc _ _ _ (heap_lt HP.out)).trans HP.out) (by intro cs fz h; injection h with _ h; cases h); have hfz2 := frozen_of_row _ _ 0 _ _ hp2; have hkk2 := cell_of_row _ _ 0 _ _ (0, 0) hp2
  refine hK.out _ _ ?_
  clear hK K; try simp only [Act.put, List.setIfInBounds_toArray, List.set_cons_zero, List.set_cons_succ]
  refine wpAnyL_pure 11 (v := ?_) rfl (by kernel_rfl) (by kernel_rfl) (by kernel_rfl) (fun _ _ _ h => h) (by rfl) (by intro W; go_simp; with_reducible rfl) ?_; try simp only [Act.put, List.setIfInBounds_toArray, List.set_cons_zero, List.set_cons_succ]
  refine wpAnyL_pure 12 (v := ?_) rfl (by kernel_rfl) (by kernel_rfl) (by kernel_rfl) (fun _ _ _ h => h) (by rfl) (by intro W; go_simp; with_reducible rfl) ?_; try simp only [Act.put, List.setIfInBounds_toArray, List.set_cons_zero, List.set_cons_succ]
  refine wpAnyL_loud 13 (by kernel_rfl) (by rfl) rfl (fun K hK => ?_)
  go_simp
  refine hK.out _ _ ?_
  clear hK K; try simp only [Act.put, List.setIfInBounds_toArray, List.set_cons_zero, List.set_cons_succ]
  refine wpAnyL_done (by kernel_rfl) ?_ _
  go_wp2_with fail
  go_returns
  refine ⟨rfl, ?_⟩
  exact rput_close h hBw ((Below.refl _ _).drew.drew.alloc (by simp) _) hg2 (by simpa [RL.cells] using hown2)
end Go.Proofs.Ytajhogjogkfioaa

