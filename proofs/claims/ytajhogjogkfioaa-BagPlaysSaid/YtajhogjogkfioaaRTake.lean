/-
  The document's bag: Take.
-/
import Derived.Test.YtajhogjogkfioaaRSend
namespace Go.Proofs.Ytajhogjogkfioaa
open Go.RowKit Go.Conc
set_option linter.unusedVariables false
set_option linter.unusedSimpArgs false
theorem heap_set3 {W : World} {b : Nat} {x0 x1 x2 : Value} {t : TypeId} (y0 y1 y2 : Value) (h : W.heap[b]? = some (.cells #[x0, x1, x2] t (0, 0))) :
    (((W.setCell ⟨b, 0, none⟩ y0).setCell ⟨b, 1, none⟩ y1).setCell ⟨b, 2, none⟩ y2).heap[b]? = some (.cells #[y0, y1, y2] t (0, 0)) := by
  have h1 := heap_setCell_same W b 0 _ _ y0 h
  have h2 := heap_setCell_same _ b 1 _ _ y1 h1
  have h3 := heap_setCell_same _ b 2 _ _ y2 h2
  simpa using h3
set_option maxHeartbeats 400000 in
theorem rtake_none {w : World} {B r room : Nat} {lv : Value} {L : List RL} (h : RAt w B r lv room L) (i : Int) (hi : ¬ (0 ≤ i ∧ i < L.length)) :
    Calls Try.prog 11 #[.pointer (some ⟨r, 0, none⟩), .int .i64 i] w fun e w' => e = .returned (.tuple #[.agg #[.int .i64 0, .string ByteArray.empty, .bool false], .int .i64 4]) ∧ Below w.heap.size w w' := by
  have HT := hide_ (fun ob => rlook_none (h.later ((Below.refl _ _).alloc (Nat.le_refl _) ob)) i hi)
  clear hi
  go_enter Try.func11, Try.ntmps11
  go_wp2_with (go_at_call 9; refine (HT.out _).mono ?_; rintro e w1 ⟨rfl, hb1⟩; have hl1 := (hb1.block _ (by simp)).trans (heap_alloc_new w _); have hl2 := fun ob => (Below.heap_alloc w1 ob _ (heap_lt hl1)).trans hl1; have f0 := fun ob => frozen_of_row _ _ 0 _ _ (hl2 ob); have f1 := fun ob => frozen_of_row _ _ 1 _ _ (hl2 ob); have f2 := fun ob => frozen_of_row _ _ 2 _ _ (hl2 ob); have c0 := fun ob => cell_of_row _ _ 0 _ _ (0, 0) (hl2 ob); have c1 := fun ob => cell_of_row _ _ 1 _ _ (0, 0) (hl2 ob); have c2 := fun ob => cell_of_row _ _ 2 _ _ (0, 0) (hl2 ob))
  have h3 := heap_set3 (.int .i64 0) (.string ByteArray.empty) (.bool false) (hl2 (.cells #[.int .i64 0, .string ByteArray.empty, .bool false] 36))
  have e0 := cell_of_row _ _ 0 _ _ (0, 0) h3
  have e1 := cell_of_row _ _ 1 _ _ (0, 0) h3
  have e2 := cell_of_row _ _ 2 _ _ (0, 0) h3
  try simp only [Exit.inBlock, Exit.then]
  refine bodyPost_ret (by simp [results, Try.results11, go_sem, e0, e1, e2]; try rfl) rfl ?_
  have hbb := ((Below.refl w.heap.size w).alloc (Nat.le_refl _) _).trans (hb1.mono (by simp))
  exact ⟨rfl, (((hbb.alloc hbb.size _).setCell (Nat.le_refl _) _).setCell (Nat.le_refl _) _).setCell (Nat.le_refl _) _⟩
theorem own_new2 (w : World) (X : Obj) (e : TypeId) (size base : Nat) (hb : base ≤ w.heap.size + 1) : ((w.alloc X).alloc (.cells #[] e)).ownsRow base e size (.slice (some ⟨w.heap.size + 1, 0, none⟩) 0 0) 0 [] := by
  have := own_new (w.alloc X) #[] e size 0 base (by simp) (Nat.zero_le _) (by simpa using hb)
  simpa using this
theorem own_put {w : World} {B j base size n : Nat} {e : TypeId} {v u : Value} {xs : List Value} (ho : w.ownsRow base e size v n xs) (hB : B < base) : (w.setCell ⟨B, j, none⟩ u).ownsRow base e size v n xs := by
  refine ⟨ho.1, ?_⟩
  rcases ho.2 with h0 | ⟨g, cap, cur, hv, hb, hh, hr⟩
  · exact .inl h0
  · exact .inr ⟨g, cap, cur, hv, hb, (Below.heap_setCell _ _ _ _ (fun e => by have e : g = B := e; omega)).trans hh, hr⟩
/-- What Take leaves. -/
theorem rtake_close {w w3 : World} {B r ws base room i : Nat} {lv v3 : Value} {L : List RL} {a b c : Value} (h : RAt w B r lv room L) (hi : i < L.length) (hB : B ≤ w.heap.size) (hb : Below w.heap.size w w3) (hws : ws = w.heap.size) (hbase : ws < base)
    (hr : w3.heap[r]? = some (.cells #[lv, .int .i64 (room : Int)] 31 (0, 0))) (hw : ∀ u, (w3.setCell ⟨r, 0, none⟩ u).heap[ws]? = some (.cells #[a, b, c] 36 (0, 0)))
    (ho : w3.ownsRow base 36 3 v3 (i + (L.length - (i + 1))) ((rrow L).take (i * 3) ++ (rrow L).drop ((i + 1) * 3))) (x y z : Value) :
    (∃ lv', RAt ((((w3.setCell ⟨r, 0, none⟩ v3).setCell ⟨ws, 0, none⟩ x).setCell ⟨ws, 1, none⟩ y).setCell ⟨ws, 2, none⟩ z) B r lv' room (L.eraseIdx i) ∧ ∀ g, lv'.ownBlock = some g → w.heap.size ≤ g) ∧ Below B w ((((w3.setCell ⟨r, 0, none⟩ v3).setCell ⟨ws, 0, none⟩ x).setCell ⟨ws, 1, none⟩ y).setCell ⟨ws, 2, none⟩ z) ∧
      Kept isRef w ((((w3.setCell ⟨r, 0, none⟩ v3).setCell ⟨ws, 0, none⟩ x).setCell ⟨ws, 1, none⟩ y).setCell ⟨ws, 2, none⟩ z) ∧ Ron w ((((w3.setCell ⟨r, 0, none⟩ v3).setCell ⟨ws, 0, none⟩ x).setCell ⟨ws, 1, none⟩ y).setCell ⟨ws, 2, none⟩ z) r lv := by
  subst hws
  have hrw := heap_lt h.1
  have hne : r ≠ w.heap.size := by omega
  have h1 := hw v3
  have h2 := heap_setCell_same _ w.heap.size 0 _ _ x h1
  have h3 := heap_setCell_same _ w.heap.size 1 _ _ y h2
  refine ⟨⟨v3, ⟨?_, h.2.1, ?_⟩, fun g hg => by have := (ho.lt g hg).1; omega⟩, ((((hb.mono hB).setCell h.2.1 _).setCell hB _).setCell hB _).setCell hB _, ?_, fun q hq hqr hql => ?_⟩
  rotate_left 3
  · have hqw : q ≠ w.heap.size := by omega
    rw [Below.heap_setCell _ _ _ _ hqw, Below.heap_setCell _ _ _ _ hqw, Below.heap_setCell _ _ _ _ hqw, Below.heap_setCell _ _ _ _ hqr]
    exact hb.block q hq
  · rw [Below.heap_setCell _ _ _ _ hne, Below.heap_setCell _ _ _ _ hne, Below.heap_setCell _ _ _ _ hne]
    exact heap_setCell_same w3 r 0 _ _ v3 hr
  · have e : (L.eraseIdx i).length = i + (L.length - (i + 1)) := by rw [List.length_eraseIdx_of_lt hi]; omega
    rw [e, List.eraseIdx_eq_take_drop_succ, rrow_append, ← rrow_take, ← rrow_drop]
    exact own_base (own_put (own_put (own_put (own_put ho (by omega)) hbase) hbase) hbase) (by omega)
  · refine (Kept.of_later hb).trans (((Kept.setCell w3 ⟨r, 0, none⟩ v3 fun o ho => ?_).trans (Kept.setCell _ ⟨w.heap.size, 0, none⟩ x fun o ho => ?_)).trans ((Kept.setCell _ ⟨w.heap.size, 1, none⟩ y fun o ho => ?_).trans (Kept.setCell _ ⟨w.heap.size, 2, none⟩ z fun o ho => ?_)))
    · have ho' : w3.heap[r]? = some o := ho
      rw [hr] at ho'; injection ho' with ho'; subst ho'; exact isRef_bag _ _
    · have ho' : (w3.setCell ⟨r, 0, none⟩ v3).heap[w.heap.size]? = some o := ho
      rw [h1] at ho'; injection ho' with ho'; subst ho'; exact isRef_row _ _
    · have ho' : ((w3.setCell ⟨r, 0, none⟩ v3).setCell ⟨w.heap.size, 0, none⟩ x).heap[w.heap.size]? = some o := ho
      rw [h2] at ho'; injection ho' with ho'; subst ho'; exact isRef_row _ _
    · have ho' : (((w3.setCell ⟨r, 0, none⟩ v3).setCell ⟨w.heap.size, 0, none⟩ x).setCell ⟨w.heap.size, 1, none⟩ y).heap[w.heap.size]? = some o := ho
      rw [h3] at ho'; injection ho' with ho'; subst ho'; exact isRef_row _ _
set_option maxHeartbeats 1000000 in
theorem rtake_any {w : World} {B r room : Nat} {lv : Value} {L : List RL} (h : RAt w B r lv room L) (hr4 : L.length ≤ 4096) (hBw : B ≤ w.heap.size) (i : Nat) (x : RL) (hi : L[i]? = some x) :
    Calls Try.prog 11 #[.pointer (some ⟨r, 0, none⟩), .int .i64 (i : Int)] w fun e w' => e = .returned (.tuple #[.agg #[.int .i64 x.dest, .string ⟨x.text.toArray⟩, .bool x.spoilt], .int .i64 0]) ∧
      (∃ lv', RAt w' B r lv' room (L.eraseIdx i) ∧ ∀ g, lv'.ownBlock = some g → w.heap.size ≤ g) ∧ Below B w w' ∧ Kept isRef w w' ∧ Ron w w' r lv := by
  have hil := (List.getElem?_eq_some_iff.1 hi).1
  have HT := hide_ (fun ob => rlook_any (h.later ((Below.refl _ _).alloc (Nat.le_refl _) ob)) i x hi)
  have HH := hide_ h
  obtain ⟨g, cap, rfl, _, hgl⟩ := h.2.2.form (by omega)
  have q0 : (0 : Int) ≤ (i : Int) := by omega
  have hLc : L.length ≤ cap := own_cap h.2.2
  have q1 : (i : Int) ≤ (cap : Int) := by omega
  have q2 : i ≤ cap := by omega
  clear h hi
  have hcut : ∃ o, (if cap = i + 1 then (some ⟨g, 0, none⟩ : Option Addr) else some ⟨g, 0 + (i + 1) * 3, none⟩) = some ⟨g, o, none⟩ := by split <;> exact ⟨_, rfl⟩
  by_cases hce : cap = i + 1
  all_goals
   go_enter Try.func11, Try.ntmps11
   go_wp2_with (first | (go_at_call 9; refine (HT.out _).mono ?_; rintro e w1 ⟨rfl, hb1⟩; have hbb := ((Below.refl _ _).alloc (Nat.le_refl _) _).trans (hb1.mono (by simp)); have H1 := hide_ (HH.out.later hbb); have hk1 : w1.cell? ⟨r, 0, none⟩ = some (.slice (some ⟨g, 0, none⟩) L.length cap) := cell_of_row _ _ 0 _ _ (0, 0) H1.out.1; have hk2 := fun ob => cell_alloc (cell_alloc hk1 ob)) | (at_builtin; go_loud (refine wpList_append_rd _ rfl (.tmp 17) (.tmp 23) 29 rfl (w1.heap.size + 1) 36 3 32 rletterT _ 0 [] rfl (own_new2 w1 _ 36 3 _ (Nat.le_refl _)) _ i _ ((rrow L).take (i * 3)) rfl ((((Rd.of_own H1.out.2.2).take (by omega)).alloc _).alloc _) (fun u hu => rrow_one L u (List.mem_of_mem_take hu)) (by omega) (by unfold maxLen; omega) (by simp) (fun h => nomatch h) ?_; intro v2 w2 hown2 hg2 hat2; obtain ⟨A2, c2, rfl⟩ := own_form hown2; have hb2 : Below w1.heap.size w1 w2 := own_grown (((Below.refl _ _).alloc (Nat.le_refl _) _).alloc (by simp) _) (own_base (own_new2 w1 _ 36 3 _ (Nat.le_refl _)) (Nat.le_succ _)) hg2 (by simp; omega); have H2 := hide_ (H1.out.later hb2); have hk3 : w2.cell? ⟨r, 0, none⟩ = some (.slice (some ⟨g, 0, none⟩) L.length cap) := cell_of_row _ _ 0 _ _ (0, 0) H2.out.1; simp only [Nat.zero_add, List.nil_append] at hown2; have HO2 := hide_ hown2; clear hown2 hat2; have hRc := Rd.cut (Rd.of_own H2.out.2.2) (k := i + 1) (cap := cap) (by omega) hLc; simp only [hce, if_true, if_false, Option.map_some, add_plain, Nat.zero_add] at hRc)) | (at_builtin; go_loud (refine wpList_append_rd _ rfl (.tmp 26) (.tmp 33) 29 rfl (w1.heap.size) 36 3 32 rletterT _ i _ rfl (own_base HO2.out (Nat.le_succ _)) _ (L.length - (i + 1)) _ ((rrow L).drop ((i + 1) * 3)) rfl hRc (fun u hu => rrow_one L u (List.mem_of_mem_drop hu)) (by omega) (by unfold maxLen; omega) hb2.size (fun h => nomatch h) ?_; intro v3 w3 hown3 hg3 hat3; obtain ⟨A3, c3, rfl⟩ := own_form hown3; have hb3 : Below w1.heap.size w1 w3 := own_grown hb2 (own_base HO2.out (Nat.le_succ _)) hg3 hb2.size; have H3 := hide_ (H1.out.later hb3); have hf3 := frozen_of_row _ _ 0 _ _ H3.out.1; have hk4 := cell_of_row _ _ 0 _ _ (0, 0) H3.out.1; have hbl : Below (w1.heap.size + 1) (w1.alloc (.cells #[.int .i64 x.dest, .string ⟨x.text.toArray⟩, .bool x.spoilt] 36)) w3 := own_grown (own_grown (((Below.refl _ _).alloc (by simp) _)) (own_new2 w1 _ 36 3 _ (Nat.le_refl _)) hg2 (by simp)) HO2.out hg3 (by have := hg2.size; simp at this; omega); have hrl := heap_lt H1.out.1; have hl3 := fun u => (Below.heap_setCell w3 ⟨r, 0, none⟩ u w1.heap.size (Nat.ne_of_gt hrl)).trans ((hbl.block _ (Nat.lt_succ_self _)).trans (heap_alloc_new w1 _)); have g0 := fun u => cell_of_row _ _ 0 _ _ (0, 0) (hl3 u); have g1 := fun u => cell_of_row _ _ 1 _ _ (0, 0) (hl3 u); have g2 := fun u => cell_of_row _ _ 2 _ _ (0, 0) (hl3 u); have hrl0 := heap_lt HH.out.1; have hr1 := (hb1.block w.heap.size (by simp)).trans (heap_alloc_new w _); have hr3 := fun u => (Below.heap_setCell w3 ⟨r, 0, none⟩ u w.heap.size (Nat.ne_of_gt hrl0)).trans ((hb3.block _ (heap_lt hr1)).trans hr1); have r0 := fun u => cell_of_row _ _ 0 _ _ (0, 0) (hr3 u); have r1 := fun u => cell_of_row _ _ 1 _ _ (0, 0) (hr3 u); have r2 := fun u => cell_of_row _ _ 2 _ _ (0, 0) (hr3 u); have s0 := fun u => frozen_of_row _ _ 0 _ _ (hr3 u); have s1 := fun u => frozen_of_row _ _ 1 _ _ (hr3 u); have s2 := fun u => frozen_of_row _ _ 2 _ _ (hr3 u); have HO3 := hide_ hown3; have HB3 := hide_ (hbb.trans (hb3.mono hbb.size)); clear hown3 hat3)))
   have hz := heap_set3 (.int .i64 x.dest) (.string ⟨x.text.toArray⟩) (.bool x.spoilt) (hr3 (.slice A3 (i + (L.length - (i + 1))) c3))
   have e0 := cell_of_row _ _ 0 _ _ (0, 0) hz
   have e1 := cell_of_row _ _ 1 _ _ (0, 0) hz
   have e2 := cell_of_row _ _ 2 _ _ (0, 0) hz
   try simp only [Exit.inBlock, Exit.then]
   refine bodyPost_ret (by simp [results, Try.results11, go_sem, e0, e1, e2]; try rfl) rfl ?_
   exact ⟨rfl, rtake_close HH.out hil hBw HB3.out rfl (show w.heap.size < w1.heap.size from by have := hb1.size; simp at this; omega) H3.out.1 hr3 HO3.out _ _ _⟩

end Go.Proofs.Ytajhogjogkfioaa
