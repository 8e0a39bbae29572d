/-
  The document's bag: Spoil.
-/
import Derived.Test.YtajhogjogkfioaaRTwin
import Derived.Laws.IdiomStrings
namespace Go.Proofs.Ytajhogjogkfioaa
open Go.RowKit Go.Conc
set_option linter.unusedVariables false
set_option linter.unusedSimpArgs false
theorem rd_row {w : World} {b : Nat} {cs : Array Value} {t : TypeId} {fz : Nat × Nat} (h : w.heap[b]? = some (.cells cs t fz)) (l : List UInt8) (hc : ∀ (j : Nat) (u : UInt8), l[j]? = some u → cs[j]? = some (bv u)) : Rd w 1 (some ⟨b, 0, none⟩) l.length (bvs l) := by
  refine ⟨by rw [bvs_length, Nat.mul_one], fun _ => ⟨b, 0, rfl, fun j u hu => ?_⟩⟩
  have hu' : (l.map bv)[j]? = some u := hu
  rw [List.getElem?_map] at hu'
  obtain ⟨x, hx, rfl⟩ := Option.map_eq_some_iff.1 hu'
  rw [Nat.zero_add, cell_of_row _ _ j _ _ fz h]
  exact hc j x hx
theorem heap_setCell_fz {w : World} {b : Nat} {cs : Array Value} {t : TypeId} {fz : Nat × Nat} (h : w.heap[b]? = some (.cells cs t fz)) (j : Nat) (u : Value) : (w.setCell ⟨b, j, none⟩ u).heap[b]? = some (.cells (cs.setIfInBounds j u) t fz) := by
  simp [World.setCell, Array.getElem?_modify, h]
/-- '[]byte(s)': a new row of its bytes. -/
theorem bytes_new (W : World) (l : List UInt8) : ∃ (c : Nat) (cs : Array Value) (W2 : World), (convert 9 32 (.string ⟨l.toArray⟩)).run Try.prog W = .ok (.slice (some ⟨W.heap.size, 0, none⟩) l.length c) W2 ∧ Later W W2 ∧
    W2.heap[W.heap.size]? = some (.cells cs 5 (cs.size, cs.size + 1)) ∧ l.length ≤ cs.size ∧ ∀ (j : Nat) (u : UInt8), l[j]? = some u → cs[j]? = some (bv u) := by
  have hcv := run_bytes_of_string (P := Try.prog) W 9 32 5 ⟨l.toArray⟩ Try.underlying9 Try.underlying32 Try.underlying5
  refine ⟨_, bytesRow ⟨l.toArray⟩ _, _, hcv, (Below.refl W.heap.size W).drew.alloc (Nat.le_refl _) _, heap_alloc_new W.drew _, ?_, fun j u hu => ?_⟩
  · simp [bytesRow]
  · have hj := (List.getElem?_eq_some_iff.1 hu)
    unfold bytesRow
    rw [Array.getElem?_append_left (by simp; exact hj.1)]
    simp [hj.1, bv, hj.2]
set_option maxHeartbeats 400000 in
theorem rspoil_none {w : World} {B r room : Nat} {lv : Value} {L : List RL} (h : RAt w B r lv room L) (i k t : Int) (hi : ¬ (0 ≤ i ∧ i < L.length)) :
    Calls Try.prog 15 #[.pointer (some ⟨r, 0, none⟩), .int .i64 i, .int .i64 k, .int .u8 t] w fun e w' => e = .returned (.int .i64 4) ∧ Below w.heap.size w w' := by
  have HT := hide_ (rlook_none h i hi)
  clear hi
  go_enter Try.func15, Try.ntmps15
  go_wp2_with (go_at_call 9; refine HT.out.mono ?_; rintro e w1 ⟨rfl, hb1⟩)
  go_ret
  exact ⟨rfl, Below.alloc hb1 hb1.size _⟩
set_option maxHeartbeats 1000000 in
theorem rspoil_range {w : World} {B r room : Nat} {lv : Value} {L : List RL} (h : RAt w B r lv room L) (i : Nat) (x : RL) (hi : L[i]? = some x) (k t : Int) (hk : k < 0 ∨ (0 ≤ k ∧ x.text.length ≤ k)) (hl : x.text.length ≤ maxLen) :
    Calls Try.prog 15 #[.pointer (some ⟨r, 0, none⟩), .int .i64 (i : Int), .int .i64 k, .int .u8 t] w fun e w' => e = .returned (.int .i64 5) ∧ Below w.heap.size w w' := by
  have HT := hide_ (rlook_any h i x hi)
  unfold maxLen at hl
  clear hi
  rcases hk with hk | ⟨hk, hk2⟩
  all_goals
    go_enter Try.func15, Try.ntmps15
    go_wp2_with (go_at_call 9; refine HT.out.mono ?_; rintro e w1 ⟨rfl, hb1⟩; have hx := lcells (w := w1) (a := .int .i64 x.dest) (b := .string ⟨x.text.toArray⟩) (c := .bool x.spoilt) (t := 36); have x1 := hx.2.1; clear hx)
    go_ret
    exact ⟨rfl, Below.alloc hb1 hb1.size _⟩
set_option maxHeartbeats 1000000 in
theorem rspoil_old {w : World} {B r room : Nat} {lv : Value} {L : List RL} (h : RAt w B r lv room L) (i : Nat) (x : RL) (hi : L[i]? = some x) (k t : Int) (hk : 0 ≤ k) (hk2 : k < x.text.length) (hsp : x.spoilt = true) (hl : x.text.length ≤ maxLen) :
    Calls Try.prog 15 #[.pointer (some ⟨r, 0, none⟩), .int .i64 (i : Int), .int .i64 k, .int .u8 t] w fun e w' => e = .returned (.int .i64 7) ∧ Below w.heap.size w w' := by
  have HT := hide_ (rlook_any h i x hi)
  unfold maxLen at hl
  have HSP := hide_ hsp
  clear hi hsp
  go_enter Try.func15, Try.ntmps15
  go_wp2_with fail
  refine HT.out.mono ?_; rintro e w1 ⟨rfl, hb1⟩
  rw [HSP.out]
  have hx := lcells (w := w1) (a := .int .i64 x.dest) (b := .string ⟨x.text.toArray⟩) (c := .bool true) (t := 36)
  have x1 := hx.2.1; have x2 := hx.2.2; clear hx
  go_wp2_with fail
  go_ret
  exact ⟨rfl, Below.alloc hb1 hb1.size _⟩
theorem rrow_set {L : List RL} {i : Nat} {x : RL} (hi : L[i]? = some x) (l : List UInt8) (sp : Bool) : rrow (L.set i ⟨x.dest, l, sp⟩) = ((rrow L).set (i * 3 + 2) (.bool sp)).set (i * 3 + 1) (.string ⟨l.toArray⟩) := by
  induction L generalizing i with
  | nil => simp at hi
  | cons y L ih =>
    cases i with
    | zero => simp at hi; subst hi; rfl
    | succ i =>
      simp at hi
      have e : rrow (y :: L) = .int .i64 y.dest :: .string ⟨y.text.toArray⟩ :: .bool y.spoilt :: rrow L := rfl
      have e2 : rrow (y :: L.set i ⟨x.dest, l, sp⟩) = .int .i64 y.dest :: .string ⟨y.text.toArray⟩ :: .bool y.spoilt :: rrow (L.set i ⟨x.dest, l, sp⟩) := rfl
      rw [List.set_cons_succ, e2, e, ih hi, show (i + 1) * 3 + 2 = (i * 3 + 2) + 1 + 1 + 1 from by omega, show (i + 1) * 3 + 1 = (i * 3 + 1) + 1 + 1 + 1 from by omega]
      rfl
/-- What Spoil leaves. -/
theorem rspoil_close {w W2 : World} {B r g cap bs k room i : Nat} {L : List RL} {x : RL} {v : Value} {l : List UInt8} {sp : Bool} (h : RAt w B r (.slice (some ⟨g, 0, none⟩) L.length cap) room L) (hi : L[i]? = some x) (hB : B ≤ w.heap.size) (hb : Below w.heap.size w W2)
    (hbs : w.heap.size ≤ bs) (hgr : g ≠ r) : (∃ lv', RAt ((((W2.setCell ⟨bs, k, none⟩ v).setCell ⟨g, i * 3 + 2, none⟩ (.bool sp)).drew).setCell ⟨g, i * 3 + 1, none⟩ (.string ⟨l.toArray⟩)) B r lv' room (L.set i ⟨x.dest, l, sp⟩)) ∧
      Below B w ((((W2.setCell ⟨bs, k, none⟩ v).setCell ⟨g, i * 3 + 2, none⟩ (.bool sp)).drew).setCell ⟨g, i * 3 + 1, none⟩ (.string ⟨l.toArray⟩)) ∧
      Kept isRef w ((((W2.setCell ⟨bs, k, none⟩ v).setCell ⟨g, i * 3 + 2, none⟩ (.bool sp)).drew).setCell ⟨g, i * 3 + 1, none⟩ (.string ⟨l.toArray⟩)) ∧ Ron w ((((W2.setCell ⟨bs, k, none⟩ v).setCell ⟨g, i * 3 + 2, none⟩ (.bool sp)).drew).setCell ⟨g, i * 3 + 1, none⟩ (.string ⟨l.toArray⟩)) r (.slice (some ⟨g, 0, none⟩) L.length cap) := by
  have h3 : Below w.heap.size w (W2.setCell ⟨bs, k, none⟩ v) := hb.setCell hbs _
  have H3 := h.later h3
  obtain ⟨cur, hBg, hg, hg3⟩ := own_row H3.2.2
  have o4 := (H3.2.2.stored (i * 3 + 2) (.bool sp)).1
  have o5 := (o4.drew.stored (i * 3 + 1) (.string ⟨l.toArray⟩)).1
  have hg4 := heap_setCell_same _ g (i * 3 + 2) _ _ (.bool sp) hg
  refine ⟨⟨.slice (some ⟨g, 0, none⟩) L.length cap, ?_, h.2.1, ?_⟩, ((((h3.mono hB).setCell hBg _)).drew).setCell hBg _, ?_, fun q hq hqr hql => ?_⟩
  rotate_left 3
  · have hqg : q ≠ g := fun e => hql (by rw [e]; rfl)
    rw [Below.heap_setCell _ _ _ _ hqg]
    show ((W2.setCell ⟨bs, k, none⟩ v).setCell ⟨g, i * 3 + 2, none⟩ (.bool sp)).heap[q]? = _
    rw [Below.heap_setCell _ _ _ _ hqg]
    exact h3.block q hq
  · rw [Below.heap_setCell _ _ _ _ (Ne.symm hgr)]
    show ((W2.setCell ⟨bs, k, none⟩ v).setCell ⟨g, i * 3 + 2, none⟩ (.bool sp)).heap[r]? = _
    rw [Below.heap_setCell _ _ _ _ (Ne.symm hgr)]
    exact H3.1
  · rw [List.length_set, rrow_set hi]; exact o5
  · refine (Kept.of_later h3).trans ((Kept.setCell _ ⟨g, i * 3 + 2, none⟩ _ fun o ho => ?_).trans (Kept.trans (b := ((W2.setCell ⟨bs, k, none⟩ v).setCell ⟨g, i * 3 + 2, none⟩ (.bool sp)).drew) (fun k o hk _ => hk) (Kept.setCell _ ⟨g, i * 3 + 1, none⟩ _ fun o ho => ?_)))
    · have ho' : (W2.setCell ⟨bs, k, none⟩ v).heap[g]? = some o := ho
      rw [hg] at ho'; injection ho' with ho'; subst ho'; exact isRef_row _ _
    · have ho' : ((W2.setCell ⟨bs, k, none⟩ v).setCell ⟨g, i * 3 + 2, none⟩ (.bool sp)).heap[g]? = some o := ho
      rw [hg4] at ho'; injection ho' with ho'; subst ho'; exact isRef_row _ _
set_option maxHeartbeats 2000000 in
theorem rspoil_any {w : World} {B r room : Nat} {lv : Value} {L : List RL} (h : RAt w B r lv room L) (hr4 : L.length ≤ 4096) (hBw : B ≤ w.heap.size) (i : Nat) (x : RL) (hi : L[i]? = some x) (k : Nat) (t : UInt8) (hk2 : k < x.text.length) (hsp : x.spoilt = false) (hl : x.text.length ≤ maxLen) :
    Calls Try.prog 15 #[.pointer (some ⟨r, 0, none⟩), .int .i64 (i : Int), .int .i64 (k : Int), .int .u8 (t.toNat : Int)] w fun e w' =>
      e = .returned (.int .i64 0) ∧ (∃ lv', RAt w' B r lv' room (L.set i ⟨x.dest, x.text.set k (x.text[k] ^^^ t), t != 0⟩)) ∧ Below B w w' ∧ Kept isRef w w' ∧ Ron w w' r lv := by
  have hil := (List.getElem?_eq_some_iff.1 hi).1
  have HT := hide_ (rlook_any h i x hi)
  have HH := hide_ h
  have HSP := hide_ hsp
  have HI := hide_ hi
  obtain ⟨g, cap, rfl, _, hgl⟩ := h.2.2.form (by omega)
  unfold maxLen at hl
  have q0 : (0 : Int) ≤ (i : Int) := by omega
  have q1 : (i : Int) < (L.length : Int) := by omega
  have q2 : (0 : Int) ≤ (k : Int) := by omega
  have q3 : (k : Int) < (x.text.length : Int) := by omega
  clear h hi hsp
  go_enter Try.func15, Try.ntmps15
  go_wp2_with fail
  refine HT.out.mono ?_; rintro e w1 ⟨rfl, hb1⟩
  rw [HSP.out]
  obtain ⟨W1, hW1⟩ : ∃ W1, W1 = w1.alloc (.cells #[.int .i64 x.dest, .string ⟨x.text.toArray⟩, .bool false] 36) := ⟨_, rfl⟩
  have HW1 := hide_ hW1.symm
  have HB1 := hide_ (show Below w.heap.size w W1 by rw [hW1]; exact Below.alloc hb1 hb1.size _)
  have hx := lcells (w := w1) (a := .int .i64 x.dest) (b := .string ⟨x.text.toArray⟩) (c := .bool false) (t := 36)
  rw [← hW1] at hx
  obtain ⟨x0, x1, x2⟩ := hx
  obtain ⟨c2, cs, W2, hcv, hl2, hrow, hlen, hcs⟩ := bytes_new W1 x.text
  have hW12 : w1.heap.size < W1.heap.size := by rw [hW1]; simp
  have HB2 := hide_ (show Below w.heap.size w W2 from Below.trans HB1.out (hl2.mono HB1.out.size))
  have H2 := hide_ (HH.out.later HB2.out)
  have hgr : g ≠ r := by
    rintro rfl
    obtain ⟨cur, _, hg, _⟩ := own_row H2.out.2.2
    rw [H2.out.1] at hg; injection hg with hg; injection hg with _ hg; cases hg
  have hrb := heap_lt HH.out.1
  have hbs : w.heap.size ≤ W1.heap.size := HB1.out.size
  have hn1 : W1.heap.size ≠ r := by omega
  have hn2 : W1.heap.size ≠ g := by omega
  have hn3 : r ≠ W1.heap.size := by omega
  have hn4 : g ≠ W1.heap.size := by omega
  have hb : W2.cell? ⟨W1.heap.size, k, none⟩ = some (.int .u8 (x.text[k].toNat : Int)) := by
    rw [cell_of_row _ _ k _ _ _ hrow]; exact hcs k _ (List.getElem?_eq_getElem hk2)
  have hfb : W2.frozen? ⟨W1.heap.size, k, none⟩ = false := by simp [World.frozen?, hrow]; omega
  have hc0 : W2.cell? ⟨r, 0, none⟩ = some (.slice (some ⟨g, 0, none⟩) L.length cap) := cell_of_row _ _ 0 _ _ (0, 0) H2.out.1
  have hc2 : W2.cell? ⟨g, i * 3 + 2, none⟩ = some (.bool x.spoilt) := (H2.out.2.2.cellAt (i * 3 + 2) (by omega)).trans (rrow_at HI.out 2 (by omega))
  have hfg : W2.frozen? ⟨g, i * 3 + 2, none⟩ = false := H2.out.2.2.frozenAt _
  have HROW := hide_ hrow; have HCS := hide_ hcs
  clear hb1 hW1 hl2 hrow hcs
  have e0 : decide ((k : Int) < 0) = false := decide_eq_false (by omega)
  go_wp2_with (rw [HW1.out])
  rw [xor_u8, ne_u8]
  obtain ⟨W4, hW4⟩ : ∃ W4, W4 = (W2.setCell ⟨W1.heap.size, k, none⟩ (.int .u8 ((x.text[k] ^^^ t).toNat : Int))).setCell ⟨g, i * 3 + 2, none⟩ (.bool (t != 0)) := ⟨_, rfl⟩
  have HW4 := hide_ hW4
  rw [← hW4]
  have l0 : W4.cell? ⟨r, 0, none⟩ = some (.slice (some ⟨g, 0, none⟩) L.length cap) := by
    rw [hW4, World.cell?_of_block (Below.heap_setCell _ _ _ _ (Ne.symm hgr)), World.cell?_of_block (Below.heap_setCell _ _ _ _ hn3)]; exact hc0
  have hr4' : Rd W4 1 (some ⟨W1.heap.size, 0, none⟩) x.text.length (bvs (x.text.set k (x.text[k] ^^^ t))) := by
    have h1 := heap_setCell_fz HROW.out k (.int .u8 ((x.text[k] ^^^ t).toNat : Int))
    have h2 := (Below.heap_setCell (W2.setCell ⟨W1.heap.size, k, none⟩ (.int .u8 ((x.text[k] ^^^ t).toNat : Int))) ⟨g, i * 3 + 2, none⟩ (.bool (t != 0)) W1.heap.size hn2).trans h1
    rw [← hW4] at h2
    have := rd_row h2 (x.text.set k (x.text[k] ^^^ t)) (fun j u hu => by
      rw [List.getElem?_set] at hu
      rw [Array.getElem?_setIfInBounds]
      by_cases e : k = j
      · subst e
        simp only [if_pos rfl, hk2] at hu ⊢
        simp at hu
        subst hu
        rw [if_pos (show k < cs.size by omega)]; rfl
      · rw [if_neg e] at hu ⊢
        exact HCS.out j u hu)
    rwa [List.length_set] at this
  have m0 := later_drew_cell l0
  have hs : ∀ W, Later W4.drew W → (convert 32 9 (.slice (some ⟨W1.heap.size, 0, none⟩) x.text.length c2)).run Try.prog W = .ok (.string ⟨(x.text.set k (x.text[k] ^^^ t)).toArray⟩) W := fun W hW => run_str_n _ _ 5 c2 (List.length_set ..) Try.underlying32 Try.underlying5 Try.underlying9 (fun h => nomatch h) (hr4'.drew.below hW)
  have o4 := ((HH.out.later (show Below w.heap.size w (W2.setCell ⟨W1.heap.size, k, none⟩ (.int .u8 ((x.text[k] ^^^ t).toNat : Int))) from HB2.out.setCell hbs _)).2.2.stored (i * 3 + 2) (.bool (t != 0))).1
  rw [← hW4] at o4
  have hf4 : W4.frozen? ⟨g, i * 3 + 1, none⟩ = false := o4.frozenAt _
  have l2 : W4.cell? ⟨g, i * 3 + 1, none⟩ = some (.string ⟨x.text.toArray⟩) := by
    rw [o4.cellAt (i * 3 + 1) (by omega), List.getElem?_set_ne (by omega)]
    exact rrow_at HI.out 1 (by omega)
  clear o4 hc2
  clear hW4 hr4' hb hfb hfg hc0 hcv
  refine wp_region_l [9] (by kernel_rfl) ?_
  refine wpAnyL_pure 0 (v := ?_) rfl (by kernel_rfl) (by kernel_rfl) (by kernel_rfl) (fun _ _ _ h => h) (by rfl) (by intro W; go_simp; with_reducible rfl) ?_; try simp only [Act.put, List.setIfInBounds_toArray, List.set_cons_zero, List.set_cons_succ]
  refine wpAnyL_pure 1 (v := ?_) rfl (by kernel_rfl) (by kernel_rfl) (by kernel_rfl) (fun _ _ _ h => h) (by rfl) (by intro W; go_simp; with_reducible rfl) ?_; try simp only [Act.put, List.setIfInBounds_toArray, List.set_cons_zero, List.set_cons_succ]
  refine wpAnyL_pure 2 (v := ?_) rfl (by kernel_rfl) (by kernel_rfl) (by kernel_rfl) (fun _ _ _ h => h) (by rfl) (by intro W; go_simp; with_reducible rfl) ?_; try simp only [Act.put, List.setIfInBounds_toArray, List.set_cons_zero, List.set_cons_succ]
  refine wpAnyL_take 3 (v := ?_) rfl (by kernel_rfl) (by kernel_rfl) (by kernel_rfl) (by kernel_rfl) (fun _ _ _ h => h) (by rfl) (by intro W hSw; go_simp; with_reducible rfl) ?_; try simp only [Act.put, List.setIfInBounds_toArray, List.set_cons_zero, List.set_cons_succ]
  refine wpAnyL_pure 4 (v := ?_) rfl (by kernel_rfl) (by kernel_rfl) (by kernel_rfl) (fun _ _ _ h => h) (by rfl) (by intro W; go_simp; with_reducible rfl) ?_; try simp only [Act.put, List.setIfInBounds_toArray, List.set_cons_zero, List.set_cons_succ]
  refine wpAnyL_pure 5 (v := ?_) rfl (by kernel_rfl) (by kernel_rfl) (by kernel_rfl) (fun _ _ _ h => h) (by rfl) (by intro W; go_simp; with_reducible rfl) ?_; try simp only [Act.put, List.setIfInBounds_toArray, List.set_cons_zero, List.set_cons_succ]
  refine wpAnyL_take 6 (v := ?_) rfl (by kernel_rfl) (by kernel_rfl) (by kernel_rfl) (by kernel_rfl) (fun _ _ _ h => h) (by rfl) (by intro W hSw; go_simp; with_reducible rfl) ?_; try simp only [Act.put, List.setIfInBounds_toArray, List.set_cons_zero, List.set_cons_succ]
  refine wpAnyL_pure 7 (v := ?_) rfl (by kernel_rfl) (by kernel_rfl) (by kernel_rfl) (fun _ _ _ h => h) (by rfl) (by intro W; go_simp; with_reducible rfl) ?_; try simp only [Act.put, List.setIfInBounds_toArray, List.set_cons_zero, List.set_cons_succ]
  refine wpAnyL_pure 8 (v := ?_) rfl (by kernel_rfl) (by kernel_rfl) (by kernel_rfl) (fun _ _ _ h => h) (by rfl) (by intro W; go_simp; with_reducible rfl) ?_; try simp only [Act.put, List.setIfInBounds_toArray, List.set_cons_zero, List.set_cons_succ]
  refine wpAnyL_loud 9 (by kernel_rfl) (by rfl) rfl (fun K hK => ?_)
  go_simp
  refine hK.out _ _ ?_
  clear hK K; try simp only [Act.put, List.setIfInBounds_toArray, List.set_cons_zero, List.set_cons_succ]
  refine wpAnyL_done (by kernel_rfl) ?_ _
  go_wp2_with fail
  go_ret
  refine ⟨rfl, ?_⟩
  rw [HW4.out]
  exact rspoil_close HH.out HI.out hBw HB2.out hbs hgr

end Go.Proofs.Ytajhogjogkfioaa
