/-
  One: pairs behind a change.
-/
import Derived.Test.YtblljpdlmllceaaKPInsert
import Derived.Test.YtblljpdlmllceaaG4
namespace Go.Proofs.Ytblljpdlmllceaa
open Go.RowKit
set_option linter.unusedVariables false
set_option linter.unusedSimpArgs false
theorem rise_iff {L : List Pr} : Rise L ↔ Ris L := by
  unfold Rise Ris
  rw [List.pairwise_iff_getElem]
  constructor
  · intro h i j hi hj hij
    exact h i j _ _ hij (List.getElem?_eq_getElem hi) (List.getElem?_eq_getElem hj)
  · intro h i j x y hij hx hy
    obtain ⟨hi, rfl⟩ := List.getElem?_eq_some_iff.1 hx
    obtain ⟨hj, rfl⟩ := List.getElem?_eq_some_iff.1 hy
    exact h i j hi hj hij
theorem at_of {L : List Pr} {k : ByteArray} {i : Nat} {there : Bool} (h : FindAt L k i there) : At L k i := by
  refine ⟨fun p hp => ?_, fun p hp => ?_⟩
  · obtain ⟨j, hj⟩ := List.getElem?_of_mem hp
    rw [List.getElem?_take] at hj
    split at hj
    · rename_i hji; exact h.2.1 j p hji hj
    · cases hj
  · obtain ⟨j, hj⟩ := List.getElem?_of_mem hp
    rw [List.getElem?_drop] at hj
    exact h.2.2.1 (i + j) p (by omega) hj
theorem none_of {L : List Pr} {k : ByteArray} {i : Nat} (hL : Ris L) (h : FindAt L k i false) : ∀ p, p ∈ L → p.1 ≠ k := by
  intro p hp hk
  have hat := at_of h
  have hd : p ∈ L.drop i := (at_drop hat p).2 ⟨hp, by rw [hk]; grind⟩
  cases hl : L[i]? with
  | none =>
    rw [List.drop_of_length_le (List.getElem?_eq_none_iff.1 hl)] at hd; cases hd
  | some x =>
    have e := List.getElem?_eq_some_iff.1 hl
    have hnx : x.1 ≠ k := fun h2 => by have := h.2.2.2.2 ⟨x, hl, h2⟩; cases this
    have h3 := h.2.2.1 i x (Nat.le_refl _) hl
    have hs := at_split hl
    have hm := ris_mid (by rw [← hs]; exact hL)
    rw [List.drop_eq_getElem_cons e.1, e.2] at hd
    rcases List.mem_cons.1 hd with rfl | hd
    · exact hnx hk
    · have := hm.2.1 p hd
      grind
/-- What One leaves. -/
def OnePost (B n : Nat) (L : List Pr) (kind : Int) (k v : ByteArray) (w : World) (e : Ending) (w' : World) : Prop :=
  (∃ (u : Value) (L' : List Pr) (m : Nat), e = .returned u ∧ L'.length = m ∧ m ≤ n + 1 ∧ OneOf L kind k v L' ∧ w'.ownsRow B 55 2 u m (prow L')) ∧ Below B w w'
def OnePost2 (B n : Nat) (L : List Pr) (kind : Int) (k v : ByteArray) (A : Option Addr) (c : Nat) (w : World) (e : Ending) (w' : World) : Prop :=
  OnePost B n L kind k v w e w' ∧ w.grownBy w' (Value.slice A n c).ownBlock
set_option maxHeartbeats 2000000 in
theorem one_wipe_any {w : World} {B n c : Nat} {A : Option Addr} {L : List Pr} (k v : ByteArray) (ho : w.ownsRow B 55 2 (.slice A n c) n (prow L)) (hl : L.length = n) (hL : Ris L) (hn : n ≤ 2199023255552) (hBw : B ≤ w.heap.size) :
    Calls Try.prog 35 #[.slice A n c, .agg #[.int .i64 3, .string k, .string v]] w (OnePost2 B n L 3 k v A c w) := by
  obtain ⟨W0, hW0⟩ : ∃ W0, W0 = w.alloc (.cells #[.int .i64 3, .string k, .string v] 32) := ⟨_, rfl⟩
  have hbx : W0.heap[w.heap.size]? = some (.cells #[.int .i64 3, .string k, .string v] 32 (0, 0)) := by rw [hW0]; exact heap_alloc_new w _
  have ho0 : W0.ownsRow B 55 2 (.slice A n c) n (prow L) := by rw [hW0]; exact ho.alloc _
  have HG0 := hide_ (show w.grownBy W0 (Value.slice A n c).ownBlock by rw [hW0]; exact World.grownBy_alloc _ _ _)
  have HB0 := hide_ (show Below B w W0 by rw [hW0]; exact (Below.refl _ _).alloc hBw _)
  have HZ0 := hide_ (show B ≤ W0.heap.size from Nat.le_trans hBw HB0.out.size)
  have hf := hide_ (find_any (c := c) k (Rd.of_own ho0) hl (rise_iff.2 hL) (by omega))
  have HO0 := hide_ ho0; have HBX := hide_ hbx; have HL := hide_ hl; have HRI := hide_ hL; have HW := hide_ hW0.symm
  clear hW0 hbx ho0 ho hl hL
  go_enter Try.func35, Try.ntmps35
  go_wp2_with fail
  rw [HW.out]
  clear HW
  refine hf.out.mono ?_; rintro e w1 ⟨⟨i, there, rfl, hfi⟩, hb1⟩
  have HF1 := hide_ hfi
  have HO1 := hide_ (own_below HO0.out hb1)
  have HB1 := hide_ (HB0.out.trans (hb1.mono HZ0.out))
  have HG1 := hide_ (grown_trans HG0.out (grown_later hb1 _) (.inl rfl))
  have hx1 := (hb1.block w.heap.size (heap_lt0 HBX.out)).trans HBX.out
  have HZ1 := hide_ (Nat.le_trans HZ0.out hb1.size)
  have c0 := cell_of_row _ _ 0 _ _ (0, 0) hx1
  have c1 := cell_of_row _ _ 1 _ _ (0, 0) hx1
  have c2 := cell_of_row _ _ 2 _ _ (0, 0) hx1
  have hf2 := hide_ (find_any (c := c) v (Rd.of_own HO1.out) HL.out (rise_iff.2 HRI.out) (by omega))
  have hin : i ≤ n := by have := hfi.1; have := HL.out; omega
  clear hfi hb1 hx1 hf
  go_wp2_with fail
  refine hf2.out.mono ?_; rintro e w2 ⟨⟨j, th2, rfl, hfj⟩, hb2⟩
  have hjn : j ≤ n := by have := hfj.1; have := HL.out; omega
  have HO2 := hide_ (own_below HO1.out hb2)
  have HB2 := hide_ (HB1.out.trans (hb2.mono HZ1.out))
  have HG2 := hide_ (grown_trans HG1.out (grown_later hb2 _) (.inl rfl))
  have HF2 := hide_ hfj
  clear hfj hb2 hf2 c0 c1 c2
  by_cases hji : i < j
  · have q1 : (i : Int) < (j : Int) := by omega
    have hd := hide_ (delete_own HO2.out HL.out i j (by omega) hjn (by omega))
    have HP := hide_ (one_wipe HRI.out (at_of HF1.out) (at_of HF2.out) (m := j) (by rw [if_pos hji]))
    clear hji
    go_wp2_with fail
    refine hd.out.mono ?_; rintro e w3 ⟨⟨u, m, rfl, hm, hmn, ho3⟩, hb3, hg3⟩
    have HM := hide_ hm; have HO3 := hide_ ho3; have HB3 := hide_ (HB2.out.trans hb3); have HG3 := hide_ (grown_trans HG2.out hg3 (.inl rfl))
    obtain ⟨A3, c3, rfl⟩ := own_form ho3
    clear hm ho3 hb3 hg3
    go_wp2_with fail
    go_ret
    exact ⟨⟨⟨_, _, m, rfl, HM.out, by omega, HP.out, HO3.out⟩, HB3.out⟩, HG3.out⟩
  · have q1 : ¬ (i : Int) < (j : Int) := by omega
    have hd := hide_ (delete_own HO2.out HL.out i i (Nat.le_refl _) hin (by omega))
    have HP := hide_ (one_wipe HRI.out (at_of HF1.out) (at_of HF2.out) (m := i) (by rw [if_neg hji]))
    clear hji
    go_wp2_with fail
    refine hd.out.mono ?_; rintro e w3 ⟨⟨u, m, rfl, hm, hmn, ho3⟩, hb3, hg3⟩
    have HM := hide_ hm; have HO3 := hide_ ho3; have HB3 := hide_ (HB2.out.trans hb3); have HG3 := hide_ (grown_trans HG2.out hg3 (.inl rfl))
    obtain ⟨A3, c3, rfl⟩ := own_form ho3
    clear hm ho3 hb3 hg3
    go_wp2_with fail
    go_ret
    exact ⟨⟨⟨_, _, m, rfl, HM.out, by omega, HP.out, HO3.out⟩, HB3.out⟩, HG3.out⟩
set_option maxHeartbeats 2000000 in
theorem one_clear_any {w : World} {B n c : Nat} {A : Option Addr} {L : List Pr} (k v : ByteArray) (ho : w.ownsRow B 55 2 (.slice A n c) n (prow L)) (hl : L.length = n) (hL : Ris L) (hn : n ≤ 2199023255552) (hBw : B ≤ w.heap.size) :
    Calls Try.prog 35 #[.slice A n c, .agg #[.int .i64 2, .string k, .string v]] w (OnePost2 B n L 2 k v A c w) := by
  obtain ⟨W0, hW0⟩ : ∃ W0, W0 = w.alloc (.cells #[.int .i64 2, .string k, .string v] 32) := ⟨_, rfl⟩
  have hbx : W0.heap[w.heap.size]? = some (.cells #[.int .i64 2, .string k, .string v] 32 (0, 0)) := by rw [hW0]; exact heap_alloc_new w _
  have ho0 : W0.ownsRow B 55 2 (.slice A n c) n (prow L) := by rw [hW0]; exact ho.alloc _
  have HG0 := hide_ (show w.grownBy W0 (Value.slice A n c).ownBlock by rw [hW0]; exact World.grownBy_alloc _ _ _)
  have HB0 := hide_ (show Below B w W0 by rw [hW0]; exact (Below.refl _ _).alloc hBw _)
  have HZ0 := hide_ (show B ≤ W0.heap.size from Nat.le_trans hBw HB0.out.size)
  have hf := hide_ (find_any (c := c) k (Rd.of_own ho0) hl (rise_iff.2 hL) (by omega))
  have HO0 := hide_ ho0; have HBX := hide_ hbx; have HL := hide_ hl; have HRI := hide_ hL; have HW := hide_ hW0.symm
  clear hW0 hbx ho0 ho hl hL
  go_enter Try.func35, Try.ntmps35
  go_wp2_with fail
  rw [HW.out]
  clear HW
  refine hf.out.mono ?_; rintro e w1 ⟨⟨i, there, rfl, hfi⟩, hb1⟩
  have HF1 := hide_ hfi
  have HO1 := hide_ (own_below HO0.out hb1)
  have HB1 := hide_ (HB0.out.trans (hb1.mono HZ0.out))
  have HG1 := hide_ (grown_trans HG0.out (grown_later hb1 _) (.inl rfl))
  have hx1 := (hb1.block w.heap.size (heap_lt0 HBX.out)).trans HBX.out
  have HZ1 := hide_ (Nat.le_trans HZ0.out hb1.size)
  have c0 := cell_of_row _ _ 0 _ _ (0, 0) hx1
  have c1 := cell_of_row _ _ 1 _ _ (0, 0) hx1
  have c2 := cell_of_row _ _ 2 _ _ (0, 0) hx1
  have hin : i ≤ n := by have := hfi.1; have := HL.out; omega
  clear hfi hb1 hx1 hf
  cases there with
  | true =>
    obtain ⟨x, hx, hxk⟩ := HF1.out.2.2.2.1 rfl
    have hi1 : i + 1 ≤ n := by have := (List.getElem?_eq_some_iff.1 hx).1; have := HL.out; omega
    have hd := hide_ (delete_own HO1.out HL.out i (i + 1) (by omega) hi1 (by omega))
    have HP := hide_ (one_clear (v := v) HRI.out hx hxk)
    have ew : IntKind.i64.wrap ((i : Int) + 1) = ((i + 1 : Nat) : Int) := by rw [show ((i : Int) + 1) = ((i + 1 : Nat) : Int) from by omega]; exact IntWalk.i64_in _ (by omega)
    clear hx hxk
    go_wp2_with (simp only [ew])
    refine hd.out.mono ?_; rintro e w3 ⟨⟨u, m, rfl, hm, hmn, ho3⟩, hb3, hg3⟩
    have HM := hide_ hm; have HO3 := hide_ ho3; have HB3 := hide_ (HB1.out.trans hb3); have HG3 := hide_ (grown_trans HG1.out hg3 (.inl rfl))
    obtain ⟨A3, c3, rfl⟩ := own_form ho3
    clear hm ho3 hb3 hg3
    go_wp2_with fail
    go_ret
    exact ⟨⟨⟨_, _, m, rfl, HM.out, by omega, HP.out, HO3.out⟩, HB3.out⟩, HG3.out⟩
  | false =>
    have HP := hide_ (one_clear_not (v := v) HRI.out (none_of HRI.out HF1.out))
    go_wp2_with fail
    go_ret
    exact ⟨⟨⟨_, _, n, rfl, HL.out, by omega, HP.out, HO1.out⟩, HB1.out⟩, HG1.out⟩
theorem own_setCell_below {w w1 : World} {B size n cap : Nat} {e : TypeId} {g : Nat} {xs : List Value} (h : Below B w w1) (ho : w1.ownsRow B e size (.slice (some ⟨g, 0, none⟩) n cap) n xs) (j : Nat) (u : Value) : Below B w (w1.setCell ⟨g, j, none⟩ u) := by
  rcases ho.2 with ⟨h, _⟩ | ⟨g', cap', cur, hv, hb, _⟩
  · cases h
  · injection hv with h1
    injection h1 with h1
    injection h1 with h1
    subst h1
    exact h.setCell (p := ⟨g, j, none⟩) hb u
theorem prow_set {L : List Pr} {i : Nat} {x : Pr} (hx : L[i]? = some x) (v : ByteArray) : (prow L).set (i * 2 + 1) (.string v) = prow (L.take i ++ (x.1, v) :: L.drop (i + 1)) := by
  have e := at_split hx
  have hi := (List.getElem?_eq_some_iff.1 hx).1
  have e1 : prow L = prow (L.take i) ++ ([.string x.1, .string x.2] ++ prow (L.drop (i + 1))) := by
    conv => lhs; rw [e]
    rw [show L.take i ++ x :: L.drop (i + 1) = L.take i ++ ([x] ++ L.drop (i + 1)) from rfl]
    unfold prow
    rw [List.flatMap_append, List.flatMap_append]
    simp [encP]
  have e2 : prow (L.take i ++ (x.1, v) :: L.drop (i + 1)) = prow (L.take i) ++ ([.string x.1, .string v] ++ prow (L.drop (i + 1))) := by
    unfold prow
    rw [List.flatMap_append, List.flatMap_cons]
    simp [encP]
  have hlen : (prow (L.take i)).length = i * 2 := by rw [prow_len, List.length_take]; omega
  rw [e1, e2, List.set_append_right _ _ (by omega), hlen, show i * 2 + 1 - i * 2 = 1 from by omega]
  rfl
set_option maxHeartbeats 2000000 in
theorem one_put_any {w : World} {B n c : Nat} {A : Option Addr} {L : List Pr} (k v : ByteArray) (ho : w.ownsRow B 55 2 (.slice A n c) n (prow L)) (hl : L.length = n) (hL : Ris L) (hn : n ≤ 2199023255552) (hBw : B ≤ w.heap.size) :
    Calls Try.prog 35 #[.slice A n c, .agg #[.int .i64 1, .string k, .string v]] w (OnePost2 B n L 1 k v A c w) := by
  obtain ⟨W0, hW0⟩ : ∃ W0, W0 = w.alloc (.cells #[.int .i64 1, .string k, .string v] 32) := ⟨_, rfl⟩
  have hbx : W0.heap[w.heap.size]? = some (.cells #[.int .i64 1, .string k, .string v] 32 (0, 0)) := by rw [hW0]; exact heap_alloc_new w _
  have ho0 : W0.ownsRow B 55 2 (.slice A n c) n (prow L) := by rw [hW0]; exact ho.alloc _
  have HG0 := hide_ (show w.grownBy W0 (Value.slice A n c).ownBlock by rw [hW0]; exact World.grownBy_alloc _ _ _)
  have HB0 := hide_ (show Below B w W0 by rw [hW0]; exact (Below.refl _ _).alloc hBw _)
  have HZ0 := hide_ (show B ≤ W0.heap.size from Nat.le_trans hBw HB0.out.size)
  have hf := hide_ (find_any (c := c) k (Rd.of_own ho0) hl (rise_iff.2 hL) (by omega))
  have HO0 := hide_ ho0; have HBX := hide_ hbx; have HL := hide_ hl; have HRI := hide_ hL; have HW := hide_ hW0.symm
  clear hW0 hbx ho0 ho hl hL
  go_enter Try.func35, Try.ntmps35
  go_wp2_with fail
  rw [HW.out]
  clear HW
  refine hf.out.mono ?_; rintro e w1 ⟨⟨i, there, rfl, hfi⟩, hb1⟩
  have HF1 := hide_ hfi
  have HO1 := hide_ (own_below HO0.out hb1)
  have HB1 := hide_ (HB0.out.trans (hb1.mono HZ0.out))
  have HG1 := hide_ (grown_trans HG0.out (grown_later hb1 _) (.inl rfl))
  have hx1 := (hb1.block w.heap.size (heap_lt0 HBX.out)).trans HBX.out
  have HZ1 := hide_ (Nat.le_trans HZ0.out hb1.size)
  have c0 := cell_of_row _ _ 0 _ _ (0, 0) hx1
  have c1 := cell_of_row _ _ 1 _ _ (0, 0) hx1
  have c2 := cell_of_row _ _ 2 _ _ (0, 0) hx1
  have hin : i ≤ n := by have := hfi.1; have := HL.out; omega
  clear hfi hb1 hx1 hf
  cases there with
  | true =>
    obtain ⟨x, hx, hxk⟩ := HF1.out.2.2.2.1 rfl
    have hi1 : i < n := by have := (List.getElem?_eq_some_iff.1 hx).1; have := HL.out; omega
    have HP := hide_ (one_put_there (v := v) HRI.out hx hxk)
    have HX := hide_ hx
    rcases own_cases HO1.out with ⟨_, h0, _⟩ | ⟨g, rfl⟩
    · omega
    have ho2 := own_setCell HO1.out (i * 2 + 1) (.string v)
    rw [prow_set hx v] at ho2
    have HO2 := hide_ ho2
    clear hx hxk ho2
    have q1 : (0 : Int) ≤ (i : Int) := by omega
    have q2 : (i : Int) < (n : Int) := by omega
    obtain ⟨y, hy⟩ : ∃ y, w1.cell? ⟨g, i * 2 + 1, none⟩ = some y := ⟨_, (HO1.out.cellAt (i * 2 + 1) (by omega)).trans (List.getElem?_eq_getElem (by rw [prow_len, HL.out]; omega))⟩
    have hfz := HO1.out.frozenAt (i * 2 + 1)
    have HB2 := hide_ (own_setCell_below HB1.out HO1.out (i * 2 + 1) (.string v))
    have HG2 := hide_ (grown_setCell (o := i * 2 + 1) HG1.out (.inl rfl) (.string v))
    go_wp2_with fail
    go_ret
    exact ⟨⟨⟨_, _, n, rfl, by simp [HL.out]; omega, by omega, HP.out, HO2.out⟩, HB2.out⟩, HG2.out⟩
  | false =>
    have HP := hide_ (one_put_new (v := v) HRI.out (at_of HF1.out) (none_of HRI.out HF1.out))
    have hv := heap_alloc_new w1 (.cells #[.string k, .string v] 55)
    have hvn : ∀ g, A = some ⟨g, 0, none⟩ → w1.heap.size ≠ g := by
      rintro g rfl h
      obtain ⟨cur, _, hg, _⟩ := own_row HO1.out
      have := heap_lt0 hg
      omega
    have hi := hide_ (insert_own (k, v) (HO1.out.alloc (.cells #[.string k, .string v] 55)) HL.out i hin hv hvn hn (Nat.le_trans HZ1.out (by simp)))
    have HB2 := hide_ (HB1.out.alloc HZ1.out (.cells #[.string k, .string v] 55))
    have HG2 := hide_ (grown_alloc HG1.out (.cells #[.string k, .string v] 55))
    clear hv hvn
    go_wp2_with fail
    refine hi.out.mono ?_; rintro e w3 ⟨⟨u, rfl, ho3⟩, hb3, hg3⟩
    have HO3 := hide_ ho3; have HB3 := hide_ (HB2.out.trans hb3); have HG3 := hide_ (grown_trans HG2.out hg3 (.inl rfl))
    obtain ⟨A3, c3, rfl⟩ := own_form ho3
    clear ho3 hb3 hg3
    go_wp2_with fail
    go_ret
    exact ⟨⟨⟨_, _, n + 1, rfl, by have := HL.out; simp; omega, Nat.le_refl _, HP.out, HO3.out⟩, HB3.out⟩, HG3.out⟩
theorem one_own {w : World} {B n c : Nat} {A : Option Addr} {L : List Pr} {kind : Int} (k v : ByteArray) (hk : kind = 1 ∨ kind = 2 ∨ kind = 3) (ho : w.ownsRow B 55 2 (.slice A n c) n (prow L)) (hl : L.length = n) (hL : Ris L) (hn : n ≤ 2199023255552) (hBw : B ≤ w.heap.size) :
    Calls Try.prog 35 #[.slice A n c, .agg #[.int .i64 kind, .string k, .string v]] w (OnePost2 B n L kind k v A c w) := by
  rcases hk with rfl | rfl | rfl
  · exact one_put_any k v ho hl hL hn hBw
  · exact one_clear_any k v ho hl hL hn hBw
  · exact one_wipe_any k v ho hl hL hn hBw
theorem one_any {w : World} {B n c : Nat} {A : Option Addr} {L : List Pr} {kind : Int} (k v : ByteArray) (hk : kind = 1 ∨ kind = 2 ∨ kind = 3) (ho : w.ownsRow B 55 2 (.slice A n c) n (prow L)) (hl : L.length = n) (hL : Ris L) (hn : n ≤ 2199023255552) (hBw : B ≤ w.heap.size) :
    Calls Try.prog 35 #[.slice A n c, .agg #[.int .i64 kind, .string k, .string v]] w (OnePost B n L kind k v w) :=
  (one_own k v hk ho hl hL hn hBw).mono fun e w' h => h.1

end Go.Proofs.Ytblljpdlmllceaa
