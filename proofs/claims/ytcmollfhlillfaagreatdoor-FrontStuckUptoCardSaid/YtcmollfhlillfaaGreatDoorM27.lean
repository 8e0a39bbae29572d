/-
  Texts of this seat in one: Carve.
-/
import Derived.Test.YtcmollfhlillfaaGreatDoorM22
import Derived.Test.YtcmollfhlillfaaGreatDoorM26
/-
  front: Carve: what a transaction reads and changes of each piece.
-/
namespace Go.Proofs.YtcmollfhlillfaaGreatDoor
open Go.RowKit
set_option linter.unusedVariables false
set_option linter.unusedSimpArgs false
theorem bnd_mem : ∀ (L : List ByteArray) (p : Option ByteArray), bndGo p L = true → ∀ b ∈ L, b.size ≤ 16
  | [], p, _, b, hb => by cases hb
  | x :: L, p, h, b, hb => by
    unfold bndGo at h
    split at h
    · cases h
    · rename_i hx
      have hx16 : x.size ≤ 16 := by omega
      rcases List.mem_cons.1 hb with rfl | hb
      · exact hx16
      · split at h
        · exact bnd_mem L _ h b hb
        · split at h
          · cases h
          · exact bnd_mem L _ h b hb
theorem pieceF_size {L : List ByteArray} {n : Nat} (h : bndB L = true) (hn : n ≤ L.length) : (pieceF L n).1.size ≤ 17 ∧ (pieceF L n).2.size ≤ 17 := by
  have h1 : bndGo none L = true := by unfold bndB at h; simp at h; exact h.1
  have g : ∀ i : Nat, ((L[i]?).getD ByteArray.empty).size ≤ 16 := fun i => by
    cases hi : L[i]? with
    | none => simp
    | some b => exact bnd_mem L none h1 b (List.mem_of_getElem? hi)
  refine ⟨?_, ?_⟩
  · rcases Nat.eq_zero_or_pos n with rfl | hp
    · rw [pieceF_0]; simp
    · obtain ⟨k, rfl⟩ : ∃ k, n = k + 1 := ⟨n - 1, by omega⟩
      rw [pieceF_from]; exact Nat.le_trans (g k) (by omega)
  · by_cases hlt : n < L.length
    · rw [pieceF_to hlt]; exact Nat.le_trans (g n) (by omega)
    · rw [pieceF_top hlt]; decide
def meetL (q : Spn) (R : List Spn) : List Spn := R.filterMap fun s => if (smeetS s q).2 ≤ (smeetS s q).1 then none else some (smeetS s q)
def carve1 (B : List ByteArray) (t : Tx) (n : Nat) : Tx := (t.1, meetL (pieceF B n) t.2.1, cutC (pieceF B n) t.2.2)
def carveF (B : List ByteArray) (t : Tx) : List Tx := (List.range (B.length + 1)).map (carve1 B t)
theorem meetL_snoc (q : Spn) (R : List Spn) (s : Spn) : meetL q (R ++ [s]) = meetL q R ++ (if (smeetS s q).2 ≤ (smeetS s q).1 then [] else [smeetS s q]) := by
  unfold meetL
  rw [List.filterMap_append]
  by_cases h : (smeetS s q).2 ≤ (smeetS s q).1 <;> simp [h]
theorem carve_take {B : List ByteArray} {t : Tx} {n : Nat} (h : n ≤ B.length) : (carveF B t).take (n + 1) = (carveF B t).take n ++ [carve1 B t n] := by
  unfold carveF
  rw [List.take_add_one, List.getElem?_map, List.getElem?_range (by omega)]
  rfl
def txR : Rep Tx where
  size := 3
  holds w cs j X := ∃ u1 u2 X1 X2, cs = [.int .i64 j.1, u1, u2] ∧ spansR.holds w [u1] j.2.1 X1 ∧ chgsR.holds w [u2] j.2.2 X2 ∧ X = X1 ++ X2
  frame := by
    rintro w w' cs a X F ⟨u1, u2, X1, X2, rfl, h1, h2, rfl⟩ hh hF
    exact ⟨u1, u2, X1, X2, rfl, spansR.frame h1 hh fun k hk => hF k (List.mem_append_left _ hk), chgsR.frame h2 hh fun k hk => hF k (List.mem_append_right _ hk), rfl⟩
  lt := by
    rintro w cs a X ⟨u1, u2, X1, X2, rfl, h1, h2, rfl⟩ k hk
    rcases List.mem_append.1 hk with h | h
    · exact spansR.lt h1 k h
    · exact chgsR.lt h2 k h
  len := by rintro w cs a X ⟨u1, u2, X1, X2, rfl, _⟩; rfl
  one := by
    rintro w cs a X ⟨u1, u2, X1, X2, rfl, h1, h2, _⟩ u hu
    simp only [List.mem_cons, List.not_mem_nil, or_false] at hu
    rcases hu with rfl | rfl | rfl
    · rfl
    · exact spansR.one h1 u (by simp)
    · exact chgsR.one h2 u (by simp)
theorem spans_holds {w : World} {cs : List Value} {L : List Spn} {X : List Nat} : spansR.holds w cs L X ↔ ∃ v, cs = [v] ∧ w.ownsRow 0 81 2 v L.length (srow L) ∧ X = obL v := slice_plain
theorem chgs_holds {w : World} {cs : List Value} {L : List Chg} {X : List Nat} : chgsR.holds w cs L X ↔ ∃ v, cs = [v] ∧ w.ownsRow 0 142 3 v L.length (crow L) ∧ X = obL v := slice_plain
theorem txT : ElemT Tryz.prog 44 30 3 56 := elem_mk (z := .agg #[.int .i64 0, .slice none 0 0, .slice none 0 0]) Tryz.underlying44 (by kernel_rfl) rfl (by decide)
/-- Cut of sound changes to a piece. -/
theorem cut_ok {w : World} {A : Option Addr} {p c : Nat} {C : List Chg} (s : Spn) (hr : Rd w 3 A p (crow C)) (hl : C.length = p) (hn : p ≤ 1048576) (hs1 : s.1.size ≤ 17) (hs2 : s.2.size ≤ 17) (h0 : chkAll C = 0) :
    Calls Tryz.prog 102 #[.agg #[.string s.1, .string s.2], .slice A p c] w fun e w' => (∃ A2 m c2, e = .returned (.tuple #[.slice A2 m c2, .int .i64 0]) ∧ (cutC s C).length = m ∧ w'.ownsRow w.heap.size 142 3 (.slice A2 m c2) m (crow (cutC s C))) ∧ Later w w' := by
  refine (cut_any (c := c) s hr hl hn (by unfold maxLen; omega) (by unfold maxLen; omega)).mono ?_
  rintro e w' ⟨h1 | h1 | ⟨_, _, _, u, m, rfl, g1, g2, g3⟩, hl2⟩
  · exact absurd h0 h1.1
  · have := h1.2.1; omega
  · obtain ⟨A2, c2, rfl⟩ := own_form g3
    exact ⟨⟨A2, m, c2, rfl, g1, g3⟩, hl2⟩
/-- What Carve answers. -/
def CarvePost (w : World) (T : List Tx) (e : Ending) (w' : World) : Prop := ∃ A n c X, e = .returned (.tuple #[.slice A n c, .int .i64 0]) ∧ T.length = n ∧ SliceP w.heap.size 30 txR w' (.slice A n c) T X ∧ (∀ k ∈ X, w.heap.size ≤ k) ∧ Later w w'
/-- A transaction's cells are put. -/
def put3 (w : World) (b : Nat) (x y z : Value) : World := ((w.setCell ⟨b, 0, none⟩ x).setCell ⟨b, 1, none⟩ y).setCell ⟨b, 2, none⟩ z
set_option maxHeartbeats 16000000 in
set_option maxRecDepth 100000 in
theorem carve_any {w : World} {A A1 A2 : Option Addr} {p c n1 c1 n2 c2 : Nat} {B : List ByteArray} {r : Int} {R : List Spn} {C : List Chg} (hb : Rd w 1 A p (strs B)) (hbl : B.length = p) (hB : bndB B = true) (hR : Rd w 2 A1 n1 (srow R)) (hRl : R.length = n1) (hC : Rd w 3 A2 n2 (crow C)) (hCl : C.length = n2) (hT : soundT (r, R, C) = true) :
    Calls Tryz.prog 66 #[.slice A p c, .agg #[.int .i64 r, .slice A1 n1 c1, .slice A2 n2 c2]] w (CarvePost w (carveF B (r, R, C))) := by
  have hp8 : p < 8 := by unfold bndB at hB; simp at hB; omega
  have hn24 : n1 ≤ 24 ∧ n2 ≤ 24 ∧ chkAll C = 0 := by unfold soundT at hT; simp at hT; omega
  obtain ⟨hn1, hn2, hchk⟩ := hn24
  obtain ⟨W0, hW0⟩ : ∃ W, W = w.alloc (.cells #[.int .i64 r, .slice A1 n1 c1, .slice A2 n2 c2] 30) := ⟨_, rfl⟩
  have hl0 : Later w W0 := by rw [hW0]; exact later_alloc _ _
  have ht0 : W0.heap[w.heap.size]? = some (.cells #[.int .i64 r, .slice A1 n1 c1, .slice A2 n2 c2] 30 (0, 0)) := by rw [hW0]; exact heap_alloc_new _ _
  have HS := hide_ (bsound_any (c := c) (hb.below hl0) hbl (by omega))
  rw [hB] at HS
  have HTX := hide_ (txn_any (c := c1) (c' := c2) (r := r) (hR.below hl0) hRl (hC.below hl0) hCl (by omega) (by omega))
  rw [hT] at HTX
  have HRB := hide_ (hb.below hl0); have HRR := hide_ (hR.below hl0); have HRC := hide_ (hC.below hl0)
  have HBL := hide_ hbl; have HRL := hide_ hRl; have HCL := hide_ hCl; have HB := hide_ hB; have HCK := hide_ hchk
  have HT0 := hide_ ht0; have HL0 := hide_ hl0
  have q1 : (p : Int) < 8 := by omega
  have q2 : (n1 : Int) ≤ 24 := by omega
  clear hb hbl hB hR hRl hC hCl hT hchk hl0 ht0
  go_enter Tryz.func66, Tryz.ntmps66
  go_wp2_with fail
  rw [← hW0]
  refine HS.out.mono ?_; rintro e w1 ⟨rfl, rfl⟩
  go_wp2_with fail
  rw [← hW0]
  refine HTX.out.mono ?_; rintro e w2 ⟨rfl, hl2⟩
  have HL2 := hide_ (HL0.out.trans hl2)
  have HW2 := hide_ hl2
  have x2 := later_row hl2 HT0.out
  have x2_1 : w2.cell? ⟨w.heap.size, 1, none⟩ = some (.slice A1 n1 c1) := cell_of_row _ _ 1 _ _ (0, 0) x2
  have HX2 := hide_ x2
  clear hl2 HS HTX x2 x2_1 hW0
  go_wp2_with fail
  go_loopw [6, 28] (fun s6 s28 wr => ∃ (n : Nat) (X : List Nat) (A6 : Option Addr) (c6 : Nat), n ≤ p + 1 ∧ s28 = .int .i64 n ∧ s6 = .slice A6 n c6 ∧ Hid (SliceP w2.heap.size 30 txR wr (.slice A6 n c6) ((carveF B (r, R, C)).take n) X) ∧ Hid (∀ k ∈ X, w.heap.size ≤ k) ∧ Hid (Later w2 wr)) (fun _ i _ => p + 1 - (intOf i).toNat)
  case atStart => exact ⟨0, [], none, 0, Nat.zero_le _, rfl, rfl, hide_ (SliceP.nil _ _ _ _), hide_ (fun k hk => by cases hk), hide_ (Later.refl _)⟩
  case round =>
    obtain ⟨n, X, A6, c6, hnp, rfl, rfl, HP, HX, HL⟩ := hrel
    by_cases hlt : n < p + 1
    · have q3 : (n : Int) < (p : Int) + 1 := by omega
      have q4 : (0 : Int) ≤ (n : Int) := by omega
      have xr := later_row HL.out HX2.out
      have x0 : wr.cell? ⟨w.heap.size, 0, none⟩ = some (.int .i64 r) := cell_of_row _ _ 0 _ _ (0, 0) xr
      have x1 : wr.cell? ⟨w.heap.size, 1, none⟩ = some (.slice A1 n1 c1) := cell_of_row _ _ 1 _ _ (0, 0) xr
      have xlt : w.heap.size < wr.heap.size := theap_lt xr
      obtain ⟨q, hq⟩ : ∃ q, q = pieceF B n := ⟨_, rfl⟩
      have HQ := hide_ hq
      clear xr hq
      go_wp2_with fail
      obtain ⟨Wa, hWa⟩ : ∃ W, W = wr.alloc (.cells #[.int .i64 r, .slice none 0 0, .slice none 0 0] 30) := ⟨_, rfl⟩
      rw [← hWa]
      have HWA := hide_ (show Later wr Wa by rw [hWa]; exact later_alloc _ _)
      have HXA := hide_ (show Wa.heap[wr.heap.size]? = some (.cells #[.int .i64 r, .slice none 0 0, .slice none 0 0] 30 (0, 0)) by rw [hWa]; exact heap_alloc_new _ _)
      clear hWa x0 x1 xlt
      obtain ⟨wo, rfl⟩ : ∃ wo, wo = wr := ⟨_, rfl⟩
      go_loopw [37] (fun s37 wr => ∃ (k m : Nat) (v : Value), k ≤ n1 ∧ s37 = .int .i64 k ∧ m ≤ k ∧ Hid (wr.heap[wo.heap.size]? = some (.cells #[.int .i64 r, v, .slice none 0 0] 30 (0, 0))) ∧ Hid ((meetL q (R.take k)).length = m) ∧ Hid (wr.ownsRow Wa.heap.size 81 2 v m (srow (meetL q (R.take k)))) ∧ Hid (Later wo wr) ∧ Hid (Wa.heap.size ≤ wr.heap.size)) (fun i _ => n1 - (intOf i).toNat)
      case atStart => exact ⟨0, 0, .slice none 0 0, Nat.zero_le _, rfl, Nat.le_refl _, HXA, hide_ rfl, hide_ (World.ownsRow_nil _ _ _ _), HWA, hide_ (Nat.le_refl _)⟩
      case round =>
        obtain ⟨k, m, v, hkn, rfl, hmk, HXI, HM, HO, HLI, HSI⟩ := hrel
        obtain ⟨A4, c4, rfl⟩ := own_form HO.out
        have HLI2 := hide_ (HL.out.trans HLI.out)
        by_cases hlt2 : k < n1
        · obtain ⟨s, hs⟩ : ∃ s, R[k]? = some s := ⟨_, List.getElem?_eq_getElem (by rw [HRL.out]; exact hlt2)⟩
          obtain ⟨b, o, rfl, l0, l1⟩ := ((HRR.out.below HW2.out).below HLI2.out).span hs
          have q5 : (k : Int) < (n1 : Int) := by omega
          have q6 : (k : Int) ≤ 1048576 := by omega
          have HT := hide_ (take_snoc hs)
          have blt := cell_lt l0
          obtain ⟨Wb, hWb⟩ : ∃ W, W = wr.alloc (.cells #[.string s.1, .string s.2] 81) := ⟨_, rfl⟩
          have hlb : Later wr Wb := by rw [hWb]; exact later_alloc _ _
          have hrb : Wb.heap[wr.heap.size]? = some (.cells #[.string s.1, .string s.2] 81 (0, 0)) := by rw [hWb]; exact heap_alloc_new _ _
          have as0 := later_drew_cell (cell_of_row _ _ 0 _ _ (0, 0) hrb)
          have as1 := later_drew_cell (cell_of_row _ _ 1 _ _ (0, 0) hrb)
          have HLB := hide_ hlb
          have HB1 := hide_ (((HRB.out.below HW2.out).below HLI2.out).below hlb)
          have HWB := hide_ hWb
          clear hs hlb hrb hWb
          go_wp2_with fail
          rw [← HWB.out]
          have hpc := hide_ (fun W (h : Later Wb.drew W) => piece_any (w := W) (c := c) (HB1.out.below ((Later.refl Wb).dr.trans h)) HBL.out (by omega) n (by omega))
          have hmeet := hide_ (fun W => meet_any s q W)
          rw [← HQ.out] at hpc
          generalize hmm : smeetS s q = mm at hmeet
          have HMM := hide_ hmm
          clear hmm l0 l1 blt HWB
          apply wp_cut (F := fun bk W => Later Wb.drew W ∧ Wb.heap.size ≤ bk ∧ W.heap[bk]? = some (.cells #[.string mm.1, .string mm.2] 81 (0, 0)))
          case h1 =>
            refine wp_region_l [6] (by kernel_rfl) ?_
            refine wpAnyL_take 0 (v := ?_) rfl (by kernel_rfl) (by kernel_rfl) (by kernel_rfl) (by kernel_rfl) (fun _ _ _ h => h) (by rfl) (by intro W hSw; go_simp; with_reducible rfl) ?_; try simp only [Act.put, qA, qZ, qS]
            refine wpAnyL_pure 1 (v := ?_) rfl (by kernel_rfl) (by kernel_rfl) (by kernel_rfl) (fun _ _ _ h => h) (by rfl) (by intro W; go_simp; with_reducible rfl) ?_; try simp only [Act.put, qA, qZ, qS]
            refine wpAnyL_pure 2 (v := ?_) rfl (by kernel_rfl) (by kernel_rfl) (by kernel_rfl) (fun _ _ _ h => h) (by rfl) (by intro W; go_simp; with_reducible rfl) ?_; try simp only [Act.put, qA, qZ, qS]
            refine wpAnyL_two 3 5 (by kernel_rfl) rfl rfl (fun K hK => ?_) (fun K hK => ?_)
            · skip
              go_simp
              refine (hpc.out _ (by first | exact Later.refl _ | exact later_alloc _ _)).mono ?_; rintro e w11 ⟨rfl, hb11⟩
              first | refine hK.out _ _ (by assumption) ?_ | refine hK.out _ _ (Later.refl _) ?_ | refine hK.out _ _ (Below.alloc (Below.refl _ _) (Nat.le_refl _) _) ?_
              clear hK K; try simp only [Act.put, qA, qZ, qS]
              refine wpAnyL_two 4 5 (by kernel_rfl) rfl rfl (fun K hK => ?_) (fun K hK => ?_)
              · skip
                go_simp
                refine (hmeet.out _).mono ?_; rintro e w12 ⟨rfl, hb12⟩; first | (have zr := row_al_later hb12; have z0 := cell_of_row _ _ 0 _ _ (0, 0) zr; have z1 := cell_of_row _ _ 1 _ _ (0, 0) zr; have z2 := frozen_of_row _ _ 0 _ _ zr; have z3 := frozen_of_row _ _ 1 _ _ zr) | (have zr : w12.heap[Wb.heap.size]? = some (.cells #[.string ByteArray.empty, .string ByteArray.empty] 81 (0, 0)) := row_al_later (W := Wb.drew) (Z := (.cells #[.string ByteArray.empty, .string ByteArray.empty] 81)) (hb11.trans hb12); have z0 := cell_of_row _ _ 0 _ _ (0, 0) zr; have z1 := cell_of_row _ _ 1 _ _ (0, 0) zr; have z2 := frozen_of_row _ _ 0 _ _ zr; have z3 := frozen_of_row _ _ 1 _ _ zr) | skip
                first | refine hK.out _ _ (by assumption) ?_ | refine hK.out _ _ (Later.refl _) ?_ | refine hK.out _ _ (Below.alloc (Below.refl _ _) (Nat.le_refl _) _) ?_
                clear hK K; try simp only [Act.put, qA, qZ, qS]
                refine wpAnyL_one 5 (by kernel_rfl) rfl (fun K hK => ?_)
                go_simp
                first | refine hK.out _ _ (by assumption) ?_ | refine hK.out _ _ (Later.refl _) ?_ | refine hK.out _ _ (Below.alloc (Below.refl _ _) (Nat.le_refl _) _) ?_
                clear hK K; try simp only [Act.put, qA, qZ, qS]
                refine wpAnyL_loud 6 (by kernel_rfl) (by rfl) rfl (fun K hK => ?_)
                go_simp
                refine hK.out _ _ ?_
                clear hK K; try simp only [Act.put, qA, qZ, qS]
                refine wpAnyL_done (by kernel_rfl) ?_ _
                (first | (have hl := hb11.trans hb12; have hgr2 := Below.size hl; generalize hbk : w12.heap.size = bk at *; exact cut_leaf bk rfl ⟨hl.trans (later_alloc _ _), hgr2, by rw [← hbk]; exact heap_alloc_new _ _⟩) | (have hl := (hb11.trans (later_alloc _ _)).trans hb12; have hgr2 := Below.size hb11; generalize hbk : w11.heap.size = bk at *; exact cut_leaf bk rfl (set_two' hl hgr2 zr)) | (have hl := ((later_alloc Wb.drew (.cells #[.string ByteArray.empty, .string ByteArray.empty] 81)).trans hb11).trans hb12; have hgr2 := Nat.le_refl Wb.drew.heap.size; generalize hbk : Wb.heap.size = bk at *; have ht := set_two' (u := .string mm.1) (v := .string mm.2) hl (by have : Wb.drew.heap.size = bk := hbk; omega) zr; exact cut_leaf bk rfl ⟨ht.1, Nat.le_refl _, ht.2.2⟩))
              · skip
                go_simp
                first | refine hK.out _ _ (by assumption) ?_ | refine hK.out _ _ (Later.refl _) ?_ | refine hK.out _ _ (Below.alloc (Below.refl _ _) (Nat.le_refl _) _) ?_
                clear hK K; try simp only [Act.put, qA, qZ, qS]
                refine wpAnyL_one 4 (by kernel_rfl) rfl (fun K hK => ?_)
                go_simp
                refine (hmeet.out _).mono ?_; rintro e w12 ⟨rfl, hb12⟩; first | (have zr := row_al_later hb12; have z0 := cell_of_row _ _ 0 _ _ (0, 0) zr; have z1 := cell_of_row _ _ 1 _ _ (0, 0) zr; have z2 := frozen_of_row _ _ 0 _ _ zr; have z3 := frozen_of_row _ _ 1 _ _ zr) | (have zr : w12.heap[Wb.heap.size]? = some (.cells #[.string ByteArray.empty, .string ByteArray.empty] 81 (0, 0)) := row_al_later (W := Wb.drew) (Z := (.cells #[.string ByteArray.empty, .string ByteArray.empty] 81)) (hb11.trans hb12); have z0 := cell_of_row _ _ 0 _ _ (0, 0) zr; have z1 := cell_of_row _ _ 1 _ _ (0, 0) zr; have z2 := frozen_of_row _ _ 0 _ _ zr; have z3 := frozen_of_row _ _ 1 _ _ zr) | skip
                first | refine hK.out _ _ (by assumption) ?_ | refine hK.out _ _ (Later.refl _) ?_ | refine hK.out _ _ (Below.alloc (Below.refl _ _) (Nat.le_refl _) _) ?_
                clear hK K; try simp only [Act.put, qA, qZ, qS]
                refine wpAnyL_loud 6 (by kernel_rfl) (by rfl) rfl (fun K hK => ?_)
                go_simp
                refine hK.out _ _ ?_
                clear hK K; try simp only [Act.put, qA, qZ, qS]
                refine wpAnyL_done (by kernel_rfl) ?_ _
                (first | (have hl := hb11.trans hb12; have hgr2 := Below.size hl; generalize hbk : w12.heap.size = bk at *; exact cut_leaf bk rfl ⟨hl.trans (later_alloc _ _), hgr2, by rw [← hbk]; exact heap_alloc_new _ _⟩) | (have hl := (hb11.trans (later_alloc _ _)).trans hb12; have hgr2 := Below.size hb11; generalize hbk : w11.heap.size = bk at *; exact cut_leaf bk rfl (set_two' hl hgr2 zr)) | (have hl := ((later_alloc Wb.drew (.cells #[.string ByteArray.empty, .string ByteArray.empty] 81)).trans hb11).trans hb12; have hgr2 := Nat.le_refl Wb.drew.heap.size; generalize hbk : Wb.heap.size = bk at *; have ht := set_two' (u := .string mm.1) (v := .string mm.2) hl (by have : Wb.drew.heap.size = bk := hbk; omega) zr; exact cut_leaf bk rfl ⟨ht.1, Nat.le_refl _, ht.2.2⟩))
            · skip
              go_simp
              first | refine hK.out _ _ (by assumption) ?_ | refine hK.out _ _ (Later.refl _) ?_ | refine hK.out _ _ (Below.alloc (Below.refl _ _) (Nat.le_refl _) _) ?_
              clear hK K; try simp only [Act.put, qA, qZ, qS]
              refine wpAnyL_one 3 (by kernel_rfl) rfl (fun K hK => ?_)
              go_simp
              refine (hpc.out _ (by first | exact Later.refl _ | exact later_alloc _ _)).mono ?_; rintro e w11 ⟨rfl, hb11⟩
              first | refine hK.out _ _ (by assumption) ?_ | refine hK.out _ _ (Later.refl _) ?_ | refine hK.out _ _ (Below.alloc (Below.refl _ _) (Nat.le_refl _) _) ?_
              clear hK K; try simp only [Act.put, qA, qZ, qS]
              refine wpAnyL_one 4 (by kernel_rfl) rfl (fun K hK => ?_)
              go_simp
              refine (hmeet.out _).mono ?_; rintro e w12 ⟨rfl, hb12⟩; first | (have zr := row_al_later hb12; have z0 := cell_of_row _ _ 0 _ _ (0, 0) zr; have z1 := cell_of_row _ _ 1 _ _ (0, 0) zr; have z2 := frozen_of_row _ _ 0 _ _ zr; have z3 := frozen_of_row _ _ 1 _ _ zr) | (have zr : w12.heap[Wb.heap.size]? = some (.cells #[.string ByteArray.empty, .string ByteArray.empty] 81 (0, 0)) := row_al_later (W := Wb.drew) (Z := (.cells #[.string ByteArray.empty, .string ByteArray.empty] 81)) (hb11.trans hb12); have z0 := cell_of_row _ _ 0 _ _ (0, 0) zr; have z1 := cell_of_row _ _ 1 _ _ (0, 0) zr; have z2 := frozen_of_row _ _ 0 _ _ zr; have z3 := frozen_of_row _ _ 1 _ _ zr) | skip
              first | refine hK.out _ _ (by assumption) ?_ | refine hK.out _ _ (Later.refl _) ?_ | refine hK.out _ _ (Below.alloc (Below.refl _ _) (Nat.le_refl _) _) ?_
              clear hK K; try simp only [Act.put, qA, qZ, qS]
              refine wpAnyL_loud 6 (by kernel_rfl) (by rfl) rfl (fun K hK => ?_)
              go_simp
              refine hK.out _ _ ?_
              clear hK K; try simp only [Act.put, qA, qZ, qS]
              refine wpAnyL_done (by kernel_rfl) ?_ _
              (first | (have hl := hb11.trans hb12; have hgr2 := Below.size hl; generalize hbk : w12.heap.size = bk at *; exact cut_leaf bk rfl ⟨hl.trans (later_alloc _ _), hgr2, by rw [← hbk]; exact heap_alloc_new _ _⟩) | (have hl := (hb11.trans (later_alloc _ _)).trans hb12; have hgr2 := Below.size hb11; generalize hbk : w11.heap.size = bk at *; exact cut_leaf bk rfl (set_two' hl hgr2 zr)) | (have hl := ((later_alloc Wb.drew (.cells #[.string ByteArray.empty, .string ByteArray.empty] 81)).trans hb11).trans hb12; have hgr2 := Nat.le_refl Wb.drew.heap.size; generalize hbk : Wb.heap.size = bk at *; have ht := set_two' (u := .string mm.1) (v := .string mm.2) hl (by have : Wb.drew.heap.size = bk := hbk; omega) zr; exact cut_leaf bk rfl ⟨ht.1, Nat.le_refl _, ht.2.2⟩))
          case h2 =>
            rintro bk W ⟨hFL, hbk, hmr⟩
            have hFB := (Later.refl Wb).dr.trans hFL
            have HBK := hide_ hbk
            have HLW := hide_ (HLB.out.trans hFB)
            have HMR := hide_ hmr
            have hem := hide_ (fun W => empty_b mm W)
            have m0 := cell_of_row _ _ 0 _ _ (0, 0) hmr
            have m1 := cell_of_row _ _ 1 _ _ (0, 0) hmr
            clear hFL hmr hFB as0 as1 hpc hmeet hbk
            go_wp2_with fail
            refine (hem.out _).mono ?_; rintro e w5 ⟨rfl, hb5⟩
            have HL5 := hide_ (HLW.out.trans hb5)
            have HMR5 := hide_ (later_row hb5 HMR.out)
            clear hem m0 m1 hb5
            by_cases hemp : mm.2 ≤ mm.1
            · have HEM := hide_ hemp
              rw [decide_eq_true hemp]
              clear hemp
              go_wp2_with fail
              go_roundw
              case rel => exact ⟨k + 1, m, _, by omega, by go_num, by omega, hide_ (later_row HL5.out HXI.out), hide_ (by rw [HT.out, meetL_snoc, HMM.out, if_pos HEM.out, List.append_nil]; exact HM.out), hide_ (by rw [HT.out, meetL_snoc, HMM.out, if_pos HEM.out, List.append_nil]; exact own_below HO.out HL5.out), hide_ (HLI.out.trans HL5.out), hide_ (Nat.le_trans HSI.out HL5.out.size)⟩
              case measure => simp [intOf]; omega
            · have HEM := hide_ hemp
              rw [decide_eq_false hemp]
              have hx5 := later_row HL5.out HXI.out
              have y1 : w5.cell? ⟨wo.heap.size, 1, none⟩ = some (.slice A4 m c4) := cell_of_row _ _ 1 _ _ (0, 0) hx5
              have yf := frozen_of_row _ _ 1 _ _ hx5
              have ylt := theap_lt hx5
              have m0 : w5.cell? ⟨bk, 0, none⟩ = some (.string mm.1) := cell_of_row _ _ 0 _ _ (0, 0) HMR5.out
              have m1 : w5.cell? ⟨bk, 1, none⟩ = some (.string mm.2) := cell_of_row _ _ 1 _ _ (0, 0) HMR5.out
              have HX5 := hide_ hx5
              have HO5 := hide_ (own_below HO.out HL5.out)
              clear hemp hx5
              have HWS := hide_ (theap_lt HXA.out)
              have hz5 : Wa.heap.size ≤ w5.heap.size := Nat.le_trans HSI.out HL5.out.size
              have HZ5 := hide_ hz5
              clear hz5
              go_wp2_with (at_builtin; refine wpList_append_rd _ rfl (.tmp 50) (.tmp 52) 27 rfl Wa.heap.size 81 2 32 spanT (.slice A4 m c4) m (srow (meetL q (R.take k))) rfl (HO5.out.alloc _) (some ⟨w5.heap.size, 0, none⟩) 1 1 (encS mm) rfl (Rd.newAt _ #[.string mm.1, .string mm.2] 81 1 2 _ (0, 0) rfl rfl) (encS_one _) (by omega) (by unfold maxLen; omega) (by have := HZ5.out; simp; omega) (fun h => by cases h) ?_; intro v9 w9 hown hg hat; obtain ⟨A9, c9, hv9⟩ := own_form hown; subst hv9; have HO9 := hide_ hown; have HG9 := hide_ hg; have hx9 : w9.heap[wo.heap.size]? = some (.cells #[.int .i64 r, .slice A4 m c4, .slice none 0 0] 30 (0, 0)) := (hg.block _ (by have := theap_lt HX5.out; simp; omega) (fun e => by have h1 := (own_block HO5.out e.symm).1; have h2 := HWS.out; omega)).trans (row_al HX5.out _); have y1 : w9.cell? ⟨wo.heap.size, 1, none⟩ = some (.slice A4 m c4) := cell_of_row _ _ 1 _ _ (0, 0) hx9; have yf := frozen_of_row _ _ 1 _ _ hx9; have HX9 := hide_ hx9; clear hown hg hat hx9 m0 m1)
              go_roundw
              case rel =>
                have hl9 : Later wo w9 := own_grown ((HLI.out.trans HL5.out).al _) (own_base (HO5.out.alloc _) (Nat.le_of_lt HWS.out)) HG9.out (by have := HLI.out.size; have := HL5.out.size; simp; omega)
                have hb9 : Later wo (w9.setCell ⟨wo.heap.size, 1, none⟩ (.slice A9 (m + 1) c9)) := Below.trans hl9 (((Hits.refl (· = wo.heap.size) w9).setCell (g := wo.heap.size) (fun _ => rfl) 1 _).below (B := wo.heap.size) hl9.size fun k hk => by omega)
                refine ⟨k + 1, m + 1, .slice A9 (m + 1) c9, by omega, by go_num, by omega, hide_ (heap_setCell_same w9 _ 1 _ _ _ HX9.out), hide_ (by rw [HT.out, meetL_snoc, HMM.out, if_neg HEM.out, List.length_append, HM.out]; rfl), hide_ ?_, hide_ hb9, hide_ ?_⟩
                · rw [HT.out, meetL_snoc, HMM.out, if_neg HEM.out]
                  have e1 : srow (meetL q (R.take k) ++ [mm]) = srow (meetL q (R.take k)) ++ encS mm := by unfold srow; rw [List.flatMap_append]; simp
                  rw [e1]
                  exact own_put HO9.out HWS.out
                · have h1 := HG9.out.size
                  have h2 := HZ5.out
                  have h3 : (w9.setCell ⟨wo.heap.size, 1, none⟩ (.slice A9 (m + 1) c9)).heap.size = w9.heap.size := by simp [World.setCell]
                  rw [h3]; simp at h1; omega
              case measure => simp [intOf]; omega
        · obtain rfl : k = n1 := by omega
          have q5 : ¬ (k : Int) < (k : Int) := by omega
          have HMF := hide_ (show R.take k = R from List.take_of_length_le (by rw [HRL.out]; exact Nat.le_refl _))
          rw [HMF.out] at HM HO
          have xr := later_row HLI2.out HX2.out
          have HXR := hide_ xr
          have as2 := later_drew_cell (show wr.cell? ⟨w.heap.size, 2, none⟩ = some (.slice A2 n2 c2) from cell_of_row _ _ 2 _ _ (0, 0) xr)
          clear xr
          have hpc := hide_ (fun W (h : Later wr.drew W) => piece_any (w := W) (c := c) (((HRB.out.below HW2.out).below HLI2.out).below ((Later.refl wr).dr.trans h)) HBL.out (by omega) n (by omega))
          rw [← HQ.out] at hpc
          have HQS := hide_ (pieceF_size HB.out (show n ≤ B.length by rw [HBL.out]; omega))
          rw [← HQ.out] at HQS
          have hcut := hide_ (fun W (h : Later wr.drew W) => cut_ok (w := W) (c := c2) q (((HRC.out.below HW2.out).below HLI2.out).below ((Later.refl wr).dr.trans h)) HCL.out (by omega) HQS.out.1 HQS.out.2 HCK.out)
          go_wp2_with fail
          refine wp_region_l [10] (by kernel_rfl) ?_
          refine wpAnyL_pure 0 (v := ?_) rfl (by kernel_rfl) (by kernel_rfl) (by kernel_rfl) (fun _ _ _ h => h) (by rfl) (by intro W; go_simp; with_reducible rfl) ?_; try simp only [Act.put, qA, qZ, qS]
          refine wpAnyL_pure 1 (v := ?_) rfl (by kernel_rfl) (by kernel_rfl) (by kernel_rfl) (fun _ _ _ h => h) (by rfl) (by intro W; go_simp; with_reducible rfl) ?_; try simp only [Act.put, qA, qZ, qS]
          refine wpAnyL_pure 3 (v := ?_) rfl (by kernel_rfl) (by kernel_rfl) (by kernel_rfl) (fun _ _ _ h => h) (by rfl) (by intro W; go_simp; with_reducible rfl) ?_; try simp only [Act.put, qA, qZ, qS]
          refine wpAnyL_take 4 (v := ?_) rfl (by kernel_rfl) (by kernel_rfl) (by kernel_rfl) (by kernel_rfl) (fun _ _ _ h => h) (by rfl) (by intro W hSw; go_simp; with_reducible rfl) ?_; try simp only [Act.put, qA, qZ, qS]
          refine wpAnyL_one 2 (by kernel_rfl) rfl (fun K hK => ?_)
          go_simp
          refine (hpc.out _ (Later.refl _)).mono ?_; rintro e w11 ⟨rfl, hb11⟩
          first | refine hK.out _ _ (by assumption) ?_ | refine hK.out _ _ (Later.refl _) ?_ | refine hK.out _ _ (Below.alloc (Below.refl _ _) (Nat.le_refl _) _) ?_
          clear hK K; try simp only [Act.put, qA, qZ, qS]
          refine wpAnyL_one 5 (by kernel_rfl) rfl (fun K hK => ?_)
          go_simp
          refine (hcut.out _ hb11).mono ?_; rintro e w12 ⟨⟨A5, m5, c5, rfl, hm5, ho5⟩, hb12⟩; have hx12 := later_row (((Later.refl wr).dr.trans hb11).trans hb12) HXI.out; have y2 := cell_of_row _ _ 2 _ _ (0, 0) hx12; have yf := frozen_of_row _ _ 2 _ _ hx12
          first | refine hK.out _ _ (by assumption) ?_ | refine hK.out _ _ (Later.refl _) ?_ | refine hK.out _ _ (Below.alloc (Below.refl _ _) (Nat.le_refl _) _) ?_
          clear hK K; try simp only [Act.put, qA, qZ, qS]
          refine wpAnyL_pure 6 (v := ?_) rfl (by kernel_rfl) (by kernel_rfl) (by kernel_rfl) (fun _ _ _ h => h) (by rfl) (by intro W; go_simp; with_reducible rfl) ?_; try simp only [Act.put, qA, qZ, qS]
          refine wpAnyL_pure 7 (v := ?_) rfl (by kernel_rfl) (by kernel_rfl) (by kernel_rfl) (fun _ _ _ h => h) (by rfl) (by intro W; go_simp; with_reducible rfl) ?_; try simp only [Act.put, qA, qZ, qS]
          refine wpAnyL_pure 8 (v := ?_) rfl (by kernel_rfl) (by kernel_rfl) (by kernel_rfl) (fun _ _ _ h => h) (by rfl) (by intro W; go_simp; with_reducible rfl) ?_; try simp only [Act.put, qA, qZ, qS]
          refine wpAnyL_pure 9 (v := ?_) rfl (by kernel_rfl) (by kernel_rfl) (by kernel_rfl) (fun _ _ _ h => h) (by rfl) (by intro W; go_simp; with_reducible rfl) ?_; try simp only [Act.put, qA, qZ, qS]
          refine wpAnyL_loud 10 (by kernel_rfl) (by rfl) rfl (fun K hK => ?_)
          go_simp
          refine hK.out _ _ ?_
          clear hK K; try simp only [Act.put, qA, qZ, qS]
          refine wpAnyL_done (by kernel_rfl) ?_ _
          obtain ⟨V, hV⟩ : ∃ V, V = w12.setCell ⟨wo.heap.size, 2, none⟩ (.slice A5 m5 c5) := ⟨_, rfl⟩
          rw [← hV]
          have hl12 : Later wr w12 := ((Later.refl wr).dr.trans hb11).trans hb12
          have hhV : Hits (· = wo.heap.size) w12 V := by rw [hV]; exact (Hits.refl (· = wo.heap.size) w12).setCell (g := wo.heap.size) (fun _ => rfl) 2 _
          have hxV : V.heap[wo.heap.size]? = some (.cells #[.int .i64 r, .slice A4 m c4, .slice A5 m5 c5] 30 (0, 0)) := by rw [hV]; exact heap_setCell_same w12 _ 2 _ _ _ hx12
          have HWS := hide_ (theap_lt HXA.out)
          have HOV := hide_ (hhV.own (own_below HO.out hl12) (fun g hg e => by have h1 := (own_block HO.out hg).1; have h2 := HWS.out; omega))
          have HCV := hide_ (hhV.own ho5 (fun g hg e => by have h1 := (own_block ho5 hg).1; have h2 := (theap_lt HXI.out); have h3 := hb11.size; simp at h3; omega))
          have HPV := hide_ ((HP.out.later (HLI.out.trans hl12)).hits hhV (fun g hg e => by have h1 := (HP.out.block hg).2.1; omega) (fun g hg e => by have h1 := HP.out.lt g hg; omega))
          have HLV := hide_ (show Later wo V from Below.trans (HLI.out.trans hl12) (hhV.below (B := wo.heap.size) (HLI.out.trans hl12).size fun k hk => by omega))
          have HB11 := hide_ (show wr.heap.size ≤ w11.heap.size from (by have h3 := hb11.size; simpa using h3))
          have HM5 := hide_ hm5
          have z0 : V.cell? ⟨wo.heap.size, 0, none⟩ = some (.int .i64 r) := cell_of_row _ _ 0 _ _ (0, 0) hxV
          have z1 : V.cell? ⟨wo.heap.size, 1, none⟩ = some (.slice A4 m c4) := cell_of_row _ _ 1 _ _ (0, 0) hxV
          have z2 : V.cell? ⟨wo.heap.size, 2, none⟩ = some (.slice A5 m5 c5) := cell_of_row _ _ 2 _ _ (0, 0) hxV
          have zlt := theap_lt hxV
          have HLN := hide_ (show ((carveF B (r, R, C)).take n).length = n by rw [List.length_take]; unfold carveF; rw [List.length_map, List.length_range, HBL.out]; omega)
          have HCT := hide_ (carve_take (t := (r, R, C)) (show n ≤ B.length by rw [HBL.out]; omega))
          clear hV hl12 hhV hxV hb11 hb12 hx12 ho5 hm5 y2 yf as2 hpc hcut
          go_wp2_with (at_builtin; refine wpList_push rfl (.tmp 66) (.tmp 68) rfl txT rfl (HPV.out.later (later_alloc V _)) HLN.out (b := V.heap.size) (c := 1) (cells := [.int .i64 r, .slice A4 m c4, .slice A5 m5 c5]) (el := carve1 B (r, R, C) n) (Y := obL (.slice A4 m c4) ++ obL (.slice A5 m5 c5)) rfl (Rd.newAt V #[.int .i64 r, .slice A4 m c4, .slice A5 m5 c5] 30 1 3 _ (0, 0) rfl rfl) ?c1 ?c2 (by omega) (by unfold maxLen; omega) ?c3 ?c4)
          case c1 =>
            refine ⟨_, _, _, _, rfl, spans_holds.2 ⟨_, rfl, ?_, rfl⟩, chgs_holds.2 ⟨_, rfl, ?_, rfl⟩, rfl⟩
            · show (V.alloc _).ownsRow 0 _ 2 _ (meetL (pieceF B n) R).length (srow (meetL (pieceF B n) R))
              rw [← HQ.out, HM.out]
              exact own_base (HOV.out.alloc _) (Nat.zero_le _)
            · show (V.alloc _).ownsRow 0 _ 3 _ (cutC (pieceF B n) C).length (crow (cutC (pieceF B n) C))
              rw [← HQ.out, HM5.out]
              exact own_base (HCV.out.alloc _) (Nat.zero_le _)
          case c2 =>
            intro g hg e
            have h1 := (HP.out.block e).2.1
            rcases List.mem_append.1 hg with h2 | h2
            · have h3 := (own_block HOV.out (mem_obL.1 h2)).1; have h4 := HWS.out; omega
            · have h3 := (own_block HCV.out (mem_obL.1 h2)).1; have h4 := HB11.out; have h5 := HLI.out.size; omega
          case c3 => have h1 := HLV.out.size; have h2 := HL.out.size; simp; omega
          case c4 =>
            intro A9 c9 w9 hp9 hg hat
            rw [← HCT.out] at hp9
            have HP9 := hide_ hp9
            have HL9 := hide_ (show Later w2 w9 from by
              obtain ⟨rows, ho⟩ := HPV.out.own
              exact own_grown ((HL.out.trans HLV.out).al _) (ho.alloc _) hg (by have h1 := HLV.out.size; have h2 := HL.out.size; simp; omega))
            have HX9 := hide_ (show ∀ k ∈ X ++ (obL (.slice A4 m c4) ++ obL (.slice A5 m5 c5)), w.heap.size ≤ k from by
              intro g hg
              have hs := HL.out.size; have hs2 := HL2.out.size; have hs3 := HWS.out; have hs4 := HLI.out.size; have hs5 := HB11.out
              rcases List.mem_append.1 hg with h2 | h2
              · exact HX.out g h2
              · rcases List.mem_append.1 h2 with h2 | h2
                · have h3 := (own_block HOV.out (mem_obL.1 h2)).1; omega
                · have h3 := (own_block HCV.out (mem_obL.1 h2)).1; omega)
            clear hp9 hg hat z0 z1 z2
            go_wp2_with fail
            go_roundw
            case rel => exact ⟨n + 1, _, A9, c9, by omega, by go_num, rfl, HP9, HX9, HL9⟩
            case measure => simp [intOf]; omega
    · obtain rfl : n = p + 1 := by omega
      have q3 : ¬ ((p + 1 : Nat) : Int) < (p : Int) + 1 := by omega
      have HF := hide_ (show (carveF B (r, R, C)).take (p + 1) = carveF B (r, R, C) from List.take_of_length_le (by unfold carveF; rw [List.length_map, List.length_range, HBL.out]; exact Nat.le_refl _))
      go_wp2_with fail
      go_ret2
      exact ⟨A6, p + 1, c6, X, rfl, by unfold carveF; rw [List.length_map, List.length_range, HBL.out], by obtain ⟨rows, xs, g1, g2, g3, g4⟩ := HP.out; rw [HF.out] at g1 g2; exact ⟨rows, xs, own_base g1 HL2.out.size, g2, g3, g4⟩, HX.out, HL2.out.trans HL.out⟩

end Go.Proofs.YtcmollfhlillfaaGreatDoor
