/-
  Texts of this seat in one: FrB, FrC.
-/
import Derived.Test.YtcmollfhlillfaaGreatDoorM18
import Derived.Test.YtcmollfhlillfaaGreatDoorM2
/-
  front: bounds of pieces: sound, piece, Piece; slices.Clone of numbers and of texts.
-/
namespace Go.Proofs.YtcmollfhlillfaaGreatDoor
open Go.RowKit
set_option linter.unusedVariables false
set_option linter.unusedSimpArgs false
def strs (L : List ByteArray) : List Value := L.map Value.string
theorem strs_one (V : List ByteArray) : ∀ u ∈ strs V, u.oneCell' = true := by
  intro u hu; obtain ⟨x, _, rfl⟩ := List.mem_map.1 hu; rfl
theorem strT : ElemT Tryz.prog 38 9 1 16 := elem_mk (z := .string ByteArray.empty) Tryz.underlying38 (by kernel_rfl) rfl (by decide)
theorem Rd.str {w : World} {A : Option Addr} {n : Nat} {L : List ByteArray} (h : Rd w 1 A n (strs L)) {i : Nat} {x : ByteArray} (hi : L[i]? = some x) : ∃ b o, A = some ⟨b, o, none⟩ ∧ w.cell? ⟨b, o + i, none⟩ = some (.string x) := by
  have hl : 0 < (strs L).length := by have := (List.getElem?_eq_some_iff.1 hi).1; unfold strs; rw [List.length_map]; omega
  obtain ⟨b, o, e, hc⟩ := h.2 hl
  exact ⟨b, o, e, hc i _ (by unfold strs; rw [List.getElem?_map, hi]; rfl)⟩
/-- Are bounds sound, behind the one ahead? -/
def bndGo (p : Option ByteArray) : List ByteArray → Bool
  | [] => true
  | b :: r => if b.size = 0 ∨ 16 < b.size then false else match p with
    | none => bndGo (some b) r
    | some q => if b ≤ q then false else bndGo (some b) r
def bndB (L : List ByteArray) : Bool := bndGo none L && decide (L.length < 8)
theorem bnd_next {L : List ByteArray} {k : Nat} {b : ByteArray} (h : L[k]? = some b) (p : Option ByteArray) : bndGo p (L.drop k) = if b.size = 0 ∨ 16 < b.size then false else match p with
    | none => bndGo (some b) (L.drop (k + 1))
    | some q => if b ≤ q then false else bndGo (some b) (L.drop (k + 1)) := by
  have e := List.getElem?_eq_some_iff.1 h
  rw [List.drop_eq_getElem_cons e.1, e.2]; rfl
/-- The bound ahead of the k-th. -/
def prevB (L : List ByteArray) : Nat → Option ByteArray
  | 0 => none
  | k + 1 => L[k]?
theorem toList_ne {m : ByteArray} (h : ¬ m.size = 0) : m.toList.isEmpty = false := by
  cases h2 : m.toList with
  | nil =>
    exfalso; apply h
    have e := Lib.toList_data m
    rw [h2] at e
    have e2 := congrArg List.length e
    simpa using e2.symm
  | cons _ _ => rfl
set_option maxHeartbeats 4000000 in
set_option maxRecDepth 100000 in
theorem bsound_any {w : World} {A : Option Addr} {n c : Nat} {L : List ByteArray} (hr : Rd w 1 A n (strs L)) (hl : L.length = n) (hn : n ≤ 4398046511104) :
    Calls Tryz.prog 51 #[.slice A n c] w fun e w' => e = .returned (.bool (bndB L)) ∧ w' = w := by
  have HR := hide_ hr; have HL := hide_ hl
  have hn2 : (n : Int) ≤ 4398046511104 := by omega
  clear hr hl
  go_enter Tryz.func51, Tryz.ntmps51
  go_wp2_with fail
  go_loop [3, 4, 7] (fun s3 s4 s7 => ∃ (k : Nat), k ≤ n ∧ s7 = .int .i64 k ∧ Hid (bndGo none L = bndGo (prevB L k) (L.drop k))) (fun _ _ i => n - (intOf i).toNat)
  case atStart => exact ⟨0, Nat.zero_le _, rfl, hide_ rfl⟩
  case round =>
    obtain ⟨k, hk, rfl, HN⟩ := hrel
    by_cases hlt : k < n
    · have q1 : (k : Int) < (n : Int) := by omega
      have q2 : (k : Int) ≤ 4398046511104 := by omega
      obtain ⟨m, hm⟩ : ∃ m, L[k]? = some m := ⟨_, List.getElem?_eq_getElem (by rw [HL.out]; exact hlt)⟩
      obtain ⟨b, o, e0, l0⟩ := HR.out.str hm
      have HB := hide_ (bnd_next hm (prevB L k))
      have HM := hide_ hm
      by_cases hs : m.size = 0
      · subst e0
        have hem : m = ByteArray.empty := ByteArray.ext (Array.eq_empty_of_size_eq_zero hs)
        have HF := hide_ (show bndB L = false by unfold bndB; rw [HN.out, HB.out, if_pos (.inl hs)]; rfl)
        subst hem
        clear hm hs
        go_wp2_with fail
        go_ret
        exact ⟨ret_val (congrArg Value.bool HF.out.symm), rfl⟩
      · have z1 : m.toList.isEmpty = false := toList_ne hs
        by_cases hs2 : 16 < m.size
        · subst e0
          have z2 : (16 : Int) < (m.size : Int) := by omega
          have HF := hide_ (show bndB L = false by unfold bndB; rw [HN.out, HB.out, if_pos (.inr hs2)]; rfl)
          clear hm hs hs2
          go_wp2_with fail
          go_ret
          exact ⟨ret_val (congrArg Value.bool HF.out.symm), rfl⟩
        · have z2 : ¬ (16 : Int) < (m.size : Int) := by omega
          have HB2 := hide_ (show bndGo (prevB L k) (L.drop k) = _ from HB.out.trans (if_neg (by omega)))
          rcases Nat.eq_zero_or_pos k with rfl | hpos
          · subst e0
            rw [Nat.add_zero] at l0
            have HX := hide_ (show bndGo none L = bndGo (prevB L (0 + 1)) (L.drop (0 + 1)) by rw [HN.out, HB2.out]; show bndGo (some m) _ = bndGo (L[0]?) _; rw [hm])
            clear hm hs hs2
            go_wp2_with fail
            go_round
            case rel => exact ⟨0 + 1, by omega, by go_num, HX⟩
            case measure => simp [intOf]; omega
          · obtain ⟨j, hj⟩ : ∃ j, k = j + 1 := ⟨k - 1, by omega⟩
            obtain ⟨q, hq⟩ : ∃ q, L[j]? = some q := ⟨_, List.getElem?_eq_getElem (by rw [HL.out]; omega)⟩
            obtain ⟨b2, o2, e2, l2⟩ := HR.out.str hq
            rw [e0] at e2
            subst e0
            injection e2 with e2; injection e2 with e2 e3 _; subst e2 e3
            have HB3 := hide_ (show bndGo none L = if m ≤ q then false else bndGo (some m) (L.drop (k + 1)) by rw [HN.out, HB2.out]; subst hj; show (match L[j]? with | none => _ | some q => _) = _; rw [hq])
            have p1 : (0 : Int) < (k : Int) := by omega
            have p2 : (k : Int) - 1 = (j : Int) := by omega
            have p3 : (j : Int) < (n : Int) := by omega
            by_cases hle : m ≤ q
            · have t1 : (Op.bytesLess m.toList q.toList || m.toList == q.toList) = true := by rw [ble]; simpa
              have HF := hide_ (show bndB L = false by unfold bndB; rw [HB3.out, if_pos hle]; rfl)
              clear hm hs hs2 hq hle hj
              go_wp2_with fail
              go_ret
              exact ⟨ret_val (congrArg Value.bool HF.out.symm), rfl⟩
            · have t1 : (Op.bytesLess m.toList q.toList || m.toList == q.toList) = false := by rw [ble]; simpa
              have HX := hide_ (show bndGo none L = bndGo (prevB L (k + 1)) (L.drop (k + 1)) by rw [HB3.out, if_neg hle]; show bndGo (some m) _ = bndGo (L[k]?) _; rw [hm])
              clear hm hs hs2 hq hle hj
              go_wp2_with fail
              go_round
              case rel => exact ⟨k + 1, by omega, by go_num, HX⟩
              case measure => simp [intOf]; omega
    · obtain rfl : k = n := by omega
      have q1 : ¬ (k : Int) < (k : Int) := by omega
      have HX := hide_ (show bndB L = decide (k < 8) by unfold bndB; rw [HN.out, HL.out, List.drop_of_length_le (by rw [HL.out]; exact Nat.le_refl _)]; rfl)
      go_wp2_with fail
      go_ret
      exact ⟨ret_val (congrArg Value.bool (by rw [HX.out]; exact decide_eq_decide.2 (by omega))), rfl⟩
/-- The span of a piece. -/
def topK : ByteArray := ⟨(List.replicate 17 255).toArray⟩
def pieceF (L : List ByteArray) (n : Nat) : ByteArray × ByteArray := (if n = 0 then ByteArray.empty else (L[n - 1]?).getD ByteArray.empty, if n < L.length then (L[n]?).getD ByteArray.empty else topK)
theorem top_rep : (⟨(Lib.repeatL (⟨#[255]⟩ : ByteArray).data.toList 17).toArray⟩ : ByteArray) = topK := by decide
theorem pieceF_to {L : List ByteArray} {n : Nat} (h : n < L.length) : (pieceF L n).2 = (L[n]?).getD ByteArray.empty := by unfold pieceF; simp [h]
theorem pieceF_top {L : List ByteArray} {n : Nat} (h : ¬ n < L.length) : (pieceF L n).2 = topK := by unfold pieceF; simp [h]
theorem pieceF_from {L : List ByteArray} {n : Nat} : (pieceF L (n + 1)).1 = (L[n]?).getD ByteArray.empty := by unfold pieceF; simp
theorem pieceF_0 {L : List ByteArray} : (pieceF L 0).1 = ByteArray.empty := by unfold pieceF; simp
/-- Two texts are put into a span that was laid. -/
def putS (w : World) (b : Nat) (x y : ByteArray) : World := (w.setCell ⟨b, 0, none⟩ (.string x)).setCell ⟨b, 1, none⟩ (.string y)
theorem putS_row {w : World} {b : Nat} {x0 y0 : Value} (h : w.heap[b]? = some (.cells #[x0, y0] 81 (0, 0))) (x y : ByteArray) : (putS w b x y).heap[b]? = some (.cells #[.string x, .string y] 81 (0, 0)) := by
  have h1 := heap_setCell_same w b 0 _ _ (.string x) h
  exact heap_setCell_same _ b 1 _ _ (.string y) h1
theorem putS_below {w0 w : World} {b : Nat} (h : Later w0 w) (hb : w0.heap.size ≤ b) (x y : ByteArray) : Later w0 (putS w b x y) := by
  have h1 : Hits (· = b) w (putS w b x y) := ((Hits.refl (· = b) w).setCell (g := b) (fun _ => rfl) 0 _).setCell (g := b) (fun _ => rfl) 1 _
  exact Below.trans h (h1.below (B := w0.heap.size) h.size fun k hk => by omega)
theorem piece_ret {R : Ending → World → Prop} {w : World} {b : Nat} {x0 y0 : Value} (h : w.heap[b]? = some (.cells #[x0, y0] 81 (0, 0))) {x y : ByteArray} {o : Obj} {a : Act} (hd : a.tmps.getD 4 undef = .pointer (some ⟨b, 0, none⟩)) (hD : a.defers = [])
    (hR : R (.returned (.agg #[.string x, .string y])) ((putS w b x y).alloc o)) : bodyPost Tryz.prog Tryz.f52 R .ret a ((putS w b x y).alloc o) := by
  have hp := row_al (putS_row h x y) o
  have y0 := cell_of_row _ _ 0 _ _ (0, 0) hp
  have y1 := cell_of_row _ _ 1 _ _ (0, 0) hp
  refine bodyPost_ret (v := .agg #[.string x, .string y]) ?_ hD hR
  have hd' : a.tmps[4]?.getD undef = .pointer (some ⟨b, 0, none⟩) := by simpa using hd
  generalize (putS w b x y).alloc o = W at *
  simp at y0 y1
  simp [results, Tryz.results52, go_sem, hd', y0, y1]
set_option maxHeartbeats 4000000 in
set_option maxRecDepth 100000 in
theorem piece_any {w : World} {A : Option Addr} {p c : Nat} {L : List ByteArray} (hr : Rd w 1 A p (strs L)) (hl : L.length = p) (hp : p ≤ 4398046511104) (n : Nat) (hn : n ≤ p) :
    Calls Tryz.prog 52 #[.slice A p c, .int .i64 n] w fun e w' => e = .returned (.agg #[.string (pieceF L n).1, .string (pieceF L n).2]) ∧ Later w w' := by
  have HR := hide_ hr; have HL := hide_ hl
  have hn2 : (p : Int) ≤ 4398046511104 := by omega
  have HREP := hide_ (strings_Repeat ⟨#[255]⟩ 17 (w.alloc (.cells #[.string ByteArray.empty, .string ByteArray.empty] 81)) (by omega) (by decide))
  rw [top_rep] at HREP
  clear hr hl
  go_enter Tryz.func52, Tryz.ntmps52
  go_wp2_with fail
  refine HREP.out.mono ?_; rintro e w1 ⟨rfl, hl1⟩
  have hz0 : w1.heap[w.heap.size]? = some (.cells #[.string ByteArray.empty, .string ByteArray.empty] 81 (0, 0)) := later_row hl1 (heap_alloc_new w _)
  have z0 : w1.cell? ⟨w.heap.size, 0, none⟩ = some (.string ByteArray.empty) := cell_of_row _ _ 0 _ _ (0, 0) hz0
  have z1 : w1.cell? ⟨w.heap.size, 1, none⟩ = some (.string ByteArray.empty) := cell_of_row _ _ 1 _ _ (0, 0) hz0
  have z2 := frozen_of_row _ _ 0 _ _ hz0
  have z3 := frozen_of_row _ _ 1 _ _ hz0
  have HZ := hide_ hz0
  have zlt : w.heap.size < w1.heap.size := theap_lt hz0
  have HB1 := hide_ (show Later w w1 from (later_alloc _ _).trans hl1)
  clear hl1 hz0 HREP
  by_cases h0 : n = 0
  · by_cases hlt : n < p
    · skip
      obtain ⟨m, hm⟩ : ∃ m, L[n]? = some m := ⟨_, List.getElem?_eq_getElem (by rw [HL.out]; exact hlt)⟩
      obtain ⟨b, o, rfl, l0⟩ := (HR.out.below HB1.out).str hm
      have bl := cell_lt l0
      have q1 : (n : Int) < (p : Int) := by omega
      have F2 := hide_ (show (pieceF L n).2 = m by rw [pieceF_to (by rw [HL.out]; exact hlt), hm]; rfl)
      have F1 := hide_ (show (pieceF L n).1 = ByteArray.empty by rw [h0]; exact pieceF_0)
      have p1 : ¬ (0 : Int) < (n : Int) := by omega
      clear hm h0 hlt
      go_wp2_with fail
      rw [F1.out, F2.out]
      exact piece_ret (w := w1) HZ.out rfl rfl ⟨rfl, (putS_below HB1.out (Nat.le_refl _) _ _).al _⟩
    · skip
      have q1 : ¬ (n : Int) < (p : Int) := by omega
      have F2 := hide_ (show (pieceF L n).2 = topK from pieceF_top (by rw [HL.out]; exact hlt))
      have F1 := hide_ (show (pieceF L n).1 = ByteArray.empty by rw [h0]; exact pieceF_0)
      have p1 : ¬ (0 : Int) < (n : Int) := by omega
      clear h0 hlt
      go_wp2_with fail
      rw [F1.out, F2.out]
      exact piece_ret (w := w1) HZ.out rfl rfl ⟨rfl, (putS_below HB1.out (Nat.le_refl _) _ _).al _⟩
  · by_cases hlt : n < p
    · skip
      obtain ⟨m, hm⟩ : ∃ m, L[n]? = some m := ⟨_, List.getElem?_eq_getElem (by rw [HL.out]; exact hlt)⟩
      obtain ⟨b, o, rfl, l0⟩ := (HR.out.below HB1.out).str hm
      have bl := cell_lt l0
      have q1 : (n : Int) < (p : Int) := by omega
      have F2 := hide_ (show (pieceF L n).2 = m by rw [pieceF_to (by rw [HL.out]; exact hlt), hm]; rfl)
      obtain ⟨j, hj⟩ : ∃ j, n = j + 1 := ⟨n - 1, by omega⟩
      obtain ⟨m1, hm1⟩ : ∃ m, L[j]? = some m := ⟨_, List.getElem?_eq_getElem (by rw [HL.out]; omega)⟩
      obtain ⟨b2, o2, e2, l2⟩ := (HR.out.below HB1.out).str hm1
      injection e2 with e2; injection e2 with e2 e3 _; subst e2 e3
      have F1 := hide_ (show (pieceF L n).1 = m1 by rw [hj, pieceF_from, hm1]; rfl)
      have p1 : (0 : Int) < (n : Int) := by omega
      have p2 : (n : Int) - 1 = (j : Int) := by omega
      have p3 : (j : Int) < (p : Int) := by omega
      clear hm1 hm hj hlt
      go_wp2_with fail
      rw [F1.out, F2.out]
      exact piece_ret (w := w1) HZ.out rfl rfl ⟨rfl, (putS_below HB1.out (Nat.le_refl _) _ _).al _⟩
    · skip
      have q1 : ¬ (n : Int) < (p : Int) := by omega
      have F2 := hide_ (show (pieceF L n).2 = topK from pieceF_top (by rw [HL.out]; exact hlt))
      obtain ⟨j, hj⟩ : ∃ j, n = j + 1 := ⟨n - 1, by omega⟩
      obtain ⟨m1, hm1⟩ : ∃ m, L[j]? = some m := ⟨_, List.getElem?_eq_getElem (by rw [HL.out]; omega)⟩
      obtain ⟨b2, o2, e2, l2⟩ := (HR.out.below HB1.out).str hm1
      subst e2
      have bl := cell_lt l2
      have F1 := hide_ (show (pieceF L n).1 = m1 by rw [hj, pieceF_from, hm1]; rfl)
      have p1 : (0 : Int) < (n : Int) := by omega
      have p2 : (n : Int) - 1 = (j : Int) := by omega
      have p3 : (j : Int) < (p : Int) := by omega
      clear hm1 hj hlt
      go_wp2_with fail
      rw [F1.out, F2.out]
      exact piece_ret (w := w1) HZ.out rfl rfl ⟨rfl, (putS_below HB1.out (Nat.le_refl _) _ _).al _⟩
def pieceE (L : List ByteArray) (n : Int) : Int := if bndB L = false then 2 else if n < 0 ∨ (L.length : Int) < n then 1 else 0
def pieceV (L : List ByteArray) (n : Int) : ByteArray × ByteArray := if pieceE L n = 0 then pieceF L n.toNat else (ByteArray.empty, ByteArray.empty)
theorem piece2_ret {R : Ending → World → Prop} {W : World} {b : Nat} {x y : ByteArray} (hp : W.heap[b]? = some (.cells #[.string x, .string y] 81 (0, 0))) {e : Int} {a : Act} (hd : a.tmps.getD 4 undef = .pointer (some ⟨b, 0, none⟩)) (he : a.tmps.getD 5 undef = .int .i64 e) (hD : a.defers = [])
    (hR : R (.returned (.tuple #[.agg #[.string x, .string y], .int .i64 e])) W) : bodyPost Tryz.prog Tryz.f26 R .ret a W := by
  have y0 := cell_of_row _ _ 0 _ _ (0, 0) hp
  have y1 := cell_of_row _ _ 1 _ _ (0, 0) hp
  refine bodyPost_ret (v := .tuple #[.agg #[.string x, .string y], .int .i64 e]) ?_ hD hR
  rw [results_cell_tmp (fn := Tryz.f26) (p := 4) (u := 5) (ty := 81) rfl, hd, he]
  simp at y0 y1
  simp [go_sem, y0, y1]
set_option maxHeartbeats 4000000 in
set_option maxRecDepth 100000 in
theorem Piece_any {w : World} {A : Option Addr} {p c : Nat} {L : List ByteArray} (hr : Rd w 1 A p (strs L)) (hl : L.length = p) (hp : p ≤ 4398046511104) (n : Int) :
    Calls Tryz.prog 26 #[.slice A p c, .int .i64 n] w fun e w' => e = .returned (.tuple #[.agg #[.string (pieceV L n).1, .string (pieceV L n).2], .int .i64 (pieceE L n)]) ∧ Later w w' := by
  have HR := hide_ hr; have HL := hide_ hl
  have hn2 : (p : Int) ≤ 4398046511104 := by omega
  obtain ⟨W, hW⟩ : ∃ W, W = w.alloc (.cells #[.string ByteArray.empty, .string ByteArray.empty] 81) := ⟨_, rfl⟩
  have hl1 : Later w W := by rw [hW]; exact later_alloc _ _
  have hz : W.heap[w.heap.size]? = some (.cells #[.string ByteArray.empty, .string ByteArray.empty] 81 (0, 0)) := by rw [hW]; exact heap_alloc_new w _
  have z0 : W.cell? ⟨w.heap.size, 0, none⟩ = some (.string ByteArray.empty) := cell_of_row _ _ 0 _ _ (0, 0) hz
  have z1 : W.cell? ⟨w.heap.size, 1, none⟩ = some (.string ByteArray.empty) := cell_of_row _ _ 1 _ _ (0, 0) hz
  have z2 := frozen_of_row _ _ 0 _ _ hz
  have z3 := frozen_of_row _ _ 1 _ _ hz
  have HS := hide_ (bsound_any (c := c) (hr.below hl1) hl hp)
  have HB1 := hide_ hl1
  have HZ := hide_ hz
  have HW := hide_ hW
  clear hr hl hl1 hz
  by_cases h8 : 8 ≤ p
  · have hE : bndB L = false := by unfold bndB; rw [HL.out]; simp; omega
    have e1 := hide_ (show pieceE L n = 2 by unfold pieceE; rw [if_pos hE])
    have e2 := hide_ (show pieceV L n = (ByteArray.empty, ByteArray.empty) by unfold pieceV; rw [e1.out]; rfl)
    have q1 : (8 : Int) ≤ (p : Int) := by omega
    clear hE hW z0 z1 z2 z3
    go_enter Tryz.func26, Tryz.ntmps26
    go_wp2_with fail
    rw [e1.out, e2.out]
    exact piece2_ret (heap_alloc_new w _) rfl rfl rfl ⟨rfl, later_alloc _ _⟩
  · have q1 : ¬ (8 : Int) ≤ (p : Int) := by omega
    by_cases hE : bndB L = false
    · have e1 := hide_ (show pieceE L n = 2 by unfold pieceE; rw [if_pos hE])
      have e2 := hide_ (show pieceV L n = (ByteArray.empty, ByteArray.empty) by unfold pieceV; rw [e1.out]; rfl)
      rw [hE] at HS
      clear hE z0 z1 z2 z3
      subst hW
      go_enter Tryz.func26, Tryz.ntmps26
      go_wp2_with fail
      refine HS.out.mono ?_; rintro e w2 ⟨rfl, rfl⟩
      go_wp2_with fail
      rw [e1.out, e2.out]
      exact piece2_ret (heap_alloc_new w _) rfl rfl rfl ⟨rfl, later_alloc _ _⟩
    · have hE : bndB L = true := by simpa using hE
      have HE := hide_ hE
      rw [hE] at HS
      clear hE
      by_cases h1 : n < 0
      · have e1 := hide_ (show pieceE L n = 1 by unfold pieceE; rw [HE.out, if_neg (by decide), if_pos (.inl h1)])
        have e2 := hide_ (show pieceV L n = (ByteArray.empty, ByteArray.empty) by unfold pieceV; rw [e1.out]; rfl)
        clear z0 z1 z2 z3
        subst hW
        go_enter Tryz.func26, Tryz.ntmps26
        go_wp2_with fail
        refine HS.out.mono ?_; rintro e w2 ⟨rfl, rfl⟩
        go_wp2_with fail
        rw [e1.out, e2.out]
        exact piece2_ret (heap_alloc_new w _) rfl rfl rfl ⟨rfl, later_alloc _ _⟩
      · by_cases h2 : (p : Int) < n
        · have e1 := hide_ (show pieceE L n = 1 by unfold pieceE; rw [HE.out, if_neg (by decide), HL.out, if_pos (.inr h2)])
          have e2 := hide_ (show pieceV L n = (ByteArray.empty, ByteArray.empty) by unfold pieceV; rw [e1.out]; rfl)
          clear z0 z1 z2 z3
          subst hW
          go_enter Tryz.func26, Tryz.ntmps26
          go_wp2_with fail
          refine HS.out.mono ?_; rintro e w2 ⟨rfl, rfl⟩
          go_wp2_with fail
          rw [e1.out, e2.out]
          exact piece2_ret (heap_alloc_new w _) rfl rfl rfl ⟨rfl, later_alloc _ _⟩
        · obtain ⟨k, rfl⟩ : ∃ k : Nat, n = k := ⟨n.toNat, by omega⟩
          have hkp : k ≤ p := by omega
          have e1 := hide_ (show pieceE L k = 0 by unfold pieceE; rw [HE.out, if_neg (by decide), HL.out, if_neg (by omega)])
          have e2 := hide_ (show pieceV L k = pieceF L k by unfold pieceV; rw [e1.out]; rfl)
          have HP := hide_ (piece_any (w := W) (c := c) (HR.out.below HB1.out) HL.out hp k hkp)
          obtain ⟨s1, hs1⟩ : ∃ s, s = pieceF L k := ⟨_, rfl⟩
          rw [← hs1] at HP e2
          have HWW := hide_ hW
          clear hs1 z0 z1 z2 z3
          subst hW
          go_enter Tryz.func26, Tryz.ntmps26
          go_wp2_with fail
          refine HS.out.mono ?_; rintro e w2 ⟨rfl, rfl⟩
          go_wp2_with fail
          refine HP.out.mono ?_; rintro e w3 ⟨rfl, hl3⟩
          have hz3 := later_row hl3 HZ.out
          have z0 : w3.cell? ⟨w.heap.size, 0, none⟩ = some (.string ByteArray.empty) := cell_of_row _ _ 0 _ _ (0, 0) hz3
          have z1 : w3.cell? ⟨w.heap.size, 1, none⟩ = some (.string ByteArray.empty) := cell_of_row _ _ 1 _ _ (0, 0) hz3
          have z2 := frozen_of_row _ _ 0 _ _ hz3
          have z3 := frozen_of_row _ _ 1 _ _ hz3
          have HB3 := hide_ (HB1.out.trans hl3)
          have HZ3 := hide_ hz3
          clear hl3 hz3
          go_wp2_with fail
          rw [e1.out, e2.out]
          exact piece2_ret (putS_row HZ3.out s1.1 s1.2) rfl rfl rfl ⟨rfl, putS_below HB3.out (Nat.le_refl _) _ _⟩

end Go.Proofs.YtcmollfhlillfaaGreatDoor
/-
  front: slices.Clone of numbers and of texts.
-/
namespace Go.Proofs.YtcmollfhlillfaaGreatDoor
open Go.RowKit
set_option linter.unusedVariables false
set_option linter.unusedSimpArgs false
/-- What a clone is: a row of its own of the same cells; nil of nil. -/
def ClonePost (w : World) (t : TypeId) (size n : Nat) (A : Option Addr) (xs : List Value) (e : Ending) (w' : World) : Prop :=
  ∃ A' c', e = .returned (.slice A' n c') ∧ w'.ownsRow w.heap.size t size (.slice A' n c') n xs ∧ Later w w' ∧ (A' = none ↔ A = none)
set_option maxHeartbeats 2000000 in
set_option maxRecDepth 100000 in
theorem clone_int {w : World} {A : Option Addr} {n c : Nat} {xs : List Value} (hr : Rd w 1 A n xs) (h1 : ∀ u ∈ xs, u.oneCell' = true) (hn : n ≤ 1099511627776) (hA : A = none → n = 0) :
    Calls Tryz.prog 27 #[.slice A n c] w (ClonePost w 3 1 n A xs) := by
  have HR := hide_ hr; have H1 := hide_ h1
  rcases A with _ | a
  · have hn0 : n = 0 := hA rfl
    subst hn0
    have hx : xs = [] := List.eq_nil_of_length_eq_zero (by have := hr.1; omega)
    subst hx
    clear hr h1 hA HR H1
    have hnil := eql_slice_nil_any (P := Tryz.prog) Tryz.underlying35 w none 0 c 0 0
    go_enter Tryz.func27, Tryz.ntmps27
    go_wp2_with fail
    go_ret
    exact ⟨none, 0, rfl, World.ownsRow_nil _ _ _ _, Later.refl _, Iff.rfl⟩
  · clear hr h1 hA
    have hnil := eql_slice_nil_any (P := Tryz.prog) Tryz.underlying35 w (some a) n c 0 0
    have hn2 : (n : Int) ≤ 1099511627776 := by omega
    go_enter Tryz.func27, Tryz.ntmps27
    go_wp2_with (at_builtin; refine wpList_append_rd _ rfl (.tmp 5) (.tmp 6) 35 rfl w.heap.size 3 1 8 intT (.slice (some ⟨w.heap.size, 0, none⟩) 0 0) 0 [] rfl (own_new w #[] 3 1 0 w.heap.size rfl (by unfold maxLen; omega) (Nat.le_refl _)) (some a) n c xs rfl (HR.out.alloc _) H1.out (by omega) (by unfold maxLen; omega) (by simp) (fun h => by cases h) ?c8)
    case c8 =>
      intro v9 w9 hown hg hat
      obtain ⟨A9, c9, hv9⟩ := own_form hown
      subst hv9
      have HN := hide_ (show A9 ≠ none from fun h => by subst h; rcases hat with h | h <;> cases h)
      have HB := hide_ (show Later w w9 from own_grown (later_alloc w (.cells #[] 3)) (own_new w #[] 3 1 0 w.heap.size rfl (by unfold maxLen; omega) (Nat.le_refl _)) hg (by simp))
      have HO := hide_ (show w9.ownsRow w.heap.size 3 1 (.slice A9 n c9) n xs by simpa using hown)
      clear hown hg hat
      go_wp2_with fail
      go_ret
      exact ⟨A9, c9, rfl, HO.out, HB.out, ⟨fun h => absurd h HN.out, fun h => by cases h⟩⟩
set_option maxHeartbeats 2000000 in
set_option maxRecDepth 100000 in
theorem clone_str {w : World} {A : Option Addr} {n c : Nat} {xs : List Value} (hr : Rd w 1 A n xs) (h1 : ∀ u ∈ xs, u.oneCell' = true) (hn : n ≤ 1099511627776) (hA : A = none → n = 0) :
    Calls Tryz.prog 28 #[.slice A n c] w (ClonePost w 9 1 n A xs) := by
  have HR := hide_ hr; have H1 := hide_ h1
  rcases A with _ | a
  · have hn0 : n = 0 := hA rfl
    subst hn0
    have hx : xs = [] := List.eq_nil_of_length_eq_zero (by have := hr.1; omega)
    subst hx
    clear hr h1 hA HR H1
    have hnil := eql_slice_nil_any (P := Tryz.prog) Tryz.underlying38 w none 0 c 0 0
    go_enter Tryz.func28, Tryz.ntmps28
    go_wp2_with fail
    go_ret
    exact ⟨none, 0, rfl, World.ownsRow_nil _ _ _ _, Later.refl _, Iff.rfl⟩
  · clear hr h1 hA
    have hnil := eql_slice_nil_any (P := Tryz.prog) Tryz.underlying38 w (some a) n c 0 0
    have hn2 : (n : Int) ≤ 1099511627776 := by omega
    go_enter Tryz.func28, Tryz.ntmps28
    go_wp2_with (at_builtin; refine wpList_append_rd _ rfl (.tmp 5) (.tmp 6) 38 rfl w.heap.size 9 1 16 strT (.slice (some ⟨w.heap.size, 0, none⟩) 0 0) 0 [] rfl (own_new w #[] 9 1 0 w.heap.size rfl (by unfold maxLen; omega) (Nat.le_refl _)) (some a) n c xs rfl (HR.out.alloc _) H1.out (by omega) (by unfold maxLen; omega) (by simp) (fun h => by cases h) ?c8)
    case c8 =>
      intro v9 w9 hown hg hat
      obtain ⟨A9, c9, hv9⟩ := own_form hown
      subst hv9
      have HN := hide_ (show A9 ≠ none from fun h => by subst h; rcases hat with h | h <;> cases h)
      have HB := hide_ (show Later w w9 from own_grown (later_alloc w (.cells #[] 9)) (own_new w #[] 9 1 0 w.heap.size rfl (by unfold maxLen; omega) (Nat.le_refl _)) hg (by simp))
      have HO := hide_ (show w9.ownsRow w.heap.size 9 1 (.slice A9 n c9) n xs by simpa using hown)
      clear hown hg hat
      go_wp2_with fail
      go_ret
      exact ⟨A9, c9, rfl, HO.out, HB.out, ⟨fun h => absurd h HN.out, fun h => by cases h⟩⟩

end Go.Proofs.YtcmollfhlillfaaGreatDoor
