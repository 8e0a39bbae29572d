/-
  Marks in memory; the program's New and Last.
-/
import Derived.Test.YtidlkomgondkiaaG7
namespace Go.Proofs.Ytidlkomgondkiaa
open Go.RowKit
set_option linter.unusedVariables false
set_option linter.unusedSimpArgs false
def encM (k : Mk) : List Value := [.string k.1.1, .string k.1.2, .int .i64 k.2]
def mrow (L : List Mk) : List Value := L.flatMap encM
theorem encM_len (k : Mk) : (encM k).length = 3 := rfl
theorem encM_one (k : Mk) : ∀ u ∈ encM k, u.oneCell' = true := by
  intro u hu
  simp only [encM, List.mem_cons, List.not_mem_nil, or_false] at hu
  rcases hu with rfl | rfl | rfl <;> rfl
theorem mrow_len (L : List Mk) : (mrow L).length = L.length * 3 := rec_len encM_len L
theorem mrow_one (L : List Mk) : ∀ u ∈ mrow L, u.oneCell' = true := rec_one encM_one L
theorem mrow_append (A B : List Mk) : mrow (A ++ B) = mrow A ++ mrow B := by simp [mrow]
theorem mrow_at {L : List Mk} {i : Nat} {k : Mk} (h : L[i]? = some k) : (mrow L)[i * 3]? = some (.string k.1.1) ∧ (mrow L)[i * 3 + 1]? = some (.string k.1.2) ∧ (mrow L)[i * 3 + 2]? = some (.int .i64 k.2) := by
  have h0 := rec_at encM_len h 0 (by omega)
  have h1 := rec_at encM_len h 1 (by omega)
  have h2 := rec_at encM_len h 2 (by omega)
  exact ⟨by simpa [mrow, encM] using h0, by simpa [mrow, encM] using h1, by simpa [mrow, encM] using h2⟩
theorem Rd.mark {w : World} {A : Option Addr} {n : Nat} {L : List Mk} (h : Rd w 3 A n (mrow L)) {i : Nat} {k : Mk} (hi : L[i]? = some k) :
    ∃ b o, A = some ⟨b, o, none⟩ ∧ w.cell? ⟨b, o + i * 3, none⟩ = some (.string k.1.1) ∧ w.cell? ⟨b, o + i * 3 + 1, none⟩ = some (.string k.1.2) ∧ w.cell? ⟨b, o + i * 3 + 2, none⟩ = some (.int .i64 k.2) := by
  obtain ⟨h0, h1, h2⟩ := mrow_at hi
  have hl := (List.getElem?_eq_some_iff.1 h0).1
  obtain ⟨b, o, e, hc⟩ := h.2 (by omega)
  exact ⟨b, o, e, hc _ _ h0, hc _ _ h1, hc _ _ h2⟩
theorem markT : ElemT Try.prog 75 91 3 40 := elem_mk (z := .agg #[.string ByteArray.empty, .string ByteArray.empty, .int .i64 0]) Try.underlying75 (by kernel_rfl) rfl (by decide)
/-- Marks lie here. -/
def MarksAt (w : World) (B0 : Nat) (v : Value) (f l : Int) : Prop := w.heap[B0]? = some (.cells #[v, .int .i64 f, .int .i64 l] 77 (0, 0))
theorem new_any (n : Int) (w : World) : Calls Try.prog 14 #[.int .i64 n] w fun e w' => e = .returned (.pointer (some ⟨w.heap.size, 0, none⟩)) ∧ MarksAt w' w.heap.size (.slice none 0 0) (max n 0) 0 ∧ Later w w' := by
  go_enter Try.func14, Try.ntmps14
  go_wp2_with fail
  go_ret
  exact ⟨rfl, heap_alloc_new _ _, later_alloc _ _⟩
theorem lastL_max_snoc (L : List Mk) (k : Mk) (s : Spn) : lastL (L ++ [k]) s = if (smeetS k.1 s).2 ≤ (smeetS k.1 s).1 then lastL L s else max (lastL L s) k.2 := by
  rw [lastL_snoc]
  by_cases h : (smeetS k.1 s).2 ≤ (smeetS k.1 s).1
  · rw [if_pos h, if_neg (by grind)]
  · rw [if_neg h, if_pos (by grind)]
    split <;> omega
set_option maxHeartbeats 2000000 in
theorem last_any {w : World} {B0 : Nat} {A : Option Addr} {n c : Nat} {L : List Mk} {f l : Int} (s : Spn) (hm : MarksAt w B0 (.slice A n c) f l) (hr : Rd w 3 A n (mrow L)) (hl : L.length = n) (hn : n ≤ 4398046511104) :
    Calls Try.prog 21 #[.pointer (some ⟨B0, 0, none⟩), .agg #[.string s.1, .string s.2]] w fun e w' => e = .returned (.tuple #[.int .i64 (lastL L s), .bool (decide (0 < lastL L s))]) ∧ Later w w' := by
  obtain ⟨W0, hW0⟩ : ∃ W0, W0 = w.alloc (.cells #[.string s.1, .string s.2] 24) := ⟨_, rfl⟩
  have HBS := hide_ (show W0.heap[w.heap.size]? = some (.cells #[.string s.1, .string s.2] 24 (0, 0)) by rw [hW0]; exact heap_alloc_new w _)
  have HB0 := hide_ (show Later w W0 by rw [hW0]; exact later_alloc _ _)
  have HW := hide_ hW0.symm
  have hmm := (HB0.out.block B0 (heap_lt0 hm)).trans hm
  have c0 := cell_of_row _ _ 0 _ _ (0, 0) hmm
  have HR := hide_ (hr.below HB0.out); have HL := hide_ hl
  have hn2 : (n : Int) ≤ 4398046511104 := by omega
  clear hm hr hl hW0 hmm
  go_enter Try.func21, Try.ntmps21
  go_wp2_with (first | (rw [HW.out]) | fail)
  clear c0
  go_loopw [6, 16] (fun s6 s16 wr => ∃ (k : Nat), k ≤ n ∧ s16 = .int .i64 k ∧ s6 = .int .i64 (lastL (L.take k) s) ∧ Hid (Later W0 wr)) (fun _ i _ => n - (intOf i).toNat)
  case atStart => exact ⟨0, Nat.zero_le _, rfl, rfl, Later.refl _⟩
  case round =>
    obtain ⟨k, hk, rfl, rfl, HB⟩ := hrel
    by_cases hlt : k < n
    · have q1 : (k : Int) < (n : Int) := by omega
      have q2 : (k : Int) ≤ 4398046511104 := by omega
      obtain ⟨m, hm⟩ : ∃ m, L[k]? = some m := ⟨_, List.getElem?_eq_getElem (by rw [HL.out]; exact hlt)⟩
      obtain ⟨b, o, rfl, l0, l1, l2⟩ := (HR.out.below HB.out).mark hm
      have hsx := (HB.out.block w.heap.size (heap_lt0 HBS.out)).trans HBS.out
      have y0 := cell_of_row _ _ 0 _ _ (0, 0) (row_al hsx (.cells #[.string m.1.1, .string m.1.2, .int .i64 m.2] 91))
      have y1 := cell_of_row _ _ 1 _ _ (0, 0) (row_al hsx (.cells #[.string m.1.1, .string m.1.2, .int .i64 m.2] 91))
      have HT := hide_ (show lastL (L.take (k + 1)) s = if (smeetS m.1 s).2 ≤ (smeetS m.1 s).1 then lastL (L.take k) s else max (lastL (L.take k) s) m.2 by rw [take_snoc hm]; exact lastL_max_snoc _ m s)
      have hmeet := hide_ (fun W => meet_any m.1 s W)
      have hem := hide_ (fun W => empty_b (smeetS m.1 s) W)
      generalize smeetS m.1 s = mm at hmeet hem HT
      generalize lastL (L.take k) s = nl at HT ⊢
      clear hm hsx
      go_wp2_with fail
      refine (hmeet.out _).mono ?_; rintro e w5 ⟨rfl, hb5⟩
      have z2 := cell_of_row _ _ 2 _ _ (0, 0) ((hb5.block wr.heap.size (by simp)).trans (heap_alloc_new wr (.cells #[.string m.1.1, .string m.1.2, .int .i64 m.2] 91)))
      have HB5 := hide_ (Later.trans HB.out (Later.trans (later_alloc wr (.cells #[.string m.1.1, .string m.1.2, .int .i64 m.2] 91)) hb5))
      clear y0 y1
      go_wp2_with fail
      refine (hem.out _).mono ?_; rintro e w6 ⟨rfl, hb6⟩
      have z2' := (hb6.cell (p := ⟨wr.heap.size, 2, none⟩) (cell_lt z2)).trans z2
      have HB6 := hide_ (Later.trans HB5.out hb6)
      clear z2 hb5 hb6 hmeet hem
      by_cases he : mm.2 ≤ mm.1
      · rw [decide_eq_true he]
        have HE := hide_ (HT.out.trans (if_pos he))
        clear he
        go_wp2_with fail
        go_roundw
        case rel => exact ⟨k + 1, by omega, by go_num, by rw [HE.out], HB6⟩
        case measure => simp [intOf]; omega
      · rw [decide_eq_false he]
        have HE := hide_ (HT.out.trans (if_neg he))
        clear he
        go_wp2_with fail
        go_roundw
        case rel => exact ⟨k + 1, by omega, by go_num, by rw [HE.out], HB6⟩
        case measure => simp [intOf]; omega
    · obtain rfl : k = n := by omega
      have HF := hide_ (show L.take k = L by rw [← HL.out, List.take_length])
      rw [HF.out]
      go_wp2_with fail
      go_ret2
      exact ⟨rfl, Later.trans HB0.out HB.out⟩

end Go.Proofs.Ytidlkomgondkiaa
