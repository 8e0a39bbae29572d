/-
  code.Writer: numbers and texts laid one behind the other.
-/
import Derived.Test.YtcmollfhlillfaaGreatDoorKPut
import Derived.Test.YtcmollfhlillfaaGreatDoorKRS
import Derived.Test.YtcmollfhlillfaaGreatDoorCWords
import Derived.Test.YtcmollfhlillfaaGreatDoorSplit
namespace Go.Proofs.YtcmollfhlillfaaGreatDoor
open Go.RowKit
set_option linter.unusedVariables false
set_option linter.unusedSimpArgs false
/-- A writer: its bytes, the error. -/
abbrev WS := List UInt8 × Nat
def wNums : List Int → WS → WS
  | [], s => s
  | n :: r, s => if n < 0 then (s.1, 2) else wNums r (s.1 ++ putN n.toNat, s.2)
def wTexts : List ByteArray → WS → WS
  | [], s => s
  | t :: r, s => if 65536 < t.size then (s.1, 2) else wTexts r (s.1 ++ putT t.data.toList, s.2)
/-- A writer at block p whose bytes lie in the own row v. -/
def WrAt (w : World) (B p : Nat) (v : Value) (s : WS) : Prop :=
  B ≤ p ∧ w.heap[p]? = some (.cells #[v, .int .i64 s.2] 132 (0, 0)) ∧ w.ownsRow B 5 1 v s.1.length (bvs s.1)
theorem WrAt.lt {w : World} {B p : Nat} {v : Value} {s : WS} (h : WrAt w B p v s) : p < w.heap.size := theap_lt h.2.1
theorem WrAt.ne {w : World} {B p : Nat} {v : Value} {s : WS} (h : WrAt w B p v s) : v.ownBlock ≠ some p := by
  intro e
  obtain ⟨_, _, cs, hc⟩ := own_block h.2.2 e
  have h1 := h.2.1
  rw [hc] at h1; injection h1 with h1; injection h1 with _ h1; exact absurd h1 (by decide)
theorem WrAt.later {w w' : World} {B p : Nat} {v : Value} {s : WS} (h : WrAt w B p v s) (hl : Later w w') : WrAt w' B p v s := ⟨h.1, later_row hl h.2.1, own_below h.2.2 hl⟩
/-- What a writer turns. -/
def wFp (p : Nat) (v : Value) (k : Nat) : Prop := k = p ∨ v.ownBlock = some k
theorem wNums_next {L : List Int} {k : Nat} {n : Int} (h : L[k]? = some n) (s : WS) : wNums (L.drop k) s = if n < 0 then (s.1, 2) else wNums (L.drop (k + 1)) (s.1 ++ putN n.toNat, s.2) := by
  have e := List.getElem?_eq_some_iff.1 h
  rw [List.drop_eq_getElem_cons e.1, e.2]; rfl
theorem wNums_end {L : List Int} (s : WS) : wNums (L.drop L.length) s = s := by rw [List.drop_length]; rfl
/-- What a writer's call leaves. -/
def WrPost (B p : Nat) (v : Value) (s : WS) (w w' : World) : Prop := ∃ v', WrAt w' B p v' s ∧ Hits (wFp p v) w w' ∧ (v'.ownBlock = v.ownBlock ∨ ∃ g, v'.ownBlock = some g ∧ w.heap.size ≤ g)
set_option maxHeartbeats 4000000 in
set_option maxRecDepth 100000 in
theorem nums_any {w : World} {B p : Nat} {v : Value} {s : WS} (h : WrAt w B p v s) {A : Option Addr} {n c : Nat} {L : List Int} (hr : Rd w 1 A n (L.map (Value.int .i64))) (hl : L.length = n) (hn : n ≤ 4398046511104) (hi : ∀ x ∈ L, x < 9223372036854775808) (hA : ∀ a, A = some a → ¬ wFp p v a.block)
    (hlen : s.1.length + 9 * n ≤ 1099511627776) (hB : B ≤ w.heap.size) :
    Calls Tryz.prog 103 #[.pointer (some ⟨p, 0, none⟩), .slice A n c] w fun e w' => e = .returned (.pointer (some ⟨p, 0, none⟩)) ∧ WrPost B p v (wNums L s) w w' := by
  have HW := hide_ h; have HR := hide_ hr; have HL := hide_ hl; have HI := hide_ hi; have HA := hide_ hA; have HLEN := hide_ hlen
  have hn2 : (n : Int) ≤ 4398046511104 := by omega
  clear h hr hl hi hA hlen
  go_enter Tryz.func103, Tryz.ntmps103
  go_wp2_with fail
  go_loopw [9] (fun s9 wr => ∃ (k : Nat) (v' : Value) (t : WS), k ≤ n ∧ s9 = .int .i64 k ∧ Hid (wNums L s = wNums (L.drop k) t) ∧ Hid (WrAt wr B p v' t) ∧ Hid (Hits (wFp p v) w wr) ∧ Hid (v'.ownBlock = v.ownBlock ∨ ∃ g, v'.ownBlock = some g ∧ w.heap.size ≤ g) ∧ Hid (t.1.length ≤ s.1.length + 9 * k)) (fun i _ => n - (intOf i).toNat)
  case atStart => exact ⟨0, v, s, Nat.zero_le _, rfl, hide_ rfl, HW, Hits.refl _ w, .inl rfl, hide_ (by omega)⟩
  case round =>
    obtain ⟨k, v', t, hkn, rfl, HC, HT, HH, HD, HS⟩ := hrel
    obtain ⟨A1, c1, hv1⟩ := own_form HT.out.2.2
    subst hv1
    by_cases hlt : k < n
    · obtain ⟨x, hx⟩ : ∃ x, L[k]? = some x := ⟨_, List.getElem?_eq_getElem (by rw [HL.out]; exact hlt)⟩
      have HR2 := hide_ (HH.out.rd HR.out HA.out)
      obtain ⟨b, o, rfl, hcell⟩ : ∃ b o, A = some ⟨b, o, none⟩ ∧ wr.cell? ⟨b, o + k, none⟩ = some (.int .i64 x) := by
        obtain ⟨b, o, e, hc⟩ := HR2.out.2 (by rw [List.length_map, HL.out]; omega)
        exact ⟨b, o, e, hc k _ (by rw [List.getElem?_map, hx]; rfl)⟩
      have HX := hide_ (HI.out x (List.mem_of_getElem? hx))
      have HN := hide_ (wNums_next hx t)
      have q1 : (k : Int) < (n : Int) := by omega
      have q2 : (0 : Int) ≤ (k : Int) := by omega
      have d0 := cell_of_row _ _ 0 _ _ (0, 0) HT.out.2.1
      have d1 := cell_of_row _ _ 1 _ _ (0, 0) HT.out.2.1
      have g1 := frozen_of_row _ _ 1 _ _ HT.out.2.1
      clear hx
      by_cases hneg : x < 0
      · rw [if_pos hneg] at HN
        have HF := hide_ (show WrAt (wr.setCell ⟨p, 1, none⟩ (.int .i64 2)) B p (.slice A1 t.1.length c1) (t.1, 2) from ⟨HT.out.1, heap_setCell_same wr p 1 _ _ _ HT.out.2.1, (show (wr.setCell ⟨p, 1, none⟩ (.int .i64 2)).ownsRow B 5 1 (.slice A1 t.1.length c1) t.1.length (bvs t.1) from ((Hits.refl (· = p) wr).setCell (g := p) (fun _ => rfl) 1 _).own HT.out.2.2 (fun g hg e => HT.out.ne (by rw [hg, e])))⟩)
        have HHF := hide_ (HH.out.setCell (g := p) (fun _ => .inl rfl) 1 (.int .i64 2))
        go_wp2_with fail
        go_ret
        exact ⟨rfl, by rw [HC.out, HN.out]; exact ⟨_, HF.out, HHF.out, HD.out⟩⟩
      · rw [if_neg hneg] at HN
        obtain ⟨N, rfl⟩ : ∃ N : Nat, x = (N : Int) := ⟨x.toNat, by omega⟩
        rw [Int.toNat_natCast] at HN
        have hN9 : N < 9223372036854775808 := by have := HX.out; omega
        have HP9 := hide_ (putN_len9 hN9)
        have HNN := hide_ hN9
        have hk1 : t.1.length ≤ 1099511627776 := by have h1 := HS.out; have h2 := HLEN.out; omega
        have hBr : B ≤ wr.heap.size := Nat.le_trans hB HH.out.size
        go_wp2_with fail
        refine (put_any N hN9 HT.out.2.2 rfl hk1 hBr).mono ?_; rintro e w2 ⟨v2, rfl, hown2, hg2, hd2⟩
        obtain ⟨A2, c2, hv2⟩ := own_form hown2
        subst hv2
        have hpne : (Value.slice A1 t.1.length c1).ownBlock ≠ some p := HT.out.ne
        have hrow2 := (hg2.block p HT.out.lt (fun e => hpne e.symm)).trans HT.out.2.1
        have e0 := cell_of_row _ _ 0 _ _ (0, 0) hrow2
        have f0 := frozen_of_row _ _ 0 _ _ hrow2
        have hp2 : (Value.slice A2 (t.1.length + (putN N).length) c2).ownBlock ≠ some p := by
          rcases hd2 with h | ⟨g, h, h2⟩
          · rw [h]; exact hpne
          · rw [h]; intro e; injection e with e; have := HT.out.lt; omega
        have HF := hide_ (show WrAt (w2.setCell ⟨p, 0, none⟩ (Value.slice A2 (t.1.length + (putN N).length) c2)) B p (Value.slice A2 (t.1.length + (putN N).length) c2) (t.1 ++ putN N, t.2) from ⟨HT.out.1, heap_setCell_same w2 p 0 _ _ _ hrow2, ((Hits.refl (· = p) w2).setCell (g := p) (fun _ => rfl) 0 (Value.slice A2 (t.1.length + (putN N).length) c2)).own (by simpa using hown2) (fun g hg e => hp2 (by rw [hg, e]))⟩)
        have HHF := hide_ (show Hits (wFp p v) w (w2.setCell ⟨p, 0, none⟩ (Value.slice A2 (t.1.length + (putN N).length) c2)) from (HH.out.grown hg2 (fun g hg hlt => .inr (by
          rcases HD.out with h | ⟨g', h, h2⟩
          · rw [← h, hg]
          · rw [hg] at h; injection h with h; omega))).setCell (g := p) (fun _ => .inl rfl) 0 (Value.slice A2 (t.1.length + (putN N).length) c2))
        have HDF := hide_ (show (Value.slice A2 (t.1.length + (putN N).length) c2).ownBlock = v.ownBlock ∨ ∃ g, (Value.slice A2 (t.1.length + (putN N).length) c2).ownBlock = some g ∧ w.heap.size ≤ g from by
          rcases hd2 with h | ⟨g, h, h2⟩
          · rcases HD.out with h' | ⟨g', h', h2'⟩
            · exact .inl (h.trans h')
            · exact .inr ⟨g', h.trans h', h2'⟩
          · exact .inr ⟨g, h, Nat.le_trans HH.out.size h2⟩)
        have HSF := hide_ (show (t.1 ++ putN N).length ≤ s.1.length + 9 * (k + 1) by
          have h1 := HS.out; have h2 := HP9.out; rw [List.length_append]; omega)
        clear hown2 hg2 hd2 hrow2 d0 d1 g1 hN9 hk1 hpne hp2 hneg hcell hBr
        go_wp2_with fail
        go_roundw
        case rel => exact ⟨k + 1, _, (t.1 ++ putN N, t.2), by omega, by go_num, hide_ (by rw [HC.out, HN.out]), HF, HHF, HDF, HSF⟩
        case measure => simp [intOf]; omega
    · have q1 : ¬ (k : Int) < (n : Int) := by omega
      have HE := hide_ (show wNums L s = t by rw [HC.out, show k = L.length by rw [HL.out]; omega]; exact wNums_end t)
      go_wp2_with fail
      go_ret
      exact ⟨rfl, by rw [HE.out]; exact ⟨_, HT.out, HH.out, HD.out⟩⟩

end Go.Proofs.YtcmollfhlillfaaGreatDoor
