/-
  Texts of this seat in one: KTexts.
-/
import Derived.Test.YtcmollfhlillfaaGreatDoorM13
import Derived.Test.YtcmollfhlillfaaGreatDoorM9
import Derived.Test.YtcmollfhlillfaaGreatDoorM5
/-
  code.Writer's Texts.
-/
namespace Go.Proofs.YtcmollfhlillfaaGreatDoor
open Go.RowKit
set_option linter.unusedVariables false
set_option linter.unusedSimpArgs false
theorem wTexts_next {L : List ByteArray} {k : Nat} {n : ByteArray} (h : L[k]? = some n) (s : WS) : wTexts (L.drop k) s = if 65536 < n.size then (s.1, 2) else wTexts (L.drop (k + 1)) (s.1 ++ putT n.data.toList, s.2) := by
  have e := List.getElem?_eq_some_iff.1 h
  rw [List.drop_eq_getElem_cons e.1, e.2]; rfl
theorem wTexts_end {L : List ByteArray} (s : WS) : wTexts (L.drop L.length) s = s := by rw [List.drop_length]; rfl
set_option maxHeartbeats 4000000 in
set_option maxRecDepth 100000 in
theorem texts_any {w : World} {B p : Nat} {v : Value} {s : WS} (h : WrAt w B p v s) {A : Option Addr} {n c : Nat} {L : List ByteArray} (hr : Rd w 1 A n (L.map Value.string)) (hl : L.length = n) (hn : n ≤ 1048576) (hi : ∀ x ∈ L, x.size ≤ 65536) (hA : ∀ a, A = some a → ¬ wFp p v a.block)
    (hlen : s.1.length + 65539 * n ≤ 549755813888) (hB : B ≤ w.heap.size) :
    Calls Tryz.prog 68 #[.pointer (some ⟨p, 0, none⟩), .slice A n c] w fun e w' => e = .returned (.pointer (some ⟨p, 0, none⟩)) ∧ WrPost B p v (wTexts L s) w w' := by
  have HW := hide_ h; have HR := hide_ hr; have HL := hide_ hl; have HI := hide_ hi; have HA := hide_ hA; have HLEN := hide_ hlen
  have hn2 : (n : Int) ≤ 1048576 := by omega
  clear h hr hl hi hA hlen
  go_enter Tryz.func68, Tryz.ntmps68
  go_wp2_with fail
  go_loopw [9] (fun s9 wr => ∃ (k : Nat) (v' : Value) (t : WS), k ≤ n ∧ s9 = .int .i64 k ∧ Hid (wTexts L s = wTexts (L.drop k) t) ∧ Hid (WrAt wr B p v' t) ∧ Hid (Hits (wFp p v) w wr) ∧ Hid (v'.ownBlock = v.ownBlock ∨ ∃ g, v'.ownBlock = some g ∧ w.heap.size ≤ g) ∧ Hid (t.1.length ≤ s.1.length + 65539 * k)) (fun i _ => n - (intOf i).toNat)
  case atStart => exact ⟨0, v, s, Nat.zero_le _, rfl, hide_ rfl, HW, Hits.refl _ w, .inl rfl, hide_ (by omega)⟩
  case round =>
    obtain ⟨k, v', t, hkn, rfl, HC, HT, HH, HD, HS⟩ := hrel
    obtain ⟨A1, c1, hv1⟩ := own_form HT.out.2.2
    subst hv1
    by_cases hlt : k < n
    · obtain ⟨x, hx⟩ : ∃ x, L[k]? = some x := ⟨_, List.getElem?_eq_getElem (by rw [HL.out]; exact hlt)⟩
      have HR2 := hide_ (HH.out.rd HR.out HA.out)
      obtain ⟨b, o, rfl, hcell⟩ : ∃ b o, A = some ⟨b, o, none⟩ ∧ wr.cell? ⟨b, o + k, none⟩ = some (.string x) := by
        obtain ⟨b, o, e, hc⟩ := HR2.out.2 (by rw [List.length_map, HL.out]; omega)
        exact ⟨b, o, e, hc k _ (by rw [List.getElem?_map, hx]; rfl)⟩
      have hxs : x.size ≤ 65536 := HI.out x (List.mem_of_getElem? hx)
      have HN := hide_ (wTexts_next hx t)
      rw [if_neg (show ¬ 65536 < x.size by omega)] at HN
      have q1 : (k : Int) < (n : Int) := by omega
      have q2 : (0 : Int) ≤ (k : Int) := by omega
      have d0 := cell_of_row _ _ 0 _ _ (0, 0) HT.out.2.1
      clear hx
      have HXS := hide_ hxs
      have HPT := hide_ (show (putT x.data.toList).length ≤ x.size + 3 by
        have h1 := putT_len (s := x.data.toList) (by rw [Array.length_toList]; exact hxs)
        rw [Array.length_toList] at h1; exact h1)
      have hxn : x.size < 9223372036854775808 := by omega
      have HPE := hide_ (show putT x.data.toList = putN x.size ++ x.data.toList by unfold putT; rw [Array.length_toList]; rfl)
      have q5 : ¬ (65536 : Int) < (x.size : Int) := by omega
      have hk1 : t.1.length ≤ 549755813888 := by have h1 := HS.out; have h2 := HLEN.out; omega
      have hBr : B ≤ wr.heap.size := Nat.le_trans hB HH.out.size
      clear hxs
      go_wp2_with fail
      refine (put_any x.size hxn HT.out.2.2 rfl (by omega) hBr).mono ?_; rintro e w2 ⟨v2, rfl, hown2, hg2, hd2⟩
      obtain ⟨A2, c2, hv2⟩ := own_form hown2
      subst hv2
      have HO2 := hide_ hown2
      have HG2 := hide_ hg2
      have HD2 := hide_ hd2
      have HK1 := hide_ hk1
      have hpl := hide_ (putN_len9 hxn)
      clear hown2 hg2 hd2 hk1
      go_wp2_with (refine wpList_append_str rfl (.tmp 27) (.tmp 28) rfl B (Value.slice A2 (t.1.length + (putN x.size).length) c2) (t.1.length + (putN x.size).length) (bvs (t.1 ++ putN x.size)) rfl HO2.out x rfl (by have := HK1.out; have := hpl.out; have := HXS.out; omega) (Nat.le_trans hBr HG2.out.size) ?c8)
      case c8 =>
        intro v3 w3 hown3 hg3 hat3
        obtain ⟨A3, c3, hv3⟩ := own_form hown3
        subst hv3
        have hg13 := grown_trans HG2.out hg3 (by
          rcases HD2.out with h | ⟨g, h1, h2⟩
          · exact .inl h
          · exact .inr fun b hb => by rw [h1] at hb; injection hb with hb; omega)
        have hd13 : (Value.slice A3 (t.1.length + (putN x.size).length + x.size) c3).ownBlock = (Value.slice A1 t.1.length c1).ownBlock ∨ ∃ g, (Value.slice A3 (t.1.length + (putN x.size).length + x.size) c3).ownBlock = some g ∧ wr.heap.size ≤ g := by
          rcases hat3 with h | h
          · rcases HD2.out with h' | ⟨g, h1, h2⟩
            · exact .inl (h.trans h')
            · exact .inr ⟨g, h.trans h1, h2⟩
          · exact .inr ⟨_, h, HG2.out.size⟩
        have hpne : (Value.slice A1 t.1.length c1).ownBlock ≠ some p := HT.out.ne
        have hrow2 := (hg13.block p HT.out.lt (fun e => hpne e.symm)).trans HT.out.2.1
        have e0 := cell_of_row _ _ 0 _ _ (0, 0) hrow2
        have f0 := frozen_of_row _ _ 0 _ _ hrow2
        have hp2 : (Value.slice A3 (t.1.length + (putN x.size).length + x.size) c3).ownBlock ≠ some p := by
          rcases hd13 with h | ⟨g, h, h2⟩
          · rw [h]; exact hpne
          · rw [h]; intro e; injection e with e; have := HT.out.lt; omega
        have HLE := hide_ (show (t.1 ++ putT x.data.toList).length = t.1.length + (putN x.size).length + x.size by
          rw [List.length_append, HPE.out, List.length_append, Array.length_toList]; show _ + (_ + x.size) = _; omega)
        have HF := hide_ (show WrAt (w3.setCell ⟨p, 0, none⟩ (Value.slice A3 (t.1.length + (putN x.size).length + x.size) c3)) B p (Value.slice A3 (t.1.length + (putN x.size).length + x.size) c3) (t.1 ++ putT x.data.toList, t.2) from ⟨HT.out.1, heap_setCell_same w3 p 0 _ _ _ hrow2, ((Hits.refl (· = p) w3).setCell (g := p) (fun _ => rfl) 0 (Value.slice A3 (t.1.length + (putN x.size).length + x.size) c3)).own (by
          show w3.ownsRow B 5 1 _ (t.1 ++ putT x.data.toList).length (bvs (t.1 ++ putT x.data.toList))
          rw [HLE.out, HPE.out, show bvs (t.1 ++ (putN x.size ++ x.data.toList)) = bvs (t.1 ++ putN x.size) ++ Lib.strCells x by rw [strCells_bvs]; simp [bvs]]; exact hown3) (fun g hg e => hp2 (by rw [hg, e]))⟩)
        have HHF := hide_ (show Hits (wFp p v) w (w3.setCell ⟨p, 0, none⟩ (Value.slice A3 (t.1.length + (putN x.size).length + x.size) c3)) from (HH.out.grown hg13 (fun g hg hlt => .inr (by
          rcases HD.out with h | ⟨g', h, h2⟩
          · rw [← h, hg]
          · rw [hg] at h; injection h with h; omega))).setCell (g := p) (fun _ => .inl rfl) 0 (Value.slice A3 (t.1.length + (putN x.size).length + x.size) c3))
        have HDF := hide_ (show (Value.slice A3 (t.1.length + (putN x.size).length + x.size) c3).ownBlock = v.ownBlock ∨ ∃ g, (Value.slice A3 (t.1.length + (putN x.size).length + x.size) c3).ownBlock = some g ∧ w.heap.size ≤ g from by
          rcases hd13 with h | ⟨g, h, h2⟩
          · rcases HD.out with h' | ⟨g', h', h2'⟩
            · exact .inl (h.trans h')
            · exact .inr ⟨g', h.trans h', h2'⟩
          · exact .inr ⟨g, h, Nat.le_trans HH.out.size h2⟩)
        have HSF := hide_ (show (t.1 ++ putT x.data.toList).length ≤ s.1.length + 65539 * (k + 1) by
          have h1 := HS.out; have h2 := HPT.out; have h3 := HXS.out; rw [List.length_append]; omega)
        clear hown3 hg3 hat3 hg13 hd13 hrow2 d0 hpne hp2 hcell hBr q5 hxn
        go_wp2_with fail
        go_roundw
        case rel => exact ⟨k + 1, _, (t.1 ++ putT x.data.toList, t.2), by omega, by go_num, hide_ (by rw [HC.out, HN.out]), HF, HHF, HDF, HSF⟩
        case measure => simp [intOf]; omega
    · have q1 : ¬ (k : Int) < (n : Int) := by omega
      have HE := hide_ (show wTexts L s = t by rw [HC.out, show k = L.length by rw [HL.out]; omega]; exact wTexts_end t)
      go_wp2_with fail
      go_ret
      exact ⟨rfl, by rw [HE.out]; exact ⟨_, HT.out, HH.out, HD.out⟩⟩

end Go.Proofs.YtcmollfhlillfaaGreatDoor
