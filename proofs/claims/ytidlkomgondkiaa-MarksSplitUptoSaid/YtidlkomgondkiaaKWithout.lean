/-
  Without: the spans that have the keys of one, but for those of others.
-/
import Derived.Test.YtidlkomgondkiaaKSpanE
import Derived.Test.YtidlkomgondkiaaG3
namespace Go.Proofs.Ytidlkomgondkiaa
open Go.RowKit
set_option linter.unusedVariables false
set_option linter.unusedSimpArgs false
set_option maxHeartbeats 4000000 in
theorem without_any {w : World} {A : Option Addr} {n c : Nat} {L : List Spn} (s : Spn) (hr : Rd w 2 A n (srow L)) (hA : A = none → n = 0) (hl : L.length = n) (hn : n ≤ 2199023255552) :
    Calls Try.prog 56 #[.agg #[.string s.1, .string s.2], .slice A n c] w fun e w' =>
      (∃ (v : Value) (R : List Spn), e = .returned v ∧ w'.ownsRow w.heap.size 24 2 v R.length (srow R) ∧ R.length ≤ n + 1 ∧ Canon R ∧ ∀ k, InL R k ↔ InS s k ∧ ¬ InL L k) ∧ Below w.heap.size w w' := by
  obtain ⟨W0, hW0⟩ : ∃ W0, W0 = w.alloc (.cells #[.string s.1, .string s.2] 24) := ⟨_, rfl⟩
  have hj := hide_ (join_any (c := c) (hr.alloc (.cells #[.string s.1, .string s.2] 24)) hA hl (by omega))
  rw [← hW0] at hj
  have hbx : W0.heap[w.heap.size]? = some (.cells #[.string s.1, .string s.2] 24 (0, 0)) := by rw [hW0]; exact heap_alloc_new w _
  have hsz0 : W0.heap.size = w.heap.size + 1 := by rw [hW0]; simp
  have HB0 := hide_ (show Below w.heap.size w W0 by rw [hW0]; exact (Below.refl _ _).alloc (Nat.le_refl _) _)
  have HBX := hide_ hbx
  have HS0 := hide_ hsz0
  have HW := hide_ hW0.symm
  clear hW0 hr hA hbx hsz0
  go_enter Try.func56, Try.ntmps56
  go_wp2_with fail
  rw [HW.out]
  refine (hj.out).mono ?_; rintro e w1 ⟨⟨A1, J, rfl, hR, hAJ, hbJ, hJn, hc, hk⟩, hb1⟩
  obtain ⟨m, hm⟩ : ∃ m, J.length = m := ⟨_, rfl⟩
  rw [hm] at hR hAJ hJn ⊢
  have HR := hide_ hR
  have HM := hide_ hm
  have HBJ := hide_ (show ∀ (b o : Nat), A1 = some ⟨b, o, none⟩ → b ≠ w.heap.size from fun b o h => by have h1 := hbJ b o h; rw [HS0.out] at h1; omega)
  have HC := hide_ hc
  have HK := hide_ hk
  have HB1 := hide_ (HB0.out.trans (hb1.mono HB0.out.size))
  have HX1 := hide_ ((hb1.block w.heap.size (by rw [HS0.out]; omega)).trans HBX.out)
  have HZ1 := hide_ (show w.heap.size < w1.heap.size by have := hb1.size; have := HS0.out; omega)
  have hmn : m ≤ n := hJn
  clear HW hj hR hm hbJ hc hk hb1 hAJ hJn
  have hm2 : m ≤ 2199023255552 := by omega
  go_wp2_with fail
  go_loopw [5, 7, 8, 12] (fun s5 _ _ s12 wr => ∃ (k q : Nat) (O : List Spn) (cur : ByteArray), k ≤ m ∧ s12 = .int .i64 k ∧ Hid (O.length = q) ∧ q ≤ k ∧ Hid (wr.ownsRow w1.heap.size 24 2 s5 q (srow O)) ∧ Hid (CutInv s cur O (J.take k) (J.drop k)) ∧ Hid (Still w1.heap.size w.heap.size w1 wr) ∧ Hid (Below w.heap.size w wr) ∧ Hid (wr.heap[w.heap.size]? = some (.cells #[.string cur, .string s.2] 24 (0, 0)))) (fun _ _ _ i _ => m - (intOf i).toNat)
  case atStart => exact ⟨0, 0, [], s.1, Nat.zero_le _, rfl, rfl, Nat.le_refl _, World.ownsRow_nil _ _ _ _, cut_start s J, Still.refl _ _ _, HB1.out, HX1.out⟩
  case round =>
    obtain ⟨k, q, O, cur, hk, rfl, HQ, hqk, HO, HI, HST, HB, HX⟩ := hrel
    obtain ⟨A4, c4, rfl⟩ := own_form HO.out
    have b1 := fun ob => cell_of_row _ _ 0 _ _ (0, 0) (row_alloc HX.out ob)
    have b2 := fun ob => cell_of_row _ _ 1 _ _ (0, 0) (row_alloc HX.out ob)
    have b3 := fun o1 o2 o3 => cell_of_row _ _ 0 _ _ (0, 0) (row_alloc (row_alloc (row_alloc HX.out o1) o2) o3)
    have f3 := fun o1 o2 o3 => frozen_of_row _ _ 0 _ _ (row_alloc (row_alloc (row_alloc HX.out o1) o2) o3)
    have zr := hide_ (show w.heap.size < wr.heap.size from Nat.lt_of_lt_of_le HZ1.out HST.out.1)
    by_cases hlt : k < m
    · have q1 : (k : Int) < (m : Int) := by omega
      obtain ⟨g, hg⟩ : ∃ g, J[k]? = some g := ⟨_, List.getElem?_eq_getElem (by rw [HM.out]; exact hlt)⟩
      obtain ⟨b, o, rfl, l1, l2⟩ := (HR.out.still HST.out (Nat.le_refl _) HBJ.out).span hg
      have HD := hide_ (show J.drop k = g :: J.drop (k + 1) from by rw [List.drop_eq_getElem_cons (by rw [HM.out]; exact hlt)]; congr 1; exact (List.getElem?_eq_some_iff.1 hg).2)
      have HT := hide_ (take_next hg)
      have HCD := hide_ (show Canon (g :: J.drop (k + 1)) by rw [← HD.out]; exact canon_drop HC.out k)
      have HI' := hide_ (show CutInv s cur O (J.take k) (g :: J.drop (k + 1)) by rw [← HD.out]; exact HI.out)
      obtain ⟨mn, hmn⟩ : ∃ t, t = if g.1 < s.2 then g.1 else s.2 := ⟨_, rfl⟩
      obtain ⟨mx, hmx⟩ : ∃ t, t = if cur < g.2 then g.2 else cur := ⟨_, rfl⟩
      have m1 : ∀ ts t W, (Builtin.min_ ts t #[.string s.2, .string g.1]).run Try.prog W = .ok (.string mn) W := fun ts t W => by rw [run_min_str, hmn]
      have m2 : ∀ ts t W, (Builtin.max_ ts t #[.string cur, .string g.2]).run Try.prog W = .ok (.string mx) W := fun ts t W => by rw [run_max_str, hmx]
      have HMN := hide_ hmn
      have HMX := hide_ hmx
      clear hg hmn hmx
      by_cases he : mn ≤ cur
      · have hem := fun W => empty_any cur mn W
        rw [decide_eq_true he] at hem
        have HE := hide_ he
        clear he
        go_wp2_with (go_at_call 42; refine (hem _).mono ?_; rintro e w' ⟨rfl, rfl⟩)
        go_roundw
        case rel =>
          have hci := cut_next (out' := O) HI'.out HCD.out (by rw [← HMN.out, if_neg (by have := HE.out; grind)])
          have hle := HST.out.1
          have hzz := HB.out.size
          refine ⟨k + 1, q, O, mx, by omega, by go_num, HQ, by omega, ?_, by rw [HT.out, HMX.out]; exact hci, ?_, ?_, ?_⟩
          · exact ownsRow_setCell_below (((HO.out.alloc _).alloc _).alloc _) HZ1.out _
          · exact (HST.out.below ((((Below.refl _ _).alloc hle _).alloc (by simp; omega) _).alloc (by simp; omega) _)).setCell _ _
          · exact (((HB.out.alloc hzz _).alloc (by simp; omega) _).alloc (by simp; omega) _).setCell (Nat.le_refl _) _
          · exact heap_setCell_same _ _ 0 _ _ _ (row_alloc (row_alloc (row_alloc HX.out _) _) _)
        case measure => simp [intOf]; omega
      · have hem := fun W => empty_any cur mn W
        rw [decide_eq_false he] at hem
        have HE := hide_ he
        clear he
        go_wp2_with (first | (go_at_call 42; refine (hem _).mono ?_; rintro e w' ⟨rfl, rfl⟩) | (at_builtin; go_loud (refine wpList_append_rd _ rfl (.tmp 27) (.tmp 29) 29 rfl w1.heap.size 24 2 32 spanT _ q (srow O) rfl ((((HO.out.alloc _).alloc _).alloc _).alloc _) _ 1 _ (encS (cur, mn)) rfl (Rd.newAt _ #[.string cur, .string mn] 24 1 2 _ (0, 0) rfl (by simp)) (encS_one _) (by omega) (by unfold maxLen; omega) (by have := HST.out.1; simp; omega) (fun h => nomatch h) ?_; intro v5 w5 hown5 hg5 hat5; have HO5 := hide_ hown5; have hx5 := grown_block ((((HO.out.alloc _).alloc _).alloc _).alloc _) hg5 (row_alloc (row_alloc (row_alloc (row_alloc HX.out _) _) _) _) (.inl HZ1.out); have hgn5 := grown_block ((((HO.out.alloc _).alloc _).alloc _).alloc _) hg5 (row_alloc (row_alloc (row_alloc (heap_alloc_new wr _) _) _) _) (.inr ⟨wr, HO.out, Nat.le_refl _⟩); have HB5 := hide_ (own_grown (((((Below.refl w1.heap.size wr).alloc HST.out.1 _).alloc (by have := HST.out.1; simp; omega) _).alloc (by have := HST.out.1; simp; omega) _).alloc (by have := HST.out.1; simp; omega) _) ((((HO.out.alloc _).alloc _).alloc _).alloc _) hg5 (by have := HST.out.1; simp; omega)); have e1 := cell_of_row _ _ 0 _ _ (0, 0) hx5; have e2 := frozen_of_row _ _ 0 _ _ hx5; have e3 := cell_of_row _ _ 1 _ _ (0, 0) hgn5; have HX5 := hide_ hx5; clear hown5 hg5 hat5 hx5 hgn5)))
        go_roundw
        case rel =>
          have hci := cut_next (out' := O ++ [(cur, mn)]) HI'.out HCD.out (by rw [← HMN.out, if_pos (by have := HE.out; grind)])
          refine ⟨k + 1, q + 1, O ++ [(cur, mn)], mx, by omega, by go_num, hide_ (by simp [HQ.out]), by omega, ?_, by rw [HT.out, HMX.out]; exact hci, ?_, ?_, ?_⟩
          · exact ownsRow_setCell_below (show w5.ownsRow w1.heap.size 24 2 v5 (q + 1) (srow (O ++ [(cur, mn)])) by have := HO5.out; simpa [srow] using this) HZ1.out _
          · exact (HST.out.below HB5.out).setCell _ _
          · exact (HB.out.trans (HB5.out.mono (Nat.le_of_lt HZ1.out))).setCell (Nat.le_refl _) _
          · exact heap_setCell_same _ _ 0 _ _ _ HX5.out
        case measure => simp [intOf]; omega
    · have hkm : k = m := by omega
      have b4 := cell_of_row _ _ 0 _ _ (0, 0) HX.out
      have b5 := cell_of_row _ _ 1 _ _ (0, 0) HX.out
      have b6 := cell_of_row _ _ 1 _ _ (0, 0) (row_alloc HX.out (.cells #[.string cur, .string s.2] 24))
      have HI' := hide_ (show CutInv s cur O J [] by have := HI.out; rw [hkm, ← HM.out, List.take_length, List.drop_length] at this; exact this)
      have HKM := hide_ hkm
      clear hkm
      by_cases he : s.2 ≤ cur
      · have hem := fun W => empty_any cur s.2 W
        rw [decide_eq_true he] at hem
        have HE := hide_ he
        clear he
        go_wp2_with (go_at_call 42; refine (hem _).mono ?_; rintro e w' ⟨rfl, rfl⟩)
        go_ret
        have hce := cut_end (out' := O) HI'.out (by rw [if_neg (by have := HE.out; grind)])
        refine ⟨⟨_, O, rfl, by rw [HQ.out]; exact (own_base HO.out (Nat.le_of_lt HZ1.out)).alloc _, by rw [HQ.out]; omega, hce.1, fun x => by rw [hce.2, HK.out]⟩, HB.out.alloc HB.out.size _⟩
      · have hem := fun W => empty_any cur s.2 W
        rw [decide_eq_false he] at hem
        have HE := hide_ he
        clear he
        go_wp2_with (first | (go_at_call 42; refine (hem _).mono ?_; rintro e w' ⟨rfl, rfl⟩) | (at_builtin; go_loud (refine wpList_append_rd _ rfl (.tmp 41) (.tmp 43) 29 rfl w1.heap.size 24 2 32 spanT _ q (srow O) rfl ((HO.out.alloc _).alloc _) _ 1 _ (encS (cur, s.2)) rfl (Rd.newAt _ #[.string cur, .string s.2] 24 1 2 _ (0, 0) rfl (by simp)) (encS_one _) (by omega) (by unfold maxLen; omega) (by have := HST.out.1; simp; omega) (fun h => nomatch h) ?_; intro v5 w5 hown5 hg5 hat5; have HO5 := hide_ hown5; have HB5 := hide_ (own_grown (((HB.out.alloc HB.out.size _).alloc (by have := HB.out.size; simp; omega) _)) (((own_base HO.out (Nat.le_of_lt HZ1.out)).alloc _).alloc _) hg5 (by have := HB.out.size; simp; omega)); clear hown5 hg5 hat5)))
        go_ret
        have hce := cut_end (out' := O ++ [(cur, s.2)]) HI'.out (by rw [if_pos (by have := HE.out; grind)])
        refine ⟨⟨_, O ++ [(cur, s.2)], rfl, ?_, by simp [HQ.out]; omega, hce.1, fun x => by rw [hce.2, HK.out]⟩, HB5.out⟩
        have h1 := own_base HO5.out (Nat.le_of_lt HZ1.out)
        have h2 : (O ++ [(cur, s.2)]).length = q + 1 := by simp [HQ.out]
        rw [h2]
        simpa [srow] using h1
end Go.Proofs.Ytidlkomgondkiaa
