/-
  The program's write: a span is written at a version.
-/
import Derived.Test.YtidlkomgondkiaaKMIndex
namespace Go.Proofs.Ytidlkomgondkiaa
open Go.RowKit
set_option linter.unusedVariables false
set_option linter.unusedSimpArgs false
theorem neSM : (24 : TypeId) ≠ 91 := by decide
def pieces (R : List Spn) (v : Int) : List Mk := R.map fun r => (r, v)
theorem pieces_snoc {R : List Spn} {j : Nat} {r : Spn} (h : R[j]? = some r) (v : Int) : pieces (R.take (j + 1)) v = pieces (R.take j) v ++ [(r, v)] := by
  unfold pieces; rw [take_next h, List.map_append]; rfl
/-- Where the new mark goes. -/
theorem behind_split {O : List Mk} {s : Spn} {r : Int} (hM : Marked O) (h : BehindAt O s r) : ∃ t : Nat, t ≤ O.length ∧ ((r < 0 ∧ t = O.length) ∨ (¬ r < 0 ∧ r = (t : Int))) ∧ (∀ a, a ∈ O.take t → ¬ s.1 < a.1.1) ∧ ∀ b, b ∈ O.drop t → s.1 < b.1.1 := by
  rcases h with ⟨h0, h⟩ | ⟨i, rfl, hi, hA, k, hk, hlt⟩
  · refine ⟨O.length, Nat.le_refl _, .inl ⟨h0, rfl⟩, ?_, ?_⟩
    · rw [List.take_length]; exact h
    · rw [List.drop_length]; intro b hb; cases hb
  · refine ⟨i, by omega, .inr ⟨by omega, rfl⟩, hA, ?_⟩
    have hd : O.drop i = k :: O.drop (i + 1) := by
      rw [List.drop_eq_getElem_cons hi]
      congr 1
      rw [List.getElem?_eq_getElem hi] at hk
      exact Option.some.inj hk
    have hM2 : Marked (O.drop i) := by
      have h := hM; rw [← List.take_append_drop i O] at h; exact (Marked.append.1 h).2.1
    rw [hd] at hM2 ⊢
    intro b hb
    rcases List.mem_cons.1 hb with rfl | hb
    · exact hlt
    · have h1 := hM2.1
      have h2 := hM2.2.2.1 b hb
      grind
theorem heap_two02 {w : World} {B : Nat} {a b c : Value} {t : TypeId} (h : w.heap[B]? = some (.cells #[a, b, c] t (0, 0))) (u v : Value) : ((w.setCell ⟨B, 0, none⟩ u).setCell ⟨B, 2, none⟩ v).heap[B]? = some (.cells #[u, b, v] t (0, 0)) := by
  have h1 := heap_setCell_same w B 0 _ _ u h
  exact heap_setCell_same _ B 2 _ _ v h1
theorem own_sets {w : World} {B0 base size n : Nat} {e : TypeId} {v : Value} {xs : List Value} (h : w.ownsRow base e size v n xs) (hb : B0 < base) (u1 u2 : Value) : ((w.setCell ⟨B0, 0, none⟩ u1).setCell ⟨B0, 2, none⟩ u2).ownsRow base e size v n xs :=
  h.kept (grown_setCell (grown_setCell (World.grownBy.refl w (some B0)) (.inl rfl) u1) (.inl rfl) u2) (.inr fun h2 => by have := (h.lt _ h2).1; omega)
/-- What write leaves. -/
def WritePost (B0 : Nat) (L : List Mk) (s : Spn) (v f l : Int) (w : World) (e : Ending) (w' : World) : Prop :=
  e = .returned (.tuple #[]) ∧ (∃ (A' : Option Addr) (n' c' : Nat) (L' : List Mk), MarksAt w' B0 (.slice A' n' c') f (max l v) ∧ L'.length = n' ∧ n' ≤ L.length + 2 ∧ WrittenM L s v L' ∧ w'.ownsRow w.heap.size 91 3 (.slice A' n' c') n' (mrow L')) ∧ w.grownBy w' (some B0)
set_option maxRecDepth 100000 in
set_option maxHeartbeats 4000000 in
theorem write_any {w : World} {B0 : Nat} {A : Option Addr} {n c : Nat} {L : List Mk} {f l : Int} (s : Spn) (v : Int) (hm : MarksAt w B0 (.slice A n c) f l) (hr : Rd w 3 A n (mrow L)) (hl : L.length = n) (hn : n ≤ 1048576) (hML : Marked L) (hs : s.1 < s.2) (hv : 0 < v) :
    Calls Try.prog 39 #[.pointer (some ⟨B0, 0, none⟩), .agg #[.string s.1, .string s.2], .int .i64 v] w (WritePost B0 L s v f l w) := by
  obtain ⟨W0, hW0⟩ : ∃ W0, W0 = w.alloc (.cells #[.string s.1, .string s.2] 24) := ⟨_, rfl⟩
  have hbs : W0.heap[w.heap.size]? = some (.cells #[.string s.1, .string s.2] 24 (0, 0)) := by rw [hW0]; exact heap_alloc_new w _
  have HBS := hide_ hbs
  have hb0 : Later w W0 := by rw [hW0]; exact later_alloc _ _
  have HB0 := hide_ hb0
  have HZ0 := hide_ (show W0.heap.size = w.heap.size + 1 by rw [hW0]; simp)
  have HW := hide_ hW0.symm
  have HM := hide_ ((hb0.block B0 (heap_lt0 hm)).trans hm)
  have HBL := hide_ (heap_lt0 hm)
  have HR := hide_ (hr.below hb0); have HL := hide_ hl; have HML := hide_ hML; have HSS := hide_ hs
  have hem := hide_ (fun W => empty_b s W)
  have y0 := cell_of_row _ _ 0 _ _ (0, 0) hbs
  have y1 := cell_of_row _ _ 1 _ _ (0, 0) hbs
  have hdec : decide (s.2 ≤ s.1) = false := by simp; grind
  have HDEC := hide_ hdec
  have hn2 : (n : Int) ≤ 1048576 := by omega
  clear hm hr hl hW0 hbs hML hs hb0 hdec
  go_enter Try.func39, Try.ntmps39
  go_wp2_with fail
  rw [HW.out]
  refine (hem.out _).mono ?_; rintro e w1 ⟨rfl, hb1⟩
  rw [HDEC.out]
  have HB1 := hide_ hb1
  have hm1 := (hb1.block B0 (heap_lt0 HM.out)).trans HM.out
  have m0 := cell_of_row _ _ 0 _ _ (0, 0) hm1
  have HO1 := hide_ (World.ownsRow_nil w1 w1.heap.size 91 3)
  clear hb1 hem y0 y1 hm1
  go_wp2_with fail
  clear m0
  go_loopw [6, 19] (fun s6 s19 wr => ∃ (k q : Nat) (O : List Mk), k ≤ n ∧ s19 = .int .i64 k ∧ q ≤ 2 * k ∧ Hid (O.length = q) ∧ Hid (CutM (L.take k) s O) ∧ Hid (wr.ownsRow w1.heap.size 91 3 s6 q (mrow O)) ∧ Hid (Later w1 wr)) (fun _ i _ => n - (intOf i).toNat)
  case atStart => exact ⟨0, 0, [], Nat.zero_le _, rfl, Nat.zero_le _, hide_ rfl, hide_ (cutM_start s), HO1, hide_ (Later.refl _)⟩
  case round =>
    obtain ⟨k, q, O, hkn, rfl, hqk, HQ, HCM, HO, HB⟩ := hrel
    obtain ⟨A6, c6, rfl⟩ := own_form HO.out
    by_cases hlt : k < n
    · have q1 : (k : Int) < (n : Int) := by omega
      have q2 : (0 : Int) ≤ (k : Int) := by omega
      have q3 : (k : Int) ≤ 1048576 := by omega
      obtain ⟨m, hm⟩ : ∃ m, L[k]? = some m := ⟨_, List.getElem?_eq_getElem (by rw [HL.out]; exact hlt)⟩
      obtain ⟨b, o, rfl, l0, l1, l2⟩ := ((HR.out.below HB1.out).below HB.out).mark hm
      have HMK := hide_ hm
      have HT := hide_ (take_snoc hm)
      have hwo := hide_ (fun (W : World) (b1 : Nat) (hb : Rd W 2 (some ⟨b1, 0, none⟩) 1 (srow [s])) => without_any (c := 1) m.1 hb (fun h => nomatch h) rfl (by omega))
      have hxr : (wr.alloc (.cells #[.string m.1.1, .string m.1.2, .int .i64 m.2] 91)).heap[wr.heap.size]? = some (.cells #[.string m.1.1, .string m.1.2, .int .i64 m.2] 91 (0, 0)) := heap_alloc_new _ _
      have hsx := row_al ((HB.out.block _ (by have := heap_lt0 HBS.out; have := Below.size HB1.out; omega)).trans ((HB1.out.block _ (heap_lt0 HBS.out)).trans HBS.out)) (.cells #[.string m.1.1, .string m.1.2, .int .i64 m.2] 91)
      have s0 := cell_of_row _ _ 0 _ _ (0, 0) hsx
      have s1 := cell_of_row _ _ 1 _ _ (0, 0) hsx
      have hlx := later_alloc wr (.cells #[.string m.1.1, .string m.1.2, .int .i64 m.2] 91)
      have HXR := hide_ hxr; have HLX := hide_ hlx
      clear hm hxr hsx hlx
      go_wp2_with fail
      refine (hwo.out _ _ (Rd.newAt _ #[.string s.1, .string s.2] 24 1 2 _ (0, 0) rfl (by simp))).mono ?_; rintro e w5 ⟨⟨v5, R5, rfl, ho5, hl5, hc5, hk5⟩, hb5⟩
      obtain ⟨A27, c27, rfl⟩ := own_form ho5
      obtain ⟨n5, hn5⟩ : ∃ n5, R5.length = n5 := ⟨_, rfl⟩
      have hb6 : Later wr w5 := (HLX.out.trans (later_alloc _ (.cells #[.string s.1, .string s.2] 24))).trans hb5
      have HO5 := hide_ (show w5.ownsRow w1.heap.size 91 3 (.slice A6 q c6) (q + 0) (mrow (O ++ pieces (R5.take 0) m.2)) from by rw [show O ++ pieces (R5.take 0) m.2 = O from by simp [pieces]]; exact own_below HO.out hb6)
      have HX5 := hide_ ((((later_alloc _ (.cells #[.string s.1, .string s.2] 24)).trans hb5).block _ (heap_lt0 HXR.out)).trans HXR.out)
      have HN5 := hide_ (show (Value.slice A6 q c6).ownBlock ≠ some wr.heap.size from fun h => by have := (HO.out.lt _ h).2; omega)
      have HB5 := hide_ (Later.trans HB.out hb6)
      have HCN := hide_ (show CutM (L.take (k + 1)) s (O ++ pieces R5 m.2) from by rw [HT.out]; exact cutM_next HCM.out (by rw [← HT.out]; have h := HML.out; rw [← List.take_append_drop (k + 1) L] at h; exact (Marked.append.1 h).1) hc5 (fun x => by rw [hk5, InL.cons]; simp only [InL.nil, or_false]))
      rw [hn5] at ho5 hl5 ⊢
      have HR5 := hide_ ho5
      have HL5 := hide_ hn5
      clear ho5 hc5 hk5 hb5 hb6 hwo s0 s1 hn5 l0 l1 l2
      obtain ⟨wo, e3⟩ : ∃ wo, wo = wr := ⟨_, rfl⟩
      subst e3
      go_wp2_with fail
      go_loopw [6, 29] (fun s6 s29 wi => ∃ (j : Nat), j ≤ n5 ∧ s29 = .int .i64 j ∧ Hid (wi.ownsRow w1.heap.size 91 3 s6 (q + j) (mrow (O ++ pieces (R5.take j) m.2))) ∧ Hid (s6.ownBlock ≠ some wo.heap.size) ∧ Hid (wi.ownsRow (wo.heap.size + 2) 24 2 (.slice A27 n5 c27) n5 (srow R5)) ∧ Hid (wi.heap[wo.heap.size]? = some (.cells #[.string m.1.1, .string m.1.2, .int .i64 m.2] 91 (0, 0))) ∧ Hid (Later w1 wi)) (fun _ j _ => n5 - (intOf j).toNat)
      case atStart => exact ⟨0, Nat.zero_le _, rfl, HO5, HN5, hide_ (by have h := HR5.out; simpa using h), HX5, HB5⟩
      case round =>
        obtain ⟨j, hjn, rfl, HOI, HNI, HRI, HXI, HBI⟩ := hrel
        obtain ⟨AI, cI, rfl⟩ := own_form HOI.out
        by_cases hjlt : j < n5
        · obtain ⟨r, hr⟩ : ∃ r, R5[j]? = some r := ⟨_, List.getElem?_eq_getElem (by rw [HL5.out]; exact hjlt)⟩
          obtain ⟨rb, ro, rfl, t0, t1⟩ := (Rd.of_own HRI.out).span hr
          have j1 : (j : Int) < (n5 : Int) := by omega
          have j2 : (0 : Int) ≤ (j : Int) := by omega
          have j3 : (j : Int) ≤ 1099511627776 := by omega
          have HRJ := hide_ hr
          have hxa := row_al HXI.out (.cells #[.string r.1, .string r.2] 24)
          have x0 := cell_of_row _ _ 0 _ _ (0, 0) hxa
          have x1 := cell_of_row _ _ 1 _ _ (0, 0) hxa
          have x2 := cell_of_row _ _ 2 _ _ (0, 0) hxa
          clear hr hxa
          go_wp2_with (at_builtin; go_loud (refine wpList_append_rd _ rfl (.tmp 33) (.tmp 38) 75 rfl w1.heap.size 91 3 40 markT _ (q + j) (mrow (O ++ pieces (R5.take j) m.2)) rfl ((HOI.out.alloc _).alloc _) _ 1 1 (encM (r, m.2)) rfl (Rd.newAt _ #[.string r.1, .string r.2, .int .i64 m.2] 91 1 3 _ (0, 0) rfl (by simp)) (encM_one _) (by omega) (by unfold maxLen; omega) (by have := Below.size HBI.out; simp; omega) (fun h => nomatch h) ?_; intro v8 w8 hown8 hg8 hat8; have HO8 := hide_ (show w8.ownsRow w1.heap.size 91 3 v8 (q + (j + 1)) (mrow (O ++ pieces (R5.take (j + 1)) m.2)) by rw [pieces_snoc HRJ.out, ← List.append_assoc, mrow_append]; exact hown8); have HB8 := hide_ (show Later w1 w8 from own_grown (Below.alloc (Below.alloc HBI.out (Below.size HBI.out) _) (by have := Below.size HBI.out; simp; omega) _) ((HOI.out.alloc _).alloc _) hg8 (by have := Below.size HBI.out; simp; omega)); have HR8 := hide_ (own_kept ((HRI.out.alloc _).alloc _) ((HOI.out.alloc _).alloc _) neSM hg8); have hlt8 := heap_lt0 HXI.out; have HX8 := hide_ ((hg8.block wo.heap.size (by simp; omega) (fun h => HNI.out h.symm)).trans (row_al (row_al HXI.out _) _)); have HN8 := hide_ (show v8.ownBlock ≠ some wo.heap.size from hat8.elim (fun h => by rw [h]; exact HNI.out) (fun h => by rw [h]; intro h2; injection h2 with h2; simp at h2; omega)); clear hown8 hg8 hat8 hlt8))
          go_roundw
          case rel => exact ⟨j + 1, by omega, by go_num, HO8, HN8, HR8, HX8, HB8⟩
          case measure => simp [intOf]; omega
        · have j1 : ¬ (j : Int) < (n5 : Int) := by omega
          obtain rfl : j = n5 := by omega
          have hF : R5.take j = R5 := by rw [← HL5.out, List.take_length]
          have HOE := hide_ (show _ from by have h := HOI.out; rw [hF] at h; exact h)
          clear hF
          go_wp2_with fail
          go_roundw
          case rel => exact ⟨k + 1, q + j, O ++ pieces R5 m.2, by omega, by go_num, by omega, hide_ (by rw [List.length_append, HQ.out]; unfold pieces; rw [List.length_map, HL5.out]), HCN, HOE, HBI⟩
          case measure => simp [intOf]; omega
    · have q1 : ¬ (k : Int) < (n : Int) := by omega
      obtain rfl : k = n := by omega
      have hF : L.take k = L := by rw [← HL.out, List.take_length]
      have HCL := hide_ (show CutM L s O by have h := HCM.out; rwa [hF] at h)
      have HSR := hide_ ((HB.out.block _ (by have := heap_lt0 HBS.out; have := Below.size HB1.out; omega)).trans ((HB1.out.block _ (heap_lt0 HBS.out)).trans HBS.out))
      have hmi := hide_ (mindex_any (c := c6) s (Rd.of_own HO.out) HQ.out (by omega) HSR.out)
      clear hF
      go_wp2_with fail
      refine hmi.out.mono ?_; rintro e w9 ⟨⟨r, rfl, hbh⟩, hb9⟩
      obtain ⟨t, htl, hrt, htA, htB⟩ := behind_split HCL.out.1 hbh
      rw [HQ.out] at htl hrt
      have HTA := hide_ htA; have HTB := hide_ htB
      have HO9 := hide_ (own_below HO.out hb9)
      have HB9 := hide_ (Later.trans HB.out hb9)
      have hs9 := (hb9.block _ (heap_lt0 HSR.out)).trans HSR.out
      have s0 := cell_of_row _ _ 0 _ _ (0, 0) hs9
      have s1 := cell_of_row _ _ 1 _ _ (0, 0) hs9
      clear htA htB hb9 hbh hs9 hmi
      rcases hrt with ⟨hr0, rfl⟩ | ⟨hr0, rfl⟩
      all_goals
        go_wp2_with fail
        have hz1 := Below.size HB1.out; have hz9 := Below.size HB9.out; have hz0 := HZ0.out; have hbl := HBL.out
        refine (minsert_own (c := c6) (s, v) (HO9.out.alloc _) HQ.out t (by omega) (heap_alloc_new _ _) (fun g hg he => by have := (HO9.out.lt g (by rw [hg]; rfl)).2; omega) (by omega) (by simp; omega)).mono ?_; rintro e w10 ⟨⟨v10, rfl, ho10⟩, hb10, hg10⟩
        obtain ⟨A10, c10, rfl⟩ := own_form ho10
        have hm10 := (hb10.block B0 (by omega)).trans (row_al ((HB9.out.block B0 (by omega)).trans ((HB1.out.block B0 (by omega)).trans HM.out)) (.cells #[.string s.1, .string s.2, .int .i64 v] 91))
        have m0 := cell_of_row _ _ 0 _ _ (0, 0) hm10
        have m1 := cell_of_row _ _ 1 _ _ (0, 0) hm10
        have m2 := cell_of_row _ _ 2 _ _ (0, 0) hm10
        have f0 := frozen_of_row _ _ 0 _ _ hm10
        have f2 := frozen_of_row _ _ 2 _ _ hm10
        have HM10 := hide_ hm10; have HO10 := hide_ ho10; have HB10 := hide_ hb10
        have HG10 := hide_ hg10
        clear s0 s1 hm10 ho10 hb10 hg10 hz1 hz9 hz0 hbl
        go_wp2_with fail
        go_returns
        have hz1 := Below.size HB1.out; have hz9 := Below.size HB9.out; have hz0 := HZ0.out; have hbl := HBL.out
        have hLk := HL.out; have hqq := HQ.out
        have hlt10 : Later w w10 := by
          have h1 : Below w.heap.size w w9 := Later.trans (Later.trans HB0.out HB1.out) HB9.out
          exact (h1.alloc (by omega) _).trans (HB10.out.mono (by omega))
        refine ⟨rfl, ⟨A10, _, c10, O.take t ++ (s, v) :: O.drop t, heap_two02 HM10.out _ _, ?_, by have := cut_len HCL.out; omega, written_put (by rw [List.take_append_drop]; exact HCL.out) HSS.out hv HTA.out HTB.out (.inr trivial), ?_⟩, grown_setCell (grown_setCell (grown_later hlt10 _) (.inl rfl) _) (.inl rfl) _⟩
        · rw [List.length_append, List.length_cons, List.length_take, List.length_drop, HQ.out]; omega
        · rw [show O.take t ++ (s, v) :: O.drop t = O.take t ++ [(s, v)] ++ O.drop t by simp]
          exact own_base (own_sets HO10.out (by omega) _ _) (by omega)

end Go.Proofs.Ytidlkomgondkiaa
