/-
  slices.DeleteFunc at spans.
-/
import Derived.Test.YtidlkomgondkiaaSpanB
namespace Go.Proofs.Ytidlkomgondkiaa
open Go.RowKit
set_option linter.unusedVariables false
set_option linter.unusedSimpArgs false
/-- A row behind 'clear' of what lies from i on. -/
theorem own_clear {w : World} {base : Nat} {e : TypeId} {size g n cap : Nat} {xs : List Value} {cur : Array Value} (ho : w.ownsRow base e size (.slice (some ⟨g, 0, none⟩) n cap) n xs) (hg : w.heap[g]? = some (.cells cur e (0, 0)))
    {i : Nat} (hi : i ≤ n) {Z : List Value} (hZ : Z.length = (n - i) * size) :
    (w.setRow g (cur.toList.take (i * size) ++ Z ++ cur.toList.drop (i * size + Z.length)).toArray).ownsRow base e size (.slice (some ⟨g, 0, none⟩) i cap) i (xs.take (i * size)) ∧
      Below base w (w.setRow g (cur.toList.take (i * size) ++ Z ++ cur.toList.drop (i * size + Z.length)).toArray) := by
  obtain ⟨cur', hb, hg', hnc, hcm, hcs, htk⟩ := own_row ho
  rw [hg] at hg'
  injection hg' with hg'
  injection hg' with hg'
  subst hg'
  have hle : i * size ≤ n * size := Nat.mul_le_mul_right _ hi
  have hle2 : n * size ≤ cap * size := Nat.mul_le_mul_right _ hnc
  have hic : i ≤ cap := Nat.le_trans hi hnc
  have hsum : i * size + (n - i) * size = n * size := by rw [← Nat.add_mul]; congr 1; omega
  refine ⟨⟨by rw [List.length_take, ho.1]; exact Nat.min_eq_left hle, .inr ⟨g, cap, _, rfl, hb, setRow_heap _ _ _ _ _ _ hg, by omega, hcm, ?_, ?_⟩⟩, below_setRow (Below.refl _ _) hb _⟩
  · simp only [List.size_toArray, List.length_append, List.length_take, List.length_drop, Array.length_toList, hcs, hZ]
    omega
  · rw [← htk, List.take_take, Nat.min_eq_left hle]
    show List.take _ (cur.toList.take (i * size) ++ Z ++ cur.toList.drop (i * size + Z.length)) = _
    rw [List.append_assoc, List.take_append_of_le_length (by rw [List.length_take, Array.length_toList, hcs]; omega), List.take_take, Nat.min_self]
/-- It holds a key. -/
def ne_ (s : Spn) : Bool := decide (s.1 < s.2)
theorem first_filter {L : List Spn} {k : Nat} (h : ∀ (j : Nat) s, j < k → L[j]? = some s → s.1 < s.2) : (L.take k).filter ne_ = L.take k := by
  apply List.filter_eq_self.2
  intro s hs
  obtain ⟨j, hj⟩ := List.getElem?_of_mem hs
  rw [List.getElem?_take] at hj
  split at hj
  · rename_i hjk
    simp [ne_, h j s hjk hj]
  · cases hj
theorem take_next {L : List Spn} {j : Nat} {s : Spn} (hs : L[j]? = some s) : L.take (j + 1) = L.take j ++ [s] := by
  rw [List.take_add_one, hs]; rfl
theorem span_set {L : List Spn} {i : Nat} (hi : i < L.length) (s : Spn) : srow (L.set i s) = ((srow L).set (i * 2) (.string s.1)).set (i * 2 + 1) (.string s.2) := by
  unfold srow
  rw [rec_set encS_len hi]
  have hl := srow_len L
  unfold srow at hl
  generalize L.flatMap encS = R at hl
  apply List.ext_getElem?
  intro t
  have e1 : (R.take (i * 2)).length = i * 2 := by rw [List.length_take]; omega
  rw [List.getElem?_set, List.getElem?_set]
  simp only [encS, List.append_assoc]
  by_cases h1 : t < i * 2
  · rw [List.getElem?_append_left (by omega), List.getElem?_take, if_pos h1, if_neg (by omega), if_neg (by omega)]
  · rw [List.getElem?_append_right (by omega), e1]
    by_cases h2 : t = i * 2
    · subst h2
      rw [if_neg (by omega), if_pos rfl, if_pos (by omega), Nat.sub_self]; rfl
    · by_cases h3 : t = i * 2 + 1
      · subst h3
        rw [if_pos rfl, List.length_set, if_pos (by omega), show i * 2 + 1 - i * 2 = 1 from by omega]; rfl
      · rw [if_neg (by omega), if_neg (by omega), List.getElem?_append_right (by simp; omega), List.getElem?_drop]
        congr 1
        simp only [List.length_cons, List.length_nil]
        omega
set_option maxHeartbeats 1000000 in
theorem delete_any {w : World} {B g n cap : Nat} {L : List Spn} (ho : w.ownsRow B 24 2 (.slice (some ⟨g, 0, none⟩) n cap) n (srow L)) (hl : L.length = n) (hn : n ≤ 4398046511104) (hBw : B ≤ w.heap.size) :
    Calls Try.prog 66 #[.slice (some ⟨g, 0, none⟩) n cap, .func (.func 42) #[] #[]] w fun e w' =>
      (∃ m, e = .returned (.slice (some ⟨g, 0, none⟩) m cap) ∧ (L.filter ne_).length = m ∧ w'.ownsRow B 24 2 (.slice (some ⟨g, 0, none⟩) m cap) m (srow (L.filter ne_))) ∧ Below B w w' := by
  have hidx := hide_ (index_any (c := cap) (Rd.of_own ho) hl (by omega))
  have HO := hide_ ho
  have HL := hide_ hl
  have hgB := hide_ (ho.lt g rfl).1
  have hnc := hide_ (own_cap ho)
  have hcm := hide_ (own_row ho).choose_spec.2.2.2.1
  clear ho hl
  go_enter Try.func66, Try.ntmps66
  go_wp2_with fail
  refine (hidx.out).mono ?_; rintro e w1 ⟨⟨i, rfl, hi⟩, hb1⟩
  have HO1 := hide_ (own_below HO.out hb1)
  have HB1 := hide_ (hb1.mono hBw)
  clear hb1
  rcases hi with ⟨rfl, ha⟩ | ⟨k, rfl, ha, s0, hs0, he0⟩
  · have HA := hide_ (show L.filter ne_ = L from List.filter_eq_self.2 fun s hs => by obtain ⟨j, hj⟩ := List.getElem?_of_mem hs; simp [ne_, ha j s hj])
    clear ha
    go_wp2_with fail
    go_ret
    exact ⟨⟨n, rfl, by rw [HA.out, HL.out], by rw [HA.out]; exact HO1.out⟩, HB1.out⟩
  · have hkn : k < n := by have := (List.getElem?_eq_some_iff.1 hs0).1; have := HL.out; omega
    have hst : L.take k = (L.take (k + 1)).filter ne_ := by
      rw [take_next hs0, List.filter_append, first_filter ha]
      have : ne_ s0 = false := by simp [ne_]; grind
      simp [this]
    have HST := hide_ hst
    have q1 : ((k : Int) == -1) = false := by rw [beq_eq_false_iff_ne]; omega
    have q2 : (k : Int) ≤ 4398046511104 := by omega
    have q3 : (0 : Int) ≤ (k : Int) := by omega
    clear ha hs0 he0 hst
    go_wp2_with fail
    go_loopw [5, 6, 7] (fun s5 s6 _ wr => ∃ (i j : Nat) (M : List Spn), i < j ∧ j ≤ n ∧ s5 = .int .i64 i ∧ s6 = .int .i64 j ∧ Hid (M.length = n ∧ M.take i = (L.take j).filter ne_ ∧ M.drop j = L.drop j) ∧ Hid (wr.ownsRow B 24 2 (.slice (some ⟨g, 0, none⟩) n cap) n (srow M)) ∧ Hid (Below B w wr)) (fun _ j _ _ => n - (intOf j).toNat)
    case atStart => exact ⟨k, k + 1, L, by omega, by omega, rfl, by go_num, ⟨HL.out, HST.out, rfl⟩, HO1.out, HB1.out⟩
    case round =>
      obtain ⟨i, j, M, hij, hj, rfl, rfl, HM, HOr, HBr⟩ := hrel
      have i1 : (0 : Int) ≤ (i : Int) := by omega
      have i2 : (i : Int) ≤ 4398046511104 := by omega
      have j1 : (0 : Int) ≤ (j : Int) := by omega
      have j2 : (j : Int) ≤ 4398046511104 := by omega
      by_cases hlt : j < n
      · have q4 : (j : Int) < (n : Int) := by omega
        obtain ⟨s, hs⟩ : ∃ s, L[j]? = some s := ⟨_, List.getElem?_eq_getElem (by rw [HL.out]; exact hlt)⟩
        have hms : M[j]? = some s := by
          have := congrArg (fun l => l[0]?) HM.out.2.2
          simpa [hs] using this
        obtain ⟨b, o, hbo, c1, c2⟩ := (Rd.of_own HOr.out).span hms
        injection hbo with hbo
        injection hbo with hb1 hb2
        subst hb1; subst hb2
        simp only [Nat.zero_add] at c1 c2
        have l1 := cell_alloc c1
        have l2 := cell_alloc c2
        have HS := hide_ hs
        have HTN := hide_ (take_next hs)
        clear hs hms
        by_cases he : s.2 ≤ s.1
        · have hem := fun W => empty_any s.1 s.2 W
          rw [decide_eq_true he] at hem
          have HNE := hide_ (show ne_ s = false by simp [ne_]; grind)
          clear he
          go_wp2_with (go_at_call 42; refine (hem _).mono ?_; rintro e w' ⟨rfl, rfl⟩)
          go_roundw
          case rel =>
            refine ⟨i, j + 1, M, by omega, by omega, rfl, by go_num, ⟨HM.out.1, ?_, ?_⟩, ?_, ?_⟩
            · rw [HM.out.2.1, HTN.out, List.filter_append]; simp [HNE.out]
            · have := congrArg (List.drop 1) HM.out.2.2
              simpa [List.drop_drop] using this
            · exact (HOr.out.alloc _).alloc _
            · exact (HBr.out.alloc (Nat.le_trans hBw HBr.out.size) _).alloc (by have := HBr.out.size; simp; omega) _
          case measure => simp [intOf]; omega
        · have hem := fun W => empty_any s.1 s.2 W
          rw [decide_eq_false he] at hem
          have HNE := hide_ (show ne_ s = true by simp [ne_]; grind)
          clear he
          obtain ⟨t, ht⟩ : ∃ t, M[i]? = some t := ⟨_, List.getElem?_eq_getElem (by rw [HM.out.1]; omega)⟩
          obtain ⟨b, o, hbo, d1, d2⟩ := (Rd.of_own HOr.out).span ht
          injection hbo with hbo
          injection hbo with hb1 hb2
          subst hb1; subst hb2
          simp only [Nat.zero_add] at d1 d2
          obtain ⟨cur, _, hgc, _⟩ := own_row HOr.out
          have m1 := fun ob ob' => cell_alloc (cell_alloc d1 ob) ob'
          have m2 := fun ob ob' => cell_alloc (cell_alloc d2 ob) ob'
          have f1 := fun ob ob' => frozen_of_row _ _ (i * 2) _ _ (row_alloc (row_alloc hgc ob) ob')
          have f2 := fun ob ob' => frozen_of_row _ _ (i * 2 + 1) _ _ (row_alloc (row_alloc hgc ob) ob')
          have i3 : (i : Int) < (n : Int) := by omega
          have i4 : i < n := by omega
          clear d1 d2 ht hgc
          go_wp2_with (go_at_call 42; refine (hem _).mono ?_; rintro e w' ⟨rfl, rfl⟩)
          go_roundw
          case rel =>
            refine ⟨i + 1, j + 1, M.set i s, by omega, by omega, by go_num, by go_num, ⟨by rw [List.length_set]; exact HM.out.1, ?_, ?_⟩, ?_, ?_⟩
            · rw [HTN.out, List.filter_append, ← HM.out.2.1]
              have hs1 : (M.set i s)[i]? = some s := by rw [List.getElem?_set_self]; rw [HM.out.1]; exact i4
              rw [take_next hs1, List.take_set_of_le (Nat.le_refl i)]
              simp [HNE.out]
            · rw [List.drop_set_of_lt (by omega)]
              have := congrArg (List.drop 1) HM.out.2.2
              simpa [List.drop_drop] using this
            · rw [span_set (by rw [HM.out.1]; exact i4)]
              exact own_setCell (own_setCell ((HOr.out.alloc _).alloc _) _ _) _ _
            · have hsz := HBr.out.size
              exact (((HBr.out.alloc (Nat.le_trans hBw hsz) _).alloc (by simp; omega) _).setCell hgB.out _).setCell hgB.out _
          case measure => simp [intOf]; omega
      · have hjn : j = n := by omega
        obtain ⟨cur, hcB, hgc, _, hcc, hcs, _⟩ := own_row HOr.out
        have hncc := hnc.out
        have i5 : ¬ cap = i := by omega
        have i6 : (i : Int) ≤ (n : Int) := by omega
        have i7 : (n : Int) ≤ (cap : Int) := by omega
        have i8 : i ≤ n := by omega
        have i9 : i ≤ cap := by omega
        have i10 : (i : Int) ≤ (cap : Int) := by omega
        have hclr : ∀ ty, (Builtin.clear_ #[29] ty #[.slice (some ⟨g, i * 2, none⟩) (n - i) (cap - i)]).run Try.prog wr = .ok (.tuple #[]) (wr.setRow g _) := fun ty =>
          run_clear_row 29 24 ty (.agg #[.string ByteArray.empty, .string ByteArray.empty]) 2 Try.underlying29 (fun w => by kernel_rfl) rfl (by intro u hu; simp [Value.cells] at hu; rcases hu with rfl | rfl <;> rfl) (by omega) wr g (i * 2) (n - i) (cap - i) cur (by omega) hgc (by rw [hcs]; omega)
        have HOW := hide_ (own_clear HOr.out hgc i8 (Z := (Builtin.zeroCells (Value.agg #[.string ByteArray.empty, .string ByteArray.empty]).cells (n - i)).toList) (by rw [Array.length_toList, size_zeroCells]; rfl))
        have HTJ := hide_ hjn
        clear hjn hgc hcc hcs hncc
        go_wp2_with fail
        go_ret
        have hf : M.take i = L.filter ne_ := by rw [HM.out.2.1, HTJ.out, ← HL.out, List.take_length]
        have h1 := HOW.out
        have h2 : (srow M).take (i * 2) = srow (L.filter ne_) := by rw [← hf]; exact rec_take encS_len M i
        rw [h2] at h1
        simp only [List.append_assoc, Array.length_toList] at h1
        refine ⟨⟨i, rfl, ?_, h1.1⟩, HBr.out.trans h1.2⟩
        rw [← hf, List.length_take, HM.out.1]
        exact Nat.min_eq_left i8
end Go.Proofs.Ytidlkomgondkiaa
