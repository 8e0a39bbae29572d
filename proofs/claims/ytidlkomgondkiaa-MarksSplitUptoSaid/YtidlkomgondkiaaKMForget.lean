/-
  The program's Forget: what was written up to a version is known no more.
-/
import Derived.Test.YtidlkomgondkiaaKMJudges
import Derived.Test.YtidlkomgondkiaaG5
import Derived.Test.YtidlkomgondkiaaKTurns
namespace Go.Proofs.Ytidlkomgondkiaa
open Go.RowKit
set_option linter.unusedVariables false
set_option linter.unusedSimpArgs false
/-- The sorts of Marks' blocks. -/
def isMarks (t : TypeId) : Prop := t = 77 ∨ t = 91
/-- It was written behind a version. -/
def newer (v : Int) (k : Mk) : Bool := !decide (k.2 ≤ v)
theorem gone_b (k : Mk) (v : Int) (vb : Nat) (w : World) (hs : w.heap[vb]? = some (.cells #[.int .i64 v] 3 (0, 0))) :
    Calls Try.prog 47 #[.agg #[.string k.1.1, .string k.1.2, .int .i64 k.2], .pointer (some ⟨vb, 0, none⟩)] w fun e w' => e = .returned (.bool (decide (k.2 ≤ v))) ∧ Later w w' := by
  have hs0 := cell_of_row _ _ 0 _ _ (0, 0) (row_al hs (.cells #[.string k.1.1, .string k.1.2, .int .i64 k.2] 91))
  clear hs
  go_enter Try.func47, Try.ntmps47
  go_wp2_with fail
  go_ret
  exact ⟨rfl, later_alloc _ _⟩
/-- The first that is forgotten. -/
def GoneAt (L : List Mk) (v : Int) (r : Int) : Prop := (r < 0 ∧ r = -1 ∧ ∀ k, k ∈ L → ¬ k.2 ≤ v) ∨ ∃ i : Nat, r = (i : Int) ∧ i < L.length ∧ (∀ k, k ∈ L.take i → ¬ k.2 ≤ v) ∧ ∃ k, L[i]? = some k ∧ k.2 ≤ v
def GonePost (L : List Mk) (v : Int) (w : World) (e : Ending) (w' : World) : Prop := (∃ r : Int, e = .returned (.int .i64 r) ∧ GoneAt L v r) ∧ Later w w'
set_option maxHeartbeats 2000000 in
theorem gindex_any {w : World} {A : Option Addr} {n c vb : Nat} {L : List Mk} (v : Int) (hr : Rd w 3 A n (mrow L)) (hl : L.length = n) (hn : n ≤ 4398046511104) (hs : w.heap[vb]? = some (.cells #[.int .i64 v] 3 (0, 0))) :
    Calls Try.prog 57 #[.slice A n c, .func (.func 47) #[] #[.pointer (some ⟨vb, 0, none⟩)]] w (GonePost L v w) := by
  have HR := hide_ hr; have HL := hide_ hl; have HS := hide_ hs
  have hn2 : (n : Int) ≤ 4398046511104 := by omega
  clear hr hl hs
  go_enter Try.func57, Try.ntmps57
  go_wp2_with fail
  go_loopw [8] (fun s8 wr => ∃ (k : Nat), k ≤ n ∧ s8 = .int .i64 k ∧ Hid (∀ m, m ∈ L.take k → v < m.2) ∧ Hid (Later w wr)) (fun i _ => n - (intOf i).toNat)
  case atStart => exact ⟨0, Nat.zero_le _, rfl, hide_ (by simp), hide_ (Later.refl _)⟩
  case round =>
    obtain ⟨k, hk, rfl, HN, HB⟩ := hrel
    by_cases hlt : k < n
    · have q1 : (k : Int) < (n : Int) := by omega
      have q2 : (k : Int) ≤ 4398046511104 := by omega
      obtain ⟨m, hm⟩ : ∃ m, L[k]? = some m := ⟨_, List.getElem?_eq_getElem (by rw [HL.out]; exact hlt)⟩
      obtain ⟨b, o, rfl, l0, l1, l2⟩ := (HR.out.below HB.out).mark hm
      have HM := hide_ hm
      have hbh := hide_ (gone_b m v vb wr ((HB.out.block vb (heap_lt0 HS.out)).trans HS.out))
      clear hm
      go_wp2_with fail
      refine hbh.out.mono ?_; rintro e w5 ⟨rfl, hb5⟩
      have HB5 := hide_ (Later.trans HB.out hb5)
      clear hbh hb5
      by_cases he : m.2 ≤ v
      · rw [decide_eq_true he]
        have HE := hide_ he
        clear he
        go_wp2_with fail
        go_ret
        exact ⟨⟨_, rfl, .inr ⟨k, rfl, by rw [HL.out]; exact hlt, fun k hk => Int.not_le.2 (HN.out k hk), m, HM.out, HE.out⟩⟩, HB5.out⟩
      · rw [decide_eq_false he]
        have HE := hide_ he
        clear he
        go_wp2_with fail
        go_roundw
        case rel => exact ⟨k + 1, by omega, by go_num, hide_ (fun j hj => by rw [take_snoc HM.out] at hj; rcases List.mem_append.1 hj with hj | hj; exact HN.out j hj; rw [List.mem_singleton.1 hj]; exact HE.out), HB5⟩
        case measure => simp [intOf]; omega
    · obtain rfl : k = n := by omega
      have HF := hide_ (show ∀ m, m ∈ L → v < m.2 by have := HN.out; rwa [← HL.out, List.take_length] at this)
      go_wp2_with fail
      go_ret
      exact ⟨⟨_, rfl, .inl ⟨by decide, rfl, fun k hk => Int.not_le.2 (HF.out k hk)⟩⟩, HB.out⟩
theorem mark_set {L : List Mk} {i : Nat} (hi : i < L.length) (s : Mk) : mrow (L.set i s) = (((mrow L).set (i * 3) (.string s.1.1)).set (i * 3 + 1) (.string s.1.2)).set (i * 3 + 2) (.int .i64 s.2) := by
  unfold mrow
  rw [rec_set encM_len hi]
  have hl := mrow_len L
  unfold mrow at hl
  generalize L.flatMap encM = R at hl
  apply List.ext_getElem?
  intro t
  have e1 : (R.take (i * 3)).length = i * 3 := by rw [List.length_take]; omega
  rw [List.getElem?_set, List.getElem?_set, List.getElem?_set]
  simp only [encM, List.append_assoc, List.length_set]
  by_cases h1 : t < i * 3
  · rw [List.getElem?_append_left (by omega), List.getElem?_take, if_pos h1, if_neg (by omega), if_neg (by omega), if_neg (by omega)]
  · rw [List.getElem?_append_right (by omega), e1]
    by_cases h2 : t = i * 3
    · subst h2
      rw [if_neg (by omega), if_neg (by omega), if_pos rfl, if_pos (by omega), Nat.sub_self]; rfl
    · by_cases h3 : t = i * 3 + 1
      · subst h3
        rw [if_neg (by omega), if_pos rfl, if_pos (by omega), show i * 3 + 1 - i * 3 = 1 from by omega]; rfl
      · by_cases h4 : t = i * 3 + 2
        · subst h4
          rw [if_pos rfl, if_pos (by omega), show i * 3 + 2 - i * 3 = 2 from by omega]; rfl
        · rw [if_neg (by omega), if_neg (by omega), if_neg (by omega), List.getElem?_append_right (by simp; omega), List.getElem?_drop]
          congr 1
          simp only [List.length_cons, List.length_nil]
          omega
theorem newer_all {v : Int} {L : List Mk} (h : ∀ k, k ∈ L → ¬ k.2 ≤ v) : L.filter (newer v) = L := List.filter_eq_self.2 fun k hk => by simp [newer]; have := h k hk; omega
theorem own_sort {w : World} {B g n cap size : Nat} {e : TypeId} {xs : List Value} {S : TypeId → Prop} (h : w.ownsRow B e size (.slice (some ⟨g, 0, none⟩) n cap) n xs) (hS : S e) : OfSort S w g := by
  obtain ⟨cur, _, hg, _⟩ := own_row h
  exact OfSort.of hg hS
set_option maxHeartbeats 2000000 in
theorem mdelete_any {w : World} {B g n cap vb : Nat} {L : List Mk} (v : Int) (ho : w.ownsRow B 91 3 (.slice (some ⟨g, 0, none⟩) n cap) n (mrow L)) (hl : L.length = n) (hn : n ≤ 4398046511104) (hBw : B ≤ w.heap.size) (hs : w.heap[vb]? = some (.cells #[.int .i64 v] 3 (0, 0))) :
    Calls Try.prog 46 #[.slice (some ⟨g, 0, none⟩) n cap, .func (.func 47) #[] #[.pointer (some ⟨vb, 0, none⟩)]] w fun e w' =>
      (∃ m, e = .returned (.slice (some ⟨g, 0, none⟩) m cap) ∧ (L.filter (newer v)).length = m ∧ w'.ownsRow B 91 3 (.slice (some ⟨g, 0, none⟩) m cap) m (mrow (L.filter (newer v)))) ∧ Turns B (· = 91) w w' := by
  have hidx := hide_ (gindex_any (c := cap) v (Rd.of_own ho) hl (by omega) hs)
  have HO := hide_ ho
  have HL := hide_ hl
  have HVB := hide_ hs
  have hgB := hide_ (ho.lt g rfl).1
  have hOS := hide_ (own_sort (S := (· = 91)) ho rfl)
  have hnc := hide_ (own_cap ho)
  have hcm := hide_ (own_row ho).choose_spec.2.2.2.1
  clear ho hl hs
  go_enter Try.func46, Try.ntmps46
  go_wp2_with fail
  refine (hidx.out).mono ?_; rintro e w1 ⟨⟨i, rfl, hi⟩, hb1⟩
  have HO1 := hide_ (own_below HO.out hb1)
  have HB1 := hide_ (Turns.later (S := (· = 91)) hb1 hBw)
  have HV1 := hide_ ((hb1.block vb (heap_lt0 HVB.out)).trans HVB.out)
  clear hb1
  rcases hi with ⟨-, rfl, ha⟩ | ⟨k, rfl, hkn, ha, s0, hs0, he0⟩
  · have HA := hide_ (newer_all ha)
    clear ha
    go_wp2_with fail
    go_ret
    exact ⟨⟨n, rfl, by rw [HA.out, HL.out], by rw [HA.out]; exact HO1.out⟩, HB1.out⟩
  · have hkn : k < n := by have := HL.out; omega
    have hst : L.take k = (L.take (k + 1)).filter (newer v) := by
      rw [take_snoc hs0, List.filter_append, newer_all ha]
      have : newer v s0 = false := by simp [newer]; exact he0
      simp [this]
    have HST := hide_ hst
    have q1 : ((k : Int) == -1) = false := by rw [beq_eq_false_iff_ne]; omega
    have q2 : (k : Int) ≤ 4398046511104 := by omega
    have q3 : (0 : Int) ≤ (k : Int) := by omega
    clear ha hs0 he0 hst
    go_wp2_with fail
    go_loopw [5, 6, 7] (fun s5 s6 _ wr => ∃ (i j : Nat) (M : List Mk), i < j ∧ j ≤ n ∧ s5 = .int .i64 i ∧ s6 = .int .i64 j ∧ Hid (M.length = n ∧ M.take i = (L.take j).filter (newer v) ∧ M.drop j = L.drop j) ∧ Hid (wr.ownsRow B 91 3 (.slice (some ⟨g, 0, none⟩) n cap) n (mrow M)) ∧ Hid (wr.heap[vb]? = some (.cells #[.int .i64 v] 3 (0, 0))) ∧ Hid (Turns B (· = 91) w wr)) (fun _ j _ _ => n - (intOf j).toNat)
    case atStart => exact ⟨k, k + 1, L, by omega, by omega, rfl, by go_num, ⟨HL.out, HST.out, rfl⟩, HO1.out, HV1, HB1.out⟩
    case round =>
      obtain ⟨i, j, M, hij, hj, rfl, rfl, HM, HOr, HVr, HBr⟩ := hrel
      have i1 : (0 : Int) ≤ (i : Int) := by omega
      have i2 : (i : Int) ≤ 4398046511104 := by omega
      have j1 : (0 : Int) ≤ (j : Int) := by omega
      have j2 : (j : Int) ≤ 4398046511104 := by omega
      by_cases hlt : j < n
      · have q4 : (j : Int) < (n : Int) := by omega
        obtain ⟨s, hs⟩ : ∃ s, L[j]? = some s := ⟨_, List.getElem?_eq_getElem (by rw [HL.out]; exact hlt)⟩
        have hms : M[j]? = some s := by
          have := congrArg (fun l => l[0]?) HM.out.2.2
          simpa [hs] using this
        obtain ⟨b, o, hbo, c1, c2, c3⟩ := (Rd.of_own HOr.out).mark hms
        injection hbo with hbo
        injection hbo with hb1 hb2
        subst hb1; subst hb2
        simp only [Nat.zero_add] at c1 c2 c3
        have HS := hide_ hs
        have HTN := hide_ (take_snoc hs)
        have hal := hide_ (later_alloc wr (.cells #[.string s.1.1, .string s.1.2, .int .i64 s.2] 91))
        have hbh := hide_ (gone_b s v vb _ ((hal.out.block vb (heap_lt0 HVr.out)).trans HVr.out))
        clear hs hms
        by_cases he : s.2 ≤ v
        · have HNE := hide_ (show newer v s = false by simp [newer]; exact he)
          rw [decide_eq_true he] at hbh
          clear he
          go_wp2_with fail
          refine hbh.out.mono ?_; rintro e w5 ⟨rfl, hb5⟩
          have hb6 := Later.trans hal.out hb5
          have HO5 := hide_ (own_below HOr.out hb6)
          have HV5 := hide_ ((hb6.block vb (heap_lt0 HVr.out)).trans HVr.out)
          have HB5 := hide_ (HBr.out.trans (Turns.later hb6 (Nat.le_trans hBw HBr.out.size)))
          clear hb5 hb6 hbh
          go_wp2_with fail
          go_roundw
          case rel =>
            refine ⟨i, j + 1, M, by omega, by omega, rfl, by go_num, ⟨HM.out.1, ?_, ?_⟩, HO5, HV5, HB5⟩
            · rw [HM.out.2.1, HTN.out, List.filter_append]; simp [HNE.out]
            · have := congrArg (List.drop 1) HM.out.2.2
              simpa [List.drop_drop] using this
          case measure => simp [intOf]; omega
        · have HNE := hide_ (show newer v s = true by simp [newer]; omega)
          rw [decide_eq_false he] at hbh
          clear he
          have i4 : i < n := by omega
          obtain ⟨t, ht⟩ : ∃ t, M[i]? = some t := ⟨_, List.getElem?_eq_getElem (by rw [HM.out.1]; exact i4)⟩
          go_wp2_with fail
          refine hbh.out.mono ?_; rintro e w5 ⟨rfl, hb5⟩
          have hb6 := Later.trans hal.out hb5
          have HO5 := hide_ (own_below HOr.out hb6)
          have HV5 := hide_ ((hb6.block vb (heap_lt0 HVr.out)).trans HVr.out)
          have HB5 := hide_ (HBr.out.trans (Turns.later hb6 (Nat.le_trans hBw HBr.out.size)))
          have HX5 := hide_ (show w5.heap[wr.heap.size]? = some (.cells #[.string s.1.1, .string s.1.2, .int .i64 s.2] 91 (0, 0)) from (hb5.block _ (by simp)).trans (heap_alloc_new _ _))
          have x0 := cell_of_row _ _ 0 _ _ (0, 0) HX5.out
          have x1 := cell_of_row _ _ 1 _ _ (0, 0) HX5.out
          have x2 := cell_of_row _ _ 2 _ _ (0, 0) HX5.out
          obtain ⟨b, o, hbo, d1, d2, d3⟩ := (Rd.of_own HO5.out).mark ht
          injection hbo with hbo
          injection hbo with hb1 hb2
          subst hb1; subst hb2
          simp only [Nat.zero_add] at d1 d2 d3
          obtain ⟨cur, _, hgc, _⟩ := own_row HO5.out
          have f1 := frozen_of_row _ _ (i * 3) _ _ hgc
          have f2 := frozen_of_row _ _ (i * 3 + 1) _ _ hgc
          have f3 := frozen_of_row _ _ (i * 3 + 2) _ _ hgc
          have i3 : (i : Int) < (n : Int) := by omega
          have HW5 := hide_ (HO5.out.stored (i * 3) (.string s.1.1))
          clear hb5 hb6 hbh ht hgc
          go_wp2_with fail
          go_roundw
          case rel =>
            have HBN := ((HB5.out.setCell hgB.out hOS.out (i * 3) (.string s.1.1)).setCell hgB.out hOS.out (i * 3 + 1) (.string s.1.2)).setCell hgB.out hOS.out (i * 3 + 2) (.int .i64 s.2)
            refine ⟨i + 1, j + 1, M.set i s, by omega, by omega, by go_num, by go_num, ⟨by rw [List.length_set]; exact HM.out.1, ?_, ?_⟩, ?_, HBN.row HVB.out (by decide), HBN⟩
            · rw [HTN.out, List.filter_append, ← HM.out.2.1]
              have hs1 : (M.set i s)[i]? = some s := by rw [List.getElem?_set_self]; rw [HM.out.1]; exact i4
              rw [take_snoc hs1, List.take_set_of_le (Nat.le_refl i)]
              simp [HNE.out]
            · rw [List.drop_set_of_lt (by omega)]
              have := congrArg (List.drop 1) HM.out.2.2
              simpa [List.drop_drop] using this
            · rw [mark_set (by rw [HM.out.1]; exact i4)]
              exact own_setCell (own_setCell (own_setCell HO5.out _ _) _ _) _ _
          case measure => simp [intOf]; omega
      · have hjn : j = n := by omega
        obtain ⟨cur, hcB, hgc, _, hcc, hcs, _⟩ := own_row HOr.out
        have hncc := hnc.out
        have i5 : ¬ cap = i := by omega
        have i6 : (i : Int) ≤ (n : Int) := by omega
        have i7 : (n : Int) ≤ (cap : Int) := by omega
        have i8 : i ≤ n := by omega
        have i9 : i ≤ cap := by omega
        have i10 : (i : Int) ≤ (cap : Int) := by omega
        have hclr : ∀ ty, (Builtin.clear_ #[75] ty #[.slice (some ⟨g, i * 3, none⟩) (n - i) (cap - i)]).run Try.prog wr = .ok (.tuple #[]) (wr.setRow g _) := fun ty =>
          run_clear_row 75 91 ty (.agg #[.string ByteArray.empty, .string ByteArray.empty, .int .i64 0]) 3 Try.underlying75 (fun w => by kernel_rfl) rfl (by intro u hu; simp [Value.cells] at hu; rcases hu with rfl | rfl | rfl <;> rfl) (by omega) wr g (i * 3) (n - i) (cap - i) cur (by omega) hgc (by rw [hcs]; omega)
        have HOW := hide_ (own_clear HOr.out hgc i8 (Z := (Builtin.zeroCells (Value.agg #[.string ByteArray.empty, .string ByteArray.empty, .int .i64 0]).cells (n - i)).toList) (by rw [Array.length_toList, size_zeroCells]; rfl))
        have HTJ := hide_ hjn
        clear hjn hgc hcc hcs hncc
        go_wp2_with fail
        go_ret
        have hf : M.take i = L.filter (newer v) := by rw [HM.out.2.1, HTJ.out, ← HL.out, List.take_length]
        have h1 := HOW.out
        have h2 : (mrow M).take (i * 3) = mrow (L.filter (newer v)) := by rw [← hf]; exact rec_take encM_len M i
        rw [h2] at h1
        simp only [List.append_assoc, Array.length_toList] at h1
        refine ⟨⟨i, rfl, ?_, h1.1⟩, HBr.out.setRow hgB.out hOS.out _⟩
        rw [← hf, List.length_take, HM.out.1]
        exact Nat.min_eq_left i8
set_option maxHeartbeats 1000000 in
theorem mdelete_all {w : World} {B n c vb : Nat} {A : Option Addr} {L : List Mk} (v : Int) (ho : w.ownsRow B 91 3 (.slice A n c) n (mrow L)) (hl : L.length = n) (hn : n ≤ 4398046511104) (hBw : B ≤ w.heap.size) (hs : w.heap[vb]? = some (.cells #[.int .i64 v] 3 (0, 0))) :
    Calls Try.prog 46 #[.slice A n c, .func (.func 47) #[] #[.pointer (some ⟨vb, 0, none⟩)]] w fun e w' =>
      (∃ A' m c', e = .returned (.slice A' m c') ∧ (L.filter (newer v)).length = m ∧ w'.ownsRow B 91 3 (.slice A' m c') m (mrow (L.filter (newer v)))) ∧ Turns B (· = 91) w w' := by
  rcases own_cases ho with ⟨rfl, rfl, rfl, hx⟩ | ⟨g, rfl⟩
  · obtain rfl : L = [] := List.length_eq_zero_iff.1 hl
    have hidx := hide_ (gindex_any (c := 0) v (Rd.of_own ho) hl (by omega) hs)
    clear ho hl hs hx
    go_enter Try.func46, Try.ntmps46
    go_wp2_with fail
    refine (hidx.out).mono ?_; rintro e w1 ⟨⟨i, rfl, hi⟩, hb1⟩
    obtain rfl : i = -1 := by
      rcases hi with ⟨_, h, _⟩ | ⟨i, _, h, _⟩
      · exact h
      · exact absurd h (Nat.not_lt_zero _)
    have HB1 := hide_ (Turns.later (S := (· = 91)) hb1 hBw)
    clear hi hb1 hidx
    go_wp2_with fail
    go_ret
    exact ⟨⟨none, 0, 0, rfl, rfl, World.ownsRow_nil _ _ _ _⟩, HB1.out⟩
  · refine (mdelete_any v ho hl hn hBw hs).mono ?_
    rintro e w' ⟨⟨m, rfl, h1, h2⟩, h3⟩
    exact ⟨⟨_, m, c, rfl, h1, h2⟩, h3⟩
/-- What Forget answers, and leaves. -/
def ForgetPost (B0 : Nat) (L : List Mk) (f l v : Int) (w : World) (e : Ending) (w' : World) : Prop :=
  ((v < f ∧ e = .returned (.int .i64 7) ∧ MK w' B0 L f l) ∨ (f ≤ v ∧ e = .returned (.int .i64 0) ∧ MK w' B0 (L.filter (newer v)) v l)) ∧ Turns B0 isMarks w w'
set_option maxHeartbeats 2000000 in
theorem forget_any {w : World} {B0 : Nat} {L : List Mk} {f l : Int} (v : Int) (hm : MK w B0 L f l) (hn : L.length ≤ 1048576) :
    Calls Try.prog 23 #[.pointer (some ⟨B0, 0, none⟩), .int .i64 v] w (ForgetPost B0 L f l v w) := by
  have HMK := hide_ hm
  obtain ⟨A, n, c, hma, ho, hl⟩ := hm
  have hx := row_al hma (.cells #[.int .i64 v] 3)
  have m0 := cell_of_row _ _ 0 _ _ (0, 0) hx
  have m1 := cell_of_row _ _ 1 _ _ (0, 0) hx
  have fz := fun k => frozen_of_row _ _ k _ _ hx
  have HMA := hide_ hma; have HO := hide_ ho; have HL := hide_ hl
  have hB : B0 < w.heap.size := heap_lt0 hma
  clear hma ho hl hx
  by_cases e1 : v < f
  · have E1 := hide_ e1
    go_enter Try.func23, Try.ntmps23
    go_wp2_with fail
    go_quiet (fail)
    have hb0 := below_drewN (later_alloc w (.cells #[.int .i64 v] 3)) nq
    obtain ⟨W1, hW1⟩ : ∃ W1, W1 = (w.alloc (.cells #[.int .i64 v] 3)).drewN nq := ⟨_, rfl⟩
    rw [← hW1] at hb0 ⊢
    have HB0 := hide_ hb0
    clear hb0 hW1
    go_wp2_with fail
    go_ret
    exact ⟨.inl ⟨E1.out, rfl, HMK.out.below HB0.out⟩, Turns.later HB0.out (Nat.le_of_lt hB)⟩
  · have E1 := hide_ e1
    have HVB := hide_ (heap_alloc_new w (.cells #[.int .i64 v] 3))
    go_enter Try.func23, Try.ntmps23
    go_wp2_with fail
    go_quiet (fail)
    have hb0 := below_drewN (later_alloc w (.cells #[.int .i64 v] 3)) nq
    obtain ⟨W1, hW1⟩ : ∃ W1, W1 = (w.alloc (.cells #[.int .i64 v] 3)).drewN nq := ⟨_, rfl⟩
    have HV1 := hide_ (show W1.heap[w.heap.size]? = some (.cells #[.int .i64 v] 3 (0, 0)) by rw [hW1]; exact HVB.out)
    rw [← hW1] at hb0 ⊢
    have v0 := cell_of_row _ _ 0 _ _ (0, 0) HV1.out
    have hx1 := (hb0.block B0 hB).trans HMA.out
    have HX1 := hide_ hx1
    have n0 := cell_of_row _ _ 0 _ _ (0, 0) hx1
    have n1 := cell_of_row _ _ 1 _ _ (0, 0) hx1
    have gz := fun k => frozen_of_row _ _ k _ _ hx1
    have HTB := hide_ (Turns.later (B := B0) (S := isMarks) hb0 (Nat.le_of_lt hB))
    have HSB := hide_ (show OfSort isMarks w B0 from OfSort.of HMA.out (.inl rfl))
    have HT1 := hide_ (HTB.out.setCell (Nat.le_refl _) HSB.out 1 (.int .i64 v))
    have HO1 := hide_ (own_below HO.out hb0)
    have HSZ := hide_ hb0.size
    clear hb0 m0 m1 fz hx1 hW1
    go_wp2_with fail
    have hos : (W1.setCell ⟨B0, 1, none⟩ (.int .i64 v)).ownsRow (B0 + 1) 91 3 (.slice A n c) n (mrow L) := HO1.out.kept (grown_setCell (World.grownBy.refl W1 (some B0)) (.inl rfl) _) (.inr fun h2 => by have := (HO1.out.lt _ h2).1; omega)
    have hvs : (W1.setCell ⟨B0, 1, none⟩ (.int .i64 v)).heap[w.heap.size]? = some (.cells #[.int .i64 v] 3 (0, 0)) := (Below.heap_setCell _ _ _ _ (fun e => by have e : w.heap.size = B0 := e; omega)).trans HV1.out
    refine (mdelete_all v hos HL.out (by have := HL.out; omega) (by have := HSZ.out; simp [World.setCell]; omega) hvs).mono ?_; rintro e w2 ⟨⟨A', m, c', rfl, hm2, ho2⟩, hT2⟩
    have hx2 : w2.heap[B0]? = some (.cells #[.slice A n c, .int .i64 v, .int .i64 l] 77 (0, 0)) := (hT2.block B0 (by omega)).trans (heap_setCell_same W1 B0 1 _ _ (.int .i64 v) HX1.out)
    have HX2 := hide_ hx2
    have n3 := fun k => frozen_of_row _ _ k _ _ hx2
    have n4 := cell_of_row _ _ 0 _ _ (0, 0) hx2
    have HO2 := hide_ ho2; have HM2 := hide_ hm2
    have HT2 := hide_ (HT1.out.trans (hT2.mono (by omega) (fun t ht => .inr ht)))
    clear hos hvs ho2 hm2 hT2 hx2 n0 n1 gz v0
    go_wp2_with fail
    go_ret
    refine ⟨.inr ⟨E1.out, rfl, A', m, c', heap_setCell_same w2 B0 0 _ _ (.slice A' m c') HX2.out, ?_, HM2.out⟩, HT2.out.setCell (Nat.le_refl _) HSB.out 0 _⟩
    exact HO2.out.kept (grown_setCell (World.grownBy.refl w2 (some B0)) (.inl rfl) _) (.inr fun h2 => by have := (HO2.out.lt _ h2).1; omega)

end Go.Proofs.Ytidlkomgondkiaa
