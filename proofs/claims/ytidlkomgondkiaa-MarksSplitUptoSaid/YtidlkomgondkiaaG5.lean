/-
  Texts of this seat in one: SpanA, SpanB, SpanC, SpanD.
-/
import Derived.Test.YtidlkomgondkiaaKStr
import Derived.Test.YtidlkomgondkiaaKSortOwn
import Derived.Test.YtidlkomgondkiaaKSortLay
import Derived.Test.YtidlkomgondkiaaG3
import Derived.Shelf.SlSortCmp.NoneTotal
/-
  Spans in memory; what the short functions of the package span do.
-/
namespace Go.Proofs.Ytidlkomgondkiaa
open Go.RowKit Go.Sort
set_option linter.unusedVariables false
set_option linter.unusedSimpArgs false
/-- A span: from, to. -/
abbrev Spn := ByteArray × ByteArray
def encS (s : Spn) : List Value := [.string s.1, .string s.2]
def srow (L : List Spn) : List Value := L.flatMap encS
theorem encS_len (s : Spn) : (encS s).length = 2 := rfl
theorem encS_one (s : Spn) : ∀ u ∈ encS s, u.oneCell' = true := by
  intro u hu
  simp only [encS, List.mem_cons, List.not_mem_nil, or_false] at hu
  rcases hu with rfl | rfl <;> rfl
theorem srow_len (L : List Spn) : (srow L).length = L.length * 2 := rec_len encS_len L
theorem srow_one (L : List Spn) : ∀ u ∈ srow L, u.oneCell' = true := rec_one encS_one L
theorem srow_fst {L : List Spn} {i : Nat} {s : Spn} (h : L[i]? = some s) : (srow L)[i * 2]? = some (.string s.1) := by
  have := rec_at encS_len h 0 (by omega); simpa [srow, encS] using this
theorem srow_snd {L : List Spn} {i : Nat} {s : Spn} (h : L[i]? = some s) : (srow L)[i * 2 + 1]? = some (.string s.2) := by
  have := rec_at encS_len h 1 (by omega); simpa [srow, encS] using this
theorem spanT : ElemT Try.prog 29 24 2 32 := elem_mk (z := .agg #[.string ByteArray.empty, .string ByteArray.empty]) Try.underlying29 (by kernel_rfl) rfl (by decide)
/-- The cells of element i of a slice that reads as spans. -/
theorem Rd.span {w : World} {A : Option Addr} {n : Nat} {L : List Spn} (h : Rd w 2 A n (srow L)) {i : Nat} {s : Spn} (hi : L[i]? = some s) :
    ∃ b o, A = some ⟨b, o, none⟩ ∧ w.cell? ⟨b, o + i * 2, none⟩ = some (.string s.1) ∧ w.cell? ⟨b, o + i * 2 + 1, none⟩ = some (.string s.2) := by
  have hl := (List.getElem?_eq_some_iff.1 (srow_fst hi)).1
  obtain ⟨b, o, e, hc⟩ := h.2 (by omega)
  exact ⟨b, o, e, hc _ _ (srow_fst hi), hc _ _ (srow_snd hi)⟩
theorem own_base {w : World} {base base' : Nat} {e : TypeId} {size n : Nat} {v : Value} {xs : List Value} (h : w.ownsRow base e size v n xs) (hb : base' ≤ base) : w.ownsRow base' e size v n xs := by
  refine ⟨h.1, ?_⟩
  rcases h.2 with h0 | ⟨g, cap, cur, hv, hbb, hh, hr⟩
  · exact .inl h0
  · exact .inr ⟨g, cap, cur, hv, by omega, hh, hr⟩
theorem cell_alloc {w : World} {b o : Nat} {u : Value} (h : w.cell? ⟨b, o, none⟩ = some u) : ∀ ob, (w.alloc ob).cell? ⟨b, o, none⟩ = some u := fun ob => (World.cell?_alloc_lt w ob _ (cell_lt h)).trans h
theorem row_alloc {w : World} {g : Nat} {x : Obj} (h : w.heap[g]? = some x) (ob : Obj) : (w.alloc ob).heap[g]? = some x := by
  rw [Below.heap_alloc _ _ _ (by rcases Nat.lt_or_ge g w.heap.size with hlt | hge; exact hlt; rw [Array.getElem?_eq_none hge] at h; cases h)]; exact h
set_option maxHeartbeats 400000 in
theorem empty_any (a b : ByteArray) (w : World) : Calls Try.prog 42 #[.agg #[.string a, .string b]] w fun e w' => e = .returned (.bool (decide (b ≤ a))) ∧ w' = w.alloc (.cells #[.string a, .string b] 24) := by
  have h1 : (!(Op.bytesLess a.toList b.toList)) = decide (b ≤ a) := by rw [bl]; by_cases h : a < b <;> simp [h] <;> grind
  have H1 := Lib.hid h1
  clear h1
  go_enter Try.func42, Try.ntmps42
  go_wp2
  go_ret
  exact ⟨by rw [H1.out]; rfl, rfl⟩
set_option maxHeartbeats 400000 in
theorem order_any (x y : Spn) (W : World) : Calls Try.prog 69 #[.agg #[.string x.1, .string x.2], .agg #[.string y.1, .string y.2]] W fun e w' => e = .returned (.int .i64 (cmpS x.1 y.1)) ∧ ∃ q os', w' = grow (W.drewN q) os' := by
  have hcon := fun W' => compare_any x.1 y.1 W'
  generalize cmpS x.1 y.1 = r at hcon ⊢
  go_enter Try.func69, Try.ntmps69
  go_wp2_with (go_at_call 70; refine (hcon _).mono ?_; rintro e w' ⟨rfl, rfl⟩)
  go_ret
  exact ⟨rfl, 0, _, by rw [alloc_eq_grow, alloc_eq_grow, grow_grow]; rfl⟩
theorem order_lays (blk off size : Nat) (w : World) : CmpLays Try.prog 69 #[] encS 2 (fun x y => cmpS x.1 y.1) blk off size w :=
  fun _ _ _ _ x y => order_any x y _
theorem order_lt (x y : Spn) : ltOf (fun x y : Spn => cmpS x.1 y.1) x y = decide (x.1 < y.1) := cmpS_neg x.1 y.1
theorem order_swo : SWO (ltOf fun x y : Spn => cmpS x.1 y.1) :=
  ⟨fun x => by rw [order_lt]; simp; grind, fun x y z h1 h2 => by rw [order_lt] at *; simp at *; grind, fun x y z h1 h2 => by rw [order_lt] at *; simp at *; grind⟩
/-- slices.SortFunc of spans of an own row. -/
theorem sort_any {w : World} {base g cap : Nat} {L : List Spn} (ho : w.ownsRow base 24 2 (.slice (some ⟨g, 0, none⟩) L.length cap) L.length (srow L)) (hn : L.length < 4611686018427387904) :
    Calls Try.prog 68 #[.slice (some ⟨g, 0, none⟩) L.length cap, .func (.func 69) #[] #[]] w fun e w' => e = .returned (.tuple #[]) ∧
      ∃ L' : List Spn, L'.length = L.length ∧ L'.Perm L ∧ (∀ (i j : Nat) (x y : Spn), i < j → L'[i]? = some x → L'[j]? = some y → x.1 ≤ y.1) ∧ w'.ownsRow base 24 2 (.slice (some ⟨g, 0, none⟩) L.length cap) L.length (srow L') ∧ Below base w w' := by
  have eg : ∀ args w, (callFunc 69 args).run Try.prog w = .ok (.enter 69 args) w := enters_of Try.func69 (by kernel_rfl) rfl
  have hlt : g < w.heap.size := (ho.lt g rfl).2
  have hcon := AnyQ.slices_SortFunc sortSpans 2 Try.isAgg24 Try.sizeOf24 encS encS_len encS_one (fun x y => cmpS x.1 y.1) order_swo 69 #[] g 0 cap L.toArray w eg (order_lays g 0 L.toArray.size w) (holdsK_own encS_len ho) hlt (by simpa using hn)
  change Calls Try.prog 68 #[.slice (some ⟨g, 0, none⟩) L.length cap, .func (.func 69) #[] #[]] w _ at hcon
  refine hcon.mono fun e w' ⟨he, h⟩ => ⟨he, ?_⟩
  obtain ⟨L', h1, h2, h3, h4, h5⟩ := sort_own encS_len (lt := ltOf fun x y : Spn => cmpS x.1 y.1) ho (by simpa using h)
  refine ⟨L', h1, h2, fun i j x y hij hx hy => ?_, h4, h5⟩
  have := h3 i j x y hij hx hy
  rw [order_lt] at this
  simp at this
  grind
end Go.Proofs.Ytidlkomgondkiaa
/-
  Library functions at spans: Clone, Clip, IndexFunc.
-/
namespace Go.Proofs.Ytidlkomgondkiaa
open Go.RowKit
set_option linter.unusedVariables false
set_option linter.unusedSimpArgs false
set_option maxHeartbeats 400000 in
theorem sclone_nil (c : Nat) (w : World) : Calls Try.prog 67 #[.slice none 0 c] w fun e w' => e = .returned (.slice none 0 0) ∧ w = w' := by
  have hq := fun W => eql_slice_nil_any Try.underlying29 W none 0 c 0 0
  go_enter Try.func67, Try.ntmps67
  go_wp2_with fail
  go_ret
  exact ⟨rfl, rfl⟩
set_option maxHeartbeats 400000 in
theorem sclone_some {w : World} {b o n : Nat} {L : List Spn} (hr : Rd w 2 (some ⟨b, o, none⟩) n (srow L)) (c : Nat) (hb : n * 32 ≤ 140737488355328) (hn : n ≤ maxLen) :
    Calls Try.prog 67 #[.slice (some ⟨b, o, none⟩) n c] w fun e w' =>
      (∃ v, e = .returned v ∧ w'.ownsRow w.heap.size 24 2 v n (srow L)) ∧ Below w.heap.size w w' := by
  have hq := fun W => eql_slice_nil_any Try.underlying29 W (some ⟨b, o, none⟩) n c 0 0
  have HR := hide_ hr
  have hown := hide_ (own_new w #[] 24 2 0 w.heap.size rfl (Nat.zero_le _) (Nat.le_refl _))
  clear hr
  go_enter Try.func67, Try.ntmps67
  go_wp2_with (at_builtin; go_loud (refine wpList_append_rd _ rfl (.tmp 5) (.tmp 6) 29 rfl w.heap.size 24 2 32 spanT _ 0 [] rfl hown.out _ n _ (srow L) rfl (HR.out.alloc _) (srow_one L) (by omega) (by omega) (by simp) (fun h => nomatch h) ?_; intro v2 w2 hown2 hg2 hat2; have hb2 := hide_ (own_grown ((Below.refl _ _).alloc (Nat.le_refl _) _) hown.out hg2 (by simp)); have HO2 := hide_ hown2; clear hown2 hg2 hat2))
  go_ret
  have h2 := HO2.out
  simp only [Nat.zero_add, List.nil_append] at h2
  exact ⟨⟨_, rfl, h2⟩, hb2.out⟩
theorem sclone_any {w : World} {A : Option Addr} {n c : Nat} {L : List Spn} (hr : Rd w 2 A n (srow L)) (hA : A = none → n = 0) (hb : n * 32 ≤ 140737488355328) (hn : n ≤ maxLen) :
    Calls Try.prog 67 #[.slice A n c] w fun e w' =>
      (∃ v, e = .returned v ∧ w'.ownsRow w.heap.size 24 2 v n (srow L)) ∧ Below w.heap.size w w' := by
  rcases A with _ | a
  · obtain rfl := hA rfl
    have hL : srow L = [] := List.eq_nil_of_length_eq_zero (by simpa using hr.1)
    refine (sclone_nil c w).mono fun e w' ⟨he, hw⟩ => ?_
    subst hw
    exact ⟨⟨_, he, by rw [hL]; exact World.ownsRow_nil _ _ _ _⟩, Below.refl _ _⟩
  · by_cases h0 : 0 < (srow L).length
    · obtain ⟨b, o, e, _⟩ := hr.2 h0
      injection e with e
      subst e
      exact sclone_some hr c hb hn
    · have hn0 : n = 0 := by have := hr.1; omega
      subst hn0
      have hL : srow L = [] := List.eq_nil_of_length_eq_zero (by omega)
      have hq := fun W => eql_slice_nil_any Try.underlying29 W (some a) 0 c 0 0
      have hown := hide_ (own_new w #[] 24 2 0 w.heap.size rfl (Nat.zero_le _) (Nat.le_refl _))
      rw [hL]
      clear hr hA hb hL
      go_enter Try.func67, Try.ntmps67
      go_wp2_with (at_builtin; go_loud (refine wpList_append_rd _ rfl (.tmp 5) (.tmp 6) 29 rfl w.heap.size 24 2 32 spanT _ 0 [] rfl hown.out _ 0 _ [] rfl (Rd.nil _ _ _) (fun u hu => by cases hu) (by omega) (by omega) (by simp) (fun h => nomatch h) ?_; intro v2 w2 hown2 hg2 hat2; have hb2 := hide_ (own_grown ((Below.refl _ _).alloc (Nat.le_refl _) _) hown.out hg2 (by simp)); have HO2 := hide_ hown2; clear hown2 hg2 hat2))
      go_ret
      have h2 := HO2.out
      simp only [Nat.zero_add, List.nil_append] at h2
      exact ⟨⟨_, rfl, h2⟩, hb2.out⟩
set_option maxHeartbeats 400000 in
theorem clip_any (A : Option Addr) (n c : Nat) (hnc : n ≤ c) (hA : A = none → n = 0) (w : World) : Calls Try.prog 71 #[.slice A n c] w fun e w' => e = .returned (.slice A n n) ∧ w = w' := by
  have q : (n : Int) ≤ (c : Int) := by omega
  rcases A with _ | ⟨b, o, s⟩
  · obtain rfl := hA rfl
    clear hA
    go_enter Try.func71, Try.ntmps71
    go_wp2_with fail
    go_ret
    exact ⟨rfl, rfl⟩
  · clear hA
    go_enter Try.func71, Try.ntmps71
    go_wp2_with fail
    go_ret
    exact ⟨rfl, rfl⟩
/-- The first empty one. -/
def FirstE (L : List Spn) (i : Int) : Prop := (i = -1 ∧ ∀ (j : Nat) s, L[j]? = some s → s.1 < s.2) ∨ ∃ k : Nat, i = k ∧ (∀ (j : Nat) s, j < k → L[j]? = some s → s.1 < s.2) ∧ ∃ s, L[k]? = some s ∧ s.2 ≤ s.1
set_option maxHeartbeats 800000 in
theorem index_any {w : World} {A : Option Addr} {n c : Nat} {L : List Spn} (hr : Rd w 2 A n (srow L)) (hl : L.length = n) (hn : n ≤ 4611686018427387904) :
    Calls Try.prog 64 #[.slice A n c, .func (.func 42) #[] #[]] w fun e w' => (∃ i, e = .returned (.int .i64 i) ∧ FirstE L i) ∧ Below w.heap.size w w' := by
  have HR := hide_ hr
  have HL := hide_ hl
  clear hr hl
  go_enter Try.func64, Try.ntmps64
  go_wp2_with fail
  go_loopw [5, 8] (fun _ s8 wr => ∃ k : Nat, k ≤ n ∧ s8 = .int .i64 k ∧ Hid (Below w.heap.size w wr) ∧ Hid (∀ (j : Nat) s, j < k → L[j]? = some s → s.1 < s.2)) (fun _ i _ => n - (intOf i).toNat)
  case atStart => exact ⟨0, Nat.zero_le _, rfl, Below.refl _ w, fun j s hj => absurd hj (Nat.not_lt_zero _)⟩
  case round =>
    obtain ⟨k, hk, rfl, HB, HF⟩ := hrel
    by_cases hlt : k < n
    · have q1 : (k : Int) < (n : Int) := by omega
      obtain ⟨s, hs⟩ : ∃ s, L[k]? = some s := ⟨_, List.getElem?_eq_getElem (by rw [HL.out]; exact hlt)⟩
      obtain ⟨b, o, rfl, c1, c2⟩ := (HR.out.below HB.out).span hs
      have HS := hide_ hs
      clear hs
      by_cases he : s.2 ≤ s.1
      · have HE := hide_ he
        have hem := fun W => empty_any s.1 s.2 W
        rw [decide_eq_true he] at hem
        clear he
        go_wp2_with (go_at_call 42; refine (hem _).mono ?_; rintro e w' ⟨rfl, rfl⟩)
        go_ret
        exact ⟨⟨_, rfl, .inr ⟨k, rfl, HF.out, s, HS.out, HE.out⟩⟩, HB.out.alloc HB.out.size _⟩
      · have HE := hide_ he
        have hem := fun W => empty_any s.1 s.2 W
        rw [decide_eq_false he] at hem
        clear he
        go_wp2_with (go_at_call 42; refine (hem _).mono ?_; rintro e w' ⟨rfl, rfl⟩)
        go_roundw
        case rel =>
          refine ⟨k + 1, by omega, by go_num, HB.out.alloc HB.out.size _, fun j t hj ht => ?_⟩
          by_cases hjk : j = k
          · subst hjk
            have h1 := HS.out
            rw [h1] at ht
            injection ht with ht
            subst ht
            have := HE.out
            grind
          · exact HF.out j t (by omega) ht
        case measure => simp [intOf]; omega
    · have hkn : k = n := by omega
      subst hkn
      go_wp2_with fail
      go_ret
      refine ⟨⟨_, rfl, .inl ⟨rfl, fun j s hs => HF.out j s ?_ hs⟩⟩, HB.out⟩
      have := (List.getElem?_eq_some_iff.1 hs).1
      have := HL.out
      omega
end Go.Proofs.Ytidlkomgondkiaa
/-
  slices.DeleteFunc at spans.
-/
namespace Go.Proofs.Ytidlkomgondkiaa
open Go.RowKit
set_option linter.unusedVariables false
set_option linter.unusedSimpArgs false
/-- A row behind 'clear' of what lies from i on. -/
theorem own_clear {w : World} {base : Nat} {e : TypeId} {size g n cap : Nat} {xs : List Value} {cur : Array Value} (ho : w.ownsRow base e size (.slice (some ⟨g, 0, none⟩) n cap) n xs) (hg : w.heap[g]? = some (.cells cur e (0, 0)))
    {i : Nat} (hi : i ≤ n) {Z : List Value} (hZ : Z.length = (n - i) * size) :
    (w.setRow g (cur.toList.take (i * size) ++ Z ++ cur.toList.drop (i * size + Z.length)).toArray).ownsRow base e size (.slice (some ⟨g, 0, none⟩) i cap) i (xs.take (i * size)) ∧
      Below base w (w.setRow g (cur.toList.take (i * size) ++ Z ++ cur.toList.drop (i * size + Z.length)).toArray) := by
  obtain ⟨cur', hb, hg', hnc, hcm, hcs, htk⟩ := own_row ho
  rw [hg] at hg'
  injection hg' with hg'
  injection hg' with hg'
  subst hg'
  have hle : i * size ≤ n * size := Nat.mul_le_mul_right _ hi
  have hle2 : n * size ≤ cap * size := Nat.mul_le_mul_right _ hnc
  have hic : i ≤ cap := Nat.le_trans hi hnc
  have hsum : i * size + (n - i) * size = n * size := by rw [← Nat.add_mul]; congr 1; omega
  refine ⟨⟨by rw [List.length_take, ho.1]; exact Nat.min_eq_left hle, .inr ⟨g, cap, _, rfl, hb, setRow_heap _ _ _ _ _ _ hg, by omega, hcm, ?_, ?_⟩⟩, below_setRow (Below.refl _ _) hb _⟩
  · simp only [List.size_toArray, List.length_append, List.length_take, List.length_drop, Array.length_toList, hcs, hZ]
    omega
  · rw [← htk, List.take_take, Nat.min_eq_left hle]
    show List.take _ (cur.toList.take (i * size) ++ Z ++ cur.toList.drop (i * size + Z.length)) = _
    rw [List.append_assoc, List.take_append_of_le_length (by rw [List.length_take, Array.length_toList, hcs]; omega), List.take_take, Nat.min_self]
/-- It holds a key. -/
def ne_ (s : Spn) : Bool := decide (s.1 < s.2)
theorem first_filter {L : List Spn} {k : Nat} (h : ∀ (j : Nat) s, j < k → L[j]? = some s → s.1 < s.2) : (L.take k).filter ne_ = L.take k := by
  apply List.filter_eq_self.2
  intro s hs
  obtain ⟨j, hj⟩ := List.getElem?_of_mem hs
  rw [List.getElem?_take] at hj
  split at hj
  · rename_i hjk
    simp [ne_, h j s hjk hj]
  · cases hj
theorem take_next {L : List Spn} {j : Nat} {s : Spn} (hs : L[j]? = some s) : L.take (j + 1) = L.take j ++ [s] := by
  rw [List.take_add_one, hs]; rfl
theorem span_set {L : List Spn} {i : Nat} (hi : i < L.length) (s : Spn) : srow (L.set i s) = ((srow L).set (i * 2) (.string s.1)).set (i * 2 + 1) (.string s.2) := by
  unfold srow
  rw [rec_set encS_len hi]
  have hl := srow_len L
  unfold srow at hl
  generalize L.flatMap encS = R at hl
  apply List.ext_getElem?
  intro t
  have e1 : (R.take (i * 2)).length = i * 2 := by rw [List.length_take]; omega
  rw [List.getElem?_set, List.getElem?_set]
  simp only [encS, List.append_assoc]
  by_cases h1 : t < i * 2
  · rw [List.getElem?_append_left (by omega), List.getElem?_take, if_pos h1, if_neg (by omega), if_neg (by omega)]
  · rw [List.getElem?_append_right (by omega), e1]
    by_cases h2 : t = i * 2
    · subst h2
      rw [if_neg (by omega), if_pos rfl, if_pos (by omega), Nat.sub_self]; rfl
    · by_cases h3 : t = i * 2 + 1
      · subst h3
        rw [if_pos rfl, List.length_set, if_pos (by omega), show i * 2 + 1 - i * 2 = 1 from by omega]; rfl
      · rw [if_neg (by omega), if_neg (by omega), List.getElem?_append_right (by simp; omega), List.getElem?_drop]
        congr 1
        simp only [List.length_cons, List.length_nil]
        omega
set_option maxHeartbeats 1000000 in
theorem delete_any {w : World} {B g n cap : Nat} {L : List Spn} (ho : w.ownsRow B 24 2 (.slice (some ⟨g, 0, none⟩) n cap) n (srow L)) (hl : L.length = n) (hn : n ≤ 4398046511104) (hBw : B ≤ w.heap.size) :
    Calls Try.prog 66 #[.slice (some ⟨g, 0, none⟩) n cap, .func (.func 42) #[] #[]] w fun e w' =>
      (∃ m, e = .returned (.slice (some ⟨g, 0, none⟩) m cap) ∧ (L.filter ne_).length = m ∧ w'.ownsRow B 24 2 (.slice (some ⟨g, 0, none⟩) m cap) m (srow (L.filter ne_))) ∧ Below B w w' := by
  have hidx := hide_ (index_any (c := cap) (Rd.of_own ho) hl (by omega))
  have HO := hide_ ho
  have HL := hide_ hl
  have hgB := hide_ (ho.lt g rfl).1
  have hnc := hide_ (own_cap ho)
  have hcm := hide_ (own_row ho).choose_spec.2.2.2.1
  clear ho hl
  go_enter Try.func66, Try.ntmps66
  go_wp2_with fail
  refine (hidx.out).mono ?_; rintro e w1 ⟨⟨i, rfl, hi⟩, hb1⟩
  have HO1 := hide_ (own_below HO.out hb1)
  have HB1 := hide_ (hb1.mono hBw)
  clear hb1
  rcases hi with ⟨rfl, ha⟩ | ⟨k, rfl, ha, s0, hs0, he0⟩
  · have HA := hide_ (show L.filter ne_ = L from List.filter_eq_self.2 fun s hs => by obtain ⟨j, hj⟩ := List.getElem?_of_mem hs; simp [ne_, ha j s hj])
    clear ha
    go_wp2_with fail
    go_ret
    exact ⟨⟨n, rfl, by rw [HA.out, HL.out], by rw [HA.out]; exact HO1.out⟩, HB1.out⟩
  · have hkn : k < n := by have := (List.getElem?_eq_some_iff.1 hs0).1; have := HL.out; omega
    have hst : L.take k = (L.take (k + 1)).filter ne_ := by
      rw [take_next hs0, List.filter_append, first_filter ha]
      have : ne_ s0 = false := by simp [ne_]; grind
      simp [this]
    have HST := hide_ hst
    have q1 : ((k : Int) == -1) = false := by rw [beq_eq_false_iff_ne]; omega
    have q2 : (k : Int) ≤ 4398046511104 := by omega
    have q3 : (0 : Int) ≤ (k : Int) := by omega
    clear ha hs0 he0 hst
    go_wp2_with fail
    go_loopw [5, 6, 7] (fun s5 s6 _ wr => ∃ (i j : Nat) (M : List Spn), i < j ∧ j ≤ n ∧ s5 = .int .i64 i ∧ s6 = .int .i64 j ∧ Hid (M.length = n ∧ M.take i = (L.take j).filter ne_ ∧ M.drop j = L.drop j) ∧ Hid (wr.ownsRow B 24 2 (.slice (some ⟨g, 0, none⟩) n cap) n (srow M)) ∧ Hid (Below B w wr)) (fun _ j _ _ => n - (intOf j).toNat)
    case atStart => exact ⟨k, k + 1, L, by omega, by omega, rfl, by go_num, ⟨HL.out, HST.out, rfl⟩, HO1.out, HB1.out⟩
    case round =>
      obtain ⟨i, j, M, hij, hj, rfl, rfl, HM, HOr, HBr⟩ := hrel
      have i1 : (0 : Int) ≤ (i : Int) := by omega
      have i2 : (i : Int) ≤ 4398046511104 := by omega
      have j1 : (0 : Int) ≤ (j : Int) := by omega
      have j2 : (j : Int) ≤ 4398046511104 := by omega
      by_cases hlt : j < n
      · have q4 : (j : Int) < (n : Int) := by omega
        obtain ⟨s, hs⟩ : ∃ s, L[j]? = some s := ⟨_, List.getElem?_eq_getElem (by rw [HL.out]; exact hlt)⟩
        have hms : M[j]? = some s := by
          have := congrArg (fun l => l[0]?) HM.out.2.2
          simpa [hs] using this
        obtain ⟨b, o, hbo, c1, c2⟩ := (Rd.of_own HOr.out).span hms
        injection hbo with hbo
        injection hbo with hb1 hb2
        subst hb1; subst hb2
        simp only [Nat.zero_add] at c1 c2
        have l1 := cell_alloc c1
        have l2 := cell_alloc c2
        have HS := hide_ hs
        have HTN := hide_ (take_next hs)
        clear hs hms
        by_cases he : s.2 ≤ s.1
        · have hem := fun W => empty_any s.1 s.2 W
          rw [decide_eq_true he] at hem
          have HNE := hide_ (show ne_ s = false by simp [ne_]; grind)
          clear he
          go_wp2_with (go_at_call 42; refine (hem _).mono ?_; rintro e w' ⟨rfl, rfl⟩)
          go_roundw
          case rel =>
            refine ⟨i, j + 1, M, by omega, by omega, rfl, by go_num, ⟨HM.out.1, ?_, ?_⟩, ?_, ?_⟩
            · rw [HM.out.2.1, HTN.out, List.filter_append]; simp [HNE.out]
            · have := congrArg (List.drop 1) HM.out.2.2
              simpa [List.drop_drop] using this
            · exact (HOr.out.alloc _).alloc _
            · exact (HBr.out.alloc (Nat.le_trans hBw HBr.out.size) _).alloc (by have := HBr.out.size; simp; omega) _
          case measure => simp [intOf]; omega
        · have hem := fun W => empty_any s.1 s.2 W
          rw [decide_eq_false he] at hem
          have HNE := hide_ (show ne_ s = true by simp [ne_]; grind)
          clear he
          obtain ⟨t, ht⟩ : ∃ t, M[i]? = some t := ⟨_, List.getElem?_eq_getElem (by rw [HM.out.1]; omega)⟩
          obtain ⟨b, o, hbo, d1, d2⟩ := (Rd.of_own HOr.out).span ht
          injection hbo with hbo
          injection hbo with hb1 hb2
          subst hb1; subst hb2
          simp only [Nat.zero_add] at d1 d2
          obtain ⟨cur, _, hgc, _⟩ := own_row HOr.out
          have m1 := fun ob ob' => cell_alloc (cell_alloc d1 ob) ob'
          have m2 := fun ob ob' => cell_alloc (cell_alloc d2 ob) ob'
          have f1 := fun ob ob' => frozen_of_row _ _ (i * 2) _ _ (row_alloc (row_alloc hgc ob) ob')
          have f2 := fun ob ob' => frozen_of_row _ _ (i * 2 + 1) _ _ (row_alloc (row_alloc hgc ob) ob')
          have i3 : (i : Int) < (n : Int) := by omega
          have i4 : i < n := by omega
          clear d1 d2 ht hgc
          go_wp2_with (go_at_call 42; refine (hem _).mono ?_; rintro e w' ⟨rfl, rfl⟩)
          go_roundw
          case rel =>
            refine ⟨i + 1, j + 1, M.set i s, by omega, by omega, by go_num, by go_num, ⟨by rw [List.length_set]; exact HM.out.1, ?_, ?_⟩, ?_, ?_⟩
            · rw [HTN.out, List.filter_append, ← HM.out.2.1]
              have hs1 : (M.set i s)[i]? = some s := by rw [List.getElem?_set_self]; rw [HM.out.1]; exact i4
              rw [take_next hs1, List.take_set_of_le (Nat.le_refl i)]
              simp [HNE.out]
            · rw [List.drop_set_of_lt (by omega)]
              have := congrArg (List.drop 1) HM.out.2.2
              simpa [List.drop_drop] using this
            · rw [span_set (by rw [HM.out.1]; exact i4)]
              exact own_setCell (own_setCell ((HOr.out.alloc _).alloc _) _ _) _ _
            · have hsz := HBr.out.size
              exact (((HBr.out.alloc (Nat.le_trans hBw hsz) _).alloc (by simp; omega) _).setCell hgB.out _).setCell hgB.out _
          case measure => simp [intOf]; omega
      · have hjn : j = n := by omega
        obtain ⟨cur, hcB, hgc, _, hcc, hcs, _⟩ := own_row HOr.out
        have hncc := hnc.out
        have i5 : ¬ cap = i := by omega
        have i6 : (i : Int) ≤ (n : Int) := by omega
        have i7 : (n : Int) ≤ (cap : Int) := by omega
        have i8 : i ≤ n := by omega
        have i9 : i ≤ cap := by omega
        have i10 : (i : Int) ≤ (cap : Int) := by omega
        have hclr : ∀ ty, (Builtin.clear_ #[29] ty #[.slice (some ⟨g, i * 2, none⟩) (n - i) (cap - i)]).run Try.prog wr = .ok (.tuple #[]) (wr.setRow g _) := fun ty =>
          run_clear_row 29 24 ty (.agg #[.string ByteArray.empty, .string ByteArray.empty]) 2 Try.underlying29 (fun w => by kernel_rfl) rfl (by intro u hu; simp [Value.cells] at hu; rcases hu with rfl | rfl <;> rfl) (by omega) wr g (i * 2) (n - i) (cap - i) cur (by omega) hgc (by rw [hcs]; omega)
        have HOW := hide_ (own_clear HOr.out hgc i8 (Z := (Builtin.zeroCells (Value.agg #[.string ByteArray.empty, .string ByteArray.empty]).cells (n - i)).toList) (by rw [Array.length_toList, size_zeroCells]; rfl))
        have HTJ := hide_ hjn
        clear hjn hgc hcc hcs hncc
        go_wp2_with fail
        go_ret
        have hf : M.take i = L.filter ne_ := by rw [HM.out.2.1, HTJ.out, ← HL.out, List.take_length]
        have h1 := HOW.out
        have h2 : (srow M).take (i * 2) = srow (L.filter ne_) := by rw [← hf]; exact rec_take encS_len M i
        rw [h2] at h1
        simp only [List.append_assoc, Array.length_toList] at h1
        refine ⟨⟨i, rfl, ?_, h1.1⟩, HBr.out.trans h1.2⟩
        rw [← hf, List.length_take, HM.out.1]
        exact Nat.min_eq_left i8
end Go.Proofs.Ytidlkomgondkiaa
/-
  DeleteFunc and SortFunc at spans, nil let in.
-/
namespace Go.Proofs.Ytidlkomgondkiaa
open Go.RowKit
set_option linter.unusedVariables false
set_option linter.unusedSimpArgs false
theorem sown_cases {w : World} {base n size c : Nat} {e : TypeId} {A : Option Addr} {xs : List Value} (h : w.ownsRow base e size (.slice A n c) n xs) : (A = none ∧ n = 0 ∧ c = 0 ∧ xs = []) ∨ ∃ g, A = some ⟨g, 0, none⟩ := by
  rcases h.2 with ⟨hv, h0⟩ | ⟨g, cap, cur, hv, _⟩
  · injection hv with h1 h2 h3
    exact .inl ⟨h1, h2, h3, List.eq_nil_of_length_eq_zero (by rw [h.1, h0, Nat.zero_mul])⟩
  · injection hv with h1
    exact .inr ⟨g, h1⟩
theorem srow_nil {L : List Spn} (h : L.length = 0) : srow L = [] := by rw [List.eq_nil_of_length_eq_zero h]; rfl
set_option maxHeartbeats 400000 in
theorem delete_nil (w : World) : Calls Try.prog 66 #[.slice none 0 0, .func (.func 42) #[] #[]] w fun e w' => e = .returned (.slice none 0 0) ∧ Below w.heap.size w w' := by
  have hidx := hide_ (index_any (w := w) (A := none) (n := 0) (c := 0) (L := []) (Rd.nil _ _ _) rfl (by omega))
  go_enter Try.func66, Try.ntmps66
  go_wp2_with fail
  refine (hidx.out).mono ?_; rintro e w1 ⟨⟨i, rfl, hi⟩, hb1⟩
  rcases hi with ⟨rfl, _⟩ | ⟨k, rfl, _, s0, hs0, _⟩
  · have HB1 := hide_ hb1
    clear hb1
    go_wp2_with fail
    go_ret
    exact ⟨rfl, HB1.out⟩
  · simp at hs0
/-- DeleteFunc(.., Empty) of a slice of the call's own. -/
theorem sdelete_all {w : World} {B n c : Nat} {A : Option Addr} {L : List Spn} (ho : w.ownsRow B 24 2 (.slice A n c) n (srow L)) (hl : L.length = n) (hn : n ≤ 4398046511104) (hBw : B ≤ w.heap.size) :
    Calls Try.prog 66 #[.slice A n c, .func (.func 42) #[] #[]] w fun e w' =>
      (∃ (A' : Option Addr) (m c' : Nat) (M : List Spn), e = .returned (.slice A' m c') ∧ M = L.filter ne_ ∧ M.length = m ∧ w'.ownsRow B 24 2 (.slice A' m c') m (srow M)) ∧ Below B w w' := by
  rcases sown_cases ho with ⟨rfl, rfl, rfl, _⟩ | ⟨g, rfl⟩
  · obtain rfl : L = [] := List.eq_nil_of_length_eq_zero hl
    exact (delete_nil w).mono fun e w' ⟨he, hb⟩ => ⟨⟨none, 0, 0, [], he, rfl, rfl, World.ownsRow_nil _ _ _ _⟩, hb.mono hBw⟩
  · exact (delete_any ho hl hn hBw).mono fun e w' ⟨⟨m, he, hm, h⟩, hb⟩ => ⟨⟨_, m, c, _, he, rfl, hm, h⟩, hb⟩
/-- SortFunc of a slice of the call's own. -/
theorem sort_all {w : World} {B n c : Nat} {A : Option Addr} {L : List Spn} (ho : w.ownsRow B 24 2 (.slice A n c) n (srow L)) (hl : L.length = n) (hn : n ≤ 4398046511104) :
    Calls Try.prog 68 #[.slice A n c, .func (.func 69) #[] #[]] w fun e w' => e = .returned (.tuple #[]) ∧
      (∃ L' : List Spn, L'.length = n ∧ L'.Perm L ∧ (∀ (i j : Nat) (x y : Spn), i < j → L'[i]? = some x → L'[j]? = some y → x.1 ≤ y.1) ∧ w'.ownsRow B 24 2 (.slice A n c) n (srow L')) ∧ Below B w w' := by
  rcases sown_cases ho with ⟨rfl, rfl, rfl, _⟩ | ⟨g, rfl⟩
  · obtain rfl : L = [] := List.eq_nil_of_length_eq_zero hl
    have hcon := AnyF.slices_SortFunc_none sortSpans none 0 (.func (.func 69) #[] #[]) w
    change Calls Try.prog 68 _ w _ at hcon
    refine hcon.mono fun e w' ⟨he, hw⟩ => ?_
    subst hw
    exact ⟨he, ⟨[], rfl, List.Perm.refl _, fun i j x y _ hx => by simp at hx, ho⟩, Below.refl _ _⟩
  · subst hl
    exact (sort_any ho (by omega)).mono fun e w' ⟨he, L', h1, h2, h3, h4, h5⟩ => ⟨he, ⟨L', h1, h2, h3, h4⟩, h5⟩
/-- Sorted, and each holds a key. -/
theorem rising_of {L : List Spn} (h : ∀ (i j : Nat) (x y : Spn), i < j → L[i]? = some x → L[j]? = some y → x.1 ≤ y.1) (hn : ∀ x, x ∈ L → x.1 < x.2) : Rising L := by
  induction L with
  | nil => exact trivial
  | cons a L ih =>
    refine ⟨hn a (by simp), fun t ht => ?_, ih (fun i j x y hij hx hy => h (i + 1) (j + 1) x y (by omega) (by simpa using hx) (by simpa using hy)) fun x hx => hn x (by simp [hx])⟩
    obtain ⟨j, hj⟩ := List.getElem?_of_mem ht
    exact h 0 (j + 1) a t (by omega) rfl (by simpa using hj)
theorem inl_perm {L M : List Spn} (h : L.Perm M) (k : ByteArray) : InL L k ↔ InL M k := by
  unfold InL
  constructor
  · rintro ⟨s, hs, hk⟩; exact ⟨s, h.mem_iff.1 hs, hk⟩
  · rintro ⟨s, hs, hk⟩; exact ⟨s, h.mem_iff.2 hs, hk⟩
theorem inl_filter (L : List Spn) (k : ByteArray) : InL (L.filter ne_) k ↔ InL L k := by
  unfold InL
  constructor
  · rintro ⟨s, hs, hk⟩; exact ⟨s, (List.mem_filter.1 hs).1, hk⟩
  · rintro ⟨s, hs, hk⟩
    refine ⟨s, List.mem_filter.2 ⟨hs, ?_⟩, hk⟩
    have h1 := hk.1
    have h2 := hk.2
    simp [ne_]
    grind
end Go.Proofs.Ytidlkomgondkiaa
