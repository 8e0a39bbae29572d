/-
  Texts of this seat in one: Str, SortOwn, SortLay, SpanA, SpanB.
-/
import Derived.Test.YtblljpdlmllceaaG1
import Derived.Test.YtblljpdlmllceaaKSpanMath
import Derived.Lib.Strings
import Derived.Test.YtblljpdlmllceaaProg
import Derived.Shelf.SlSortCmp.WholeK
/-
  Strings as keys: their order, and how the model's comparisons read in it.
-/
namespace Go.Proofs.Ytblljpdlmllceaa
open Go.RowKit
instance : LT ByteArray := ⟨fun a b => a.data.toList < b.data.toList⟩
instance : LE ByteArray := ⟨fun a b => a.data.toList ≤ b.data.toList⟩
instance (a b : ByteArray) : Decidable (a < b) := inferInstanceAs (Decidable (a.data.toList < b.data.toList))
instance (a b : ByteArray) : Decidable (a ≤ b) := inferInstanceAs (Decidable (a.data.toList ≤ b.data.toList))
theorem ba_ext {a b : ByteArray} (h : a.data.toList = b.data.toList) : a = b := by
  cases a; cases b; congr 1; exact Array.ext' h
theorem ba_antisymm (a b : ByteArray) (h : a ≤ b) (k : b ≤ a) : a = b :=
  ba_ext (List.le_antisymm (show a.data.toList ≤ b.data.toList from h) (show b.data.toList ≤ a.data.toList from k))
theorem ba_trans (a b c : ByteArray) (h : a ≤ b) (k : b ≤ c) : a ≤ c :=
  List.le_trans (show a.data.toList ≤ b.data.toList from h) (show b.data.toList ≤ c.data.toList from k)
theorem ba_lt_iff (a b : ByteArray) : a < b ↔ a ≤ b ∧ ¬ b ≤ a := by
  show a.data.toList < b.data.toList ↔ a.data.toList ≤ b.data.toList ∧ ¬ b.data.toList ≤ a.data.toList
  rw [List.not_le]
  exact ⟨fun h => ⟨List.le_of_lt h, h⟩, fun h => h.2⟩
instance : Std.IsLinearOrder ByteArray := { le_refl := fun a => List.le_refl a.data.toList, le_trans := ba_trans, le_antisymm := ba_antisymm, le_total := fun a b => List.le_total a.data.toList b.data.toList }
instance : Std.LawfulOrderLT ByteArray := { lt_iff := ba_lt_iff }
theorem bytesLess_lt : ∀ (x y : List UInt8), Op.bytesLess x y = decide (x < y)
  | [], [] => by simp [Op.bytesLess]
  | _ :: _, [] => by simp [Op.bytesLess]
  | [], _ :: _ => by simp [Op.bytesLess]
  | a :: x, b :: y => by
    rw [Op.bytesLess, bytesLess_lt x y, Bool.eq_iff_iff]
    simp [List.cons_lt_cons_iff]
theorem bl (a b : ByteArray) : Op.bytesLess a.toList b.toList = decide (a < b) := by
  rw [bytesLess_lt, Lib.toList_data, Lib.toList_data]; rfl
theorem beq_ba (a b : ByteArray) : (a.toList == b.toList) = decide (a = b) := by
  rw [Lib.toList_data, Lib.toList_data, Bool.eq_iff_iff]
  simp only [beq_iff_eq, decide_eq_true_eq]
  exact ⟨fun h => ba_ext h, fun h => by rw [h]⟩
theorem ble (a b : ByteArray) : (Op.bytesLess a.toList b.toList || a.toList == b.toList) = decide (a ≤ b) := by
  rw [bl, beq_ba, Bool.eq_iff_iff]
  simp only [Bool.or_eq_true, decide_eq_true_eq]
  grind
theorem run_max_str {P : Program} (ts : Array TypeId) (t : TypeId) (a b : ByteArray) (w : World) : (Builtin.max_ ts t #[.string a, .string b]).run P w = .ok (.string (if a < b then b else a)) w := by
  have h := bl a b
  by_cases hab : a < b
  · simp [Builtin.max_, Builtin.max2, Op.stringOp, asBool, h, hab]
  · simp [Builtin.max_, Builtin.max2, Op.stringOp, asBool, h, hab]
theorem run_min_str {P : Program} (ts : Array TypeId) (t : TypeId) (a b : ByteArray) (w : World) : (Builtin.min_ ts t #[.string a, .string b]).run P w = .ok (.string (if b < a then b else a)) w := by
  have h := ble a b
  by_cases hab : b < a
  · have h' : ¬ a ≤ b := by grind
    simp [Builtin.min_, Builtin.min2, Op.stringOp, asBool, h, hab, h']
  · have h' : a ≤ b := by grind
    simp [Builtin.min_, Builtin.min2, Op.stringOp, asBool, h, hab, h']
/-- cmp.Compare. -/
def cmpS (a b : ByteArray) : Int := if a < b then -1 else if b < a then 1 else 0
theorem cmpS_neg (a b : ByteArray) : decide (cmpS a b < 0) = decide (a < b) := by
  unfold cmpS
  by_cases h : a < b
  · simp [h]
  · by_cases h2 : b < a <;> simp [h, h2]
set_option maxHeartbeats 400000 in
theorem compare_any (a b : ByteArray) (w : World) : Calls Try.prog 54 #[.string a, .string b] w fun e w' => e = .returned (.int .i64 (cmpS a b)) ∧ w = w' := by
  unfold cmpS
  by_cases h : a < b
  · have h1 : Op.bytesLess a.toList b.toList = true := by rw [bl]; simpa using h
    rw [if_pos h]
    clear h
    go_enter Try.func54, Try.ntmps54
    go_wp2
    go_ret
    exact ⟨rfl, rfl⟩
  · have h1 : Op.bytesLess a.toList b.toList = false := by rw [bl]; simpa using h
    rw [if_neg h]
    by_cases h2 : b < a
    · have h3 : (a.toList == b.toList) = false := by rw [beq_ba]; simp; rintro rfl; grind
      rw [if_pos h2]
      clear h h2
      go_enter Try.func54, Try.ntmps54
      go_wp2
      go_ret
      exact ⟨rfl, rfl⟩
    · have h3 : (a.toList == b.toList) = true := by rw [beq_ba]; simp; grind
      rw [if_neg h2]
      clear h h2
      go_enter Try.func54, Try.ntmps54
      go_wp2
      go_ret
      exact ⟨rfl, rfl⟩
end Go.Proofs.Ytblljpdlmllceaa
/-
  A sorted row of records, out of the library's contract of slices.SortFunc.
-/
namespace Go.Proofs.Ytblljpdlmllceaa
open Go.RowKit Go.Sort
section
variable {α : Type} [Inhabited α] {enc : α → List Value} {k : Nat}
theorem get_bang {α : Type} [Inhabited α] (L : List α) {i : Nat} {x : α} (h : L[i]? = some x) : L.toArray[i]! = x := by
  have hi := (List.getElem?_eq_some_iff.1 h).1
  simp [hi] at h ⊢
  exact h
theorem flatK_list (hk : ∀ x, (enc x).length = k) (L : List α) : (flatK enc k L.toArray).toList = L.flatMap enc := by
  apply List.ext_getElem?
  intro t
  by_cases ht : t < L.length * k
  · have h0 : 0 < k := by
      rcases Nat.eq_zero_or_pos k with h | h
      · subst h; simp at ht
      · exact h
    have hi : t / k < L.length := (Nat.div_lt_iff_lt_mul h0).2 ht
    have hm : t % k < k := Nat.mod_lt _ h0
    have e := rec_at hk (L := L) (i := t / k) (List.getElem?_eq_getElem hi) (t % k) hm
    rw [show t / k * k + t % k = t from by rw [Nat.mul_comm]; exact Nat.div_add_mod t k] at e
    rw [e, Array.getElem?_toList, Array.getElem?_eq_getElem (by simpa using ht)]
    simp [flatK, hi]
    rw [List.getElem?_eq_getElem (by rw [hk]; exact hm)]; rfl
  · rw [List.getElem?_eq_none (by simpa using ht), List.getElem?_eq_none (by rw [rec_len hk]; omega)]
theorem holdsK_own {w : World} {base g n cap : Nat} {e : TypeId} (hk : ∀ x, (enc x).length = k) {L : List α} (ho : w.ownsRow base e k (.slice (some ⟨g, 0, none⟩) n cap) n (L.flatMap enc)) : HoldsK enc k w g 0 L.toArray := by
  intro j hj
  rw [size_flatK] at hj
  have hfl := flatK_list hk L
  have hget : (L.flatMap enc)[j]? = some ((flatK enc k L.toArray)[j]!) := by
    rw [← hfl, Array.getElem?_toList, Array.getElem?_eq_getElem (by simpa using hj), getElem!_pos _ j (by simpa using hj)]
  rcases ho.2 with ⟨h, _⟩ | ⟨g', cap', cur, hv, hb, hh, hn, hm, hc, ht⟩
  · cases h
  · injection hv with h1 _ h3
    injection h1 with h1
    injection h1 with h1
    subst h1
    rw [Nat.zero_add]
    refine ⟨?_, frozen_of_row _ _ j _ _ hh⟩
    rw [cell_of_row _ _ j _ _ _ hh]
    rw [← ht, List.getElem?_take] at hget
    split at hget
    · rw [← Array.getElem?_toList]; exact hget
    · cases hget
/-- What the sort leaves. -/
theorem sort_own {w w' : World} {base g cap : Nat} {e : TypeId} (hk : ∀ x, (enc x).length = k) {lt : α → α → Bool} {L : List α} (ho : w.ownsRow base e k (.slice (some ⟨g, 0, none⟩) L.length cap) L.length (L.flatMap enc))
    (h : ∃ d' n os, PermIn 0 L.toArray.size L.toArray d' ∧ SortedIn lt 0 L.toArray.size d' ∧ w' = sortWorldK enc k w g 0 n d' os) :
    ∃ L' : List α, L'.length = L.length ∧ L'.Perm L ∧ (∀ (i j : Nat) (x y : α), i < j → L'[i]? = some x → L'[j]? = some y → lt y x = false) ∧ w'.ownsRow base e k (.slice (some ⟨g, 0, none⟩) L.length cap) L.length (L'.flatMap enc) ∧ Below base w w' := by
  obtain ⟨d', n, os, ⟨hsz, _, hp⟩, hs, rfl⟩ := h
  have hsz' : d'.toList.length = L.length := by simpa using hsz
  have hperm : d'.toList.Perm L := by
    simp only [List.size_toArray] at hsz hp
    have e1 : d'.extract 0 L.length = d' := by rw [← hsz]; simp
    have e2 : L.toArray.extract 0 L.length = L.toArray := by simp
    rw [e1, e2] at hp
    simpa using hp
  rcases ho.2 with ⟨hx, _⟩ | ⟨g', cap', cur, hv, hb, hh, hn, hm, hc, ht⟩
  · cases hx
  · injection hv with h1 _ h3
    injection h1 with h1
    injection h1 with h1
    subst h1; subst h3
    have hlt : g < w.heap.size := by
      rcases Nat.lt_or_ge g w.heap.size with hlt | hge
      · exact hlt
      · rw [Array.getElem?_eq_none hge] at hh; cases hh
    have hpd : (flatK enc k d').toList = d'.toList.flatMap enc := by
      have := flatK_list hk d'.toList
      simpa using this
    have hnew : (sortWorldK enc k w g 0 n d' os).heap[g]? = some (.cells (putCells id 0 (flatK enc k d') cur) e (0, 0)) := by
      unfold sortWorldK putRowK putRow
      rw [heap_grow_old _ _ (by simpa [mapBlock] using hlt)]
      simp only [mapBlock, Array.getElem?_modify, if_true]
      show Option.map _ w.heap[g]? = _
      rw [hh]; rfl
    refine ⟨d'.toList, hsz', hperm, fun i j x y hij hx hy => ?_, ⟨by rw [rec_len hk, hsz'], .inr ⟨g, cap, _, rfl, hb, hnew, hn, hm, by simpa [putCells] using hc, ?_⟩⟩, ?_⟩
    · have hj := (List.getElem?_eq_some_iff.1 hy).1
      have := hs i j (Nat.zero_le _) hij (by simp; omega)
      have ex : d'[i]! = x := by have := get_bang d'.toList hx; simpa using this
      have ey : d'[j]! = y := by have := get_bang d'.toList hy; simpa using this
      rw [ex, ey] at this
      exact this
    · rw [← hpd]
      have hfs : (flatK enc k d').size = L.length * k := by
        rw [size_flatK]; congr 1
      have hle : L.length * k ≤ cur.size := by rw [hc]; exact Nat.mul_le_mul_right _ hn
      apply List.ext_getElem?
      intro t
      rw [List.getElem?_take]
      by_cases htl : t < L.length * k
      · rw [if_pos htl, Array.getElem?_toList, Array.getElem?_toList, Array.getElem?_eq_getElem (by simp [putCells]; omega), Array.getElem?_eq_getElem (by rw [hfs]; exact htl)]
        simp [putCells, hfs, htl]
      · rw [if_neg htl, Array.getElem?_toList, Array.getElem?_eq_none (by rw [hfs]; omega)]
    · unfold sortWorldK putRowK putRow
      refine ⟨rfl, rfl, rfl, by simp [grow, mapBlock], fun b hbk => ?_⟩
      rw [heap_grow_old _ _ (by simp [mapBlock]; exact Nat.lt_of_lt_of_le hbk (Nat.le_trans hb (Nat.le_of_lt hlt)))]
      simp only [mapBlock, Array.getElem?_modify]
      rw [if_neg (by omega)]; rfl
end
end Go.Proofs.Ytblljpdlmllceaa
/-
  The library's contract of slices.SortFunc, laid at sortSpans.
-/
namespace Go.Proofs.Ytblljpdlmllceaa
open Go.Shelf
def sortSpans_ren : Go.Shelf.Ren := ⟨fun | 6 => 52 | 15 => 63 | 14 => 62 | 28 => 76 | 29 => 77 | 20 => 68 | 21 => 69 | 22 => 70 | 23 => 71 | 24 => 72 | 25 => 73 | 26 => 74 | 27 => 75 | 46 => 80 | 47 => 81 | 48 => 82 | 49 => 83 | 50 => 84 | 57 => 85 | n => n, fun | 22 => 47 | 24 => 34 | 25 => 76 | 3 => 3 | 39 => 84 | 0 => 0 | 53 => 97 | 55 => 99 | 4 => 4 | 46 => 91 | 45 => 90 | 50 => 69 | 5 => 5 | 9 => 9 | 66 => 102 | 70 => 106 | 76 => 108 | 77 => 109 | n => n, fun | n => n⟩
theorem sortSpans : Go.Proofs.SlLaysF0.n6 Try.prog sortSpans_ren := {
  mixed := by kernel_rfl
  f6 := ⟨Try.f52.name, by decide, Try.func52.trans (congrArg some (by kernel_rfl))⟩
  f14 := ⟨Try.f62.name, by decide, Try.func62.trans (congrArg some (by kernel_rfl))⟩
  f15 := Try.func63.trans (congrArg some (by kernel_rfl))
  f20 := ⟨Try.f68.name, by decide, Try.func68.trans (congrArg some (by kernel_rfl))⟩
  f21 := ⟨Try.f69.name, by decide, Try.func69.trans (congrArg some (by kernel_rfl))⟩
  f22 := ⟨Try.f70.name, by decide, Try.func70.trans (congrArg some (by kernel_rfl))⟩
  f23 := ⟨Try.f71.name, by decide, Try.func71.trans (congrArg some (by kernel_rfl))⟩
  f24 := ⟨Try.f72.name, by decide, Try.func72.trans (congrArg some (by kernel_rfl))⟩
  f25 := ⟨Try.f73.name, by decide, Try.func73.trans (congrArg some (by kernel_rfl))⟩
  f26 := ⟨Try.f74.name, by decide, Try.func74.trans (congrArg some (by kernel_rfl))⟩
  f27 := ⟨Try.f75.name, by decide, Try.func75.trans (congrArg some (by kernel_rfl))⟩
  f28 := Try.func76.trans (congrArg some (by kernel_rfl))
  f29 := Try.func77.trans (congrArg some (by kernel_rfl))
  f46 := ⟨Try.f80.name, by decide, Try.func80.trans (congrArg some (by kernel_rfl))⟩
  f47 := Try.func81.trans (congrArg some (by kernel_rfl))
  f48 := Try.func82.trans (congrArg some (by kernel_rfl))
  f49 := ⟨Try.f83.name, by decide, Try.func83.trans (congrArg some (by kernel_rfl))⟩
  f50 := ⟨Try.f84.name, by decide, Try.func84.trans (congrArg some (by kernel_rfl))⟩
  f57 := ⟨Try.f85.name, by decide, Try.func85.trans (congrArg some (by kernel_rfl))⟩
  t0 := Try.underlying0
  a0 := Try.isAgg0
  z0 := Try.sizeOf0
  v0 := Try.zeroValue0
  t3 := Try.underlying3
  a3 := Try.isAgg3
  z3 := Try.sizeOf3
  v3 := Try.zeroValue3
  t4 := Try.underlying4
  a4 := Try.isAgg4
  z4 := Try.sizeOf4
  v4 := Try.zeroValue4
  t5 := Try.underlying5
  a5 := Try.isAgg5
  z5 := Try.sizeOf5
  v5 := Try.zeroValue5
  t9 := Try.underlying9
  a9 := Try.isAgg9
  z9 := Try.sizeOf9
  v9 := Try.zeroValue9
  t22 := Try.underlying47
  a22 := Try.isAgg47
  z22 := Try.sizeOf47
  v22 := Try.zeroValue47
  t25 := Try.underlying76
  a25 := Try.isAgg76
  z25 := Try.sizeOf76
  v25 := Try.zeroValue76
  t39 := Try.underlying84
  a39 := Try.isAgg84
  z39 := Try.sizeOf84
  v39 := Try.zeroValue84
  t45 := Try.underlying90
  a45 := Try.isAgg90
  z45 := Try.sizeOf90
  v45 := Try.zeroValue90
  t46 := Try.underlying91
  a46 := Try.isAgg91
  z46 := Try.sizeOf91
  v46 := Try.zeroValue91
  t50 := Try.underlying69
  a50 := Try.isAgg69
  z50 := Try.sizeOf69
  v50 := Try.zeroValue69
  t53 := Try.underlying97
  a53 := Try.isAgg97
  z53 := Try.sizeOf97
  v53 := Try.zeroValue97
  t55 := Try.underlying99
  a55 := Try.isAgg99
  z55 := Try.sizeOf99
  v55 := Try.zeroValue99
  t66 := Try.underlying102
  a66 := Try.isAgg102
  z66 := Try.sizeOf102
  v66 := Try.zeroValue102
  t70 := Try.underlying106
  a70 := Try.isAgg106
  z70 := Try.sizeOf106
  v70 := Try.zeroValue106
  t76 := Try.underlying108
  a76 := Try.isAgg108
  z76 := Try.sizeOf108
  v76 := Try.zeroValue108
  t77 := Try.underlying109
  a77 := Try.isAgg109
  z77 := Try.sizeOf109
  v77 := Try.zeroValue109 }
end Go.Proofs.Ytblljpdlmllceaa
/-
  Spans in memory; what the short functions of the package span do.
-/
namespace Go.Proofs.Ytblljpdlmllceaa
open Go.RowKit Go.Sort
set_option linter.unusedVariables false
set_option linter.unusedSimpArgs false
/-- A span: from, to. -/
abbrev Spn := ByteArray × ByteArray
def encS (s : Spn) : List Value := [.string s.1, .string s.2]
def srow (L : List Spn) : List Value := L.flatMap encS
theorem encS_len (s : Spn) : (encS s).length = 2 := rfl
theorem encS_one (s : Spn) : ∀ u ∈ encS s, u.oneCell' = true := by
  intro u hu
  simp only [encS, List.mem_cons, List.not_mem_nil, or_false] at hu
  rcases hu with rfl | rfl <;> rfl
theorem srow_len (L : List Spn) : (srow L).length = L.length * 2 := rec_len encS_len L
theorem srow_one (L : List Spn) : ∀ u ∈ srow L, u.oneCell' = true := rec_one encS_one L
theorem srow_fst {L : List Spn} {i : Nat} {s : Spn} (h : L[i]? = some s) : (srow L)[i * 2]? = some (.string s.1) := by
  have := rec_at encS_len h 0 (by omega); simpa [srow, encS] using this
theorem srow_snd {L : List Spn} {i : Nat} {s : Spn} (h : L[i]? = some s) : (srow L)[i * 2 + 1]? = some (.string s.2) := by
  have := rec_at encS_len h 1 (by omega); simpa [srow, encS] using this
theorem spanT : ElemT Try.prog 47 34 2 32 := elem_mk (z := .agg #[.string ByteArray.empty, .string ByteArray.empty]) Try.underlying47 (by kernel_rfl) rfl (by decide)
/-- The cells of element i of a slice that reads as spans. -/
theorem Rd.span {w : World} {A : Option Addr} {n : Nat} {L : List Spn} (h : Rd w 2 A n (srow L)) {i : Nat} {s : Spn} (hi : L[i]? = some s) :
    ∃ b o, A = some ⟨b, o, none⟩ ∧ w.cell? ⟨b, o + i * 2, none⟩ = some (.string s.1) ∧ w.cell? ⟨b, o + i * 2 + 1, none⟩ = some (.string s.2) := by
  have hl := (List.getElem?_eq_some_iff.1 (srow_fst hi)).1
  obtain ⟨b, o, e, hc⟩ := h.2 (by omega)
  exact ⟨b, o, e, hc _ _ (srow_fst hi), hc _ _ (srow_snd hi)⟩
theorem own_base {w : World} {base base' : Nat} {e : TypeId} {size n : Nat} {v : Value} {xs : List Value} (h : w.ownsRow base e size v n xs) (hb : base' ≤ base) : w.ownsRow base' e size v n xs := by
  refine ⟨h.1, ?_⟩
  rcases h.2 with h0 | ⟨g, cap, cur, hv, hbb, hh, hr⟩
  · exact .inl h0
  · exact .inr ⟨g, cap, cur, hv, by omega, hh, hr⟩
theorem cell_alloc {w : World} {b o : Nat} {u : Value} (h : w.cell? ⟨b, o, none⟩ = some u) : ∀ ob, (w.alloc ob).cell? ⟨b, o, none⟩ = some u := fun ob => (World.cell?_alloc_lt w ob _ (cell_lt h)).trans h
theorem row_alloc {w : World} {g : Nat} {x : Obj} (h : w.heap[g]? = some x) (ob : Obj) : (w.alloc ob).heap[g]? = some x := by
  rw [Below.heap_alloc _ _ _ (by rcases Nat.lt_or_ge g w.heap.size with hlt | hge; exact hlt; rw [Array.getElem?_eq_none hge] at h; cases h)]; exact h
set_option maxHeartbeats 400000 in
theorem empty_any (a b : ByteArray) (w : World) : Calls Try.prog 40 #[.agg #[.string a, .string b]] w fun e w' => e = .returned (.bool (decide (b ≤ a))) ∧ w' = w.alloc (.cells #[.string a, .string b] 34) := by
  have h1 : (!(Op.bytesLess a.toList b.toList)) = decide (b ≤ a) := by rw [bl]; by_cases h : a < b <;> simp [h] <;> grind
  have H1 := Lib.hid h1
  clear h1
  go_enter Try.func40, Try.ntmps40
  go_wp2
  go_ret
  exact ⟨by rw [H1.out]; rfl, rfl⟩
set_option maxHeartbeats 400000 in
theorem has_yes (a b k : ByteArray) (w : World) (h : a ≤ k ∧ k < b) : Calls Try.prog 41 #[.agg #[.string a, .string b], .string k] w fun e w' => e = .returned (.bool true) ∧ w' = w.alloc (.cells #[.string a, .string b] 34) := by
  have h1 : Op.bytesLess k.toList a.toList = false := by rw [bl]; have := h.1; simp; grind
  have h2 : Op.bytesLess k.toList b.toList = true := by rw [bl]; have := h.2; simpa
  clear h
  go_enter Try.func41, Try.ntmps41
  go_wp2
  go_ret
  exact ⟨rfl, rfl⟩
set_option maxHeartbeats 400000 in
theorem has_no (a b k : ByteArray) (w : World) (h : ¬ (a ≤ k ∧ k < b)) : Calls Try.prog 41 #[.agg #[.string a, .string b], .string k] w fun e w' => e = .returned (.bool false) ∧ w' = w.alloc (.cells #[.string a, .string b] 34) := by
  by_cases hk : k < a
  · have h1 : Op.bytesLess k.toList a.toList = true := by rw [bl]; simpa
    clear h
    go_enter Try.func41, Try.ntmps41
    go_wp2
    go_ret
    exact ⟨rfl, rfl⟩
  · have h1 : Op.bytesLess k.toList a.toList = false := by rw [bl]; simp; grind
    have h2 : Op.bytesLess k.toList b.toList = false := by rw [bl]; simp; grind
    clear h hk
    go_enter Try.func41, Try.ntmps41
    go_wp2
    go_ret
    exact ⟨rfl, rfl⟩
theorem has_any (s : Spn) (k : ByteArray) (w : World) : Calls Try.prog 41 #[.agg #[.string s.1, .string s.2], .string k] w fun e w' => (∃ c, e = .returned (.bool c) ∧ (c = true ↔ InS s k)) ∧ w' = w.alloc (.cells #[.string s.1, .string s.2] 34) := by
  by_cases h : s.1 ≤ k ∧ k < s.2
  · exact (has_yes s.1 s.2 k w h).mono fun e w' ⟨he, hw⟩ => ⟨⟨true, he, by simp [InS, h]⟩, hw⟩
  · exact (has_no s.1 s.2 k w h).mono fun e w' ⟨he, hw⟩ => ⟨⟨false, he, by simp [InS]; simpa using h⟩, hw⟩
set_option maxHeartbeats 400000 in
theorem order_any (x y : Spn) (W : World) : Calls Try.prog 53 #[.agg #[.string x.1, .string x.2], .agg #[.string y.1, .string y.2]] W fun e w' => e = .returned (.int .i64 (cmpS x.1 y.1)) ∧ ∃ q os', w' = grow (W.drewN q) os' := by
  have hcon := fun W' => compare_any x.1 y.1 W'
  generalize cmpS x.1 y.1 = r at hcon ⊢
  go_enter Try.func53, Try.ntmps53
  go_wp2_with (go_at_call 54; refine (hcon _).mono ?_; rintro e w' ⟨rfl, rfl⟩)
  go_ret
  exact ⟨rfl, 0, _, by rw [alloc_eq_grow, alloc_eq_grow, grow_grow]; rfl⟩
theorem order_lays (blk off size : Nat) (w : World) : CmpLays Try.prog 53 #[] encS 2 (fun x y => cmpS x.1 y.1) blk off size w :=
  fun _ _ _ _ x y => order_any x y _
theorem order_lt (x y : Spn) : ltOf (fun x y : Spn => cmpS x.1 y.1) x y = decide (x.1 < y.1) := cmpS_neg x.1 y.1
theorem order_swo : SWO (ltOf fun x y : Spn => cmpS x.1 y.1) :=
  ⟨fun x => by rw [order_lt]; simp; grind, fun x y z h1 h2 => by rw [order_lt] at *; simp at *; grind, fun x y z h1 h2 => by rw [order_lt] at *; simp at *; grind⟩
/-- slices.SortFunc of spans of an own row. -/
theorem sort_any {w : World} {base g cap : Nat} {L : List Spn} (ho : w.ownsRow base 34 2 (.slice (some ⟨g, 0, none⟩) L.length cap) L.length (srow L)) (hn : L.length < 4611686018427387904) :
    Calls Try.prog 52 #[.slice (some ⟨g, 0, none⟩) L.length cap, .func (.func 53) #[] #[]] w fun e w' => e = .returned (.tuple #[]) ∧
      ∃ L' : List Spn, L'.length = L.length ∧ L'.Perm L ∧ (∀ (i j : Nat) (x y : Spn), i < j → L'[i]? = some x → L'[j]? = some y → x.1 ≤ y.1) ∧ w'.ownsRow base 34 2 (.slice (some ⟨g, 0, none⟩) L.length cap) L.length (srow L') ∧ Below base w w' := by
  have eg : ∀ args w, (callFunc 53 args).run Try.prog w = .ok (.enter 53 args) w := enters_of Try.func53 (by kernel_rfl) rfl
  have hlt : g < w.heap.size := (ho.lt g rfl).2
  have hcon := AnyQ.slices_SortFunc sortSpans 2 Try.isAgg34 Try.sizeOf34 encS encS_len encS_one (fun x y => cmpS x.1 y.1) order_swo 53 #[] g 0 cap L.toArray w eg (order_lays g 0 L.toArray.size w) (holdsK_own encS_len ho) hlt (by simpa using hn)
  change Calls Try.prog 52 #[.slice (some ⟨g, 0, none⟩) L.length cap, .func (.func 53) #[] #[]] w _ at hcon
  refine hcon.mono fun e w' ⟨he, h⟩ => ⟨he, ?_⟩
  obtain ⟨L', h1, h2, h3, h4, h5⟩ := sort_own encS_len (lt := ltOf fun x y : Spn => cmpS x.1 y.1) ho (by simpa using h)
  refine ⟨L', h1, h2, fun i j x y hij hx hy => ?_, h4, h5⟩
  have := h3 i j x y hij hx hy
  rw [order_lt] at this
  simp at this
  grind
end Go.Proofs.Ytblljpdlmllceaa
/-
  Library functions at spans: Clone, Clip, IndexFunc.
-/
namespace Go.Proofs.Ytblljpdlmllceaa
open Go.RowKit
set_option linter.unusedVariables false
set_option linter.unusedSimpArgs false
set_option maxHeartbeats 400000 in
theorem sclone_nil (c : Nat) (w : World) : Calls Try.prog 51 #[.slice none 0 c] w fun e w' => e = .returned (.slice none 0 0) ∧ w = w' := by
  have hq := fun W => eql_slice_nil_any Try.underlying47 W none 0 c 0 0
  go_enter Try.func51, Try.ntmps51
  go_wp2_with fail
  go_ret
  exact ⟨rfl, rfl⟩
set_option maxHeartbeats 400000 in
theorem sclone_some {w : World} {b o n : Nat} {L : List Spn} (hr : Rd w 2 (some ⟨b, o, none⟩) n (srow L)) (c : Nat) (hb : n * 32 ≤ 140737488355328) (hn : n ≤ maxLen) :
    Calls Try.prog 51 #[.slice (some ⟨b, o, none⟩) n c] w fun e w' =>
      (∃ v, e = .returned v ∧ w'.ownsRow w.heap.size 34 2 v n (srow L)) ∧ Below w.heap.size w w' := by
  have hq := fun W => eql_slice_nil_any Try.underlying47 W (some ⟨b, o, none⟩) n c 0 0
  have HR := hide_ hr
  have hown := hide_ (own_new w #[] 34 2 0 w.heap.size rfl (Nat.zero_le _) (Nat.le_refl _))
  clear hr
  go_enter Try.func51, Try.ntmps51
  go_wp2_with (at_builtin; go_loud (refine wpList_append_rd _ rfl (.tmp 5) (.tmp 6) 47 rfl w.heap.size 34 2 32 spanT _ 0 [] rfl hown.out _ n _ (srow L) rfl (HR.out.alloc _) (srow_one L) (by omega) (by omega) (by simp) (fun h => nomatch h) ?_; intro v2 w2 hown2 hg2 hat2; have hb2 := hide_ (own_grown ((Below.refl _ _).alloc (Nat.le_refl _) _) hown.out hg2 (by simp)); have HO2 := hide_ hown2; clear hown2 hg2 hat2))
  go_ret
  have h2 := HO2.out
  simp only [Nat.zero_add, List.nil_append] at h2
  exact ⟨⟨_, rfl, h2⟩, hb2.out⟩
theorem sclone_any {w : World} {A : Option Addr} {n c : Nat} {L : List Spn} (hr : Rd w 2 A n (srow L)) (hA : A = none → n = 0) (hb : n * 32 ≤ 140737488355328) (hn : n ≤ maxLen) :
    Calls Try.prog 51 #[.slice A n c] w fun e w' =>
      (∃ v, e = .returned v ∧ w'.ownsRow w.heap.size 34 2 v n (srow L)) ∧ Below w.heap.size w w' := by
  rcases A with _ | a
  · obtain rfl := hA rfl
    have hL : srow L = [] := List.eq_nil_of_length_eq_zero (by simpa using hr.1)
    refine (sclone_nil c w).mono fun e w' ⟨he, hw⟩ => ?_
    subst hw
    exact ⟨⟨_, he, by rw [hL]; exact World.ownsRow_nil _ _ _ _⟩, Below.refl _ _⟩
  · by_cases h0 : 0 < (srow L).length
    · obtain ⟨b, o, e, _⟩ := hr.2 h0
      injection e with e
      subst e
      exact sclone_some hr c hb hn
    · have hn0 : n = 0 := by have := hr.1; omega
      subst hn0
      have hL : srow L = [] := List.eq_nil_of_length_eq_zero (by omega)
      have hq := fun W => eql_slice_nil_any Try.underlying47 W (some a) 0 c 0 0
      have hown := hide_ (own_new w #[] 34 2 0 w.heap.size rfl (Nat.zero_le _) (Nat.le_refl _))
      rw [hL]
      clear hr hA hb hL
      go_enter Try.func51, Try.ntmps51
      go_wp2_with (at_builtin; go_loud (refine wpList_append_rd _ rfl (.tmp 5) (.tmp 6) 47 rfl w.heap.size 34 2 32 spanT _ 0 [] rfl hown.out _ 0 _ [] rfl (Rd.nil _ _ _) (fun u hu => by cases hu) (by omega) (by omega) (by simp) (fun h => nomatch h) ?_; intro v2 w2 hown2 hg2 hat2; have hb2 := hide_ (own_grown ((Below.refl _ _).alloc (Nat.le_refl _) _) hown.out hg2 (by simp)); have HO2 := hide_ hown2; clear hown2 hg2 hat2))
      go_ret
      have h2 := HO2.out
      simp only [Nat.zero_add, List.nil_append] at h2
      exact ⟨⟨_, rfl, h2⟩, hb2.out⟩
set_option maxHeartbeats 400000 in
theorem clip_any (A : Option Addr) (n c : Nat) (hnc : n ≤ c) (hA : A = none → n = 0) (w : World) : Calls Try.prog 55 #[.slice A n c] w fun e w' => e = .returned (.slice A n n) ∧ w = w' := by
  have q : (n : Int) ≤ (c : Int) := by omega
  rcases A with _ | ⟨b, o, s⟩
  · obtain rfl := hA rfl
    clear hA
    go_enter Try.func55, Try.ntmps55
    go_wp2_with fail
    go_ret
    exact ⟨rfl, rfl⟩
  · clear hA
    go_enter Try.func55, Try.ntmps55
    go_wp2_with fail
    go_ret
    exact ⟨rfl, rfl⟩
/-- The first empty one. -/
def FirstE (L : List Spn) (i : Int) : Prop := (i = -1 ∧ ∀ (j : Nat) s, L[j]? = some s → s.1 < s.2) ∨ ∃ k : Nat, i = k ∧ (∀ (j : Nat) s, j < k → L[j]? = some s → s.1 < s.2) ∧ ∃ s, L[k]? = some s ∧ s.2 ≤ s.1
set_option maxHeartbeats 800000 in
theorem index_any {w : World} {A : Option Addr} {n c : Nat} {L : List Spn} (hr : Rd w 2 A n (srow L)) (hl : L.length = n) (hn : n ≤ 4611686018427387904) :
    Calls Try.prog 61 #[.slice A n c, .func (.func 40) #[] #[]] w fun e w' => (∃ i, e = .returned (.int .i64 i) ∧ FirstE L i) ∧ Below w.heap.size w w' := by
  have HR := hide_ hr
  have HL := hide_ hl
  clear hr hl
  go_enter Try.func61, Try.ntmps61
  go_wp2_with fail
  go_loopw [5, 8] (fun _ s8 wr => ∃ k : Nat, k ≤ n ∧ s8 = .int .i64 k ∧ Hid (Below w.heap.size w wr) ∧ Hid (∀ (j : Nat) s, j < k → L[j]? = some s → s.1 < s.2)) (fun _ i _ => n - (intOf i).toNat)
  case atStart => exact ⟨0, Nat.zero_le _, rfl, Below.refl _ w, fun j s hj => absurd hj (Nat.not_lt_zero _)⟩
  case round =>
    obtain ⟨k, hk, rfl, HB, HF⟩ := hrel
    by_cases hlt : k < n
    · have q1 : (k : Int) < (n : Int) := by omega
      obtain ⟨s, hs⟩ : ∃ s, L[k]? = some s := ⟨_, List.getElem?_eq_getElem (by rw [HL.out]; exact hlt)⟩
      obtain ⟨b, o, rfl, c1, c2⟩ := (HR.out.below HB.out).span hs
      have HS := hide_ hs
      clear hs
      by_cases he : s.2 ≤ s.1
      · have HE := hide_ he
        have hem := fun W => empty_any s.1 s.2 W
        rw [decide_eq_true he] at hem
        clear he
        go_wp2_with (go_at_call 40; refine (hem _).mono ?_; rintro e w' ⟨rfl, rfl⟩)
        go_ret
        exact ⟨⟨_, rfl, .inr ⟨k, rfl, HF.out, s, HS.out, HE.out⟩⟩, HB.out.alloc HB.out.size _⟩
      · have HE := hide_ he
        have hem := fun W => empty_any s.1 s.2 W
        rw [decide_eq_false he] at hem
        clear he
        go_wp2_with (go_at_call 40; refine (hem _).mono ?_; rintro e w' ⟨rfl, rfl⟩)
        go_roundw
        case rel =>
          refine ⟨k + 1, by omega, by go_num, HB.out.alloc HB.out.size _, fun j t hj ht => ?_⟩
          by_cases hjk : j = k
          · subst hjk
            have h1 := HS.out
            rw [h1] at ht
            injection ht with ht
            subst ht
            have := HE.out
            grind
          · exact HF.out j t (by omega) ht
        case measure => simp [intOf]; omega
    · have hkn : k = n := by omega
      subst hkn
      go_wp2_with fail
      go_ret
      refine ⟨⟨_, rfl, .inl ⟨rfl, fun j s hs => HF.out j s ?_ hs⟩⟩, HB.out⟩
      have := (List.getElem?_eq_some_iff.1 hs).1
      have := HL.out
      omega
end Go.Proofs.Ytblljpdlmllceaa
