/-
  Spans in memory; what the short functions of the package span do.
-/
import Derived.Test.YtidlkomgondkiaaStr
import Derived.Test.YtidlkomgondkiaaSortOwn
import Derived.Test.YtidlkomgondkiaaSortLay
import Derived.Test.YtidlkomgondkiaaRows2
namespace Go.Proofs.Ytidlkomgondkiaa
open Go.RowKit Go.Sort
set_option linter.unusedVariables false
set_option linter.unusedSimpArgs false
/-- A span: from, to. -/
abbrev Spn := ByteArray × ByteArray
def encS (s : Spn) : List Value := [.string s.1, .string s.2]
def srow (L : List Spn) : List Value := L.flatMap encS
theorem encS_len (s : Spn) : (encS s).length = 2 := rfl
theorem encS_one (s : Spn) : ∀ u ∈ encS s, u.oneCell' = true := by
  intro u hu
  simp only [encS, List.mem_cons, List.not_mem_nil, or_false] at hu
  rcases hu with rfl | rfl <;> rfl
theorem srow_len (L : List Spn) : (srow L).length = L.length * 2 := rec_len encS_len L
theorem srow_one (L : List Spn) : ∀ u ∈ srow L, u.oneCell' = true := rec_one encS_one L
theorem srow_fst {L : List Spn} {i : Nat} {s : Spn} (h : L[i]? = some s) : (srow L)[i * 2]? = some (.string s.1) := by
  have := rec_at encS_len h 0 (by omega); simpa [srow, encS] using this
theorem srow_snd {L : List Spn} {i : Nat} {s : Spn} (h : L[i]? = some s) : (srow L)[i * 2 + 1]? = some (.string s.2) := by
  have := rec_at encS_len h 1 (by omega); simpa [srow, encS] using this
theorem spanT : ElemT Try.prog 29 24 2 32 := elem_mk (z := .agg #[.string ByteArray.empty, .string ByteArray.empty]) Try.underlying29 (by kernel_rfl) rfl (by decide)
/-- The cells of element i of a slice that reads as spans. -/
theorem Rd.span {w : World} {A : Option Addr} {n : Nat} {L : List Spn} (h : Rd w 2 A n (srow L)) {i : Nat} {s : Spn} (hi : L[i]? = some s) :
    ∃ b o, A = some ⟨b, o, none⟩ ∧ w.cell? ⟨b, o + i * 2, none⟩ = some (.string s.1) ∧ w.cell? ⟨b, o + i * 2 + 1, none⟩ = some (.string s.2) := by
  have hl := (List.getElem?_eq_some_iff.1 (srow_fst hi)).1
  obtain ⟨b, o, e, hc⟩ := h.2 (by omega)
  exact ⟨b, o, e, hc _ _ (srow_fst hi), hc _ _ (srow_snd hi)⟩
theorem own_base {w : World} {base base' : Nat} {e : TypeId} {size n : Nat} {v : Value} {xs : List Value} (h : w.ownsRow base e size v n xs) (hb : base' ≤ base) : w.ownsRow base' e size v n xs := by
  refine ⟨h.1, ?_⟩
  rcases h.2 with h0 | ⟨g, cap, cur, hv, hbb, hh, hr⟩
  · exact .inl h0
  · exact .inr ⟨g, cap, cur, hv, by omega, hh, hr⟩
theorem cell_alloc {w : World} {b o : Nat} {u : Value} (h : w.cell? ⟨b, o, none⟩ = some u) : ∀ ob, (w.alloc ob).cell? ⟨b, o, none⟩ = some u := fun ob => (World.cell?_alloc_lt w ob _ (cell_lt h)).trans h
theorem row_alloc {w : World} {g : Nat} {x : Obj} (h : w.heap[g]? = some x) (ob : Obj) : (w.alloc ob).heap[g]? = some x := by
  rw [Below.heap_alloc _ _ _ (by rcases Nat.lt_or_ge g w.heap.size with hlt | hge; exact hlt; rw [Array.getElem?_eq_none hge] at h; cases h)]; exact h
set_option maxHeartbeats 400000 in
theorem empty_any (a b : ByteArray) (w : World) : Calls Try.prog 42 #[.agg #[.string a, .string b]] w fun e w' => e = .returned (.bool (decide (b ≤ a))) ∧ w' = w.alloc (.cells #[.string a, .string b] 24) := by
  have h1 : (!(Op.bytesLess a.toList b.toList)) = decide (b ≤ a) := by rw [bl]; by_cases h : a < b <;> simp [h] <;> grind
  have H1 := Lib.hid h1
  clear h1
  go_enter Try.func42, Try.ntmps42
  go_wp2
  go_ret
  exact ⟨by rw [H1.out]; rfl, rfl⟩
set_option maxHeartbeats 400000 in
theorem order_any (x y : Spn) (W : World) : Calls Try.prog 69 #[.agg #[.string x.1, .string x.2], .agg #[.string y.1, .string y.2]] W fun e w' => e = .returned (.int .i64 (cmpS x.1 y.1)) ∧ ∃ q os', w' = grow (W.drewN q) os' := by
  have hcon := fun W' => compare_any x.1 y.1 W'
  generalize cmpS x.1 y.1 = r at hcon ⊢
  go_enter Try.func69, Try.ntmps69
  go_wp2_with (go_at_call 70; refine (hcon _).mono ?_; rintro e w' ⟨rfl, rfl⟩)
  go_ret
  exact ⟨rfl, 0, _, by rw [alloc_eq_grow, alloc_eq_grow, grow_grow]; rfl⟩
theorem order_lays (blk off size : Nat) (w : World) : CmpLays Try.prog 69 #[] encS 2 (fun x y => cmpS x.1 y.1) blk off size w :=
  fun _ _ _ _ x y => order_any x y _
theorem order_lt (x y : Spn) : ltOf (fun x y : Spn => cmpS x.1 y.1) x y = decide (x.1 < y.1) := cmpS_neg x.1 y.1
theorem order_swo : SWO (ltOf fun x y : Spn => cmpS x.1 y.1) :=
  ⟨fun x => by rw [order_lt]; simp; grind, fun x y z h1 h2 => by rw [order_lt] at *; simp at *; grind, fun x y z h1 h2 => by rw [order_lt] at *; simp at *; grind⟩
/-- slices.SortFunc of spans of an own row. -/
theorem sort_any {w : World} {base g cap : Nat} {L : List Spn} (ho : w.ownsRow base 24 2 (.slice (some ⟨g, 0, none⟩) L.length cap) L.length (srow L)) (hn : L.length < 4611686018427387904) :
    Calls Try.prog 68 #[.slice (some ⟨g, 0, none⟩) L.length cap, .func (.func 69) #[] #[]] w fun e w' => e = .returned (.tuple #[]) ∧
      ∃ L' : List Spn, L'.length = L.length ∧ L'.Perm L ∧ (∀ (i j : Nat) (x y : Spn), i < j → L'[i]? = some x → L'[j]? = some y → x.1 ≤ y.1) ∧ w'.ownsRow base 24 2 (.slice (some ⟨g, 0, none⟩) L.length cap) L.length (srow L') ∧ Below base w w' := by
  have eg : ∀ args w, (callFunc 69 args).run Try.prog w = .ok (.enter 69 args) w := enters_of Try.func69 (by kernel_rfl) rfl
  have hlt : g < w.heap.size := (ho.lt g rfl).2
  have hcon := AnyQ.slices_SortFunc sortSpans 2 Try.isAgg24 Try.sizeOf24 encS encS_len encS_one (fun x y => cmpS x.1 y.1) order_swo 69 #[] g 0 cap L.toArray w eg (order_lays g 0 L.toArray.size w) (holdsK_own encS_len ho) hlt (by simpa using hn)
  change Calls Try.prog 68 #[.slice (some ⟨g, 0, none⟩) L.length cap, .func (.func 69) #[] #[]] w _ at hcon
  refine hcon.mono fun e w' ⟨he, h⟩ => ⟨he, ?_⟩
  obtain ⟨L', h1, h2, h3, h4, h5⟩ := sort_own encS_len (lt := ltOf fun x y : Spn => cmpS x.1 y.1) ho (by simpa using h)
  refine ⟨L', h1, h2, fun i j x y hij hx hy => ?_, h4, h5⟩
  have := h3 i j x y hij hx hy
  rw [order_lt] at this
  simp at this
  grind
end Go.Proofs.Ytidlkomgondkiaa
