/-
  Plain facts: the document's marks, a list of all that was written.
-/
import Derived.Test.YtidlkomgondkiaaMarkSize
namespace Go.Proofs.Ytidlkomgondkiaa
open Go.RowKit
set_option linter.unusedVariables false
/-- The version of the last write at a key; 0: none. -/
def lastW (W : List Mk) (x : ByteArray) : Int := W.foldl (fun v k => if k.1.1 ≤ x ∧ x < k.1.2 then k.2 else v) 0
theorem lastW_yes {W : List Mk} {k : Mk} {x : ByteArray} (h : InS k.1 x) : lastW (W ++ [k]) x = k.2 := by
  unfold lastW; rw [List.foldl_append]; exact if_pos h
theorem lastW_no {W : List Mk} {k : Mk} {x : ByteArray} (h : ¬ InS k.1 x) : lastW (W ++ [k]) x = lastW W x := by
  unfold lastW; rw [List.foldl_append]; exact if_neg h
/-- What is seen of a version, at a floor. -/
def vis (f v : Int) : Int := if v ≤ f then 0 else v
theorem vis_zero {f : Int} (hf : 0 ≤ f) : vis f 0 = 0 := if_pos hf
theorem vis_vis {f g v : Int} (hf : 0 ≤ f) (hg : f ≤ g) : vis g (vis f v) = vis g v := by
  unfold vis
  by_cases h1 : v ≤ f
  · rw [if_pos h1, if_pos (show (0 : Int) ≤ g by omega), if_pos (show v ≤ g by omega)]
  · rw [if_neg h1]
/-- The spans that were written. -/
def spansW (W : List Mk) : List Spn := W.map (·.1)
/-- The version of the last write at a key, if that is one of the first i. -/
def lastAt (W : List Mk) (i : Nat) (x : ByteArray) (v : Int) : Prop := (InL (spansW (W.drop i)) x → v = 0) ∧ (¬ InL (spansW (W.drop i)) x → v = lastW (W.take i) x)
theorem lastAt_uniq {W : List Mk} {i : Nat} {x : ByteArray} {v u : Int} (h : lastAt W i x v) (k : lastAt W i x u) : v = u := by
  by_cases hx : InL (spansW (W.drop i)) x
  · rw [h.1 hx, k.1 hx]
  · rw [h.2 hx, k.2 hx]
theorem lastAt_zero (W : List Mk) (x : ByteArray) : lastAt W 0 x 0 := ⟨fun _ => rfl, fun _ => by rw [List.take_zero]; rfl⟩
theorem lastAt_end {W : List Mk} {x : ByteArray} {v : Int} (h : lastAt W W.length x v) : v = lastW W x := by
  have := h.2 (by rw [List.drop_length]; exact InL.nil)
  rwa [List.take_length] at this
theorem inL_drop {W : List Mk} {i : Nat} {k : Mk} (hk : W[i]? = some k) (x : ByteArray) : InL (spansW (W.drop i)) x ↔ InS k.1 x ∨ InL (spansW (W.drop (i + 1))) x := by
  have e := List.getElem?_eq_some_iff.1 hk
  rw [List.drop_eq_getElem_cons e.1, e.2]
  unfold spansW
  rw [List.map_cons, InL.cons]
/-- One write more: where it is the last, its version; elsewhere as it was. -/
theorem lastAt_next {W : List Mk} {i : Nat} {k : Mk} (hk : W[i]? = some k) {x : ByteArray} {v : Int} (h : lastAt W i x v) :
    (InS k.1 x → ¬ InL (spansW (W.drop (i + 1))) x → v = 0 ∧ lastAt W (i + 1) x k.2) ∧ (¬ (InS k.1 x ∧ ¬ InL (spansW (W.drop (i + 1))) x) → lastAt W (i + 1) x v) := by
  have hd := inL_drop hk x
  constructor
  · intro h1 h2
    refine ⟨h.1 (hd.2 (.inl h1)), fun h3 => absurd h3 h2, fun _ => ?_⟩
    rw [take_snoc hk, lastW_yes h1]
  · intro hn
    refine ⟨fun h3 => h.1 (hd.2 (.inr h3)), fun h3 => ?_⟩
    have h1 : ¬ InS k.1 x := fun h1 => hn ⟨h1, h3⟩
    rw [take_snoc hk, lastW_no h1]
    exact h.2 fun h4 => (hd.1 h4).elim h1 h3
/-- The pieces of what was written n-th, that were not written later. -/
def LeftW (W : List Mk) (i : Nat) (k : Mk) (R : List Spn) : Prop := Canon R ∧ ∀ x, InL R x ↔ InS k.1 x ∧ ¬ InL (spansW (W.drop (i + 1))) x
/-- All pieces of the first i that are seen. -/
def AllW (W : List Mk) (f : Int) (i : Nat) (P : List Mk) : Prop := Apart P ∧ ∀ x v, lastAt W i x v → verL P x = vis f v
theorem allW_start (W : List Mk) {f : Int} (hf : 0 ≤ f) : AllW W f 0 [] := ⟨⟨fun k hk => (by cases hk), List.Pairwise.nil⟩, fun x v h => by rw [lastAt_uniq h (lastAt_zero W x), vis_zero hf]; rfl⟩
theorem exists_lastAt (W : List Mk) (i : Nat) (x : ByteArray) : ∃ v, lastAt W i x v := by
  by_cases h : InL (spansW (W.drop i)) x
  · exact ⟨0, fun _ => rfl, fun h2 => absurd h h2⟩
  · exact ⟨lastW (W.take i) x, fun h2 => absurd h2 h, fun _ => rfl⟩
theorem allW_skip {W : List Mk} {f : Int} {i : Nat} {P : List Mk} {k : Mk} (h : AllW W f i P) (hf : 0 ≤ f) (hk : W[i]? = some k) (hv : k.2 ≤ f) : AllW W f (i + 1) P := by
  refine ⟨h.1, fun x u hu => ?_⟩
  obtain ⟨v, hv2⟩ := exists_lastAt W i x
  rw [h.2 x v hv2]
  have hn := lastAt_next hk hv2
  by_cases hx : InS k.1 x ∧ ¬ InL (spansW (W.drop (i + 1))) x
  · obtain ⟨h0, h1⟩ := hn.1 hx.1 hx.2
    rw [lastAt_uniq hu h1, h0, vis_zero hf]
    exact (if_pos hv).symm
  · rw [lastAt_uniq hu (hn.2 hx)]
theorem apart_append {A B : List Mk} (hA : Apart A) (hB : Apart B) (h : ∀ a, a ∈ A → ∀ b, b ∈ B → ∀ x, InS a.1 x → ¬ InS b.1 x) : Apart (A ++ B) :=
  ⟨fun k hk => (List.mem_append.1 hk).elim (hA.1 k) (hB.1 k), List.pairwise_append.2 ⟨hA.2, hB.2, fun a ha b hb => h a ha b hb⟩⟩
theorem allW_next {W : List Mk} {f : Int} {i : Nat} {P : List Mk} {k : Mk} {R : List Spn} (h : AllW W f i P) (hf : 0 ≤ f) (hk : W[i]? = some k) (hv : f < k.2) (hR : LeftW W i k R) : AllW W f (i + 1) (P ++ R.map fun r => (r, k.2)) := by
  have hout : ∀ x, InL R x → ∀ a, a ∈ P → ¬ InS a.1 x := fun x hx a ha hax => by
    obtain ⟨v, hv2⟩ := exists_lastAt W i x
    have h1 := h.2 x v hv2
    have h2 := (hR.2 x).1 hx
    have h3 := ((lastAt_next hk hv2).1 h2.1 h2.2).1
    rw [h3, vis_zero hf, h.1.ver ha hax] at h1
    have := (h.1.1 a ha).2
    omega
  refine ⟨apart_append h.1 (canon_marked hR.1 (by omega)).apart fun a ha b hb x hax hbx => ?_, fun x u hu => ?_⟩
  · obtain ⟨r, hr, rfl⟩ := List.mem_map.1 hb
    exact hout x ⟨r, hr, hbx⟩ a ha hax
  · obtain ⟨v, hv2⟩ := exists_lastAt W i x
    have hn := lastAt_next hk hv2
    by_cases hx : InS k.1 x ∧ ¬ InL (spansW (W.drop (i + 1))) x
    · obtain ⟨h0, h1⟩ := hn.1 hx.1 hx.2
      have hxR := (hR.2 x).2 hx
      rw [lastAt_uniq hu h1, verL_append (hout x hxR), ver_map.1 hxR]
      exact (if_neg (by omega)).symm
    · have hxR : ¬ InL R x := fun h2 => hx ((hR.2 x).1 h2)
      rw [lastAt_uniq hu (hn.2 hx), ← h.2 x v hv2]
      by_cases hax : ∃ a, a ∈ P ∧ InS a.1 x
      · exact verL_first hax
      · have h5 : ∀ j, j ∈ P → ¬ InS j.1 x := fun j hj hjx => hax ⟨j, hj, hjx⟩
        rw [verL_append h5, ver_map.2 hxR, verL_none h5]
theorem allW_end {W : List Mk} {f : Int} {P : List Mk} (h : AllW W f W.length P) (x : ByteArray) : verL P x = vis f (lastW W x) := by
  obtain ⟨v, hv⟩ := exists_lastAt W W.length x
  rw [h.2 x v hv, lastAt_end hv]
/-- The document's Last, behind the first i writes. -/
def LastI (W : List Mk) (f : Int) (s : Spn) (i : Nat) (n : Int) : Prop := (∀ x v, InS s x → lastAt W i x v → vis f v ≤ n) ∧ 0 ≤ n ∧ (n = 0 ∨ ∃ x v, InS s x ∧ lastAt W i x v ∧ vis f v = n)
theorem lastI_start (W : List Mk) {f : Int} (hf : 0 ≤ f) (s : Spn) : LastI W f s 0 0 := ⟨fun x v _ h => by rw [lastAt_uniq h (lastAt_zero W x), vis_zero hf]; exact Int.le_refl _, Int.le_refl _, .inl rfl⟩
theorem lastI_keep {W : List Mk} {f : Int} {s : Spn} {i : Nat} {n : Int} {k : Mk} (h : LastI W f s i n) (hf : 0 ≤ f) (hk : W[i]? = some k) (hv : k.2 ≤ f ∨ k.2 ≤ n ∨ ∀ x, InS s x → ¬ (InS k.1 x ∧ ¬ InL (spansW (W.drop (i + 1))) x)) : LastI W f s (i + 1) n := by
  obtain ⟨h1, h2, h3⟩ := h
  refine ⟨fun x u hx hu => ?_, h2, ?_⟩
  · obtain ⟨v, hv2⟩ := exists_lastAt W i x
    have hn := lastAt_next hk hv2
    by_cases hy : InS k.1 x ∧ ¬ InL (spansW (W.drop (i + 1))) x
    · rw [lastAt_uniq hu (hn.1 hy.1 hy.2).2]
      rcases hv with hv | hv | hv
      · rw [show vis f k.2 = 0 from if_pos hv]; exact h2
      · unfold vis; split <;> omega
      · exact absurd hy (hv x hx)
    · rw [lastAt_uniq hu (hn.2 hy)]
      exact h1 x v hx hv2
  · rcases h3 with h3 | ⟨x, v, hx, hv2, e⟩
    · exact .inl h3
    · have hn := lastAt_next hk hv2
      by_cases hy : InS k.1 x ∧ ¬ InL (spansW (W.drop (i + 1))) x
      · have := (hn.1 hy.1 hy.2).1
        rw [this, vis_zero hf] at e
        exact .inl e.symm
      · exact .inr ⟨x, v, hx, hn.2 hy, e⟩
theorem lastI_more {W : List Mk} {f : Int} {s : Spn} {i : Nat} {n : Int} {k : Mk} (h : LastI W f s i n) (hf : 0 ≤ f) (hk : W[i]? = some k) (hv : f < k.2) (hn : n < k.2) (hx : ∃ x, InS s x ∧ InS k.1 x ∧ ¬ InL (spansW (W.drop (i + 1))) x) : LastI W f s (i + 1) k.2 := by
  obtain ⟨h1, h2, h3⟩ := h
  refine ⟨fun x u hxs hu => ?_, by omega, .inr ?_⟩
  · obtain ⟨v, hv2⟩ := exists_lastAt W i x
    have hne := lastAt_next hk hv2
    by_cases hy : InS k.1 x ∧ ¬ InL (spansW (W.drop (i + 1))) x
    · rw [lastAt_uniq hu (hne.1 hy.1 hy.2).2, show vis f k.2 = k.2 from if_neg (by omega)]; exact Int.le_refl _
    · rw [lastAt_uniq hu (hne.2 hy)]
      have := h1 x v hxs hv2
      omega
  · obtain ⟨x, hxs, hy⟩ := hx
    obtain ⟨v, hv2⟩ := exists_lastAt W i x
    exact ⟨x, k.2, hxs, ((lastAt_next hk hv2).1 hy.1 hy.2).2, if_neg (by omega)⟩
theorem lastI_end {W : List Mk} {f : Int} {s : Spn} {n : Int} (h : LastI W f s W.length n) : IsMax (fun x => vis f (lastW W x)) s n := by
  obtain ⟨h1, h2, h3⟩ := h
  refine ⟨fun x hx => ?_, h2, ?_⟩
  · obtain ⟨v, hv⟩ := exists_lastAt W W.length x
    have := h1 x v hx hv
    rwa [lastAt_end hv] at this
  · rcases h3 with h3 | ⟨x, v, hx, hv, e⟩
    · exact .inl h3
    · exact .inr ⟨x, hx, by show vis f (lastW W x) = n; rw [← lastAt_end hv]; exact e⟩
/-- Both say the same of keys. -/
def Agree (L : List Mk) (W : List Mk) (f : Int) : Prop := ∀ x, verL L x = vis f (lastW W x)
theorem agree_start (f : Int) (hf : 0 ≤ f) : Agree [] [] f := fun x => by rw [show lastW [] x = 0 from rfl, vis_zero hf]; rfl
theorem agree_write {L L' W : List Mk} {f : Int} {s : Spn} {v : Int} (h : Agree L W f) (hv : f < v) (hw : WrittenM L s v L') : Agree L' (W ++ [(s, v)]) f := fun x => by
  by_cases hx : InS s x
  · rw [(hw.2.1 x).1 hx, lastW_yes (show InS ((s, v) : Mk).1 x from hx)]
    exact (if_neg (by omega)).symm
  · rw [(hw.2.1 x).2 hx, lastW_no (show ¬ InS ((s, v) : Mk).1 x from hx)]; exact h x
theorem agree_forget {L W : List Mk} {f g : Int} (h : Agree L W f) (hm : Marked L) (hf : 0 ≤ f) (hg : f ≤ g) : Agree (L.filter fun k => !decide (k.2 ≤ g)) W g := fun x => by
  rw [ver_forget hm g (by omega), h x, ← vis_vis hf hg]; rfl
theorem agree_last {L W : List Mk} {f n : Int} {s : Spn} (h : Agree L W f) (hm : Marked L) (hn : LastI W f s W.length n) : lastL L s = n := by
  refine isMax_uniq (lastL_max hm.apart s) ?_
  have h1 := lastI_end hn
  have e : (fun x => vis f (lastW W x)) = verL L := funext fun x => (h x).symm
  rwa [e] at h1
theorem agree_size {L W P : List Mk} {f : Int} (h : Agree L W f) (hm : Marked L) (hP : AllW W f W.length P) : runs L = runs P :=
  runs_eq hm.apart hP.1 fun x => by rw [h x, allW_end hP]
end Go.Proofs.Ytidlkomgondkiaa
