/-
  front: one field of a front is written.
-/
import Derived.Test.YtcmollfhlillfaaGreatDoorFrOpen
namespace Go.Proofs.YtcmollfhlillfaaGreatDoor
open Go.RowKit
set_option linter.unusedVariables false
set_option linter.unusedSimpArgs false
/-- Two fronts that differ in plain fields alone. -/
structure Plain (s s' : Fr) : Prop where
  chests : s'.chests = s.chests
  refs : s'.refs = s.refs
  bounds : s'.bounds = s.bounds
  seen : s'.seen = s.seen
  queue : s'.queue = s.queue
  wishes : s'.wishes = s.wishes
  cur : s'.cur = s.cur
theorem FrP.not_f {w : World} {f : Nat} {s : Fr} {c : FrC} (h : FrP w f s c) (hnd : (c.blocks f).Nodup) : ∀ k ∈ c.m :: (c.Xc ++ c.Xr ++ c.Xb ++ c.Xq ++ c.Xw ++ c.Xp), ¬ k = f := by
  intro k hk e
  subst e
  unfold FrC.blocks at hnd
  exact (List.nodup_cons.1 hnd).1 hk
theorem FrP.turn {w w' : World} {f : Nat} {s s' : Fr} {c : FrC} (h : FrP w f s c) (hnd : (c.blocks f).Nodup) (hs : Plain s s') (hh : Hits (· = f) w w') (hr : w'.heap[f]? = some (.cells (frCells s' c) 75 (0, 0))) : FrP w' f s' c := by
  have nf := h.not_f hnd
  refine ⟨hr, ?_, ?_, ?_, ?_, ?_, ?_, ?_⟩
  · rw [hs.chests]; exact intsR.frame h.chests hh fun k hk => nf k (by simp [hk])
  · rw [hs.refs]; exact intsR.frame h.refs hh fun k hk => nf k (by simp [hk])
  · rw [hs.bounds]; exact strsR.frame h.bounds hh fun k hk => nf k (by simp [hk])
  · rw [hs.seen]; exact h.seen.hits hh (nf _ (by simp))
  · rw [hs.queue]; exact jobsR.frame h.queue hh fun k hk => nf k (by simp [hk])
  · rw [hs.wishes]; exact wishesR.frame h.wishes hh fun k hk => nf k (by simp [hk])
  · rw [hs.cur]; exact h.cur.frame hh fun k hk => nf k (by simp [hk])
theorem FrH.memf {w : World} {f : Nat} {s : Fr} {X : List Nat} (h : FrH w f s X) : f ∈ X := by
  obtain ⟨c, h1, rfl, h2⟩ := h
  simp [FrC.blocks]
/-- One plain field is written. -/
theorem FrH.put {w : World} {f : Nat} {s s' : Fr} {X : List Nat} (h : FrH w f s X) (j : Nat) (u : Value) (hs : Plain s s') (hc : ∀ c, (frCells s c).setIfInBounds j u = frCells s' c) : FrH (w.setCell ⟨f, j, none⟩ u) f s' X ∧ Hits (· ∈ X) w (w.setCell ⟨f, j, none⟩ u) := by
  have hm := h.memf
  obtain ⟨c, h1, rfl, h2⟩ := h
  have hh : Hits (· = f) w (w.setCell ⟨f, j, none⟩ u) := (Hits.refl (· = f) w).setCell (g := f) (fun _ => rfl) j u
  refine ⟨⟨c, h1.turn h2 hs hh ?_, rfl, h2⟩, hh.mono fun i _ e => by subst e; exact hm⟩
  have := heap_setCell_same w f j _ _ u h1.row
  rwa [hc] at this
end Go.Proofs.YtcmollfhlillfaaGreatDoor
