/-
  code.Reader: numbers and texts that are read one behind the other.
-/
import Derived.Test.YtlgnnmpfipmjeaaGreatZkKText
import Derived.Test.YtlgnnmpfipmjeaaGreatZkKRS
import Derived.Test.YtlgnnmpfipmjeaaGreatZkCWords
import Derived.Test.YtlgnnmpfipmjeaaGreatZkSplit
namespace Go.Proofs.YtlgnnmpfipmjeaaGreat
open Go.RowKit
set_option linter.unusedVariables false
set_option linter.unusedSimpArgs false
/-- An address in bytes, apart from block p. -/
def BAt (w : World) (p : Nat) (a : Addr) : Prop := a.block ≠ p ∧ ∃ cs fz, w.heap[a.block]? = some (.cells cs 5 fz)
theorem BAt.later {w w' : World} {p : Nat} {a : Addr} (h : BAt w p a) (hl : Later w w') : BAt w' p a := by
  obtain ⟨h1, cs, fz, h2⟩ := h
  exact ⟨h1, cs, fz, later_row hl h2⟩
theorem BAt.set {w : World} {p : Nat} {a : Addr} (h : BAt w p a) (j : Nat) (u : Value) : BAt (w.setCell ⟨p, j, none⟩ u) p a := by
  obtain ⟨h1, cs, fz, h2⟩ := h
  exact ⟨h1, cs, fz, (Below.heap_setCell _ _ _ _ h1).trans h2⟩
theorem BAt.hits {F : Nat → Prop} {w w' : World} {p : Nat} {a : Addr} (h : BAt w p a) (hh : Hits F w w') (hF : ¬ F a.block) : BAt w' p a := by
  obtain ⟨h1, cs, fz, h2⟩ := h
  exact ⟨h1, cs, fz, hh.row h2 hF⟩
/-- A reader at block p. -/
def RdrAt (w : World) (p : Nat) (s : RS) : Prop :=
  ∃ A c, w.heap[p]? = some (.cells #[.slice A s.1.length c, .int .i64 s.2] 123 (0, 0)) ∧ Rd w 1 A s.1.length (bvs s.1) ∧ s.1.length ≤ c ∧ (c ≤ 9223372036854775807 ∧ s.1.length ≤ 4398046511104) ∧ (A = none → s.1.length = 0) ∧ ∀ a, A = some a → BAt w p a
theorem RdrAt.later {w w' : World} {p : Nat} {s : RS} (h : RdrAt w p s) (hl : Later w w') : RdrAt w' p s := by
  obtain ⟨A, c, h1, h2, h3, h4, h5, h6⟩ := h
  exact ⟨A, c, later_row hl h1, h2.below hl, h3, h4, h5, fun a ha => (h6 a ha).later hl⟩
theorem RdrAt.lt {w : World} {p : Nat} {s : RS} (h : RdrAt w p s) : p < w.heap.size := by obtain ⟨A, c, h1, _⟩ := h; exact theap_lt h1
theorem Rd.setCell {w : World} {size n : Nat} {A : Option Addr} {xs : List Value} (h : Rd w size A n xs) {p : Nat} (hp : ∀ a, A = some a → a.block ≠ p) (j : Nat) (u : Value) : Rd (w.setCell ⟨p, j, none⟩ u) size A n xs := by
  refine ⟨h.1, fun h0 => ?_⟩
  obtain ⟨b, o, e, hc⟩ := h.2 h0
  refine ⟨b, o, e, fun i v hv => ?_⟩
  have h1 := hc i v hv
  have h2 : b ≠ p := hp _ e
  unfold World.cell? at h1 ⊢
  rw [Below.heap_setCell w ⟨p, j, none⟩ u b h2]; exact h1
/-- What is left of a reader whose cells are set. -/
theorem RdrAt.set {w : World} {p U e : Nat} {A : Option Addr} {c : Nat} {l : List UInt8} {x y : Value} (h1 : w.heap[p]? = some (.cells #[x, y] 123 (0, 0))) (h2 : Rd w 1 A l.length (bvs l)) (h3 : l.length ≤ c) (h4 : c ≤ 9223372036854775807 ∧ l.length ≤ 4398046511104) (h5 : A = none → l.length = 0) (h6 : ∀ a, A = some a → BAt w p a) (hU : U ≤ l.length) :
    RdrAt ((w.setCell ⟨p, 0, none⟩ (.slice (if c = U then A else A.map (·.add U)) (l.length - U) (c - U))).setCell ⟨p, 1, none⟩ (.int .i64 e)) p (l.drop U, e) := by
  have g1 := heap_setCell_same w p 0 _ _ (.slice (if c = U then A else A.map (·.add U)) (l.length - U) (c - U)) h1
  have g2 := heap_setCell_same _ p 1 _ _ (.int .i64 e) g1
  have hlen : (l.drop U).length = l.length - U := List.length_drop
  have hblk2 : ∀ a, (if c = U then A else A.map (·.add U)) = some a → BAt w p a := by
    intro a ha
    split at ha
    · exact h6 a ha
    · cases A with
      | none => cases ha
      | some b =>
        have hb := h6 b rfl
        simp only [Option.map_some, Option.some.injEq] at ha
        subst ha
        unfold Addr.add
        split <;> simpa [BAt] using hb
  have hblk : ∀ a, (if c = U then A else A.map (·.add U)) = some a → a.block ≠ p := fun a ha => (hblk2 a ha).1
  refine ⟨_, c - U, by rw [hlen]; exact g2, ?_, by rw [hlen]; omega, ⟨by omega, by rw [hlen]; omega⟩, ?_, fun a ha => ((hblk2 a ha).set 0 _).set 1 _⟩
  · have hcut := h2.cut (k := U) (cap := c) hU h3
    have eb : bvs (l.drop U) = (bvs l).drop (U * 1) := by simp [bvs, List.map_drop]
    rw [hlen, eb]
    have hcut2 : Rd w 1 (if c = U then A else A.map (·.add U)) (l.length - U) ((bvs l).drop (U * 1)) := by simpa using hcut
    exact (hcut2.setCell hblk 0 _).setCell hblk 1 _
  · intro h
    rw [hlen]
    split at h
    · have := h5 h; omega
    · cases A with
      | none => have := h5 rfl; omega
      | some b => cases h
theorem set2_hits {w : World} {p : Nat} (x y : Value) : Hits (· = p) w ((w.setCell ⟨p, 0, none⟩ x).setCell ⟨p, 1, none⟩ y) :=
  ((Hits.refl (· = p) w).setCell (g := p) (fun _ => rfl) 0 x).setCell (g := p) (fun _ => rfl) 1 y
set_option maxHeartbeats 2000000 in
set_option maxRecDepth 100000 in
theorem newReader_any {w : World} {A : Option Addr} {c : Nat} {l : List UInt8} (hr : Rd w 1 A l.length (bvs l)) (hc : l.length ≤ c) (hcc : c ≤ 9223372036854775807) (hll : l.length ≤ 4398046511104) (hA : A = none → l.length = 0) (hb : ∀ a, A = some a → ∃ cs fz, w.heap[a.block]? = some (.cells cs 5 fz)) :
    Calls Tryz.prog 41 #[.slice A l.length c] w fun e w' => e = .returned (.pointer (some ⟨w.heap.size, 0, none⟩)) ∧ RdrAt w' w.heap.size (l, 0) ∧ Later w w' := by
  go_enter Tryz.func41, Tryz.ntmps41
  go_wp2_with fail
  go_ret
  refine ⟨rfl, ⟨A, c, heap_alloc_new w _, hr.alloc _, hc, ⟨hcc, hll⟩, hA, fun a ha => by
    obtain ⟨cs, fz, h⟩ := hb a ha
    exact ⟨by have := theap_lt h; omega, cs, fz, later_row (later_alloc _ _) h⟩⟩, later_alloc _ _⟩
set_option maxHeartbeats 4000000 in
set_option maxRecDepth 100000 in
theorem rnum_any {w : World} {p : Nat} {s : RS} (h : RdrAt w p s) (hs2 : s.2 ≤ 1000) :
    Calls Tryz.prog 42 #[.pointer (some ⟨p, 0, none⟩)] w fun e w' => e = .returned (.int .i64 (rNum s).1) ∧ RdrAt w' p (rNum s).2 ∧ Hits (· = p) w w' := by
  obtain ⟨l, e0⟩ := s
  obtain ⟨A, c, h1, h2, h3, h4, h5, h6⟩ := h
  simp only at h1 h2 h3 h4 h5 hs2
  have c0 := cell_of_row _ _ 0 _ _ (0, 0) h1
  have c1 := cell_of_row _ _ 1 _ _ (0, 0) h1
  have HROW := hide_ h1; have HRD := hide_ h2; have HA := hide_ h5; have HB := hide_ h6
  by_cases h0 : e0 ≠ 0
  · have q1 : ¬ (e0 : Int) = 0 := by omega
    have HR := hide_ (show rNum (l, e0) = (0, (l, e0)) by unfold rNum; rw [if_pos h0])
    clear h1 h2 h5 h6
    go_enter Tryz.func42, Tryz.ntmps42
    go_wp2_with fail
    go_ret
    rw [HR.out]
    exact ⟨rfl, ⟨A, c, HROW.out, HRD.out, h3, h4, HA.out, HB.out⟩, Hits.refl _ w⟩
  · obtain rfl : e0 = 0 := by omega
    have hnu := num_any (c := c) h2 rfl (by omega)
    have hused := numF_used l
    obtain ⟨N, hN⟩ : ∃ N, N = (numF l).1 := ⟨_, rfl⟩
    obtain ⟨U, hU⟩ : ∃ U, U = (numF l).2.1 := ⟨_, rfl⟩
    obtain ⟨E, hE⟩ : ∃ E, E = (numF l).2.2 := ⟨_, rfl⟩
    have HR := hide_ (show rNum (l, 0) = (N, (l.drop U, E)) by unfold rNum; rw [if_neg (by simp), hN, hU, hE])
    rw [← hN, ← hU, ← hE] at hnu
    rw [← hU] at hused
    have HNU := hide_ hnu
    clear hnu hN hU hE h1 h2 h5 h6
    go_enter Tryz.func42, Tryz.ntmps42
    go_wp2_with fail
    refine HNU.out.mono ?_; rintro e w1 ⟨rfl, hl1⟩
    have HROW1 := hide_ (later_row hl1 HROW.out)
    have HL1 := hide_ hl1
    have d0 := cell_of_row _ _ 0 _ _ (0, 0) HROW1.out
    have d1 := cell_of_row _ _ 1 _ _ (0, 0) HROW1.out
    have g0 := frozen_of_row _ _ 0 _ _ HROW1.out
    have g1 := frozen_of_row _ _ 1 _ _ HROW1.out
    have HSET := hide_ (RdrAt.set (U := U) (e := E) HROW1.out (HRD.out.below hl1) h3 h4 HA.out (fun a ha => (HB.out a ha).later hl1) hused)
    have hq1 : (U : Int) ≤ (l.length : Int) := by omega
    have hq2 : (l.length : Int) ≤ (c : Int) := by omega
    clear hl1 c0 c1
    by_cases hcU : c = U
    · subst hcU
      rw [if_pos rfl, Nat.sub_self, show l.length - c = 0 by omega] at HSET
      go_wp2_with fail
      go_ret
      rw [HR.out]
      exact ⟨rfl, HSET.out, (Hits.later (F := (· = p)) HL1.out).trans (set2_hits _ _) (fun _ _ h => h)⟩
    · rw [if_neg hcU] at HSET
      go_wp2_with fail
      go_ret
      rw [HR.out]
      exact ⟨rfl, HSET.out, (Hits.later (F := (· = p)) HL1.out).trans (set2_hits _ _) (fun _ _ h => h)⟩
set_option maxHeartbeats 4000000 in
set_option maxRecDepth 100000 in
theorem rtext_any {w : World} {p : Nat} {s : RS} (h : RdrAt w p s) (hs2 : s.2 ≤ 1000) :
    Calls Tryz.prog 46 #[.pointer (some ⟨p, 0, none⟩)] w fun e w' => e = .returned (.string ⟨(rText s).1.toArray⟩) ∧ RdrAt w' p (rText s).2 ∧ Hits (· = p) w w' := by
  obtain ⟨l, e0⟩ := s
  obtain ⟨A, c, h1, h2, h3, h4, h5, h6⟩ := h
  simp only at h1 h2 h3 h4 h5 hs2
  have c0 := cell_of_row _ _ 0 _ _ (0, 0) h1
  have c1 := cell_of_row _ _ 1 _ _ (0, 0) h1
  have HROW := hide_ h1; have HRD := hide_ h2; have HA := hide_ h5; have HB := hide_ h6
  by_cases h0 : e0 ≠ 0
  · have q1 : ¬ (e0 : Int) = 0 := by omega
    have HR := hide_ (show rText (l, e0) = ([], (l, e0)) by unfold rText; rw [if_pos h0])
    clear h1 h2 h5 h6
    go_enter Tryz.func46, Tryz.ntmps46
    go_wp2_with fail
    go_ret
    rw [HR.out]
    exact ⟨rfl, ⟨A, c, HROW.out, HRD.out, h3, h4, HA.out, HB.out⟩, Hits.refl _ w⟩
  · obtain rfl : e0 = 0 := by omega
    have hnu := text_any (c := c) h2 rfl (by omega) h3 h5
    have hused := textF_used l
    obtain ⟨N, hN⟩ : ∃ N, N = (textF l).1 := ⟨_, rfl⟩
    obtain ⟨U, hU⟩ : ∃ U, U = (textF l).2.1 := ⟨_, rfl⟩
    obtain ⟨E, hE⟩ : ∃ E, E = (textF l).2.2 := ⟨_, rfl⟩
    have HR := hide_ (show rText (l, 0) = (N, (l.drop U, E)) by unfold rText; rw [if_neg (by simp), hN, hU, hE])
    rw [← hN, ← hU, ← hE] at hnu
    rw [← hU] at hused
    have HNU := hide_ hnu
    clear hnu hN hU hE h1 h2 h5 h6
    go_enter Tryz.func46, Tryz.ntmps46
    go_wp2_with fail
    refine HNU.out.mono ?_; rintro e w1 ⟨rfl, hl1⟩
    have HROW1 := hide_ (later_row hl1 HROW.out)
    have HL1 := hide_ hl1
    have d0 := cell_of_row _ _ 0 _ _ (0, 0) HROW1.out
    have d1 := cell_of_row _ _ 1 _ _ (0, 0) HROW1.out
    have g0 := frozen_of_row _ _ 0 _ _ HROW1.out
    have g1 := frozen_of_row _ _ 1 _ _ HROW1.out
    have HSET := hide_ (RdrAt.set (U := U) (e := E) HROW1.out (HRD.out.below hl1) h3 h4 HA.out (fun a ha => (HB.out a ha).later hl1) hused)
    have hq1 : (U : Int) ≤ (l.length : Int) := by omega
    have hq2 : (l.length : Int) ≤ (c : Int) := by omega
    clear hl1 c0 c1
    by_cases hcU : c = U
    · subst hcU
      rw [if_pos rfl, Nat.sub_self, show l.length - c = 0 by omega] at HSET
      go_wp2_with fail
      go_ret
      rw [HR.out]
      exact ⟨rfl, HSET.out, (Hits.later (F := (· = p)) HL1.out).trans (set2_hits _ _) (fun _ _ h => h)⟩
    · rw [if_neg hcU] at HSET
      go_wp2_with fail
      go_ret
      rw [HR.out]
      exact ⟨rfl, HSET.out, (Hits.later (F := (· = p)) HL1.out).trans (set2_hits _ _) (fun _ _ h => h)⟩
set_option maxHeartbeats 2000000 in
set_option maxRecDepth 100000 in
theorem rcount_any {w : World} {p : Nat} {s : RS} (h : RdrAt w p s) (hs2 : s.2 ≤ 1000) (most : Nat) (hm : most ≤ 4398046511104) :
    Calls Tryz.prog 44 #[.pointer (some ⟨p, 0, none⟩), .int .i64 most] w fun e w' => e = .returned (.int .i64 (rCount most s).1) ∧ RdrAt w' p (rCount most s).2 ∧ Hits (· = p) w w' := by
  have HNU := hide_ (rnum_any h hs2)
  obtain ⟨N, hN⟩ : ∃ N, N = (rNum s).1 := ⟨_, rfl⟩
  obtain ⟨T, hT⟩ : ∃ T, T = (rNum s).2 := ⟨_, rfl⟩
  rw [← hN, ← hT] at HNU
  have HR := hide_ (show rCount most s = if most < N then (0, (T.1, 2)) else (N, T) by unfold rCount; rw [← hN, ← hT]; split <;> simp [hN, hT])
  clear h hs2 hN hT
  go_enter Tryz.func44, Tryz.ntmps44
  go_wp2_with fail
  refine HNU.out.mono ?_; rintro e w1 ⟨rfl, hr1, hh1⟩
  have HR1 := hide_ hr1; have HH1 := hide_ hh1
  by_cases hlt : most < N
  · have q1 : (most : Int) < (N : Int) := by omega
    rw [if_pos hlt] at HR
    obtain ⟨A, c, h1, h2, h3, h4, h5, h6⟩ := hr1
    have d1 := cell_of_row _ _ 1 _ _ (0, 0) h1
    have g1 := frozen_of_row _ _ 1 _ _ h1
    have HSET := hide_ (show RdrAt (w1.setCell ⟨p, 1, none⟩ (.int .i64 2)) p (T.1, 2) from ⟨A, c, heap_setCell_same w1 p 1 _ _ _ h1, h2.setCell (fun a ha => (h6 a ha).1) 1 _, h3, h4, h5, fun a ha => (h6 a ha).set 1 _⟩)
    clear h1 h2 h3 h4 h5 h6 hh1
    go_wp2_with fail
    go_ret
    rw [HR.out]
    exact ⟨rfl, HSET.out, HH1.out.setCell (g := p) (fun _ => rfl) 1 _⟩
  · have q1 : ¬ (most : Int) < (N : Int) := by omega
    rw [if_neg hlt] at HR
    clear hr1 hh1
    go_wp2_with fail
    go_ret
    rw [HR.out]
    exact ⟨rfl, HR1.out, HH1.out⟩
set_option maxHeartbeats 2000000 in
set_option maxRecDepth 100000 in
theorem rdone_any {w : World} {p : Nat} {s : RS} (h : RdrAt w p s) (hs2 : s.2 ≤ 1000) :
    Calls Tryz.prog 56 #[.pointer (some ⟨p, 0, none⟩)] w fun e w' => e = .returned (.bool (rDone s)) ∧ w' = w := by
  obtain ⟨l, e0⟩ := s
  obtain ⟨A, c, h1, h2, h3, h4, h5, h6⟩ := h
  simp only at h1 h3 h4 hs2
  have c0 := cell_of_row _ _ 0 _ _ (0, 0) h1
  have c1 := cell_of_row _ _ 1 _ _ (0, 0) h1
  clear h1 h2 h5 h6
  by_cases h0 : e0 = 0
  · subst h0
    by_cases hl : l = []
    · subst hl
      go_enter Tryz.func56, Tryz.ntmps56
      go_wp2_with fail
      go_ret
      exact ⟨rfl, rfl⟩
    · have hlen : ¬ (l.length : Int) = 0 := by
        intro h
        exact hl (List.eq_nil_of_length_eq_zero (by omega))
      have HD := hide_ (show rDone (l, 0) = false by unfold rDone; simp [hl])
      have hb := hide_ (show ((l.length : Int) == 0) = false by simpa using hlen)
      clear hl
      go_enter Tryz.func56, Tryz.ntmps56
      go_wp2_with fail
      go_ret
      exact ⟨by rw [HD.out]; show Ending.returned (.bool ((l.length : Int) == 0)) = _; rw [hb.out], rfl⟩
  · have q1 : ¬ (e0 : Int) = 0 := by omega
    have HD := hide_ (show rDone (l, e0) = false by unfold rDone; simp [h0])
    clear h0
    go_enter Tryz.func56, Tryz.ntmps56
    go_wp2_with fail
    go_ret
    exact ⟨by rw [HD.out]; rfl, rfl⟩
set_option maxHeartbeats 2000000 in
set_option maxRecDepth 100000 in
theorem rerror_any {w : World} {p : Nat} {s : RS} (h : RdrAt w p s) :
    Calls Tryz.prog 43 #[.pointer (some ⟨p, 0, none⟩)] w fun e w' => e = .returned (.int .i64 s.2) ∧ w' = w := by
  obtain ⟨l, e0⟩ := s
  obtain ⟨A, c, h1, h2, h3, h4, h5, h6⟩ := h
  have c1 := cell_of_row _ _ 1 _ _ (0, 0) h1
  clear h1 h2 h5 h6
  go_enter Tryz.func43, Tryz.ntmps43
  go_wp2_with fail
  go_ret
  exact ⟨rfl, rfl⟩

end Go.Proofs.YtlgnnmpfipmjeaaGreat
