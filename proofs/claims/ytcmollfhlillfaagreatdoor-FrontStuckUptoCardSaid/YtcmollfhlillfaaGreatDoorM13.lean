/-
  Texts of this seat in one: KText, KRead, KWrite.
-/
import Derived.Test.YtcmollfhlillfaaGreatDoorM12
import Derived.Test.YtcmollfhlillfaaGreatDoorM5
import Derived.Test.YtcmollfhlillfaaGreatDoorM4
/-
  code.Text: the text that bytes begin with.
-/
namespace Go.Proofs.YtcmollfhlillfaaGreatDoor
open Go.RowKit
set_option linter.unusedVariables false
set_option linter.unusedSimpArgs false
theorem textF_used (l : List UInt8) : (textF l).2.1 ≤ l.length := by
  have h := numF_used l
  unfold textF
  split
  · simp
  · split
    · simp
    · split
      · simp
      · simp only; omega
set_option maxHeartbeats 4000000 in
set_option maxRecDepth 100000 in
theorem text_any {w : World} {A : Option Addr} {n c : Nat} {l : List UInt8} (hr : Rd w 1 A n (bvs l)) (hl : l.length = n) (hn : n ≤ 4398046511104) (hc : n ≤ c) (hA : A = none → n = 0) :
    Calls Tryz.prog 119 #[.slice A n c] w fun e w' => e = .returned (.tuple #[.string ⟨(textF l).1.toArray⟩, .int .i64 (textF l).2.1, .int .i64 (textF l).2.2]) ∧ Later w w' := by
  have HR := hide_ hr
  have HNU := hide_ (num_any (c := c) hr hl hn)
  subst hl
  have hn2 : (l.length : Int) ≤ 4398046511104 := by omega
  have HA := hide_ hA
  have hused := numF_used l
  have hlt := numF_lt l
  obtain ⟨N, hN⟩ : ∃ N, N = (numF l).1 := ⟨_, rfl⟩
  obtain ⟨U, hU⟩ : ∃ U, U = (numF l).2.1 := ⟨_, rfl⟩
  obtain ⟨E, hE⟩ : ∃ E, E = (numF l).2.2 := ⟨_, rfl⟩
  rw [← hN, ← hU, ← hE] at HNU
  rw [← hU] at hused
  rw [← hN] at hlt
  have HT := hide_ (show textF l = if E ≠ 0 then ([], 0, E) else if 65536 < N then ([], 0, 6) else if l.length - U < N then ([], 0, 3) else ((l.drop U).take N, U + N, 0) by unfold textF; rw [← hN, ← hU, ← hE])
  clear hr hA hN hU hE
  go_enter Tryz.func119, Tryz.ntmps119
  go_wp2_with fail
  refine HNU.out.mono ?_; rintro e w1 ⟨rfl, hl1⟩
  have HL1 := hide_ hl1
  clear hl1
  by_cases h0 : E ≠ 0
  · have q1 : ¬ (E : Int) = 0 := by omega
    rw [if_pos h0] at HT
    go_wp2_with fail
    go_ret3
    exact ⟨by rw [HT.out]; rfl, HL1.out⟩
  · obtain rfl : E = 0 := by omega
    rw [if_neg h0] at HT
    by_cases h1 : 65536 < N
    · have q1 : (65536 : Int) < (N : Int) := by omega
      rw [if_pos h1] at HT
      go_wp2_with fail
      go_ret3
      exact ⟨by rw [HT.out]; rfl, HL1.out⟩
    · have q1 : ¬ (65536 : Int) < (N : Int) := by omega
      rw [if_neg h1] at HT
      have q2 : IntKind.i64.wrap ((l.length : Int) - (U : Int)) = ((l.length - U : Nat) : Int) := by rw [IntWalk.i64_in] <;> omega
      by_cases h2 : l.length - U < N
      · have q3 : ((l.length - U : Nat) : Int) < (N : Int) := by omega
        have q4 : (l.length : Int) - (U : Int) < (N : Int) := by omega
        rw [if_pos h2] at HT
        go_wp2_with fail
        go_ret3
        exact ⟨by rw [HT.out]; rfl, HL1.out⟩
      · have q3 : ¬ ((l.length - U : Nat) : Int) < (N : Int) := by omega
        have q4 : ¬ (l.length : Int) - (U : Int) < (N : Int) := by omega
        rw [if_neg h2] at HT
        have q5 : IntKind.i64.wrap ((U : Int) + (N : Int)) = ((U + N : Nat) : Int) := by rw [IntWalk.i64_in] <;> omega
        have hlen : ((l.drop U).take N).length = N := by rw [List.length_take, List.length_drop]; omega
        have hRd : Rd w1 1 (if c = U then A else A.map (·.add U)) N (bvs ((l.drop U).take N)) := by
          have h := ((HR.out.below HL1.out).cut (k := U) (cap := c) hused hc).take (k := N) (by omega)
          have e : (bvs ((l.drop U).take N)) = ((bvs l).drop (U * 1)).take (N * 1) := by simp [bvs, List.map_take, List.map_drop]
          rw [e]
          simpa using h
        have hb1 : (U : Int) ≤ (c : Int) := by omega
        have hb2 : ((U + N : Nat) : Int) ≤ (c : Int) := by omega
        by_cases hcU : c = U
        · rw [if_pos hcU] at hRd
          have hcv : (convert 51 9 (.slice A N 0)).run Tryz.prog w1 = .ok (.string ⟨((l.drop U).take N).toArray⟩) w1 := run_str_n _ _ 5 0 hlen Tryz.underlying51 Tryz.underlying5 Tryz.underlying9 (fun h => by have := HA.out h; omega) hRd
          clear hRd hlen
          go_wp2_with fail
          go_ret3
          exact ⟨by rw [HT.out]; rfl, HL1.out⟩
        · rw [if_neg hcU] at hRd
          have hcv : (convert 51 9 (.slice (A.map (·.add U)) N (c - U))).run Tryz.prog w1 = .ok (.string ⟨((l.drop U).take N).toArray⟩) w1 := run_str_n _ _ 5 (c - U) hlen Tryz.underlying51 Tryz.underlying5 Tryz.underlying9 (fun h => by
            cases A with
            | none => have := HA.out rfl; omega
            | some a => cases h) hRd
          clear hRd hlen
          go_wp2_with fail
          go_ret3
          exact ⟨by rw [HT.out]; rfl, HL1.out⟩

end Go.Proofs.YtcmollfhlillfaaGreatDoor
/-
  code.Reader: numbers and texts that are read one behind the other.
-/
namespace Go.Proofs.YtcmollfhlillfaaGreatDoor
open Go.RowKit
set_option linter.unusedVariables false
set_option linter.unusedSimpArgs false
/-- An address in bytes, apart from block p. -/
def BAt (w : World) (p : Nat) (a : Addr) : Prop := a.block ≠ p ∧ ∃ cs fz, w.heap[a.block]? = some (.cells cs 5 fz)
theorem BAt.later {w w' : World} {p : Nat} {a : Addr} (h : BAt w p a) (hl : Later w w') : BAt w' p a := by
  obtain ⟨h1, cs, fz, h2⟩ := h
  exact ⟨h1, cs, fz, later_row hl h2⟩
theorem BAt.set {w : World} {p : Nat} {a : Addr} (h : BAt w p a) (j : Nat) (u : Value) : BAt (w.setCell ⟨p, j, none⟩ u) p a := by
  obtain ⟨h1, cs, fz, h2⟩ := h
  exact ⟨h1, cs, fz, (Below.heap_setCell _ _ _ _ h1).trans h2⟩
theorem BAt.hits {F : Nat → Prop} {w w' : World} {p : Nat} {a : Addr} (h : BAt w p a) (hh : Hits F w w') (hF : ¬ F a.block) : BAt w' p a := by
  obtain ⟨h1, cs, fz, h2⟩ := h
  exact ⟨h1, cs, fz, hh.row h2 hF⟩
/-- A reader at block p. -/
def RdrAt (w : World) (p : Nat) (s : RS) : Prop :=
  ∃ A c, w.heap[p]? = some (.cells #[.slice A s.1.length c, .int .i64 s.2] 191 (0, 0)) ∧ Rd w 1 A s.1.length (bvs s.1) ∧ s.1.length ≤ c ∧ (c ≤ 9223372036854775807 ∧ s.1.length ≤ 4398046511104) ∧ (A = none → s.1.length = 0) ∧ ∀ a, A = some a → BAt w p a
theorem RdrAt.later {w w' : World} {p : Nat} {s : RS} (h : RdrAt w p s) (hl : Later w w') : RdrAt w' p s := by
  obtain ⟨A, c, h1, h2, h3, h4, h5, h6⟩ := h
  exact ⟨A, c, later_row hl h1, h2.below hl, h3, h4, h5, fun a ha => (h6 a ha).later hl⟩
theorem RdrAt.lt {w : World} {p : Nat} {s : RS} (h : RdrAt w p s) : p < w.heap.size := by obtain ⟨A, c, h1, _⟩ := h; exact theap_lt h1
theorem Rd.setCell {w : World} {size n : Nat} {A : Option Addr} {xs : List Value} (h : Rd w size A n xs) {p : Nat} (hp : ∀ a, A = some a → a.block ≠ p) (j : Nat) (u : Value) : Rd (w.setCell ⟨p, j, none⟩ u) size A n xs := by
  refine ⟨h.1, fun h0 => ?_⟩
  obtain ⟨b, o, e, hc⟩ := h.2 h0
  refine ⟨b, o, e, fun i v hv => ?_⟩
  have h1 := hc i v hv
  have h2 : b ≠ p := hp _ e
  unfold World.cell? at h1 ⊢
  rw [Below.heap_setCell w ⟨p, j, none⟩ u b h2]; exact h1
/-- What is left of a reader whose cells are set. -/
theorem RdrAt.set {w : World} {p U e : Nat} {A : Option Addr} {c : Nat} {l : List UInt8} {x y : Value} (h1 : w.heap[p]? = some (.cells #[x, y] 191 (0, 0))) (h2 : Rd w 1 A l.length (bvs l)) (h3 : l.length ≤ c) (h4 : c ≤ 9223372036854775807 ∧ l.length ≤ 4398046511104) (h5 : A = none → l.length = 0) (h6 : ∀ a, A = some a → BAt w p a) (hU : U ≤ l.length) :
    RdrAt ((w.setCell ⟨p, 0, none⟩ (.slice (if c = U then A else A.map (·.add U)) (l.length - U) (c - U))).setCell ⟨p, 1, none⟩ (.int .i64 e)) p (l.drop U, e) := by
  have g1 := heap_setCell_same w p 0 _ _ (.slice (if c = U then A else A.map (·.add U)) (l.length - U) (c - U)) h1
  have g2 := heap_setCell_same _ p 1 _ _ (.int .i64 e) g1
  have hlen : (l.drop U).length = l.length - U := List.length_drop
  have hblk2 : ∀ a, (if c = U then A else A.map (·.add U)) = some a → BAt w p a := by
    intro a ha
    split at ha
    · exact h6 a ha
    · cases A with
      | none => cases ha
      | some b =>
        have hb := h6 b rfl
        simp only [Option.map_some, Option.some.injEq] at ha
        subst ha
        unfold Addr.add
        split <;> simpa [BAt] using hb
  have hblk : ∀ a, (if c = U then A else A.map (·.add U)) = some a → a.block ≠ p := fun a ha => (hblk2 a ha).1
  refine ⟨_, c - U, by rw [hlen]; exact g2, ?_, by rw [hlen]; omega, ⟨by omega, by rw [hlen]; omega⟩, ?_, fun a ha => ((hblk2 a ha).set 0 _).set 1 _⟩
  · have hcut := h2.cut (k := U) (cap := c) hU h3
    have eb : bvs (l.drop U) = (bvs l).drop (U * 1) := by simp [bvs, List.map_drop]
    rw [hlen, eb]
    have hcut2 : Rd w 1 (if c = U then A else A.map (·.add U)) (l.length - U) ((bvs l).drop (U * 1)) := by simpa using hcut
    exact (hcut2.setCell hblk 0 _).setCell hblk 1 _
  · intro h
    rw [hlen]
    split at h
    · have := h5 h; omega
    · cases A with
      | none => have := h5 rfl; omega
      | some b => cases h
theorem set2_hits {w : World} {p : Nat} (x y : Value) : Hits (· = p) w ((w.setCell ⟨p, 0, none⟩ x).setCell ⟨p, 1, none⟩ y) :=
  ((Hits.refl (· = p) w).setCell (g := p) (fun _ => rfl) 0 x).setCell (g := p) (fun _ => rfl) 1 y
set_option maxHeartbeats 2000000 in
set_option maxRecDepth 100000 in
theorem newReader_any {w : World} {A : Option Addr} {c : Nat} {l : List UInt8} (hr : Rd w 1 A l.length (bvs l)) (hc : l.length ≤ c) (hcc : c ≤ 9223372036854775807) (hll : l.length ≤ 4398046511104) (hA : A = none → l.length = 0) (hb : ∀ a, A = some a → ∃ cs fz, w.heap[a.block]? = some (.cells cs 5 fz)) :
    Calls Tryz.prog 83 #[.slice A l.length c] w fun e w' => e = .returned (.pointer (some ⟨w.heap.size, 0, none⟩)) ∧ RdrAt w' w.heap.size (l, 0) ∧ Later w w' := by
  go_enter Tryz.func83, Tryz.ntmps83
  go_wp2_with fail
  go_ret
  refine ⟨rfl, ⟨A, c, heap_alloc_new w _, hr.alloc _, hc, ⟨hcc, hll⟩, hA, fun a ha => by
    obtain ⟨cs, fz, h⟩ := hb a ha
    exact ⟨by have := theap_lt h; omega, cs, fz, later_row (later_alloc _ _) h⟩⟩, later_alloc _ _⟩
set_option maxHeartbeats 4000000 in
set_option maxRecDepth 100000 in
theorem rnum_any {w : World} {p : Nat} {s : RS} (h : RdrAt w p s) (hs2 : s.2 ≤ 1000) :
    Calls Tryz.prog 84 #[.pointer (some ⟨p, 0, none⟩)] w fun e w' => e = .returned (.int .i64 (rNum s).1) ∧ RdrAt w' p (rNum s).2 ∧ Hits (· = p) w w' := by
  obtain ⟨l, e0⟩ := s
  obtain ⟨A, c, h1, h2, h3, h4, h5, h6⟩ := h
  simp only at h1 h2 h3 h4 h5 hs2
  have c0 := cell_of_row _ _ 0 _ _ (0, 0) h1
  have c1 := cell_of_row _ _ 1 _ _ (0, 0) h1
  have HROW := hide_ h1; have HRD := hide_ h2; have HA := hide_ h5; have HB := hide_ h6
  by_cases h0 : e0 ≠ 0
  · have q1 : ¬ (e0 : Int) = 0 := by omega
    have HR := hide_ (show rNum (l, e0) = (0, (l, e0)) by unfold rNum; rw [if_pos h0])
    clear h1 h2 h5 h6
    go_enter Tryz.func84, Tryz.ntmps84
    go_wp2_with fail
    go_ret
    rw [HR.out]
    exact ⟨rfl, ⟨A, c, HROW.out, HRD.out, h3, h4, HA.out, HB.out⟩, Hits.refl _ w⟩
  · obtain rfl : e0 = 0 := by omega
    have hnu := num_any (c := c) h2 rfl (by omega)
    have hused := numF_used l
    obtain ⟨N, hN⟩ : ∃ N, N = (numF l).1 := ⟨_, rfl⟩
    obtain ⟨U, hU⟩ : ∃ U, U = (numF l).2.1 := ⟨_, rfl⟩
    obtain ⟨E, hE⟩ : ∃ E, E = (numF l).2.2 := ⟨_, rfl⟩
    have HR := hide_ (show rNum (l, 0) = (N, (l.drop U, E)) by unfold rNum; rw [if_neg (by simp), hN, hU, hE])
    rw [← hN, ← hU, ← hE] at hnu
    rw [← hU] at hused
    have HNU := hide_ hnu
    clear hnu hN hU hE h1 h2 h5 h6
    go_enter Tryz.func84, Tryz.ntmps84
    go_wp2_with fail
    refine HNU.out.mono ?_; rintro e w1 ⟨rfl, hl1⟩
    have HROW1 := hide_ (later_row hl1 HROW.out)
    have HL1 := hide_ hl1
    have d0 := cell_of_row _ _ 0 _ _ (0, 0) HROW1.out
    have d1 := cell_of_row _ _ 1 _ _ (0, 0) HROW1.out
    have g0 := frozen_of_row _ _ 0 _ _ HROW1.out
    have g1 := frozen_of_row _ _ 1 _ _ HROW1.out
    have HSET := hide_ (RdrAt.set (U := U) (e := E) HROW1.out (HRD.out.below hl1) h3 h4 HA.out (fun a ha => (HB.out a ha).later hl1) hused)
    have hq1 : (U : Int) ≤ (l.length : Int) := by omega
    have hq2 : (l.length : Int) ≤ (c : Int) := by omega
    clear hl1 c0 c1
    by_cases hcU : c = U
    · subst hcU
      rw [if_pos rfl, Nat.sub_self, show l.length - c = 0 by omega] at HSET
      go_wp2_with fail
      go_ret
      rw [HR.out]
      exact ⟨rfl, HSET.out, (Hits.later (F := (· = p)) HL1.out).trans (set2_hits _ _) (fun _ _ h => h)⟩
    · rw [if_neg hcU] at HSET
      go_wp2_with fail
      go_ret
      rw [HR.out]
      exact ⟨rfl, HSET.out, (Hits.later (F := (· = p)) HL1.out).trans (set2_hits _ _) (fun _ _ h => h)⟩
set_option maxHeartbeats 4000000 in
set_option maxRecDepth 100000 in
theorem rtext_any {w : World} {p : Nat} {s : RS} (h : RdrAt w p s) (hs2 : s.2 ≤ 1000) :
    Calls Tryz.prog 87 #[.pointer (some ⟨p, 0, none⟩)] w fun e w' => e = .returned (.string ⟨(rText s).1.toArray⟩) ∧ RdrAt w' p (rText s).2 ∧ Hits (· = p) w w' := by
  obtain ⟨l, e0⟩ := s
  obtain ⟨A, c, h1, h2, h3, h4, h5, h6⟩ := h
  simp only at h1 h2 h3 h4 h5 hs2
  have c0 := cell_of_row _ _ 0 _ _ (0, 0) h1
  have c1 := cell_of_row _ _ 1 _ _ (0, 0) h1
  have HROW := hide_ h1; have HRD := hide_ h2; have HA := hide_ h5; have HB := hide_ h6
  by_cases h0 : e0 ≠ 0
  · have q1 : ¬ (e0 : Int) = 0 := by omega
    have HR := hide_ (show rText (l, e0) = ([], (l, e0)) by unfold rText; rw [if_pos h0])
    clear h1 h2 h5 h6
    go_enter Tryz.func87, Tryz.ntmps87
    go_wp2_with fail
    go_ret
    rw [HR.out]
    exact ⟨rfl, ⟨A, c, HROW.out, HRD.out, h3, h4, HA.out, HB.out⟩, Hits.refl _ w⟩
  · obtain rfl : e0 = 0 := by omega
    have hnu := text_any (c := c) h2 rfl (by omega) h3 h5
    have hused := textF_used l
    obtain ⟨N, hN⟩ : ∃ N, N = (textF l).1 := ⟨_, rfl⟩
    obtain ⟨U, hU⟩ : ∃ U, U = (textF l).2.1 := ⟨_, rfl⟩
    obtain ⟨E, hE⟩ : ∃ E, E = (textF l).2.2 := ⟨_, rfl⟩
    have HR := hide_ (show rText (l, 0) = (N, (l.drop U, E)) by unfold rText; rw [if_neg (by simp), hN, hU, hE])
    rw [← hN, ← hU, ← hE] at hnu
    rw [← hU] at hused
    have HNU := hide_ hnu
    clear hnu hN hU hE h1 h2 h5 h6
    go_enter Tryz.func87, Tryz.ntmps87
    go_wp2_with fail
    refine HNU.out.mono ?_; rintro e w1 ⟨rfl, hl1⟩
    have HROW1 := hide_ (later_row hl1 HROW.out)
    have HL1 := hide_ hl1
    have d0 := cell_of_row _ _ 0 _ _ (0, 0) HROW1.out
    have d1 := cell_of_row _ _ 1 _ _ (0, 0) HROW1.out
    have g0 := frozen_of_row _ _ 0 _ _ HROW1.out
    have g1 := frozen_of_row _ _ 1 _ _ HROW1.out
    have HSET := hide_ (RdrAt.set (U := U) (e := E) HROW1.out (HRD.out.below hl1) h3 h4 HA.out (fun a ha => (HB.out a ha).later hl1) hused)
    have hq1 : (U : Int) ≤ (l.length : Int) := by omega
    have hq2 : (l.length : Int) ≤ (c : Int) := by omega
    clear hl1 c0 c1
    by_cases hcU : c = U
    · subst hcU
      rw [if_pos rfl, Nat.sub_self, show l.length - c = 0 by omega] at HSET
      go_wp2_with fail
      go_ret
      rw [HR.out]
      exact ⟨rfl, HSET.out, (Hits.later (F := (· = p)) HL1.out).trans (set2_hits _ _) (fun _ _ h => h)⟩
    · rw [if_neg hcU] at HSET
      go_wp2_with fail
      go_ret
      rw [HR.out]
      exact ⟨rfl, HSET.out, (Hits.later (F := (· = p)) HL1.out).trans (set2_hits _ _) (fun _ _ h => h)⟩
set_option maxHeartbeats 2000000 in
set_option maxRecDepth 100000 in
theorem rcount_any {w : World} {p : Nat} {s : RS} (h : RdrAt w p s) (hs2 : s.2 ≤ 1000) (most : Nat) (hm : most ≤ 4398046511104) :
    Calls Tryz.prog 85 #[.pointer (some ⟨p, 0, none⟩), .int .i64 most] w fun e w' => e = .returned (.int .i64 (rCount most s).1) ∧ RdrAt w' p (rCount most s).2 ∧ Hits (· = p) w w' := by
  have HNU := hide_ (rnum_any h hs2)
  obtain ⟨N, hN⟩ : ∃ N, N = (rNum s).1 := ⟨_, rfl⟩
  obtain ⟨T, hT⟩ : ∃ T, T = (rNum s).2 := ⟨_, rfl⟩
  rw [← hN, ← hT] at HNU
  have HR := hide_ (show rCount most s = if most < N then (0, (T.1, 2)) else (N, T) by unfold rCount; rw [← hN, ← hT]; split <;> simp [hN, hT])
  clear h hs2 hN hT
  go_enter Tryz.func85, Tryz.ntmps85
  go_wp2_with fail
  refine HNU.out.mono ?_; rintro e w1 ⟨rfl, hr1, hh1⟩
  have HR1 := hide_ hr1; have HH1 := hide_ hh1
  by_cases hlt : most < N
  · have q1 : (most : Int) < (N : Int) := by omega
    rw [if_pos hlt] at HR
    obtain ⟨A, c, h1, h2, h3, h4, h5, h6⟩ := hr1
    have d1 := cell_of_row _ _ 1 _ _ (0, 0) h1
    have g1 := frozen_of_row _ _ 1 _ _ h1
    have HSET := hide_ (show RdrAt (w1.setCell ⟨p, 1, none⟩ (.int .i64 2)) p (T.1, 2) from ⟨A, c, heap_setCell_same w1 p 1 _ _ _ h1, h2.setCell (fun a ha => (h6 a ha).1) 1 _, h3, h4, h5, fun a ha => (h6 a ha).set 1 _⟩)
    clear h1 h2 h3 h4 h5 h6 hh1
    go_wp2_with fail
    go_ret
    rw [HR.out]
    exact ⟨rfl, HSET.out, HH1.out.setCell (g := p) (fun _ => rfl) 1 _⟩
  · have q1 : ¬ (most : Int) < (N : Int) := by omega
    rw [if_neg hlt] at HR
    clear hr1 hh1
    go_wp2_with fail
    go_ret
    rw [HR.out]
    exact ⟨rfl, HR1.out, HH1.out⟩
set_option maxHeartbeats 2000000 in
set_option maxRecDepth 100000 in
theorem rdone_any {w : World} {p : Nat} {s : RS} (h : RdrAt w p s) (hs2 : s.2 ≤ 1000) :
    Calls Tryz.prog 89 #[.pointer (some ⟨p, 0, none⟩)] w fun e w' => e = .returned (.bool (rDone s)) ∧ w' = w := by
  obtain ⟨l, e0⟩ := s
  obtain ⟨A, c, h1, h2, h3, h4, h5, h6⟩ := h
  simp only at h1 h3 h4 hs2
  have c0 := cell_of_row _ _ 0 _ _ (0, 0) h1
  have c1 := cell_of_row _ _ 1 _ _ (0, 0) h1
  clear h1 h2 h5 h6
  by_cases h0 : e0 = 0
  · subst h0
    by_cases hl : l = []
    · subst hl
      go_enter Tryz.func89, Tryz.ntmps89
      go_wp2_with fail
      go_ret
      exact ⟨rfl, rfl⟩
    · have hlen : ¬ (l.length : Int) = 0 := by
        intro h
        exact hl (List.eq_nil_of_length_eq_zero (by omega))
      have HD := hide_ (show rDone (l, 0) = false by unfold rDone; simp [hl])
      have hb := hide_ (show ((l.length : Int) == 0) = false by simpa using hlen)
      clear hl
      go_enter Tryz.func89, Tryz.ntmps89
      go_wp2_with fail
      go_ret
      exact ⟨by rw [HD.out]; show Ending.returned (.bool ((l.length : Int) == 0)) = _; rw [hb.out], rfl⟩
  · have q1 : ¬ (e0 : Int) = 0 := by omega
    have HD := hide_ (show rDone (l, e0) = false by unfold rDone; simp [h0])
    clear h0
    go_enter Tryz.func89, Tryz.ntmps89
    go_wp2_with fail
    go_ret
    exact ⟨by rw [HD.out]; rfl, rfl⟩
set_option maxHeartbeats 2000000 in
set_option maxRecDepth 100000 in
theorem rerror_any {w : World} {p : Nat} {s : RS} (h : RdrAt w p s) :
    Calls Tryz.prog 86 #[.pointer (some ⟨p, 0, none⟩)] w fun e w' => e = .returned (.int .i64 s.2) ∧ w' = w := by
  obtain ⟨l, e0⟩ := s
  obtain ⟨A, c, h1, h2, h3, h4, h5, h6⟩ := h
  have c1 := cell_of_row _ _ 1 _ _ (0, 0) h1
  clear h1 h2 h5 h6
  go_enter Tryz.func86, Tryz.ntmps86
  go_wp2_with fail
  go_ret
  exact ⟨rfl, rfl⟩

end Go.Proofs.YtcmollfhlillfaaGreatDoor
/-
  code.Writer: numbers and texts laid one behind the other.
-/
namespace Go.Proofs.YtcmollfhlillfaaGreatDoor
open Go.RowKit
set_option linter.unusedVariables false
set_option linter.unusedSimpArgs false
/-- A writer: its bytes, the error. -/
abbrev WS := List UInt8 × Nat
def wNums : List Int → WS → WS
  | [], s => s
  | n :: r, s => if n < 0 then (s.1, 2) else wNums r (s.1 ++ putN n.toNat, s.2)
def wTexts : List ByteArray → WS → WS
  | [], s => s
  | t :: r, s => if 65536 < t.size then (s.1, 2) else wTexts r (s.1 ++ putT t.data.toList, s.2)
/-- A writer at block p whose bytes lie in the own row v. -/
def WrAt (w : World) (B p : Nat) (v : Value) (s : WS) : Prop :=
  B ≤ p ∧ w.heap[p]? = some (.cells #[v, .int .i64 s.2] 132 (0, 0)) ∧ w.ownsRow B 5 1 v s.1.length (bvs s.1)
theorem WrAt.lt {w : World} {B p : Nat} {v : Value} {s : WS} (h : WrAt w B p v s) : p < w.heap.size := theap_lt h.2.1
theorem WrAt.ne {w : World} {B p : Nat} {v : Value} {s : WS} (h : WrAt w B p v s) : v.ownBlock ≠ some p := by
  intro e
  obtain ⟨_, _, cs, hc⟩ := own_block h.2.2 e
  have h1 := h.2.1
  rw [hc] at h1; injection h1 with h1; injection h1 with _ h1; exact absurd h1 (by decide)
theorem WrAt.later {w w' : World} {B p : Nat} {v : Value} {s : WS} (h : WrAt w B p v s) (hl : Later w w') : WrAt w' B p v s := ⟨h.1, later_row hl h.2.1, own_below h.2.2 hl⟩
/-- What a writer turns. -/
def wFp (p : Nat) (v : Value) (k : Nat) : Prop := k = p ∨ v.ownBlock = some k
theorem wNums_next {L : List Int} {k : Nat} {n : Int} (h : L[k]? = some n) (s : WS) : wNums (L.drop k) s = if n < 0 then (s.1, 2) else wNums (L.drop (k + 1)) (s.1 ++ putN n.toNat, s.2) := by
  have e := List.getElem?_eq_some_iff.1 h
  rw [List.drop_eq_getElem_cons e.1, e.2]; rfl
theorem wNums_end {L : List Int} (s : WS) : wNums (L.drop L.length) s = s := by rw [List.drop_length]; rfl
/-- What a writer's call leaves. -/
def WrPost (B p : Nat) (v : Value) (s : WS) (w w' : World) : Prop := ∃ v', WrAt w' B p v' s ∧ Hits (wFp p v) w w' ∧ (v'.ownBlock = v.ownBlock ∨ ∃ g, v'.ownBlock = some g ∧ w.heap.size ≤ g)
set_option maxHeartbeats 4000000 in
set_option maxRecDepth 100000 in
theorem nums_any {w : World} {B p : Nat} {v : Value} {s : WS} (h : WrAt w B p v s) {A : Option Addr} {n c : Nat} {L : List Int} (hr : Rd w 1 A n (L.map (Value.int .i64))) (hl : L.length = n) (hn : n ≤ 4398046511104) (hi : ∀ x ∈ L, x < 9223372036854775808) (hA : ∀ a, A = some a → ¬ wFp p v a.block)
    (hlen : s.1.length + 9 * n ≤ 1099511627776) (hB : B ≤ w.heap.size) :
    Calls Tryz.prog 103 #[.pointer (some ⟨p, 0, none⟩), .slice A n c] w fun e w' => e = .returned (.pointer (some ⟨p, 0, none⟩)) ∧ WrPost B p v (wNums L s) w w' := by
  have HW := hide_ h; have HR := hide_ hr; have HL := hide_ hl; have HI := hide_ hi; have HA := hide_ hA; have HLEN := hide_ hlen
  have hn2 : (n : Int) ≤ 4398046511104 := by omega
  clear h hr hl hi hA hlen
  go_enter Tryz.func103, Tryz.ntmps103
  go_wp2_with fail
  go_loopw [9] (fun s9 wr => ∃ (k : Nat) (v' : Value) (t : WS), k ≤ n ∧ s9 = .int .i64 k ∧ Hid (wNums L s = wNums (L.drop k) t) ∧ Hid (WrAt wr B p v' t) ∧ Hid (Hits (wFp p v) w wr) ∧ Hid (v'.ownBlock = v.ownBlock ∨ ∃ g, v'.ownBlock = some g ∧ w.heap.size ≤ g) ∧ Hid (t.1.length ≤ s.1.length + 9 * k)) (fun i _ => n - (intOf i).toNat)
  case atStart => exact ⟨0, v, s, Nat.zero_le _, rfl, hide_ rfl, HW, Hits.refl _ w, .inl rfl, hide_ (by omega)⟩
  case round =>
    obtain ⟨k, v', t, hkn, rfl, HC, HT, HH, HD, HS⟩ := hrel
    obtain ⟨A1, c1, hv1⟩ := own_form HT.out.2.2
    subst hv1
    by_cases hlt : k < n
    · obtain ⟨x, hx⟩ : ∃ x, L[k]? = some x := ⟨_, List.getElem?_eq_getElem (by rw [HL.out]; exact hlt)⟩
      have HR2 := hide_ (HH.out.rd HR.out HA.out)
      obtain ⟨b, o, rfl, hcell⟩ : ∃ b o, A = some ⟨b, o, none⟩ ∧ wr.cell? ⟨b, o + k, none⟩ = some (.int .i64 x) := by
        obtain ⟨b, o, e, hc⟩ := HR2.out.2 (by rw [List.length_map, HL.out]; omega)
        exact ⟨b, o, e, hc k _ (by rw [List.getElem?_map, hx]; rfl)⟩
      have HX := hide_ (HI.out x (List.mem_of_getElem? hx))
      have HN := hide_ (wNums_next hx t)
      have q1 : (k : Int) < (n : Int) := by omega
      have q2 : (0 : Int) ≤ (k : Int) := by omega
      have d0 := cell_of_row _ _ 0 _ _ (0, 0) HT.out.2.1
      have d1 := cell_of_row _ _ 1 _ _ (0, 0) HT.out.2.1
      have g1 := frozen_of_row _ _ 1 _ _ HT.out.2.1
      clear hx
      by_cases hneg : x < 0
      · rw [if_pos hneg] at HN
        have HF := hide_ (show WrAt (wr.setCell ⟨p, 1, none⟩ (.int .i64 2)) B p (.slice A1 t.1.length c1) (t.1, 2) from ⟨HT.out.1, heap_setCell_same wr p 1 _ _ _ HT.out.2.1, (show (wr.setCell ⟨p, 1, none⟩ (.int .i64 2)).ownsRow B 5 1 (.slice A1 t.1.length c1) t.1.length (bvs t.1) from ((Hits.refl (· = p) wr).setCell (g := p) (fun _ => rfl) 1 _).own HT.out.2.2 (fun g hg e => HT.out.ne (by rw [hg, e])))⟩)
        have HHF := hide_ (HH.out.setCell (g := p) (fun _ => .inl rfl) 1 (.int .i64 2))
        go_wp2_with fail
        go_ret
        exact ⟨rfl, by rw [HC.out, HN.out]; exact ⟨_, HF.out, HHF.out, HD.out⟩⟩
      · rw [if_neg hneg] at HN
        obtain ⟨N, rfl⟩ : ∃ N : Nat, x = (N : Int) := ⟨x.toNat, by omega⟩
        rw [Int.toNat_natCast] at HN
        have hN9 : N < 9223372036854775808 := by have := HX.out; omega
        have HP9 := hide_ (putN_len9 hN9)
        have HNN := hide_ hN9
        have hk1 : t.1.length ≤ 1099511627776 := by have h1 := HS.out; have h2 := HLEN.out; omega
        have hBr : B ≤ wr.heap.size := Nat.le_trans hB HH.out.size
        go_wp2_with fail
        refine (put_any N hN9 HT.out.2.2 rfl hk1 hBr).mono ?_; rintro e w2 ⟨v2, rfl, hown2, hg2, hd2⟩
        obtain ⟨A2, c2, hv2⟩ := own_form hown2
        subst hv2
        have hpne : (Value.slice A1 t.1.length c1).ownBlock ≠ some p := HT.out.ne
        have hrow2 := (hg2.block p HT.out.lt (fun e => hpne e.symm)).trans HT.out.2.1
        have e0 := cell_of_row _ _ 0 _ _ (0, 0) hrow2
        have f0 := frozen_of_row _ _ 0 _ _ hrow2
        have hp2 : (Value.slice A2 (t.1.length + (putN N).length) c2).ownBlock ≠ some p := by
          rcases hd2 with h | ⟨g, h, h2⟩
          · rw [h]; exact hpne
          · rw [h]; intro e; injection e with e; have := HT.out.lt; omega
        have HF := hide_ (show WrAt (w2.setCell ⟨p, 0, none⟩ (Value.slice A2 (t.1.length + (putN N).length) c2)) B p (Value.slice A2 (t.1.length + (putN N).length) c2) (t.1 ++ putN N, t.2) from ⟨HT.out.1, heap_setCell_same w2 p 0 _ _ _ hrow2, ((Hits.refl (· = p) w2).setCell (g := p) (fun _ => rfl) 0 (Value.slice A2 (t.1.length + (putN N).length) c2)).own (by simpa using hown2) (fun g hg e => hp2 (by rw [hg, e]))⟩)
        have HHF := hide_ (show Hits (wFp p v) w (w2.setCell ⟨p, 0, none⟩ (Value.slice A2 (t.1.length + (putN N).length) c2)) from (HH.out.grown hg2 (fun g hg hlt => .inr (by
          rcases HD.out with h | ⟨g', h, h2⟩
          · rw [← h, hg]
          · rw [hg] at h; injection h with h; omega))).setCell (g := p) (fun _ => .inl rfl) 0 (Value.slice A2 (t.1.length + (putN N).length) c2))
        have HDF := hide_ (show (Value.slice A2 (t.1.length + (putN N).length) c2).ownBlock = v.ownBlock ∨ ∃ g, (Value.slice A2 (t.1.length + (putN N).length) c2).ownBlock = some g ∧ w.heap.size ≤ g from by
          rcases hd2 with h | ⟨g, h, h2⟩
          · rcases HD.out with h' | ⟨g', h', h2'⟩
            · exact .inl (h.trans h')
            · exact .inr ⟨g', h.trans h', h2'⟩
          · exact .inr ⟨g, h, Nat.le_trans HH.out.size h2⟩)
        have HSF := hide_ (show (t.1 ++ putN N).length ≤ s.1.length + 9 * (k + 1) by
          have h1 := HS.out; have h2 := HP9.out; rw [List.length_append]; omega)
        clear hown2 hg2 hd2 hrow2 d0 d1 g1 hN9 hk1 hpne hp2 hneg hcell hBr
        go_wp2_with fail
        go_roundw
        case rel => exact ⟨k + 1, _, (t.1 ++ putN N, t.2), by omega, by go_num, hide_ (by rw [HC.out, HN.out]), HF, HHF, HDF, HSF⟩
        case measure => simp [intOf]; omega
    · have q1 : ¬ (k : Int) < (n : Int) := by omega
      have HE := hide_ (show wNums L s = t by rw [HC.out, show k = L.length by rw [HL.out]; omega]; exact wNums_end t)
      go_wp2_with fail
      go_ret
      exact ⟨rfl, by rw [HE.out]; exact ⟨_, HT.out, HH.out, HD.out⟩⟩

end Go.Proofs.YtcmollfhlillfaaGreatDoor
