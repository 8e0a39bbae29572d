/-
  Changes: what Check, All and Spans answer; the document's answers.
-/
import Derived.Test.YtidlkomgondkiaaKRefD
import Derived.Test.YtidlkomgondkiaaG4
import Derived.Test.YtidlkomgondkiaaG2
import Derived.Test.YtidlkomgondkiaaKCopy
import Derived.Test.YtidlkomgondkiaaG3
import Derived.IntWalk
namespace Go.Proofs.Ytidlkomgondkiaa
open Go.RowKit
set_option linter.unusedVariables false
set_option linter.unusedSimpArgs false
theorem heap_lt0 {w : World} {k : Nat} {o : Obj} (h : w.heap[k]? = some o) : k < w.heap.size := by
  rcases Nat.lt_or_ge k w.heap.size with hlt | hge
  · exact hlt
  · rw [Array.getElem?_eq_none hge] at h; cases h
/-- What Check answers. -/
def chk (kind : Int) (k v : ByteArray) : Int :=
  if kind = 3 then (if 17 < v.size then 6 else if 17 < k.size then 6 else if v < k then 5 else 0)
  else if kind = 2 then (if 0 < v.size then 6 else if 16 < k.size then 6 else 0)
  else if kind = 1 then (if 16 < k.size then 6 else if 64 < v.size then 6 else 0)
  else 1
set_option maxHeartbeats 1000000 in
theorem check_any (kind : Int) (k v : ByteArray) (w : World) : Calls Try.prog 63 #[.agg #[.int .i64 kind, .string k, .string v]] w fun e w' => e = .returned (.int .i64 (chk kind k v)) ∧ Later w w' := by
  obtain ⟨W0, hW0⟩ : ∃ W0, W0 = w.alloc (.cells #[.int .i64 kind, .string k, .string v] 26) := ⟨_, rfl⟩
  have hbx : W0.heap[w.heap.size]? = some (.cells #[.int .i64 kind, .string k, .string v] 26 (0, 0)) := by rw [hW0]; exact heap_alloc_new w _
  have HB0 := hide_ (show Later w W0 by rw [hW0]; exact (Below.refl _ _).alloc (Nat.le_refl _) _)
  have c0 : W0.cell? ⟨w.heap.size, 0, none⟩ = some (.int .i64 kind) := cell_of_row _ _ 0 _ _ (0, 0) hbx
  have c1 : W0.cell? ⟨w.heap.size, 1, none⟩ = some (.string k) := cell_of_row _ _ 1 _ _ (0, 0) hbx
  have c2 : W0.cell? ⟨w.heap.size, 2, none⟩ = some (.string v) := cell_of_row _ _ 2 _ _ (0, 0) hbx
  have HW := hide_ hW0.symm
  clear hW0 hbx
  obtain ⟨nv, hnv⟩ : ∃ nv, nv = v.size := ⟨_, rfl⟩
  obtain ⟨nk, hnk⟩ : ∃ nk, nk = k.size := ⟨_, rfl⟩
  have HNV := hide_ hnv; have HNK := hide_ hnk
  have s1 := hnv.symm; have s2 := hnk.symm
  clear hnv hnk
  go_enter Try.func63, Try.ntmps63
  go_wp2_with (rw [HW.out])
  go_quiet (fail)
  have HL := hide_ (below_drewN HB0.out nq)
  obtain ⟨W1, hW1⟩ : ∃ W1, W1 = W0.drewN nq := ⟨_, rfl⟩
  have d0 : W1.cell? ⟨w.heap.size, 0, none⟩ = some (.int .i64 kind) := by rw [hW1]; exact c0
  have d1 : W1.cell? ⟨w.heap.size, 1, none⟩ = some (.string k) := by rw [hW1]; exact c1
  have d2 : W1.cell? ⟨w.heap.size, 2, none⟩ = some (.string v) := by rw [hW1]; exact c2
  rw [← hW1] at HL
  rw [← hW1]
  clear hW1 c0 c1 c2
  by_cases e3 : kind = 3
  · subst e3
    by_cases a1 : 17 < nv
    · have p1 : (17 : Int) < (nv : Int) := by omega
      go_wp2_with fail
      go_ret
      exact ⟨congrArg (fun r => Ending.returned (.int .i64 r)) (by unfold chk; rw [← HNV.out, ← HNK.out]; simp [*]), HL.out⟩
    · have p1 : ¬ (17 : Int) < (nv : Int) := by omega
      by_cases a2 : 17 < nk
      · have p2 : (17 : Int) < (nk : Int) := by omega
        go_wp2_with fail
        go_ret
        exact ⟨congrArg (fun r => Ending.returned (.int .i64 r)) (by unfold chk; rw [← HNV.out, ← HNK.out]; simp [*]), HL.out⟩
      · have p2 : ¬ (17 : Int) < (nk : Int) := by omega
        by_cases a3 : v < k
        · have h1 : Op.bytesLess k.toList v.toList = false := by rw [bl]; simp; grind
          have h2 : (k.toList == v.toList) = false := by rw [beq_ba]; simp; grind
          go_wp2_with fail
          go_ret
          exact ⟨congrArg (fun r => Ending.returned (.int .i64 r)) (by unfold chk; rw [← HNV.out, ← HNK.out]; simp [*]), HL.out⟩
        · by_cases a4 : k < v
          · have h1 : Op.bytesLess k.toList v.toList = true := by rw [bl]; grind
            go_wp2_with fail
            go_ret
            exact ⟨congrArg (fun r => Ending.returned (.int .i64 r)) (by unfold chk; rw [← HNV.out, ← HNK.out]; simp [*]), HL.out⟩
          · have h1 : Op.bytesLess k.toList v.toList = false := by rw [bl]; grind
            have h2 : (k.toList == v.toList) = true := by rw [beq_ba]; grind
            go_wp2_with fail
            go_ret
            exact ⟨congrArg (fun r => Ending.returned (.int .i64 r)) (by unfold chk; rw [← HNV.out, ← HNK.out]; simp [*]), HL.out⟩
  · have e3' : ¬ (3 : Int) = kind := fun h => e3 h.symm
    by_cases e2 : kind = 2
    · subst e2
      by_cases a1 : 0 < nv
      · have p1 : (0 : Int) < (nv : Int) := by omega
        go_wp2_with fail
        go_ret
        exact ⟨congrArg (fun r => Ending.returned (.int .i64 r)) (by unfold chk; rw [← HNV.out, ← HNK.out]; simp [*]), HL.out⟩
      · have p1 : ¬ (0 : Int) < (nv : Int) := by omega
        have p0 : ¬ (64 : Int) < (nv : Int) := by omega
        by_cases a2 : 16 < nk
        · have p2 : (16 : Int) < (nk : Int) := by omega
          go_wp2_with fail
          go_ret
          exact ⟨congrArg (fun r => Ending.returned (.int .i64 r)) (by unfold chk; rw [← HNV.out, ← HNK.out]; simp [*]), HL.out⟩
        · have p2 : ¬ (16 : Int) < (nk : Int) := by omega
          go_wp2_with fail
          go_ret
          exact ⟨congrArg (fun r => Ending.returned (.int .i64 r)) (by unfold chk; rw [← HNV.out, ← HNK.out]; simp [*]), HL.out⟩
    · by_cases e1 : kind = 1
      · subst e1
        by_cases a2 : 16 < nk
        · have p2 : (16 : Int) < (nk : Int) := by omega
          go_wp2_with fail
          go_ret
          exact ⟨congrArg (fun r => Ending.returned (.int .i64 r)) (by unfold chk; rw [← HNV.out, ← HNK.out]; simp [*]), HL.out⟩
        · have p2 : ¬ (16 : Int) < (nk : Int) := by omega
          by_cases a1 : 64 < nv
          · have p1 : (64 : Int) < (nv : Int) := by omega
            go_wp2_with fail
            go_ret
            exact ⟨congrArg (fun r => Ending.returned (.int .i64 r)) (by unfold chk; rw [← HNV.out, ← HNK.out]; simp [*]), HL.out⟩
          · have p1 : ¬ (64 : Int) < (nv : Int) := by omega
            go_wp2_with fail
            go_ret
            exact ⟨congrArg (fun r => Ending.returned (.int .i64 r)) (by unfold chk; rw [← HNV.out, ← HNK.out]; simp [*]), HL.out⟩
      · have e2' : ¬ (2 : Int) = kind := fun h => e2 h.symm
        have e1' : ¬ (1 : Int) = kind := fun h => e1 h.symm
        go_wp2_with fail
        go_ret
        exact ⟨congrArg (fun r => Ending.returned (.int .i64 r)) (by unfold chk; rw [← HNV.out, ← HNK.out]; simp [*]), HL.out⟩
/-- A change: kind, key, value. -/
abbrev Chg := Int × ByteArray × ByteArray
def encC (s : Chg) : List Value := [.int .i64 s.1, .string s.2.1, .string s.2.2]
def crow (L : List Chg) : List Value := L.flatMap encC
theorem encC_len (s : Chg) : (encC s).length = 3 := rfl
theorem crow_0 {L : List Chg} {i : Nat} {s : Chg} (h : L[i]? = some s) : (crow L)[i * 3]? = some (.int .i64 s.1) := by
  have := rec_at encC_len h 0 (by omega); simpa [crow, encC] using this
theorem crow_1 {L : List Chg} {i : Nat} {s : Chg} (h : L[i]? = some s) : (crow L)[i * 3 + 1]? = some (.string s.2.1) := by
  have := rec_at encC_len h 1 (by omega); simpa [crow, encC] using this
theorem crow_2 {L : List Chg} {i : Nat} {s : Chg} (h : L[i]? = some s) : (crow L)[i * 3 + 2]? = some (.string s.2.2) := by
  have := rec_at encC_len h 2 (by omega); simpa [crow, encC] using this
theorem Rd.chg {w : World} {A : Option Addr} {n : Nat} {L : List Chg} (h : Rd w 3 A n (crow L)) {i : Nat} {s : Chg} (hi : L[i]? = some s) :
    ∃ b o, A = some ⟨b, o, none⟩ ∧ w.cell? ⟨b, o + i * 3, none⟩ = some (.int .i64 s.1) ∧ w.cell? ⟨b, o + i * 3 + 1, none⟩ = some (.string s.2.1) ∧ w.cell? ⟨b, o + i * 3 + 2, none⟩ = some (.string s.2.2) := by
  have hl := (List.getElem?_eq_some_iff.1 (crow_0 hi)).1
  obtain ⟨b, o, e, hc⟩ := h.2 (by omega)
  exact ⟨b, o, e, hc _ _ (crow_0 hi), hc _ _ (crow_1 hi), hc _ _ (crow_2 hi)⟩
/-- What All answers. -/
def chkAll : List Chg → Int
  | [] => 0
  | c :: L => if chk c.1 c.2.1 c.2.2 = 0 then chkAll L else chk c.1 c.2.1 c.2.2
theorem chkAll_next {L : List Chg} {i : Nat} {s : Chg} (h : L[i]? = some s) : chkAll (L.drop i) = if chk s.1 s.2.1 s.2.2 = 0 then chkAll (L.drop (i + 1)) else chk s.1 s.2.1 s.2.2 := by
  have e := List.getElem?_eq_some_iff.1 h
  rw [List.drop_eq_getElem_cons e.1, e.2]; rfl
theorem chkAll_end {L : List Chg} : chkAll (L.drop L.length) = 0 := by rw [List.drop_length]; rfl
set_option maxHeartbeats 1000000 in
theorem all_any {w : World} {A : Option Addr} {n c : Nat} {L : List Chg} (hr : Rd w 3 A n (crow L)) (hl : L.length = n) (hn : n ≤ 4398046511104) : Calls Try.prog 51 #[.slice A n c] w fun e w' => e = .returned (.int .i64 (chkAll L)) ∧ Later w w' := by
  have HR := hide_ hr; have HL := hide_ hl
  have hn2 : (n : Int) ≤ 4398046511104 := by omega
  clear hr hl
  go_enter Try.func51, Try.ntmps51
  go_wp2_with fail
  go_loopw [4, 5, 8] (fun _ _ s8 wr => ∃ k : Nat, k ≤ n ∧ s8 = .int .i64 k ∧ Hid (chkAll L = chkAll (L.drop k)) ∧ Hid (Later w wr)) (fun _ _ i _ => n - (intOf i).toNat)
  case atStart => exact ⟨0, Nat.zero_le _, rfl, hide_ rfl, Later.refl w⟩
  case round =>
    obtain ⟨k, hkn, rfl, HC, HB⟩ := hrel
    by_cases hlt : k < n
    · obtain ⟨s, hs⟩ : ∃ s, L[k]? = some s := ⟨_, List.getElem?_eq_getElem (by rw [HL.out]; exact hlt)⟩
      obtain ⟨b, o, rfl, l0, l1, l2⟩ := (HR.out.below HB.out).chg hs
      have q1 : (k : Int) < (n : Int) := by omega
      have q2 : (0 : Int) ≤ (k : Int) := by omega
      have q3 : (k : Int) ≤ 4398046511104 := by omega
      have HN := hide_ (chkAll_next hs)
      have hc := hide_ (check_any s.1 s.2.1 s.2.2)
      clear hs
      by_cases h0 : chk s.1 s.2.1 s.2.2 = 0
      · go_wp2_with fail
        refine (hc.out _).mono ?_; rintro e w2 ⟨rfl, hb2⟩
        rw [h0]
        have HB2 := hide_ ((HB.out.alloc HB.out.size (.cells #[.int .i64 s.1, .string s.2.1, .string s.2.2] 26)).trans (hb2.mono (by have := HB.out.size; simp; omega)))
        clear hb2
        go_wp2_with fail
        go_roundw
        case rel => exact ⟨k + 1, by omega, by go_num, hide_ (by rw [HC.out, HN.out, if_pos h0]), HB2.out⟩
        case measure => simp [intOf]; omega
      · have h0' : ¬ (0 : Int) = chk s.1 s.2.1 s.2.2 := fun h => h0 h.symm
        go_wp2_with fail
        refine (hc.out _).mono ?_; rintro e w2 ⟨rfl, hb2⟩
        have HB2 := hide_ ((HB.out.alloc HB.out.size (.cells #[.int .i64 s.1, .string s.2.1, .string s.2.2] 26)).trans (hb2.mono (by have := HB.out.size; simp; omega)))
        clear hb2
        go_wp2_with fail
        go_ret
        exact ⟨by rw [HC.out, HN.out, if_neg h0]; rfl, HB2.out⟩
    · have q1 : ¬ (k : Int) < (n : Int) := by omega
      obtain rfl : k = n := by omega
      go_wp2_with fail
      go_ret
      exact ⟨by rw [HC.out, ← HL.out, chkAll_end]; rfl, HB.out⟩
theorem chkAll_mem {C : List Chg} (h : chkAll C = 0) : ∀ c, c ∈ C → chk c.1 c.2.1 c.2.2 = 0 := by
  induction C with
  | nil => intro c hc; cases hc
  | cons d C ih =>
    intro c hc
    unfold chkAll at h
    by_cases h0 : chk d.1 d.2.1 d.2.2 = 0
    · rw [if_pos h0] at h
      rcases List.mem_cons.1 hc with rfl | hc
      · exact h0
      · exact ih h c hc
    · rw [if_neg h0] at h; exact absurd h h0
theorem take_snoc {α : Type} {L : List α} {k : Nat} {x : α} (h : L[k]? = some x) : L.take (k + 1) = L.take k ++ [x] := by
  have e := List.getElem?_eq_some_iff.1 h
  rw [← List.take_append_getElem e.1, e.2]
set_option maxHeartbeats 1000000 in
theorem rcheck_any (kind : Int) (k v : ByteArray) (w : World) : Calls Try.prog 49 #[.agg #[.int .i64 kind, .string k, .string v]] w fun e w' => e = .returned (.int .i64 (chk kind k v)) ∧ Later w w' := by
  obtain ⟨W0, hW0⟩ : ∃ W0, W0 = w.alloc (.cells #[.int .i64 kind, .string k, .string v] 26) := ⟨_, rfl⟩
  have hbx : W0.heap[w.heap.size]? = some (.cells #[.int .i64 kind, .string k, .string v] 26 (0, 0)) := by rw [hW0]; exact heap_alloc_new w _
  have HB0 := hide_ (show Later w W0 by rw [hW0]; exact (Below.refl _ _).alloc (Nat.le_refl _) _)
  have c0 : W0.cell? ⟨w.heap.size, 0, none⟩ = some (.int .i64 kind) := cell_of_row _ _ 0 _ _ (0, 0) hbx
  have c1 : W0.cell? ⟨w.heap.size, 1, none⟩ = some (.string k) := cell_of_row _ _ 1 _ _ (0, 0) hbx
  have c2 : W0.cell? ⟨w.heap.size, 2, none⟩ = some (.string v) := cell_of_row _ _ 2 _ _ (0, 0) hbx
  have HW := hide_ hW0.symm
  clear hW0 hbx
  obtain ⟨nv, hnv⟩ : ∃ nv, nv = v.size := ⟨_, rfl⟩
  obtain ⟨nk, hnk⟩ : ∃ nk, nk = k.size := ⟨_, rfl⟩
  have HNV := hide_ hnv; have HNK := hide_ hnk
  have s1 := hnv.symm; have s2 := hnk.symm
  clear hnv hnk
  go_enter Try.func49, Try.ntmps49
  go_wp2_with (rw [HW.out])
  go_quiet (fail)
  have HL := hide_ (below_drewN HB0.out nq)
  obtain ⟨W1, hW1⟩ : ∃ W1, W1 = W0.drewN nq := ⟨_, rfl⟩
  have d0 : W1.cell? ⟨w.heap.size, 0, none⟩ = some (.int .i64 kind) := by rw [hW1]; exact c0
  have d1 : W1.cell? ⟨w.heap.size, 1, none⟩ = some (.string k) := by rw [hW1]; exact c1
  have d2 : W1.cell? ⟨w.heap.size, 2, none⟩ = some (.string v) := by rw [hW1]; exact c2
  rw [← hW1] at HL
  rw [← hW1]
  clear hW1 c0 c1 c2
  by_cases e3 : kind = 3
  · subst e3
    by_cases a2 : 17 < nk
    · have p2 : (17 : Int) < (nk : Int) := by omega
      go_wp2_with fail
      go_ret
      exact ⟨congrArg (fun r => Ending.returned (.int .i64 r)) (by unfold chk; rw [← HNV.out, ← HNK.out]; simp [*]), HL.out⟩
    · have p2 : ¬ (17 : Int) < (nk : Int) := by omega
      by_cases a1 : 17 < nv
      · have p1 : (17 : Int) < (nv : Int) := by omega
        go_wp2_with fail
        go_ret
        exact ⟨congrArg (fun r => Ending.returned (.int .i64 r)) (by unfold chk; rw [← HNV.out, ← HNK.out]; simp [*]), HL.out⟩
      · have p1 : ¬ (17 : Int) < (nv : Int) := by omega
        by_cases a3 : v < k
        · have h1 : Op.bytesLess k.toList v.toList = false := by rw [bl]; simp; grind
          have h2 : (k.toList == v.toList) = false := by rw [beq_ba]; simp; grind
          go_wp2_with fail
          go_ret
          exact ⟨congrArg (fun r => Ending.returned (.int .i64 r)) (by unfold chk; rw [← HNV.out, ← HNK.out]; simp [*]), HL.out⟩
        · by_cases a4 : k < v
          · have h1 : Op.bytesLess k.toList v.toList = true := by rw [bl]; grind
            go_wp2_with fail
            go_ret
            exact ⟨congrArg (fun r => Ending.returned (.int .i64 r)) (by unfold chk; rw [← HNV.out, ← HNK.out]; simp [*]), HL.out⟩
          · have h1 : Op.bytesLess k.toList v.toList = false := by rw [bl]; grind
            have h2 : (k.toList == v.toList) = true := by rw [beq_ba]; grind
            go_wp2_with fail
            go_ret
            exact ⟨congrArg (fun r => Ending.returned (.int .i64 r)) (by unfold chk; rw [← HNV.out, ← HNK.out]; simp [*]), HL.out⟩
  · have e3' : ¬ (3 : Int) = kind := fun h => e3 h.symm
    by_cases e2 : kind = 2
    · subst e2
      by_cases a2 : 16 < nk
      · have p2 : (16 : Int) < (nk : Int) := by omega
        go_wp2_with fail
        go_ret
        exact ⟨congrArg (fun r => Ending.returned (.int .i64 r)) (by unfold chk; rw [← HNV.out, ← HNK.out]; simp [*]), HL.out⟩
      · have p2 : ¬ (16 : Int) < (nk : Int) := by omega
        by_cases a1 : 0 < nv
        · have p1 : (0 : Int) < (nv : Int) := by omega
          go_wp2_with fail
          go_ret
          exact ⟨congrArg (fun r => Ending.returned (.int .i64 r)) (by unfold chk; rw [← HNV.out, ← HNK.out]; simp [*]), HL.out⟩
        · have p1 : ¬ (0 : Int) < (nv : Int) := by omega
          go_wp2_with fail
          go_ret
          exact ⟨congrArg (fun r => Ending.returned (.int .i64 r)) (by unfold chk; rw [← HNV.out, ← HNK.out]; simp [*]), HL.out⟩
    · by_cases e1 : kind = 1
      · subst e1
        by_cases a2 : 16 < nk
        · have p2 : (16 : Int) < (nk : Int) := by omega
          go_wp2_with fail
          go_ret
          exact ⟨congrArg (fun r => Ending.returned (.int .i64 r)) (by unfold chk; rw [← HNV.out, ← HNK.out]; simp [*]), HL.out⟩
        · have p2 : ¬ (16 : Int) < (nk : Int) := by omega
          by_cases a1 : 64 < nv
          · have p1 : (64 : Int) < (nv : Int) := by omega
            go_wp2_with fail
            go_ret
            exact ⟨congrArg (fun r => Ending.returned (.int .i64 r)) (by unfold chk; rw [← HNV.out, ← HNK.out]; simp [*]), HL.out⟩
          · have p1 : ¬ (64 : Int) < (nv : Int) := by omega
            go_wp2_with fail
            go_ret
            exact ⟨congrArg (fun r => Ending.returned (.int .i64 r)) (by unfold chk; rw [← HNV.out, ← HNK.out]; simp [*]), HL.out⟩
      · have e2' : ¬ (2 : Int) = kind := fun h => e2 h.symm
        have e1' : ¬ (1 : Int) = kind := fun h => e1 h.symm
        go_wp2_with fail
        go_ret
        exact ⟨congrArg (fun r => Ending.returned (.int .i64 r)) (by unfold chk; rw [← HNV.out, ← HNK.out]; simp [*]), HL.out⟩
set_option maxHeartbeats 1000000 in
theorem rall_any {w : World} {A : Option Addr} {n c : Nat} {L : List Chg} (hr : Rd w 3 A n (crow L)) (hl : L.length = n) (hn : n ≤ 4398046511104) : Calls Try.prog 33 #[.slice A n c] w fun e w' => e = .returned (.int .i64 (chkAll L)) ∧ Later w w' := by
  have HR := hide_ hr; have HL := hide_ hl
  have hn2 : (n : Int) ≤ 4398046511104 := by omega
  clear hr hl
  go_enter Try.func33, Try.ntmps33
  go_wp2_with fail
  go_loopw [3, 4] (fun s8 _ wr => ∃ k : Nat, k ≤ n ∧ s8 = .int .i64 k ∧ Hid (chkAll L = chkAll (L.drop k)) ∧ Hid (Later w wr)) (fun i _ _ => n - (intOf i).toNat)
  case atStart => exact ⟨0, Nat.zero_le _, rfl, hide_ rfl, Later.refl w⟩
  case round =>
    obtain ⟨k, hkn, rfl, HC, HB⟩ := hrel
    by_cases hlt : k < n
    · obtain ⟨s, hs⟩ : ∃ s, L[k]? = some s := ⟨_, List.getElem?_eq_getElem (by rw [HL.out]; exact hlt)⟩
      obtain ⟨b, o, rfl, l0, l1, l2⟩ := (HR.out.below HB.out).chg hs
      have q1 : (k : Int) < (n : Int) := by omega
      have q2 : (0 : Int) ≤ (k : Int) := by omega
      have q3 : (k : Int) ≤ 4398046511104 := by omega
      have HN := hide_ (chkAll_next hs)
      have hc := hide_ (rcheck_any s.1 s.2.1 s.2.2)
      clear hs
      by_cases h0 : chk s.1 s.2.1 s.2.2 = 0
      · go_wp2_with fail
        refine (hc.out _).mono ?_; rintro e w2 ⟨rfl, hb2⟩
        rw [h0]
        have HB2 := hide_ (Later.trans HB.out hb2)
        clear hb2
        go_wp2_with fail
        go_roundw
        case rel => exact ⟨k + 1, by omega, by go_num, hide_ (by rw [HC.out, HN.out, if_pos h0]), HB2.out⟩
        case measure => simp [intOf]; omega
      · have h0' : ¬ (0 : Int) = chk s.1 s.2.1 s.2.2 := fun h => h0 h.symm
        go_wp2_with fail
        refine (hc.out _).mono ?_; rintro e w2 ⟨rfl, hb2⟩
        have HB2 := hide_ (Later.trans HB.out hb2)
        clear hb2
        go_wp2_with fail
        go_ret
        exact ⟨by rw [HC.out, HN.out, if_neg h0]; rfl, HB2.out⟩
    · have q1 : ¬ (k : Int) < (n : Int) := by omega
      obtain rfl : k = n := by omega
      go_wp2_with fail
      go_ret
      exact ⟨by rw [HC.out, ← HL.out, chkAll_end]; rfl, HB.out⟩
/-- The span that a change names. -/
def spanC (kind : Int) (k v : ByteArray) : ByteArray × ByteArray := if kind = 3 then (k, v) else (k, k ++ ⟨#[0]⟩)
set_option maxHeartbeats 400000 in
theorem rspan_any (kind : Int) (k v : ByteArray) (hs : k.size ≤ 4611686018427387904) (w : World) : Calls Try.prog 60 #[.agg #[.int .i64 kind, .string k, .string v]] w fun e w' => e = .returned (.agg #[.string (spanC kind k v).1, .string (spanC kind k v).2]) ∧ Later w w' := by
  by_cases h : kind = 3
  · subst h
    go_enter Try.func60, Try.ntmps60
    go_wp2
    go_returns
    exact ⟨rfl, ((Below.refl _ _).alloc (Nat.le_refl _) _).alloc (by simp) _⟩
  · have h' : ¬ (3 : Int) = kind := fun e => h e.symm
    have e1 : spanC kind k v = (k, k ++ ⟨#[0]⟩) := by unfold spanC; rw [if_neg h]
    rw [e1]
    have hcat : ∀ W, (Op.stringOp .add k ⟨#[0]⟩).run Try.prog W = .ok (.string (k ++ ⟨#[0]⟩)) W := fun W => run_string_add_sum W k ⟨#[0]⟩ (by show k.size + 1 ≤ 9223372036854775807; omega)
    clear hs
    go_enter Try.func60, Try.ntmps60
    go_wp2
    go_returns
    exact ⟨rfl, ((Below.refl _ _).alloc (Nat.le_refl _) _).alloc (by simp) _⟩
theorem lt_snoc0 (l : List UInt8) : l < l ++ [0] := by
  induction l with
  | nil => exact List.nil_lt_cons _ _
  | cons a l ih => rw [List.cons_append, List.cons_lt_cons_iff]; exact .inr ⟨rfl, ih⟩
theorem no_between : ∀ (l m : List UInt8), l < m → ¬ m < l ++ [0]
  | [], [], h => by simp at h
  | [], b :: m, _ => by
    rw [List.nil_append, List.cons_lt_cons_iff]
    rintro (h | ⟨_, h⟩)
    · have := UInt8.toNat_lt b; simp [UInt8.lt_iff_toNat_lt] at h
    · simp at h
  | a :: l, [], h => by simp at h
  | a :: l, b :: m, h => by
    rw [List.cons_append, List.cons_lt_cons_iff]
    rw [List.cons_lt_cons_iff] at h
    rintro (h2 | ⟨rfl, h2⟩)
    · rcases h with h | ⟨rfl, _⟩
      · rw [UInt8.lt_iff_toNat_lt] at h h2; omega
      · rw [UInt8.lt_iff_toNat_lt] at h2; omega
    · rcases h with h | ⟨_, h⟩
      · rw [UInt8.lt_iff_toNat_lt] at h; omega
      · exact no_between l m h h2
theorem next_lt (s : ByteArray) : s < s ++ ⟨#[0]⟩ := by
  show s.data.toList < (s ++ ⟨#[0]⟩ : ByteArray).data.toList
  rw [ByteArray.toList_data_append]; exact lt_snoc0 _
theorem next_gap (s o : ByteArray) (h : s < o) : s ++ ⟨#[0]⟩ ≤ o := by
  have h1 : ¬ o < s ++ ⟨#[0]⟩ := by
    show ¬ o.data.toList < (s ++ ⟨#[0]⟩ : ByteArray).data.toList
    rw [ByteArray.toList_data_append]; exact no_between _ _ h
  grind
theorem named_has {kind : Int} (k v x : ByteArray) : InS (spanC kind k v) x ↔ Named kind k v x := by
  unfold InS spanC Named
  by_cases h : kind = 3
  · simp only [h, if_true]
  · simp only [h, if_false]
    have h1 := next_lt k
    constructor
    · rintro ⟨a, b⟩
      by_cases h2 : k < x
      · have := next_gap k x h2; grind
      · grind
    · rintro rfl
      exact ⟨by grind, h1⟩
theorem chk_size {kind : Int} {k v : ByteArray} (h : chk kind k v = 0) : k.size ≤ 17 := by
  unfold chk at h
  repeat' split at h
  all_goals first | omega | (exact absurd h (by decide)) | skip
theorem empty_lo (k : ByteArray) : ByteArray.empty ≤ k := List.nil_le _
theorem own_cap2 {w : World} {base n size c : Nat} {e : TypeId} {A : Option Addr} {xs : List Value} (h : w.ownsRow base e size (.slice A n c) n xs) : (A = none → n = 0) ∧ n ≤ c := by
  rcases h.2 with ⟨h1, h2, _⟩ | ⟨g, cap, cur, h1, _, _, h2, _⟩
  · injection h1 with h1 h3 h4; subst h1
    exact ⟨fun _ => by omega, by omega⟩
  · injection h1 with h1 h3 h4; subst h1 h4
    exact ⟨fun h => (by cases h), h2⟩
theorem later_on {w w1 : World} {p : Addr} {u : Value} (l : ∀ W, Later w W → W.cell? p = some u) (h : Later w w1) : ∀ W, Later w1 W → W.cell? p = some u := fun W hW => l W (h.trans hW)
theorem row_al {w : World} {k : Nat} {o : Obj} (h : w.heap[k]? = some o) (ob : Obj) : (w.alloc ob).heap[k]? = some o := by
  rw [← h]; exact Below.heap_alloc w ob k (heap_lt0 h)
theorem later_alloc (w : World) (ob : Obj) : Later w (w.alloc ob) := (Below.refl _ _).alloc (Nat.le_refl _) _
theorem row_al_later {W W' : World} {Z : Obj} (h : Later (W.alloc Z) W') : W'.heap[W.heap.size]? = some Z := (h.block _ (by simp)).trans (heap_alloc_new W _)
theorem set_two {W0 W : World} {bk : Nat} {a b u v : Value} {t : TypeId} (h : Later W0 W) (hb : W0.heap.size ≤ bk) (hr : W.heap[bk]? = some (.cells #[a, b] t (0, 0))) :
    Later W0 ((W.setCell ⟨bk, 0, none⟩ u).setCell ⟨bk, 1, none⟩ v) ∧ ((W.setCell ⟨bk, 0, none⟩ u).setCell ⟨bk, 1, none⟩ v).cell? ⟨bk, 0, none⟩ = some u ∧ ((W.setCell ⟨bk, 0, none⟩ u).setCell ⟨bk, 1, none⟩ v).cell? ⟨bk, 1, none⟩ = some v := by
  have h1 := heap_setCell_same W bk 0 _ _ u hr
  have h2 := heap_setCell_same _ bk 1 _ _ v h1
  exact ⟨Below.setCell (Below.setCell h hb _) hb _, cell_of_row _ _ 0 _ _ (0, 0) h2, cell_of_row _ _ 1 _ _ (0, 0) h2⟩
theorem row_new2 (w : World) (o1 o2 : Obj) : ((w.alloc o1).alloc o2).heap[w.heap.size + 1]? = some o2 := by
  have h := heap_alloc_new (w.alloc o1) o2
  rwa [show (w.alloc o1).heap.size = w.heap.size + 1 by simp] at h
theorem snext_any (s : ByteArray) (hs : s.size ≤ 4611686018427387904) (w : World) : Calls Try.prog 65 #[.string s] w fun e w' => e = .returned (.string (s ++ ⟨#[0]⟩)) ∧ w = w' := by
  have h : ∀ W, (Op.stringOp .add s ⟨#[0]⟩).run Try.prog W = .ok (.string (s ++ ⟨#[0]⟩)) W := fun W => run_string_add_sum W s ⟨#[0]⟩ (by show s.size + 1 ≤ 9223372036854775807; omega)
  go_enter Try.func65, Try.ntmps65
  go_wp2_with fail
  go_ret
  exact ⟨rfl, rfl⟩
set_option maxHeartbeats 400000 in
theorem pspan_any (kind : Int) (k v : ByteArray) (hs : k.size ≤ 4611686018427387904) (w : World) : Calls Try.prog 54 #[.agg #[.int .i64 kind, .string k, .string v]] w fun e w' => e = .returned (.agg #[.string (spanC kind k v).1, .string (spanC kind k v).2]) ∧ Later w w' := by
  by_cases h : kind = 3
  · subst h
    go_enter Try.func54, Try.ntmps54
    go_wp2
    go_returns
    exact ⟨rfl, ((Below.refl _ _).alloc (Nat.le_refl _) _).alloc (by simp) _⟩
  · have h' : ¬ (3 : Int) = kind := fun e => h e.symm
    have e1 : spanC kind k v = (k, k ++ ⟨#[0]⟩) := by unfold spanC; rw [if_neg h]
    rw [e1]
    have hnx := hide_ (fun W => snext_any k hs W)
    clear hs e1
    go_enter Try.func54, Try.ntmps54
    go_wp2_with fail
    obtain ⟨W1, hW1⟩ : ∃ W1, W1 = (w.alloc (.cells #[.int .i64 kind, .string k, .string v] 26)).alloc (.cells #[.string ByteArray.empty, .string ByteArray.empty] 24) := ⟨_, rfl⟩
    have hx0 : W1.heap[w.heap.size]? = some (.cells #[.int .i64 kind, .string k, .string v] 26 (0, 0)) := by rw [hW1]; exact row_al (heap_alloc_new w _) _
    have hz0 : W1.heap[w.heap.size + 1]? = some (.cells #[.string ByteArray.empty, .string ByteArray.empty] 24 (0, 0)) := by
      rw [hW1]; exact row_new2 w _ _
    have HB1 := hide_ (show Later w W1 by rw [hW1]; exact ((Below.refl _ _).alloc (Nat.le_refl _) _).alloc (by simp) _)
    rw [show ((w.alloc (.cells #[.int .i64 kind, .string k, .string v] 26)).alloc (.cells #[.string { data := #[] }, .string { data := #[] }] 24)) = W1 from hW1.symm]
    have ax1 := later_drew_cell (cell_of_row _ _ 1 _ _ (0, 0) hx0)
    have z0 := cell_of_row _ _ 0 _ _ (0, 0) hz0
    have z1 := cell_of_row _ _ 1 _ _ (0, 0) hz0
    have z2 := frozen_of_row _ _ 0 _ _ hz0
    have z3 := frozen_of_row _ _ 1 _ _ hz0
    have HZ := hide_ hz0
    clear hW1 hx0 hz0
    refine wp_region_l [6] (by kernel_rfl) ?_
    refine wpAnyL_pure 0 (v := ?_) rfl (by kernel_rfl) (by kernel_rfl) (by kernel_rfl) (fun _ _ _ h => h) (by rfl) (by intro W; go_simp; with_reducible rfl) ?_; try simp only [Act.put, List.setIfInBounds_toArray, List.set_cons_zero, List.set_cons_succ]
    refine wpAnyL_take 1 (v := ?_) rfl (by kernel_rfl) (by kernel_rfl) (by kernel_rfl) (by kernel_rfl) (fun _ _ _ h => h) (by rfl) (by intro W hSw; go_simp; with_reducible rfl) ?_; try simp only [Act.put, List.setIfInBounds_toArray, List.set_cons_zero, List.set_cons_succ]
    refine wpAnyL_pure 2 (v := ?_) rfl (by kernel_rfl) (by kernel_rfl) (by kernel_rfl) (fun _ _ _ h => h) (by rfl) (by intro W; go_simp; with_reducible rfl) ?_; try simp only [Act.put, List.setIfInBounds_toArray, List.set_cons_zero, List.set_cons_succ]
    refine wpAnyL_take 3 (v := ?_) rfl (by kernel_rfl) (by kernel_rfl) (by kernel_rfl) (by kernel_rfl) (fun _ _ _ h => h) (by rfl) (by intro W hSw; go_simp; with_reducible rfl) ?_; try simp only [Act.put, List.setIfInBounds_toArray, List.set_cons_zero, List.set_cons_succ]
    refine wpAnyL_one 4 (by kernel_rfl) rfl (fun K hK => ?_)
    go_simp
    refine (hnx.out _).mono ?_; rintro e w11 ⟨rfl, rfl⟩; have hlr := Later.refl W1.drew
    first | refine hK.out _ _ (by assumption) ?_ | refine hK.out _ _ (Later.refl _) ?_ | refine hK.out _ _ (Below.alloc (Below.refl _ _) (Nat.le_refl _) _) ?_
    clear hK K; try simp only [Act.put, List.setIfInBounds_toArray, List.set_cons_zero, List.set_cons_succ]
    refine wpAnyL_pure 5 (v := ?_) rfl (by kernel_rfl) (by kernel_rfl) (by kernel_rfl) (fun _ _ _ h => h) (by rfl) (by intro W; go_simp; with_reducible rfl) ?_; try simp only [Act.put, List.setIfInBounds_toArray, List.set_cons_zero, List.set_cons_succ]
    refine wpAnyL_loud 6 (by kernel_rfl) (by rfl) rfl (fun K hK => ?_)
    go_simp
    refine hK.out _ _ ?_
    clear hK K; try simp only [Act.put, List.setIfInBounds_toArray, List.set_cons_zero, List.set_cons_succ]
    refine wpAnyL_done (by kernel_rfl) ?_ _
    have hs2 := set_two (W0 := w) (u := .string k) (v := .string (k ++ ⟨#[0]⟩)) HB1.out (show w.heap.size ≤ w.heap.size + 1 by omega) HZ.out
    obtain ⟨hb2, y0, y1⟩ := hs2
    have HB2 := hide_ hb2
    clear hb2 ax1 z0 z1 z2 z3
    generalize ((W1.setCell ⟨w.heap.size + 1, 0, none⟩ (.string k)).setCell ⟨w.heap.size + 1, 1, none⟩ (.string (k ++ ⟨#[0]⟩))) = W2 at *
    go_wp2_with fail
    exact bodyPost_ret (v := .agg #[.string k, .string (k ++ ⟨#[0]⟩)]) (by simp [results, Try.results54, go_sem, y0, y1]) rfl ⟨rfl, HB2.out.drew⟩
/-- The spans of changes. -/
def spansC (C : List Chg) : List Spn := C.map fun c => spanC c.1 c.2.1 c.2.2
theorem spansC_snoc (C : List Chg) (c : Chg) : spansC (C ++ [c]) = spansC C ++ [spanC c.1 c.2.1 c.2.2] := by simp [spansC]
theorem srow_snoc (L : List Spn) (s : Spn) : srow (L ++ [s]) = srow L ++ encS s := by simp [srow]
/-- What Spans answers. -/
def SpansPost (C : List Chg) (p : Nat) (w : World) (e : Ending) (w' : World) : Prop :=
  ((chkAll C ≠ 0 ∧ e = .returned (.tuple #[.slice none 0 0, .int .i64 (chkAll C)])) ∨
   (chkAll C = 0 ∧ ∃ (A' : Option Addr) (R : List Spn) (q : Nat), e = .returned (.tuple #[.slice A' q q, .int .i64 0]) ∧ R.length = q ∧ q ≤ p ∧ (A' = none → q = 0) ∧ Rd w' 2 A' q (srow R) ∧ Canon R ∧ ∀ k, InL R k ↔ InL (spansC C) k)) ∧ Later w w'
set_option maxHeartbeats 2000000 in
theorem spans_any {w : World} {A : Option Addr} {p c : Nat} {C : List Chg} (hr : Rd w 3 A p (crow C)) (hl : C.length = p) (hn : p ≤ 1048576) :
    Calls Try.prog 38 #[.slice A p c] w (SpansPost C p w) := by
  have HR := hide_ hr; have HL := hide_ hl
  have hc := hide_ (all_any (c := c) hr hl (by omega))
  have hn2 : (p : Int) ≤ 1048576 := by omega
  clear hr hl
  go_enter Try.func38, Try.ntmps38
  go_wp2_with fail
  refine hc.out.mono ?_; rintro e w1 ⟨rfl, hb1⟩
  have HB1 := hide_ hb1
  clear hb1 hc
  by_cases h0 : chkAll C = 0
  · rw [h0]
    have HC0 := hide_ h0
    have HMEM := hide_ (fun c (hc : c ∈ C) => chk_size (chkAll_mem h0 c hc))
    clear h0
    have HO1 := hide_ (World.ownsRow_nil w1 w.heap.size 24 2)
    go_wp2_with fail
    go_loopw [5, 15] (fun s5 s15 wr => ∃ (k : Nat), k ≤ p ∧ s15 = .int .i64 k ∧ Hid (wr.ownsRow w.heap.size 24 2 s5 k (srow (spansC (C.take k)))) ∧ Hid (Later w wr)) (fun _ i _ => p - (intOf i).toNat)
    case atStart => exact ⟨0, Nat.zero_le _, rfl, HO1, HB1⟩
    case round =>
      obtain ⟨k, hkp, rfl, HO, HB⟩ := hrel
      obtain ⟨A4, c4, rfl⟩ := own_form HO.out
      by_cases hlt : k < p
      · obtain ⟨s, hs⟩ : ∃ s, C[k]? = some s := ⟨_, List.getElem?_eq_getElem (by rw [HL.out]; exact hlt)⟩
        obtain ⟨b, o, rfl, l0, l1, l2⟩ := (HR.out.below HB.out).chg hs
        have q1 : (k : Int) < (p : Int) := by omega
        have q2 : (0 : Int) ≤ (k : Int) := by omega
        have q3 : (k : Int) ≤ 1048576 := by omega
        have HT := hide_ (take_snoc hs)
        have hwa := hide_ (HB.out.alloc HB.out.size (.cells #[.int .i64 s.1, .string s.2.1, .string s.2.2] 26))
        have hsp := hide_ (fun W => pspan_any s.1 s.2.1 s.2.2 (by have := HMEM.out s (List.mem_of_getElem? hs); omega) W)
        have HO2 := hide_ (HO.out.alloc (.cells #[.int .i64 s.1, .string s.2.1, .string s.2.2] 26))
        clear hs
        go_wp2_with fail
        refine (hsp.out _).mono ?_; rintro e w5 ⟨rfl, hb5⟩
        have HB5 := hide_ (show Later w w5 from hwa.out.trans (Below.mono hb5 hwa.out.size))
        have HO5 := hide_ (own_below HO2.out hb5)
        clear hb5 hsp
        go_wp2_with (at_builtin; (refine wpList_append_rd _ rfl (.tmp 19) (.tmp 22) 29 rfl w.heap.size 24 2 32 spanT _ k (srow (spansC (C.take k))) rfl (HO5.out.alloc _) _ 1 1 (encS (spanC s.1 s.2.1 s.2.2)) rfl (Rd.newAt _ #[.string (spanC s.1 s.2.1 s.2.2).1, .string (spanC s.1 s.2.1 s.2.2).2] 24 1 2 _ (0, 0) rfl rfl) (encS_one _) (by omega) (by unfold maxLen; omega) (by have := HB5.out.size; simp; omega) (fun h => nomatch h) ?_; intro v8 w8 hown8 hg8 hat8; have HO8 := hide_ hown8; have HB8 := hide_ (show Later w w8 from own_grown (Below.alloc HB5.out (Below.size HB5.out) _) (HO5.out.alloc _) hg8 (by have := HB5.out.size; simp; omega)); clear hown8 hg8 hat8))
        go_roundw
        case rel => exact ⟨k + 1, by omega, by go_num, hide_ (by rw [HT.out, spansC_snoc, srow_snoc]; exact HO8.out), HB8⟩
        case measure => simp [intOf]; omega
      · have q1 : ¬ (k : Int) < (p : Int) := by omega
        obtain rfl : k = p := by omega
        have hF : spansC (C.take k) = spansC C := by rw [← HL.out, List.take_length]
        have hj := hide_ (join_any (c := c4) (Rd.of_own HO.out) (own_cap2 HO.out).1 (by rw [hF]; simp [spansC]; exact HL.out) (by omega))
        have HF := hide_ hF
        clear hF
        go_wp2_with fail
        refine hj.out.mono ?_; rintro e w5 ⟨⟨A5, R, rfl, hR5, hA5, _, hRn, hc5, hk5⟩, hb5⟩
        obtain ⟨q, hq⟩ : ∃ q, R.length = q := ⟨_, rfl⟩
        rw [hq] at hR5 hRn hA5 ⊢
        rw [HF.out] at hk5
        have HB5 := hide_ (Later.trans HB.out hb5); have HR5 := hide_ hR5; have HC5 := hide_ hc5; have HK5 := hide_ hk5; have HQ := hide_ hq; have HA5 := hide_ hA5
        clear hR5 hc5 hk5 hb5 hq hA5 hj
        go_wp2_with fail
        go_ret2
        exact ⟨.inr ⟨HC0.out, A5, R, q, rfl, HQ.out, hRn, HA5.out, HR5.out, HC5.out, HK5.out⟩, HB5.out⟩
  · have h0' : ¬ (0 : Int) = chkAll C := fun h => h0 h.symm
    go_wp2_with fail
    go_ret2
    exact ⟨.inl ⟨h0, rfl⟩, HB1.out⟩
set_option maxHeartbeats 2000000 in
theorem rspans_any {w : World} {A : Option Addr} {p c : Nat} {C : List Chg} (hr : Rd w 3 A p (crow C)) (hl : C.length = p) (hn : p ≤ 1048576) (h0 : chkAll C = 0) :
    Calls Try.prog 41 #[.slice A p c] w (BuildPost (spansC C) [] w) := by
  have HR := hide_ hr; have HL := hide_ hl
  have hn2 : (p : Int) ≤ 1048576 := by omega
  have HMEM := hide_ (fun c (hc : c ∈ C) => chk_size (chkAll_mem h0 c hc))
  have HO1 := hide_ (show (w.alloc (.cells #[] 24)).ownsRow w.heap.size 24 2 (.slice (some ⟨w.heap.size, 0, none⟩) 0 0) 0 (srow (spansC (C.take 0))) from own_new w #[] 24 2 0 w.heap.size rfl (Nat.zero_le _) (Nat.le_refl _))
  have HB1 := hide_ (later_alloc w (.cells #[] 24))
  clear hr hl h0
  go_enter Try.func41, Try.ntmps41
  go_wp2_with fail
  go_loopw [3, 4] (fun s3 s4 wr => ∃ (k : Nat), k ≤ p ∧ s4 = .int .i64 k ∧ Hid (wr.ownsRow w.heap.size 24 2 s3 k (srow (spansC (C.take k)))) ∧ Hid (Later w wr)) (fun _ i _ => p - (intOf i).toNat)
  case atStart => exact ⟨0, Nat.zero_le _, rfl, HO1, HB1⟩
  case round =>
    obtain ⟨k, hkp, rfl, HO, HB⟩ := hrel
    obtain ⟨A4, c4, rfl⟩ := own_form HO.out
    by_cases hlt : k < p
    · obtain ⟨s, hs⟩ : ∃ s, C[k]? = some s := ⟨_, List.getElem?_eq_getElem (by rw [HL.out]; exact hlt)⟩
      obtain ⟨b, o, rfl, l0, l1, l2⟩ := (HR.out.below HB.out).chg hs
      have q1 : (k : Int) < (p : Int) := by omega
      have q2 : (0 : Int) ≤ (k : Int) := by omega
      have q3 : (k : Int) ≤ 1048576 := by omega
      have HT := hide_ (take_snoc hs)
      have hsp := hide_ (fun W => rspan_any s.1 s.2.1 s.2.2 (by have := HMEM.out s (List.mem_of_getElem? hs); omega) W)
      clear hs
      go_wp2_with fail
      refine (hsp.out _).mono ?_; rintro e w5 ⟨rfl, hb5⟩
      have HB5 := hide_ (show Later w w5 from Later.trans HB.out hb5)
      have HO5 := hide_ (own_below HO.out hb5)
      clear hb5 hsp
      go_wp2_with (at_builtin; (refine wpList_append_rd _ rfl (.tmp 12) (.tmp 18) 29 rfl w.heap.size 24 2 32 spanT _ k (srow (spansC (C.take k))) rfl (HO5.out.alloc _) _ 1 1 (encS (spanC s.1 s.2.1 s.2.2)) rfl (Rd.newAt _ #[.string (spanC s.1 s.2.1 s.2.2).1, .string (spanC s.1 s.2.1 s.2.2).2] 24 1 2 _ (0, 0) rfl rfl) (encS_one _) (by omega) (by unfold maxLen; omega) (by have := HB5.out.size; simp; omega) (fun h => nomatch h) ?_; intro v8 w8 hown8 hg8 hat8; have HO8 := hide_ hown8; have HB8 := hide_ (show Later w w8 from own_grown (Below.alloc HB5.out (Below.size HB5.out) _) (HO5.out.alloc _) hg8 (by have := HB5.out.size; simp; omega)); clear hown8 hg8 hat8))
      go_roundw
      case rel => exact ⟨k + 1, by omega, by go_num, hide_ (by rw [HT.out, spansC_snoc, srow_snoc]; exact HO8.out), HB8⟩
      case measure => simp [intOf]; omega
    · have q1 : ¬ (k : Int) < (p : Int) := by omega
      obtain rfl : k = p := by omega
      have hF : spansC (C.take k) = spansC C := by rw [← HL.out, List.take_length]
      have hj := hide_ (rjoin_any (c := c4) (L := spansC C) (by rw [← hF]; exact Rd.of_own HO.out) (own_cap2 HO.out).1 (by simp [spansC]; exact HL.out) (by omega))
      clear hF
      go_wp2_with fail
      refine hj.out.mono ?_; rintro e w5 ⟨⟨v, R, q, rfl, hq, hc5, hk5, ho5⟩, hb5⟩
      obtain ⟨A5, c5, rfl⟩ := own_form ho5
      have HB5 := hide_ (Later.trans HB.out hb5); have HO5 := hide_ (own_base ho5 (Below.size HB.out)); have HC5 := hide_ hc5; have HK5 := hide_ hk5; have HQ := hide_ hq
      clear hq hc5 hk5 ho5 hb5 hj
      go_wp2_with fail
      go_ret
      exact ⟨⟨_, R, q, rfl, HQ.out, HC5.out, HK5.out, HO5.out⟩, HB5.out⟩
theorem max_below (F : List ByteArray) {x : ByteArray} (hx : ByteArray.empty < x) : ∃ y, y < x ∧ ∀ f, f ∈ F → f ≤ y ∨ x ≤ f := by
  induction F with
  | nil => exact ⟨_, hx, fun f hf => by cases hf⟩
  | cons g F ih =>
    obtain ⟨y, h1, h2⟩ := ih
    by_cases hg : g < x
    · by_cases hgy : g ≤ y
      · exact ⟨y, h1, fun f hf => by rcases List.mem_cons.1 hf with rfl | hf; exact .inl hgy; exact h2 f hf⟩
      · refine ⟨g, hg, fun f hf => ?_⟩
        rcases List.mem_cons.1 hf with rfl | hf
        · exact .inl (by grind)
        · have := h2 f hf; grind
    · exact ⟨y, h1, fun f hf => by rcases List.mem_cons.1 hf with rfl | hf; exact .inr (by grind); exact h2 f hf⟩
theorem canon_apart {R : List Spn} (hR : Canon R) : ∀ {r s : Spn}, r ∈ R → s ∈ R → r = s ∨ r.2 < s.1 ∨ s.2 < r.1 := by
  induction R with
  | nil => intro r s hr; cases hr
  | cons t R ih =>
    intro r s hr hs
    rcases List.mem_cons.1 hr with e1 | hr1
    · rcases List.mem_cons.1 hs with e2 | hs1
      · exact .inl (e1.trans e2.symm)
      · have := hR.2.1 s hs1; rw [e1]; exact .inr (.inl this)
    · rcases List.mem_cons.1 hs with e2 | hs1
      · have := hR.2.1 r hr1; rw [e2]; exact .inr (.inr this)
      · exact ih hR.2.2 hr1 hs1
theorem up_length : ∀ {A B : List ByteArray}, Up A → (∀ x, x ∈ A → x ∈ B) → A.length ≤ B.length := by
  intro A
  induction A with
  | nil => intro B _ _; exact Nat.zero_le _
  | cons a A ih =>
    intro B hA hB
    obtain ⟨B1, B2, rfl⟩ := List.append_of_mem (hB a (List.mem_cons_self ..))
    have h1 : A.length ≤ (B1 ++ B2).length := ih hA.2 fun x hx => by
      have h2 := hB x (List.mem_cons_of_mem _ hx)
      have h3 := hA.1 x hx
      rw [List.mem_append, List.mem_cons] at h2
      rw [List.mem_append]
      rcases h2 with h2 | rfl | h2
      · exact .inl h2
      · grind
      · exact .inr h2
    rw [List.length_append] at h1
    rw [List.length_append, List.length_cons, List.length_cons]; omega
theorem canon_up {R : List Spn} (hR : Canon R) : Up (R.map (·.1)) := by
  induction R with
  | nil => trivial
  | cons r R ih =>
    refine ⟨fun x hx => ?_, ih hR.2.2⟩
    obtain ⟨s, hs, rfl⟩ := List.mem_map.1 hx
    have h1 := hR.2.1 s hs
    have h2 := hR.1
    grind
theorem canon_len {R L : List Spn} (hc : Canon R) (hk : ∀ x, InL R x ↔ InL L x) : R.length ≤ L.length := by
  have h := up_length (A := R.map (·.1)) (B := L.map (·.1)) (canon_up hc) fun x hx => by
    obtain ⟨r, hr, rfl⟩ := List.mem_map.1 hx
    have hrr := hc.mem r hr
    obtain ⟨s, hs, hsr⟩ := (hk r.1).1 ⟨r, hr, by unfold InS; grind⟩
    unfold InS at hsr
    by_cases he : s.1 = r.1
    · exact List.mem_map.2 ⟨s, hs, he⟩
    · exfalso
      obtain ⟨t, ht, hts⟩ := (hk s.1).2 ⟨s, hs, by unfold InS; grind⟩
      unfold InS at hts
      rcases canon_apart hc ht hr with rfl | h1 | h1
      · grind
      · obtain ⟨u, hu, hut⟩ := (hk t.2).2 ⟨s, hs, by unfold InS; grind⟩
        unfold InS at hut
        have htt := hc.mem t ht
        rcases canon_apart hc ht hu with rfl | h2 | h2 <;> grind
      · grind
  simpa using h
end Go.Proofs.Ytidlkomgondkiaa
