/-
  All: the first error of changes.
-/
import Derived.Test.YtblljpdlmllceaaKCheck
namespace Go.Proofs.Ytblljpdlmllceaa
open Go.RowKit
set_option linter.unusedVariables false
set_option linter.unusedSimpArgs false
/-- A change: kind, key, value. -/
abbrev Chg := Int × ByteArray × ByteArray
def encC (s : Chg) : List Value := [.int .i64 s.1, .string s.2.1, .string s.2.2]
def crow (L : List Chg) : List Value := L.flatMap encC
theorem encC_len (s : Chg) : (encC s).length = 3 := rfl
theorem encC_one (s : Chg) : ∀ u ∈ encC s, u.oneCell' = true := by
  intro u hu
  simp only [encC, List.mem_cons, List.not_mem_nil, or_false] at hu
  rcases hu with rfl | rfl | rfl <;> rfl
theorem crow_len (L : List Chg) : (crow L).length = L.length * 3 := rec_len encC_len L
theorem crow_one (L : List Chg) : ∀ u ∈ crow L, u.oneCell' = true := rec_one encC_one L
theorem crow_0 {L : List Chg} {i : Nat} {s : Chg} (h : L[i]? = some s) : (crow L)[i * 3]? = some (.int .i64 s.1) := by
  have := rec_at encC_len h 0 (by omega); simpa [crow, encC] using this
theorem crow_1 {L : List Chg} {i : Nat} {s : Chg} (h : L[i]? = some s) : (crow L)[i * 3 + 1]? = some (.string s.2.1) := by
  have := rec_at encC_len h 1 (by omega); simpa [crow, encC] using this
theorem crow_2 {L : List Chg} {i : Nat} {s : Chg} (h : L[i]? = some s) : (crow L)[i * 3 + 2]? = some (.string s.2.2) := by
  have := rec_at encC_len h 2 (by omega); simpa [crow, encC] using this
theorem Rd.chg {w : World} {A : Option Addr} {n : Nat} {L : List Chg} (h : Rd w 3 A n (crow L)) {i : Nat} {s : Chg} (hi : L[i]? = some s) :
    ∃ b o, A = some ⟨b, o, none⟩ ∧ w.cell? ⟨b, o + i * 3, none⟩ = some (.int .i64 s.1) ∧ w.cell? ⟨b, o + i * 3 + 1, none⟩ = some (.string s.2.1) ∧ w.cell? ⟨b, o + i * 3 + 2, none⟩ = some (.string s.2.2) := by
  have hl := (List.getElem?_eq_some_iff.1 (crow_0 hi)).1
  obtain ⟨b, o, e, hc⟩ := h.2 (by omega)
  exact ⟨b, o, e, hc _ _ (crow_0 hi), hc _ _ (crow_1 hi), hc _ _ (crow_2 hi)⟩
/-- What All answers. -/
def chkAll : List Chg → Int
  | [] => 0
  | c :: L => if chk c.1 c.2.1 c.2.2 = 0 then chkAll L else chk c.1 c.2.1 c.2.2
theorem chkAll_next {L : List Chg} {i : Nat} {s : Chg} (h : L[i]? = some s) : chkAll (L.drop i) = if chk s.1 s.2.1 s.2.2 = 0 then chkAll (L.drop (i + 1)) else chk s.1 s.2.1 s.2.2 := by
  have e := List.getElem?_eq_some_iff.1 h
  rw [List.drop_eq_getElem_cons e.1, e.2]; rfl
theorem chkAll_end {L : List Chg} : chkAll (L.drop L.length) = 0 := by rw [List.drop_length]; rfl
set_option maxHeartbeats 1000000 in
theorem all_any {w : World} {A : Option Addr} {n c : Nat} {L : List Chg} (hr : Rd w 3 A n (crow L)) (hl : L.length = n) (hn : n ≤ 4398046511104) : Calls Try.prog 32 #[.slice A n c] w fun e w' => e = .returned (.int .i64 (chkAll L)) ∧ Later w w' := by
  have HR := hide_ hr; have HL := hide_ hl
  have hn2 : (n : Int) ≤ 4398046511104 := by omega
  clear hr hl
  go_enter Try.func32, Try.ntmps32
  go_wp2_with fail
  go_loopw [4, 5, 8] (fun _ _ s8 wr => ∃ k : Nat, k ≤ n ∧ s8 = .int .i64 k ∧ Hid (chkAll L = chkAll (L.drop k)) ∧ Hid (Later w wr)) (fun _ _ i _ => n - (intOf i).toNat)
  case atStart => exact ⟨0, Nat.zero_le _, rfl, hide_ rfl, Later.refl w⟩
  case round =>
    obtain ⟨k, hkn, rfl, HC, HB⟩ := hrel
    by_cases hlt : k < n
    · obtain ⟨s, hs⟩ : ∃ s, L[k]? = some s := ⟨_, List.getElem?_eq_getElem (by rw [HL.out]; exact hlt)⟩
      obtain ⟨b, o, rfl, l0, l1, l2⟩ := (HR.out.below HB.out).chg hs
      have q1 : (k : Int) < (n : Int) := by omega
      have q2 : (0 : Int) ≤ (k : Int) := by omega
      have q3 : (k : Int) ≤ 4398046511104 := by omega
      have HN := hide_ (chkAll_next hs)
      have hc := hide_ (check_any s.1 s.2.1 s.2.2)
      clear hs
      by_cases h0 : chk s.1 s.2.1 s.2.2 = 0
      · go_wp2_with fail
        refine (hc.out _).mono ?_; rintro e w2 ⟨rfl, hb2⟩
        rw [h0]
        have HB2 := hide_ ((HB.out.alloc HB.out.size (.cells #[.int .i64 s.1, .string s.2.1, .string s.2.2] 32)).trans (hb2.mono (by have := HB.out.size; simp; omega)))
        clear hb2
        go_wp2_with fail
        go_roundw
        case rel => exact ⟨k + 1, by omega, by go_num, hide_ (by rw [HC.out, HN.out, if_pos h0]), HB2.out⟩
        case measure => simp [intOf]; omega
      · have h0' : ¬ (0 : Int) = chk s.1 s.2.1 s.2.2 := fun h => h0 h.symm
        go_wp2_with fail
        refine (hc.out _).mono ?_; rintro e w2 ⟨rfl, hb2⟩
        have HB2 := hide_ ((HB.out.alloc HB.out.size (.cells #[.int .i64 s.1, .string s.2.1, .string s.2.2] 32)).trans (hb2.mono (by have := HB.out.size; simp; omega)))
        clear hb2
        go_wp2_with fail
        go_ret
        exact ⟨by rw [HC.out, HN.out, if_neg h0]; rfl, HB2.out⟩
    · have q1 : ¬ (k : Int) < (n : Int) := by omega
      obtain rfl : k = n := by omega
      go_wp2_with fail
      go_ret
      exact ⟨by rw [HC.out, ← HL.out, chkAll_end]; rfl, HB.out⟩
/-- Are pairs sound? -/
def Snd (L : List Pr) : Prop := Ris L ∧ ∀ p, p ∈ L → p.1.size ≤ 16 ∧ p.2.size ≤ 64
def SndT (L : List Pr) (k : Nat) : Prop := (∀ (i : Nat) p, i < k → L[i]? = some p → p.1.size ≤ 16 ∧ p.2.size ≤ 64) ∧ ∀ (i : Nat) p q, i + 1 < k → L[i]? = some p → L[i + 1]? = some q → p.1 < q.1
theorem sndT_0 (L : List Pr) : SndT L 0 := ⟨fun i p h => absurd h (Nat.not_lt_zero _), fun i p q h => absurd h (Nat.not_lt_zero _)⟩
theorem sndT_next {L : List Pr} {k : Nat} (h : SndT L k) {x : Pr} (hx : L[k]? = some x) (h1 : x.1.size ≤ 16) (h2 : x.2.size ≤ 64) (h3 : ∀ (i : Nat) p, i + 1 = k → L[i]? = some p → p.1 < x.1) : SndT L (k + 1) := by
  refine ⟨fun i p hi hp => ?_, fun i p q hi hp hq => ?_⟩
  · rcases Nat.lt_or_ge i k with hlt | hge
    · exact h.1 i p hlt hp
    · obtain rfl : i = k := by omega
      rw [hx] at hp; injection hp with hp; subst hp; exact ⟨h1, h2⟩
  · rcases Nat.lt_or_ge (i + 1) k with hlt | hge
    · exact h.2 i p q hlt hp hq
    · have e : i + 1 = k := by omega
      rw [e, hx] at hq; injection hq with hq; subst hq; exact h3 i p e hp
theorem sndT_end {L : List Pr} (h : SndT L L.length) : Snd L := by
  refine ⟨rise_iff.1 ?_, fun p hp => ?_⟩
  · intro i j x y hij hx hy
    obtain ⟨d, rfl⟩ : ∃ d, j = i + 1 + d := ⟨j - (i + 1), by omega⟩
    clear hij
    induction d generalizing y with
    | zero => exact h.2 i x y (List.getElem?_eq_some_iff.1 hy).1 hx hy
    | succ d ih =>
      have hlt := (List.getElem?_eq_some_iff.1 hy).1
      have hz := List.getElem?_eq_getElem (l := L) (i := i + 1 + d) (by omega)
      have h1 := ih _ hz
      have h2 := h.2 (i + 1 + d) _ y (by omega) hz (by rw [← hy]; rfl)
      grind
  · obtain ⟨i, hi⟩ := List.getElem?_of_mem hp
    exact h.1 i p (List.getElem?_eq_some_iff.1 hi).1 hi
theorem snd_no1 {L : List Pr} {k : Nat} {x : Pr} (hx : L[k]? = some x) (h1 : ¬ (x.1.size ≤ 16 ∧ x.2.size ≤ 64)) : ¬ Snd L := fun h => h1 (h.2 x (List.mem_of_getElem? hx))
theorem snd_no2 {L : List Pr} {k : Nat} {x p : Pr} (hp : L[k]? = some p) (hx : L[k + 1]? = some x) (h1 : ¬ p.1 < x.1) : ¬ Snd L := fun h => h1 (rise_iff.2 h.1 k (k + 1) p x (by omega) hp hx)
end Go.Proofs.Ytblljpdlmllceaa
