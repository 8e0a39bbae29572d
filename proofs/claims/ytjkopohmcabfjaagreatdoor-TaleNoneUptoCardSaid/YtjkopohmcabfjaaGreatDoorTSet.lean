/-
  A setting; a script as one plain function; a script tells its setting and its acts.
-/
import Derived.Test.YtjkopohmcabfjaaGreatDoorTInv
namespace Go.Proofs.YtjkopohmcabfjaaGreatDoor
open Go.RowKit
set_option linter.unusedVariables false
set_option linter.unusedSimpArgs false
/-- A setting: six numbers. -/
structure SV where
  n0 : Int
  n1 : Int
  n2 : Int
  n3 : Int
  n4 : Int
  n5 : Int
deriving DecidableEq
def SV.zero : SV := ⟨0, 0, 0, 0, 0, 0⟩
def SV.nums (s : SV) : List Int := [s.n0, s.n1, s.n2, s.n3, s.n4, s.n5]
def I64 (n : Int) : Prop := -9223372036854775808 ≤ n ∧ n ≤ 9223372036854775807
def SV.Ok (s : SV) : Prop := ∀ n ∈ s.nums, I64 n
def yardW : List UInt8 := [121, 97, 114, 100]
def mostN : List Int := [7, 7, 4, 4, 4, 8]
def okN (p : Int × Int) : Bool := decide (1 ≤ p.1) && decide (p.1 ≤ p.2)
def soundF (s : SV) : Bool := (s.nums.zip mostN).all okN
theorem soundF_eq (s : SV) : soundF s = (okN (s.n0, 7) && okN (s.n1, 7) && okN (s.n2, 4) && okN (s.n3, 4) && okN (s.n4, 4) && okN (s.n5, 8)) := by
  simp [soundF, SV.nums, mostN, Bool.and_assoc]
def headF (s : SV) : List UInt8 := joinW (yardW :: s.nums.map Lib.itoa)
/-- The lines of acts. -/
def linesF : List AV → Option (List (List UInt8))
  | [] => some []
  | x :: r => match lineF x with
    | some l => match linesF r with
      | some ls => some (l :: ls)
      | none => none
    | none => none
def scriptF (s : SV) (L : List AV) : List UInt8 × Int :=
  if soundF s = false then ([], 2) else if 4096 < L.length then ([], 6) else match linesF L with
    | none => ([], 1)
    | some ls => (headF s ++ ls.flatMap (10 :: ·) ++ [10], 0)
theorem joinC_flat (c : UInt8) : ∀ (L : List (List UInt8)) (x : List UInt8), joinC c (x :: L) = x ++ L.flatMap (c :: ·)
  | [], x => by simp [joinC]
  | y :: r, x => by
    show x ++ c :: joinC c (y :: r) = _
    rw [joinC_flat c r y]; simp
theorem script_join (h : List UInt8) (ls : List (List UInt8)) : h ++ ls.flatMap (10 :: ·) ++ [10] = joinC 10 (h :: (ls ++ [[]])) := by
  rw [joinC_flat]; simp
theorem headF_flat (s : SV) : headF s = yardW ++ (s.nums.map Lib.itoa).flatMap (32 :: ·) := by
  unfold headF; rw [← joinC_32, joinC_flat]
/-- A text's lines. -/
def linesOf (l : List UInt8) : List (List UInt8) := (Lib.splitB ⟨#[10]⟩ 0 (Lib.countB ⟨l.toArray⟩ ⟨#[10]⟩) ⟨l.toArray⟩).map (·.data.toList)
theorem linesOf_eq (l : List UInt8) : linesOf l = Lib.splitK [10] 0 (l.count 10) l := by
  unfold linesOf
  rw [Lib.splitB_data]
  have e : Lib.countB ⟨l.toArray⟩ ⟨#[10]⟩ = l.count 10 := by
    have := Lib.count_one 10 l
    rw [← this]
  rw [e]
theorem lines_mem {l x : List UInt8} (h : x ∈ linesOf l) : x.length ≤ l.length := by
  rw [linesOf_eq] at h; exact splitK_mem _ _ _ _ h
theorem lines_size (l : List UInt8) : (linesOf l).length = Lib.countB ⟨l.toArray⟩ ⟨#[10]⟩ + 1 := by
  unfold linesOf
  rw [List.length_map]; exact Lib.splitB_all ⟨#[10]⟩ (by decide) 0 _ _ rfl
theorem lines_size_le (l : List UInt8) : (linesOf l).length ≤ l.length + 1 := by
  rw [lines_size]
  have := Lib.countB_le ⟨#[10]⟩ (by decide) l.length ⟨l.toArray⟩ (Nat.le_of_eq rfl)
  have e : (⟨l.toArray⟩ : ByteArray).size = l.length := rfl
  omega
theorem linesOf_join (L : List (List UInt8)) (h0 : L ≠ []) (h : ∀ u ∈ L, (10 : UInt8) ∉ u) : linesOf (joinC 10 L) = L := by
  rw [linesOf_eq]
  exact splitK_joinC 10 L h0 h
theorem linesF_len : ∀ {L : List AV} {ls : List (List UInt8)}, linesF L = some ls → ls.length = L.length
  | [], ls, h => by simp [linesF] at h; subst h; rfl
  | x :: r, ls, h => by
    unfold linesF at h
    split at h
    · split at h
      · rename_i h2; injection h with h; subst h; have := linesF_len h2; simp [this]
      · cases h
    · cases h
theorem linesF_at : ∀ {L : List AV} {ls : List (List UInt8)}, linesF L = some ls → ∀ (i : Nat) (x : AV), L[i]? = some x → ∃ l, ls[i]? = some l ∧ lineF x = some l
  | [], ls, h, i, x, hx => by simp at hx
  | y :: r, ls, h, i, x, hx => by
    unfold linesF at h
    split at h
    · rename_i l hl
      split at h
      · rename_i h2; injection h with h; subst h
        cases i with
        | zero => simp at hx; subst hx; exact ⟨l, rfl, hl⟩
        | succ i => simp at hx; obtain ⟨m, h3, h4⟩ := linesF_at h2 i x hx; exact ⟨m, by simpa using h3, h4⟩
      · cases h
    · cases h
theorem linesF_mem {L : List AV} {ls : List (List UInt8)} (h : linesF L = some ls) {l : List UInt8} (hl : l ∈ ls) : ∃ x ∈ L, lineF x = some l := by
  obtain ⟨i, hi, e⟩ := List.mem_iff_getElem.1 hl
  have hL := linesF_len h
  obtain ⟨m, h1, h2⟩ := linesF_at h i (L[i]'(by omega)) (List.getElem?_eq_getElem _)
  rw [List.getElem?_eq_getElem hi] at h1
  injection h1 with h1
  exact ⟨L[i]'(by omega), List.getElem_mem _, by rw [h2, ← h1, e]⟩
theorem linesF_snoc : ∀ {L : List AV} {ls : List (List UInt8)} {x : AV} {l : List UInt8}, linesF L = some ls → lineF x = some l → linesF (L ++ [x]) = some (ls ++ [l])
  | [], ls, x, l, h, hx => by simp [linesF] at h; subst h; simp [linesF, hx]
  | y :: r, ls, x, l, h, hx => by
    unfold linesF at h
    split at h
    · rename_i m hm
      split at h
      · rename_i ms h2; injection h with h; subst h
        have := linesF_snoc h2 hx
        show linesF (y :: (r ++ [x])) = _
        unfold linesF
        rw [hm, this]; rfl
      · cases h
    · cases h
theorem linesF_none : ∀ {L : List AV} {x : AV}, x ∈ L → lineF x = none → linesF L = none
  | y :: r, x, hm, hx => by
    unfold linesF
    rcases List.mem_cons.1 hm with rfl | hm
    · rw [hx]
    · rw [linesF_none hm hx]
      split <;> rfl
theorem head_nonl (s : SV) : (10 : UInt8) ∉ headF s := joinW_nonl (fun u hu => by
  rcases List.mem_cons.1 hu with rfl | h
  · intro b hb; revert b; decide
  · obtain ⟨n, _, rfl⟩ := List.mem_map.1 h; exact itoa_hi n)
/-- What stands in a script. -/
structure Parts (t : List UInt8) (s : SV) (L : List AV) (ls : List (List UInt8)) : Prop where
  sound : soundF s = true
  len : L.length ≤ 4096
  acts : linesF L = some ls
  lines : linesOf t = headF s :: (ls ++ [[]])
theorem script_parts {t : List UInt8} {s : SV} {L : List AV} (h : scriptF s L = (t, 0)) : ∃ ls, Parts t s L ls := by
  unfold scriptF at h
  split at h
  · have h2 := congrArg Prod.snd h; simp at h2
  · rename_i hs
    split at h
    · have h2 := congrArg Prod.snd h; simp at h2
    · rename_i hl
      split at h
      · have h2 := congrArg Prod.snd h; simp at h2
      · rename_i ls hls
        refine ⟨ls, by simpa using hs, by omega, hls, ?_⟩
        have ht := congrArg Prod.fst h
        simp only at ht
        rw [← ht, script_join]
        refine linesOf_join _ (by simp) (fun u hu => ?_)
        rcases List.mem_cons.1 hu with rfl | hu
        · exact head_nonl s
        · rcases List.mem_append.1 hu with hu | hu
          · obtain ⟨x, _, hx⟩ := linesF_mem hls hu
            exact line_nonl hx
          · rw [List.mem_singleton] at hu; subst hu; simp
theorem head_words (s : SV) : wordsOf (headF s) = yardW :: s.nums.map Lib.itoa := wordsOf_join _ (by simp) (fun u hu => by
  rcases List.mem_cons.1 hu with rfl | h
  · decide
  · obtain ⟨n, _, rfl⟩ := List.mem_map.1 h; exact (itoa_hi n).no (by decide))
theorem sound_ok {s : SV} (h : soundF s = true) : s.Ok := by
  rw [soundF_eq] at h
  simp only [okN, Bool.and_eq_true, decide_eq_true_eq] at h
  intro n hn
  simp only [SV.nums, List.mem_cons, List.not_mem_nil, or_false] at hn
  unfold I64
  rcases hn with rfl | rfl | rfl | rfl | rfl | rfl <;> omega
/-- The acts out of a script's lines. -/
theorem acts_back {L : List AV} {ls : List (List UInt8)} (h : linesF L = some ls) (hok : ∀ x ∈ L, x.Ok) : ∀ (i : Nat) (l : List UInt8), ls[i]? = some l → ∃ x, L[i]? = some x ∧ actF l = some x := by
  intro i l hl
  have hi : i < L.length := by rw [← linesF_len h]; exact (List.getElem?_eq_some_iff.1 hl).1
  obtain ⟨m, h1, h2⟩ := linesF_at h i (L[i]'hi) (List.getElem?_eq_getElem _)
  rw [hl] at h1; injection h1 with h1; subst h1
  exact ⟨L[i]'hi, List.getElem?_eq_getElem _, actF_of_line (hok _ (List.getElem_mem _)) h2⟩
/-- A script tells its setting and acts. -/
theorem script_inj {t : List UInt8} {s s' : SV} {L L' : List AV} (h : scriptF s L = (t, 0)) (h' : scriptF s' L' = (t, 0)) (hok : ∀ x ∈ L, x.Ok) (hok' : ∀ x ∈ L', x.Ok) : s = s' ∧ L = L' := by
  obtain ⟨ls, p⟩ := script_parts h
  obtain ⟨ls', p'⟩ := script_parts h'
  have he := p.lines.symm.trans p'.lines
  injection he with he1 he2
  have hls : ls = ls' := List.append_cancel_right he2
  subst hls
  have hw := congrArg wordsOf he1
  rw [head_words, head_words] at hw
  injection hw with _ hw
  have hs := sound_ok p.sound
  have hs' := sound_ok p'.sound
  constructor
  · obtain ⟨a0, a1, a2, a3, a4, a5⟩ := s
    obtain ⟨b0, b1, b2, b3, b4, b5⟩ := s'
    have inj : ∀ {a b : Int}, I64 a → I64 b → Lib.itoa a = Lib.itoa b → a = b := fun {a b} ha hb e => by
      have h1 := atoi_itoa a ha.1 ha.2
      rw [e, atoi_itoa b hb.1 hb.2] at h1
      injection h1 with h1; exact h1.symm
    simp only [SV.nums, List.map_cons, List.map_nil, List.cons.injEq, and_true] at hw
    obtain ⟨e0, e1, e2, e3, e4, e5⟩ := hw
    have q0 := inj (hs a0 (by simp [SV.nums])) (hs' b0 (by simp [SV.nums])) e0
    have q1 := inj (hs a1 (by simp [SV.nums])) (hs' b1 (by simp [SV.nums])) e1
    have q2 := inj (hs a2 (by simp [SV.nums])) (hs' b2 (by simp [SV.nums])) e2
    have q3 := inj (hs a3 (by simp [SV.nums])) (hs' b3 (by simp [SV.nums])) e3
    have q4 := inj (hs a4 (by simp [SV.nums])) (hs' b4 (by simp [SV.nums])) e4
    have q5 := inj (hs a5 (by simp [SV.nums])) (hs' b5 (by simp [SV.nums])) e5
    rw [q0, q1, q2, q3, q4, q5]
  · have hlen : L.length = L'.length := by rw [← linesF_len p.acts, ← linesF_len p'.acts]
    apply List.ext_getElem? 
    intro i
    rcases Nat.lt_or_ge i L.length with hi | hi
    · have hil : i < ls.length := by rw [linesF_len p.acts]; exact hi
      obtain ⟨x, h1, h2⟩ := acts_back p.acts hok i (ls[i]'hil) (List.getElem?_eq_getElem _)
      obtain ⟨y, h3, h4⟩ := acts_back p'.acts hok' i (ls[i]'hil) (List.getElem?_eq_getElem _)
      rw [h1, h3, ← h2, ← h4]
    · rw [List.getElem?_eq_none hi, List.getElem?_eq_none (by omega)]
end Go.Proofs.YtjkopohmcabfjaaGreatDoor
