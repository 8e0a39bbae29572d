/-
  The simplest facts, as plain facts; an act that is told is small.
-/
import Derived.Test.YtjkopohmcabfjaaGreatDoorTAct
namespace Go.Proofs.YtjkopohmcabfjaaGreatDoor
open Go.RowKit
set_option linter.unusedVariables false
set_option maxRecDepth 100000 in
theorem awake_line : lineF ⟨11, 2, 0, 0, [97, 32, 98], [39]⟩ = some [112, 117, 116, 32, 50, 32, 39, 97, 126, 48, 51, 50, 98, 32, 39, 126, 48, 51, 57] := by decide +kernel
set_option maxRecDepth 100000 in
theorem awake_act : actF [112, 117, 116, 32, 50, 32, 39, 97, 126, 48, 51, 50, 98, 32, 39, 126, 48, 51, 57] = some ⟨11, 2, 0, 0, [97, 32, 98], [39]⟩ := by
  unfold actF
  rw [wordsOf_eq]
  decide +kernel
theorem putAll_small {m : Nat} : ∀ (P : List UInt8) (ws : List (List UInt8)) (x y : AV), x.Small m → (∀ u ∈ ws, u.length ≤ m) → putAll x P ws = some y → y.Small m ∧ y.kind = x.kind
  | [], _, x, y, hx, _, h => by
    have : x = y := by simpa [putAll] using h
    rw [← this]; exact ⟨hx, rfl⟩
  | c :: r, ws, x, y, hx, hw, h => by
    unfold putAll at h
    have hd : (ws.headD []).length ≤ m := by
      cases ws with
      | nil => exact Nat.zero_le _
      | cons u t => exact hw u List.mem_cons_self
    cases hp : putP x c (ws.headD []) with
    | none => rw [hp] at h; cases h
    | some z =>
      rw [hp] at h
      have hz := putP_small hx hd hp
      have ht := putAll_small r ws.tail z y hz (fun u hu => hw u (List.mem_of_mem_tail hu)) h
      exact ⟨ht.1, ht.2.trans (putP_kind hp)⟩
theorem actF_line {l : List UInt8} {x : AV} (h : actF l = some x) : lineF x = some l := by
  unfold actF at h
  split at h
  · cases h
  · split at h
    · split at h
      · split at h
        · rename_i hy; injection h with h; rw [← h]; exact hy
        · cases h
      · cases h
    · cases h
theorem actF_ok {l : List UInt8} {x : AV} (hl : l.length ≤ 1099511627776) (h : actF l = some x) : x.Ok := by
  unfold actF at h
  split at h
  · cases h
  · split at h
    · split at h
      · rename_i y hy
        split at h
        · injection h with h
          subst h
          have hs := putAll_small _ _ _ _ (m := 1099511627776) ⟨by simp, by simp, by simp, Nat.zero_le _, Nat.zero_le _⟩ (fun u hu => Nat.le_trans (words_mem (List.mem_of_mem_tail hu)) hl) hy
          have h1 := idxOf_ge (testW ((wordsOf l).headD [])) kindsT
          have h2 := idxOf_lt (testW ((wordsOf l).headD [])) kindsT
          have e : kindsT.length = 17 := rfl
          have hk := hs.2
          simp only at hk
          exact ⟨by omega, hs.1.a, hs.1.b, hs.1.n, hs.1.key, hs.1.val⟩
        · cases h
      · cases h
    · cases h

end Go.Proofs.YtjkopohmcabfjaaGreatDoor
