/-
  tale.Line: the words joined.
-/
import Derived.Test.YtjkopohmcabfjaaGreatDoorTLineA
import Derived.Test.YtjkopohmcabfjaaGreatDoorShelf
import Derived.Lib.ItoaLen
namespace Go.Proofs.YtjkopohmcabfjaaGreatDoor
open Go.RowKit
set_option linter.unusedVariables false
set_option linter.unusedSimpArgs false
theorem joinW_eq (L : List (List UInt8)) : Lib.join L [32] = joinW L := by
  induction L with
  | nil => rfl
  | cons x r ih =>
    cases r with
    | nil => rw [Lib.join_one]; rfl
    | cons y r =>
      rw [Lib.join_cons]
      rw [Lib.join_cons] at ih
      show _ = x ++ 32 :: joinW (y :: r)
      rw [← ih]
      simp [Lib.joinTail]
theorem joinW_len {M : Nat} (L : List (List UInt8)) (h : ∀ x ∈ L, x.length ≤ M) : (joinW L).length ≤ L.length * (M + 1) := by
  induction L with
  | nil => simp [joinW]
  | cons x r ih =>
    have hx := h x List.mem_cons_self
    have hr := ih (fun y hy => h y (List.mem_cons_of_mem _ hy))
    have e : (x :: r).length * (M + 1) = r.length * (M + 1) + (M + 1) := by simp [Nat.succ_mul]
    rw [e]
    cases r with
    | nil => simp [joinW]; omega
    | cons y r =>
      have : joinW (x :: y :: r) = x ++ 32 :: joinW (y :: r) := rfl
      rw [this]; simp only [List.length_append, List.length_cons] at hr ⊢; omega
theorem encP_len (x : AV) (hx : x.Ok) (p : UInt8) : (encP x p).length ≤ 4398046511105 := by
  have h1 := Lib.itoa_length_le x.a hx.a.1 hx.a.2
  have h2 := Lib.itoa_length_le x.b hx.b.1 hx.b.2
  have h3 := Lib.itoa_length_le x.n hx.n.1 hx.n.2
  have h4 := quoteL_len x.key
  have h5 := quoteL_len x.val
  have h6 := hx.key; have h7 := hx.val
  unfold encP
  split
  · omega
  · split
    · omega
    · split
      · omega
      · split <;> omega
theorem words_len (x : AV) (hx : x.Ok) (W P : List UInt8) (hW : W.length ≤ 16) (hP : P.length ≤ 3) : (joinW (W :: P.map (encP x))).length ≤ 140737488355328 := by
  have h := joinW_len (M := 4398046511105) (W :: P.map (encP x)) (fun y hy => by
    rcases List.mem_cons.1 hy with rfl | hy
    · omega
    · obtain ⟨p, _, rfl⟩ := List.mem_map.1 hy; exact encP_len x hx p)
  simp only [List.length_cons, List.length_map] at h
  omega
theorem join_any {w : World} {B n cv : Nat} {Av : Option Addr} {L : List (List UInt8)} (ho : w.ownsRow B 9 1 (.slice Av n cv) n (L.map strV)) (hn : 0 < n) (hs : n ≤ 4096) (hlen : (joinW L).length ≤ 140737488355328) :
    Calls Tryz.prog 45 #[.slice Av n cv, .string ⟨#[32]⟩] w fun e w' => e = .returned (strV (joinW L)) ∧ Later w w' := by
  have hl := ho.1
  rw [List.length_map, Nat.mul_one] at hl
  rcases ho.2 with ⟨_, h0⟩ | ⟨g, cap, cur, hv, _, hg, hnc, _, hcs, htk⟩
  · omega
  · injection hv with hA _ hc
    subst hA hc hl
    have hcell : ∀ (j : Nat) (x : ByteArray), (L.map (fun l => (⟨l.toArray⟩ : ByteArray)))[j]? = some x → w.cell? ⟨g, 0 + j, none⟩ = some (.string x) := fun j x hj => by
      rw [Nat.zero_add, cell_of_row w g j _ _ (0, 0) hg]
      rw [List.getElem?_map] at hj
      have hjl : j < L.length := by
        rcases Nat.lt_or_ge j L.length with h | h
        · exact h
        · rw [List.getElem?_eq_none h] at hj; simp at hj
      have h2 : (cur.toList.take (L.length * 1))[j]? = some (.string x) := by
        rw [htk, List.getElem?_map]
        rw [List.getElem?_eq_getElem hjl] at hj ⊢
        simp only [Option.map_some, Option.some.injEq] at hj ⊢
        rw [← hj]; rfl
      rw [List.getElem?_take_of_lt (by omega)] at h2
      rw [← Array.getElem?_toList]; exact h2
    have e : ((L.map (fun l => (⟨l.toArray⟩ : ByteArray))).map (·.data.toList)) = L := by rw [List.map_map]; simp [Function.comp_def]
    have hj := Tryz.strings_Join g 0 cv (L.map (fun l => (⟨l.toArray⟩ : ByteArray))) ⟨#[32]⟩ w hcell (theap_lt hg) (by simp; omega) (by simpa using hnc) (by
      rw [e]; show (Lib.join L [32]).length ≤ _; rw [joinW_eq]; exact hlen)
    rw [e] at hj
    have e2 : Lib.join L (⟨#[32]⟩ : ByteArray).data.toList = joinW L := joinW_eq L
    rw [e2, List.length_map] at hj
    exact hj.mono fun e w' h => ⟨h.1, h.2⟩

end Go.Proofs.YtjkopohmcabfjaaGreatDoor
