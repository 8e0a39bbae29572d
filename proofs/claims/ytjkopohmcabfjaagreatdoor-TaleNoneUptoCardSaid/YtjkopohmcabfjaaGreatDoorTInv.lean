/-
  Reading undoes writing: numbers, texts, lines.
-/
import Derived.Test.YtjkopohmcabfjaaGreatDoorTActB
import Derived.Lib.AtoiAllCases
import Derived.Lib.IndexLaws
import Derived.Lib.IndexMore
namespace Go.Proofs.YtjkopohmcabfjaaGreatDoor
open Go.RowKit
set_option linter.unusedVariables false
set_option linter.unusedSimpArgs false
theorem dec_digit (u : Nat) : ∀ c ∈ Lib.decDigits u, 48 ≤ c.toNat ∧ c.toNat ≤ 57 := by
  induction u using Nat.strongRecOn with
  | _ u ih =>
    intro c hc
    rw [Lib.decDigits] at hc
    split at hc
    · rw [List.mem_singleton] at hc; subst hc; rw [UInt8.toNat_ofNat']; omega
    · rcases List.mem_append.1 hc with h | h
      · exact ih (u / 10) (by omega) c h
      · rw [List.mem_singleton] at h; subst h; rw [UInt8.toNat_ofNat']; omega
theorem dec_ne (u : Nat) : Lib.decDigits u ≠ [] := by
  intro h
  have h1 := Lib.decDigits_length u
  have h2 := Lib.nDigits_pos u
  rw [h] at h1
  simp at h1
  omega
theorem parse_dec (u : Nat) : ∀ r, u < 18446744073709551616 → Lib.parseUint10 0 (Lib.decDigits u ++ r) = Lib.parseUint10 u r := by
  induction u using Nat.strongRecOn with
  | _ u ih =>
    intro r hu
    rw [Lib.decDigits]
    split
    · rename_i h
      have e : (UInt8.ofNat (48 + u)).toNat = 48 + u := by rw [UInt8.toNat_ofNat']; omega
      simp only [List.singleton_append, Lib.parseUint10, e]
      rw [if_pos (by omega), if_neg (by omega), if_neg (by omega), show 0 * 10 + (48 + u - 48) = u by omega]
    · rename_i h
      rw [List.append_assoc, ih (u / 10) (by omega) _ (by omega)]
      have e : (UInt8.ofNat (48 + u % 10)).toNat = 48 + u % 10 := by rw [UInt8.toNat_ofNat']; omega
      simp only [List.singleton_append, Lib.parseUint10, e]
      rw [if_pos (by omega), if_neg (by omega), if_neg (by omega), show u / 10 * 10 + (48 + u % 10 - 48) = u by omega]
theorem mag_dec (u : Nat) (hu : u < 18446744073709551616) : Lib.parseMag (Lib.decDigits u) = .ok u := by
  unfold Lib.parseMag
  rw [if_neg (dec_ne u)]
  have h := parse_dec u [] hu
  rw [List.append_nil] at h
  rw [h]; rfl
theorem atoi_itoa (n : Int) (h0 : -9223372036854775808 ≤ n) (h1 : n ≤ 9223372036854775807) : Lib.atoiAll (Lib.itoa n) = .ok n := by
  unfold Lib.itoa
  split
  · rw [Lib.atoiAll_minus, mag_dec _ (by omega)]
    simp only [Lib.signed]
    rw [if_neg (by omega)]
    congr 1; omega
  · have hd := dec_digit n.toNat
    have hm := mag_dec n.toNat (by omega)
    cases e : Lib.decDigits n.toNat with
    | nil => exact absurd e (dec_ne _)
    | cons c r =>
      rw [e] at hd hm
      have hc := hd c List.mem_cons_self
      rw [Lib.atoiAll_plain c r (by omega) (by omega), hm]
      simp only [Lib.signless]
      rw [if_neg (by omega)]
      congr 1; omega
theorem three_back (b : UInt8) : threeV (threeB b) = some b := by
  have key : ∀ x : BitVec 8, threeV (threeB ⟨x⟩) = some ⟨x⟩ := by decide +kernel
  exact key b.toBitVec
theorem unq_quote (l : List UInt8) : unq (l.flatMap quoteB).length (l.flatMap quoteB) = some l := by
  induction l with
  | nil => rfl
  | cons b l ih =>
    rw [List.flatMap_cons]
    unfold quoteB
    split
    · rename_i hb
      have h126 : b.toNat ≠ 126 := by unfold plainB at hb; simp at hb; omega
      rw [List.singleton_append, unq_plain h126]
      have ih' := ih
      unfold quoteB at ih'
      rw [ih']; rfl
    · have ih' := ih
      unfold quoteB at ih'
      have e3 : (threeB b ++ l.flatMap fun b => if plainB b = true then [b] else 126 :: threeB b).take 3 = threeB b := by simp [threeB]
      have ed : (threeB b ++ l.flatMap fun b => if plainB b = true then [b] else 126 :: threeB b).drop 3 = l.flatMap fun b => if plainB b = true then [b] else 126 :: threeB b := by simp [threeB]
      rw [List.cons_append, unq_three (c := b) rfl (by simp [threeB]) (by rw [e3]; exact three_back b), ed, ih']
      rfl
theorem unquote_quote (l : List UInt8) : unquoteV (quoteL l) = (l, true) := by
  unfold unquoteV quoteL
  simp only [unq_quote]
/-! Words without blanks: every byte is behind the blank. -/
def HiW (u : List UInt8) : Prop := ∀ b ∈ u, 32 < b.toNat
theorem HiW.no {u : List UInt8} (h : HiW u) {c : UInt8} (hc : c.toNat ≤ 32) : c ∉ u := fun hm => by have := h c hm; omega
theorem dec_hi (u : Nat) : HiW (Lib.decDigits u) := fun b hb => by have := (dec_digit u b hb).1; omega
theorem itoa_hi (n : Int) : HiW (Lib.itoa n) := by
  unfold Lib.itoa
  split
  · intro b hb
    rcases List.mem_cons.1 hb with rfl | hb
    · decide
    · exact dec_hi _ b hb
  · exact dec_hi _
theorem three_hi (b : UInt8) : HiW (threeB b) := by
  have key : ∀ x : BitVec 8, ∀ c ∈ threeB ⟨x⟩, 32 < c.toNat := by decide +kernel
  exact key b.toBitVec
theorem quote_hi (l : List UInt8) : HiW (quoteL l) := by
  unfold quoteL
  intro c hc
  rcases List.mem_cons.1 hc with rfl | hc
  · decide
  · obtain ⟨b, _, hb⟩ := List.mem_flatMap.1 hc
    unfold quoteB at hb
    split at hb
    · rename_i hp
      rw [List.mem_singleton] at hb; subst hb
      unfold plainB at hp; simp at hp; omega
    · rcases List.mem_cons.1 hb with rfl | hb
      · decide
      · exact three_hi b c hb
theorem encP_hi (x : AV) (c : UInt8) : HiW (encP x c) := by
  unfold encP
  repeat' split
  all_goals first | exact itoa_hi _ | exact quote_hi _
theorem wordT_hi (k : Nat) : HiW (wordT.getD k []) := by
  rcases Nat.lt_or_ge k 17 with h | h
  · have key : ∀ k : Fin 17, ∀ c ∈ wordT.getD k.val [], 32 < c.toNat := by decide +kernel
    exact key ⟨k, h⟩
  · rw [List.getD_eq_getElem?_getD, List.getElem?_eq_none (by exact h)]
    intro b hb; cases hb
theorem words_hi (x : AV) (k : Nat) : ∀ u ∈ wordsF x k, HiW u := by
  intro u hu
  rcases List.mem_cons.1 hu with rfl | h
  · exact wordT_hi k
  · obtain ⟨c, _, rfl⟩ := List.mem_map.1 h
    exact encP_hi x c
theorem words_noblank (x : AV) (k : Nat) : ∀ u ∈ wordsF x k, (32 : UInt8) ∉ u := fun u hu => (words_hi x k u hu).no (by decide)
/-- A line of such words has no byte below the blank. -/
theorem joinW_low : ∀ (L : List (List UInt8)), (∀ u ∈ L, HiW u) → ∀ b ∈ joinW L, 32 ≤ b.toNat
  | [], _, b, hb => by cases hb
  | [w], h, b, hb => by have := h w List.mem_cons_self b hb; omega
  | w :: y :: r, h, b, hb => by
    have hb : b ∈ w ++ 32 :: joinW (y :: r) := hb
    rcases List.mem_append.1 hb with h1 | h1
    · have := h w List.mem_cons_self b h1; omega
    · rcases List.mem_cons.1 h1 with rfl | h1
      · decide
      · exact joinW_low (y :: r) (fun u hu => h u (List.mem_cons_of_mem _ hu)) b h1
theorem joinW_nonl {L : List (List UInt8)} (h : ∀ u ∈ L, HiW u) : (10 : UInt8) ∉ joinW L := fun hm => by have := joinW_low L h _ hm; revert this; decide
theorem line_nonl {x : AV} {l : List UInt8} (h : lineF x = some l) : (10 : UInt8) ∉ l := by
  unfold lineF at h
  split at h
  · split at h
    · injection h with h; rw [← h]; exact joinW_nonl (words_hi x _)
    · cases h
  · cases h
/-! Cutting what was joined. -/
theorem index_at {c : UInt8} (u r : List UInt8) (hu : c ∉ u) : Lib.index (u ++ c :: r) [c] = u.length := by
  rw [Lib.index_one]
  induction u with
  | nil => simp [Lib.indexByte]
  | cons b u ih =>
    simp only [List.mem_cons, not_or] at hu
    have := ih hu.2
    have hne : ¬ b = c := fun e => hu.1 e.symm
    simp only [List.cons_append, Lib.indexByte, List.length_cons]
    simp [hne, this]
    try omega
theorem count_zero {c : UInt8} {u : List UInt8} (h : c ∉ u) : u.count c = 0 := List.count_eq_zero.2 h
def joinC (c : UInt8) : List (List UInt8) → List UInt8
  | [] => []
  | [w] => w
  | w :: r => w ++ c :: joinC c r
theorem joinC_32 : ∀ L, joinC 32 L = joinW L
  | [] => rfl
  | [w] => rfl
  | w :: y :: r => by
    show w ++ 32 :: joinC 32 (y :: r) = w ++ 32 :: joinW (y :: r)
    rw [joinC_32 (y :: r)]
theorem splitK_joinC (c : UInt8) : ∀ (L : List (List UInt8)), L ≠ [] → (∀ u ∈ L, c ∉ u) → Lib.splitK [c] 0 ((joinC c L).count c) (joinC c L) = L
  | [], h, _ => absurd rfl h
  | [w], _, h => by
    show Lib.splitK [c] 0 (w.count c) w = [w]
    rw [count_zero (h w List.mem_cons_self)]; rfl
  | w :: y :: r, _, h => by
    have ih := splitK_joinC c (y :: r) (by simp) (fun u hu => h u (List.mem_cons_of_mem _ hu))
    have hw := h w List.mem_cons_self
    show Lib.splitK [c] 0 ((w ++ c :: joinC c (y :: r)).count c) (w ++ c :: joinC c (y :: r)) = w :: y :: r
    have hc : (w ++ c :: joinC c (y :: r)).count c = (joinC c (y :: r)).count c + 1 := by
      rw [List.count_append, count_zero hw, List.count_cons_self]; omega
    rw [hc, Lib.splitK, index_at w _ hw, if_neg (by simp)]
    have e1 : (w ++ c :: joinC c (y :: r)).take ((w.length : Int).toNat + 0) = w := by simp
    have e2 : (w ++ c :: joinC c (y :: r)).drop ((w.length : Int).toNat + ([c] : List UInt8).length) = joinC c (y :: r) := by
      rw [List.drop_append]; simp
    rw [e1, e2, ih]
theorem wordsOf_join (L : List (List UInt8)) (h0 : L ≠ []) (h : ∀ u ∈ L, (32 : UInt8) ∉ u) : wordsOf (joinW L) = L := by
  rw [wordsOf_eq, ← joinC_32]
  exact splitK_joinC 32 L h0 h
/-! An act out of its line. -/
def setP (x y : AV) (c : UInt8) : AV :=
  if c = 97 then { y with a := x.a } else if c = 98 then { y with b := x.b } else if c = 110 then { y with n := x.n } else if c = 107 then { y with key := x.key } else { y with val := x.val }
theorem putP_enc {x : AV} (y : AV) (hx : x.Ok) {c : UInt8} (hc : c = 97 ∨ c = 98 ∨ c = 110 ∨ c = 107 ∨ c = 118) : putP y c (encP x c) = some (setP x y c) := by
  have h1 := atoi_itoa x.a hx.a.1 hx.a.2
  have h2 := atoi_itoa x.b hx.b.1 hx.b.2
  have h3 := atoi_itoa x.n hx.n.1 hx.n.2
  rcases hc with rfl | rfl | rfl | rfl | rfl <;> simp [putP, encP, setP, unquote_quote, h1, h2, h3]
theorem putAll_enc {x : AV} (hx : x.Ok) : ∀ (P : List UInt8) (y : AV), (∀ c, c ∈ P → c = 97 ∨ c = 98 ∨ c = 110 ∨ c = 107 ∨ c = 118) → putAll y P (P.map (encP x)) = some (P.foldl (setP x) y)
  | [], y, _ => rfl
  | c :: r, y, h => by
    unfold putAll
    rw [List.map_cons, List.headD_cons, List.tail_cons, putP_enc y hx (h c List.mem_cons_self)]
    exact putAll_enc hx r _ (fun d hd => h d (List.mem_cons_of_mem _ hd))
theorem idx_word {k : Nat} (h1 : 1 ≤ k) (h2 : k ≤ 16) : idxOf (testW (wordT.getD k [])) kindsT = k := by
  have key : ∀ k : Fin 17, 1 ≤ k.val → idxOf (testW (wordT.getD k.val [])) kindsT = k.val := by decide +kernel
  exact key ⟨k, by omega⟩ h1
theorem set_back {x : AV} (h1 : 1 ≤ x.kind) (h2 : x.kind ≤ 16) (hr : restF x x.kind.toNat = AV.zero) : (partT.getD x.kind.toNat []).foldl (setP x) ⟨x.kind, 0, 0, 0, [], []⟩ = x := by
  obtain ⟨kind, a, b, n, key, val⟩ := x
  simp only at h1 h2 hr ⊢
  obtain ⟨k, rfl⟩ : ∃ k : Nat, kind = k := ⟨kind.toNat, by omega⟩
  rw [Int.toNat_natCast] at hr ⊢
  have hk : k = 1 ∨ k = 2 ∨ k = 3 ∨ k = 4 ∨ k = 5 ∨ k = 6 ∨ k = 7 ∨ k = 8 ∨ k = 9 ∨ k = 10 ∨ k = 11 ∨ k = 12 ∨ k = 13 ∨ k = 14 ∨ k = 15 ∨ k = 16 := by omega
  rcases hk with rfl | rfl | rfl | rfl | rfl | rfl | rfl | rfl | rfl | rfl | rfl | rfl | rfl | rfl | rfl | rfl <;>
    simp [restF, partT, lessP, setP, AV.zero] at hr ⊢ <;> simp_all
theorem actF_of_line {x : AV} {l : List UInt8} (hx : x.Ok) (h : lineF x = some l) : actF l = some x := by
  have hl := h
  unfold lineF at h
  split at h
  · rename_i hk
    split at h
    · rename_i hr
      injection h with h
      have hw : wordsOf l = wordsF x x.kind.toNat := by rw [← h]; exact wordsOf_join _ (by simp [wordsF]) (words_noblank x _)
      have hi := idx_word (k := x.kind.toNat) (by omega) (by omega)
      have hik : ((x.kind.toNat : Nat) : Int) = x.kind := by omega
      unfold actF
      rw [hw]
      have e1 : (wordsF x x.kind.toNat).headD [] = wordT.getD x.kind.toNat [] := rfl
      have e2 : (wordsF x x.kind.toNat).tail = (partT.getD x.kind.toNat []).map (encP x) := rfl
      rw [e1, e2, hi, if_neg (by omega)]
      rw [Int.toNat_natCast, if_pos (by simp [wordsF]), hik, putAll_enc hx _ _ (part_of (by omega) (by omega)), set_back hk.1 hk.2 hr]
      simp only
      rw [if_pos hl]
    · cases h
  · cases h
end Go.Proofs.YtjkopohmcabfjaaGreatDoor
