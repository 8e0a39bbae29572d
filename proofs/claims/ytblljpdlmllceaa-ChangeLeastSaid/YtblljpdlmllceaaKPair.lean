/-
  Pairs in memory; where a key is among them.
-/
import Derived.Test.YtblljpdlmllceaaKStr
import Derived.Test.YtblljpdlmllceaaG3
import Derived.Test.YtblljpdlmllceaaG2
import Derived.IntWalk
namespace Go.Proofs.Ytblljpdlmllceaa
open Go.RowKit
set_option linter.unusedVariables false
set_option linter.unusedSimpArgs false
/-- A pair: key, value. -/
abbrev Pr := ByteArray × ByteArray
def encP (s : Pr) : List Value := [.string s.1, .string s.2]
def prow (L : List Pr) : List Value := L.flatMap encP
theorem encP_len (s : Pr) : (encP s).length = 2 := rfl
theorem encP_one (s : Pr) : ∀ u ∈ encP s, u.oneCell' = true := by
  intro u hu
  simp only [encP, List.mem_cons, List.not_mem_nil, or_false] at hu
  rcases hu with rfl | rfl <;> rfl
theorem prow_len (L : List Pr) : (prow L).length = L.length * 2 := rec_len encP_len L
theorem prow_one (L : List Pr) : ∀ u ∈ prow L, u.oneCell' = true := rec_one encP_one L
theorem prow_fst {L : List Pr} {i : Nat} {s : Pr} (h : L[i]? = some s) : (prow L)[i * 2]? = some (.string s.1) := by
  have := rec_at encP_len h 0 (by omega); simpa [prow, encP] using this
theorem prow_snd {L : List Pr} {i : Nat} {s : Pr} (h : L[i]? = some s) : (prow L)[i * 2 + 1]? = some (.string s.2) := by
  have := rec_at encP_len h 1 (by omega); simpa [prow, encP] using this
theorem pairT : ElemT Try.prog 22 55 2 32 := elem_mk (z := .agg #[.string ByteArray.empty, .string ByteArray.empty]) Try.underlying22 (by kernel_rfl) rfl (by decide)
theorem Rd.pair {w : World} {A : Option Addr} {n : Nat} {L : List Pr} (h : Rd w 2 A n (prow L)) {i : Nat} {s : Pr} (hi : L[i]? = some s) :
    ∃ b o, A = some ⟨b, o, none⟩ ∧ w.cell? ⟨b, o + i * 2, none⟩ = some (.string s.1) ∧ w.cell? ⟨b, o + i * 2 + 1, none⟩ = some (.string s.2) := by
  have hl := (List.getElem?_eq_some_iff.1 (prow_fst hi)).1
  obtain ⟨b, o, e, hc⟩ := h.2 (by omega)
  exact ⟨b, o, e, hc _ _ (prow_fst hi), hc _ _ (prow_snd hi)⟩
/-- Rising keys. -/
def Rise (L : List Pr) : Prop := ∀ (i j : Nat) (x y : Pr), i < j → L[i]? = some x → L[j]? = some y → x.1 < y.1
/-- Where a key is, or would be. -/
def FindAt (L : List Pr) (k : ByteArray) (i : Nat) (there : Bool) : Prop :=
  i ≤ L.length ∧ (∀ (j : Nat) x, j < i → L[j]? = some x → x.1 < k) ∧ (∀ (j : Nat) x, i ≤ j → L[j]? = some x → ¬ x.1 < k) ∧ (there = true ↔ ∃ x, L[i]? = some x ∧ x.1 = k)
theorem there_yes {L : List Pr} {k : ByteArray} {i : Nat} {x : Pr} (hx : L[i]? = some x) (he : x.1 = k) : true = true ↔ ∃ x, L[i]? = some x ∧ x.1 = k := ⟨fun _ => ⟨x, hx, he⟩, fun _ => rfl⟩
theorem there_no {L : List Pr} {k : ByteArray} {i : Nat} (h : ∀ x, L[i]? = some x → ¬ x.1 = k) : false = true ↔ ∃ x, L[i]? = some x ∧ x.1 = k := ⟨fun h => (by cases h), fun ⟨x, hx, he⟩ => absurd he (h x hx)⟩
theorem cmp_b (x : Pr) (k : ByteArray) (r : Int) (hr : cmpS x.1 k = r) (w : World) : Calls Try.prog 58 #[.agg #[.string x.1, .string x.2], .string k] w fun e w' => e = .returned (.int .i64 r) ∧ Later w w' := by
  have hcon := fun W' => compare_any x.1 k W'
  rw [hr] at hcon
  clear hr
  go_enter Try.func58, Try.ntmps58
  go_wp2_with (go_at_call 54; refine (hcon _).mono ?_; rintro e w' ⟨rfl, rfl⟩)
  go_ret
  exact ⟨rfl, (Below.refl _ _).alloc (Nat.le_refl _) _⟩
def SearchPost (L : List Pr) (k : ByteArray) (w : World) (e : Ending) (w' : World) : Prop :=
  (∃ (i : Nat) (there : Bool), e = .returned (.tuple #[.int .i64 (i : Int), .bool there]) ∧ FindAt L k i there) ∧ Later w w'
set_option maxHeartbeats 2000000 in
theorem search_any {w : World} {A : Option Addr} {n c : Nat} {L : List Pr} (k : ByteArray) (hr : Rd w 2 A n (prow L)) (hl : L.length = n) (hs : Rise L) (hn : n ≤ 4398046511104) :
    Calls Try.prog 57 #[.slice A n c, .string k, .func (.func 58) #[] #[]] w (SearchPost L k w) := by
  have HR := hide_ hr
  have HL := hide_ hl
  have HS := hide_ hs
  have hn2 : (n : Int) ≤ 4398046511104 := by omega
  clear hr hl hs
  go_enter Try.func57, Try.ntmps57
  go_wp2_with fail
  go_loopw [9, 10] (fun s9 s10 wr => ∃ lo hi : Nat, s9 = .int .i64 lo ∧ s10 = .int .i64 hi ∧ lo ≤ hi ∧ hi ≤ n ∧ Hid (∀ (j : Nat) x, j < lo → L[j]? = some x → x.1 < k) ∧ Hid (∀ (j : Nat) x, hi ≤ j → L[j]? = some x → ¬ x.1 < k) ∧ Hid (Later w wr)) (fun a b _ => (intOf b - intOf a).toNat)
  case atStart => exact ⟨0, n, rfl, rfl, Nat.zero_le _, Nat.le_refl _, fun j x hj => absurd hj (Nat.not_lt_zero _), fun j x hj hx => by have := (List.getElem?_eq_some_iff.1 hx).1; have := HL.out; omega, Later.refl w⟩
  case round =>
    obtain ⟨lo, hi, rfl, rfl, hlh, hin, H1, H2, HB⟩ := hrel
    by_cases hlt : lo < hi
    · obtain ⟨h, hh⟩ : ∃ h, h = (lo + hi) / 2 := ⟨_, rfl⟩
      have q1 : (lo : Int) < (hi : Int) := by omega
      have q2 : ((lo : Int) + (hi : Int)) / 2 = (h : Int) := by omega
      have q3 : (h : Int) < (n : Int) := by omega
      have q4 : (0 : Int) ≤ (h : Int) := by omega
      have q5 : (h : Int) ≤ 4398046511104 := by omega
      have q6 : (0 : Int) ≤ (lo : Int) := by omega
      have q7 : (0 : Int) ≤ (hi : Int) := by omega
      have q8 : (lo : Int) ≤ 4398046511104 := by omega
      have q9 : (hi : Int) ≤ 4398046511104 := by omega
      obtain ⟨x, hx⟩ : ∃ x, L[h]? = some x := ⟨_, List.getElem?_eq_getElem (by rw [HL.out]; omega)⟩
      obtain ⟨b, o, rfl, c1, c2⟩ := (HR.out.below HB.out).pair hx
      have HX := hide_ hx
      have HH := hide_ hh
      clear hx hh
      by_cases hxk : x.1 < k
      · have hc := fun W => cmp_b x k (-1) (by unfold cmpS; rw [if_pos hxk]) W
        have HXK := hide_ hxk
        clear hxk
        go_wp2_with (go_at_call 58; refine (hc _).mono ?_; rintro e w1 ⟨rfl, hb1⟩; have HB1 := hide_ (Later.trans HB.out hb1); clear hb1)
        go_roundw
        case rel =>
          refine ⟨h + 1, hi, by go_num, rfl, by have := HH.out; omega, hin, fun j y hj hy => ?_, H2, HB1.out⟩
          by_cases hjh : j = h
          · subst hjh
            have h1 := HX.out
            rw [h1] at hy
            injection hy with hy
            subst hy
            exact HXK.out
          · have := HS.out j h y x (by omega) hy HX.out
            have := HXK.out
            grind
        case measure => have := HH.out; simp [intOf]; omega
      · obtain ⟨r, hr⟩ : ∃ r, cmpS x.1 k = r := ⟨_, rfl⟩
        have hr0 : 0 ≤ r := by unfold cmpS at hr; rw [if_neg hxk] at hr; split at hr <;> omega
        have hr1 : ¬ r < 0 := by omega
        have hc := fun W => cmp_b x k r hr W
        have HXK := hide_ hxk
        clear hxk hr
        go_wp2_with (go_at_call 58; refine (hc _).mono ?_; rintro e w1 ⟨rfl, hb1⟩; have HB1 := hide_ (Later.trans HB.out hb1); clear hb1)
        go_roundw
        case rel =>
          refine ⟨lo, h, rfl, rfl, by have := HH.out; omega, by have := HH.out; omega, H1, fun j y hj hy => ?_, HB1.out⟩
          by_cases hjh : j = h
          · subst hjh
            have h1 := HX.out
            rw [h1] at hy
            injection hy with hy
            subst hy
            exact HXK.out
          · have := HS.out h j x y (by omega) HX.out hy
            have := HXK.out
            grind
        case measure => have := HH.out; simp [intOf]; omega
    · obtain rfl : hi = lo := by omega
      have q1 : ¬ (hi : Int) < (hi : Int) := by omega
      have q6 : (0 : Int) ≤ (hi : Int) := by omega
      by_cases hlast : hi < n
      · have q3 : (hi : Int) < (n : Int) := by omega
        obtain ⟨x, hx⟩ : ∃ x, L[hi]? = some x := ⟨_, List.getElem?_eq_getElem (by rw [HL.out]; omega)⟩
        obtain ⟨b, o, rfl, c1, c2⟩ := (HR.out.below HB.out).pair hx
        have HX := hide_ hx
        clear hx
        have hnl := H2.out hi x (Nat.le_refl _) HX.out
        obtain ⟨r, hr⟩ : ∃ r, cmpS x.1 k = r := ⟨_, rfl⟩
        have hc := fun W => cmp_b x k r hr W
        by_cases heq : x.1 = k
        · obtain rfl : r = 0 := by rw [← hr]; unfold cmpS; rw [if_neg hnl, if_neg (by rw [heq]; grind)]
          have HF := hide_ (show FindAt L k hi true from ⟨by rw [HL.out]; omega, H1.out, H2.out, there_yes HX.out heq⟩)
          clear hnl hr heq
          go_wp2_with (go_at_call 58; refine (hc _).mono ?_; rintro e w1 ⟨rfl, hb1⟩; have HB1 := hide_ (Later.trans HB.out hb1); clear hb1)
          go_ret2
          exact ⟨⟨hi, true, rfl, HF.out⟩, HB1.out⟩
        · obtain rfl : r = 1 := by rw [← hr]; unfold cmpS; rw [if_neg hnl, if_pos (by grind)]
          have HF := hide_ (show FindAt L k hi false from ⟨by rw [HL.out]; omega, H1.out, H2.out, there_no fun y hy => by rw [HX.out] at hy; injection hy with hy; subst hy; exact heq⟩)
          clear hnl hr heq
          go_wp2_with (go_at_call 58; refine (hc _).mono ?_; rintro e w1 ⟨rfl, hb1⟩; have HB1 := hide_ (Later.trans HB.out hb1); clear hb1)
          go_ret2
          exact ⟨⟨hi, false, rfl, HF.out⟩, HB1.out⟩
      · have HF := hide_ (show FindAt L k hi false from ⟨by rw [HL.out]; omega, H1.out, H2.out, there_no fun y hy => by have := (List.getElem?_eq_some_iff.1 hy).1; have := HL.out; omega⟩)
        go_wp2_with fail
        go_ret2
        exact ⟨⟨hi, false, rfl, HF.out⟩, HB.out⟩
set_option maxHeartbeats 400000 in
theorem find_any {w : World} {A : Option Addr} {n c : Nat} {L : List Pr} (k : ByteArray) (hr : Rd w 2 A n (prow L)) (hl : L.length = n) (hs : Rise L) (hn : n ≤ 4398046511104) :
    Calls Try.prog 47 #[.slice A n c, .string k] w (SearchPost L k w) := by
  have hc := hide_ (search_any (c := c) k hr hl hs hn)
  clear hr hl hs
  go_enter Try.func47, Try.ntmps47
  go_wp2_with fail
  refine hc.out.mono ?_
  rintro e w1 ⟨⟨i, there, rfl, hf⟩, hb⟩
  have HF := hide_ hf
  have HB := hide_ hb
  clear hf hb hc
  go_wp2_with fail
  go_ret2
  exact ⟨⟨i, there, rfl, HF.out⟩, HB.out⟩
end Go.Proofs.Ytblljpdlmllceaa
