/-
  slices.IndexFunc of marks: the first that begins behind a span's beginning.
-/
import Derived.Test.YtidlkomgondkiaaKMInsert
namespace Go.Proofs.Ytidlkomgondkiaa
open Go.RowKit
set_option linter.unusedVariables false
set_option linter.unusedSimpArgs false
theorem behind_b (k : Mk) (s : Spn) (sb : Nat) (w : World) (hs : w.heap[sb]? = some (.cells #[.string s.1, .string s.2] 24 (0, 0))) :
    Calls Try.prog 58 #[.agg #[.string k.1.1, .string k.1.2, .int .i64 k.2], .pointer (some ⟨sb, 0, none⟩)] w fun e w' => e = .returned (.bool (decide (s.1 < k.1.1))) ∧ Later w w' := by
  have hs0 := cell_of_row _ _ 0 _ _ (0, 0) (row_al hs (.cells #[.string k.1.1, .string k.1.2, .int .i64 k.2] 91))
  have g1 := hide_ (show (!(Op.bytesLess k.1.1.toList s.1.toList) && !(k.1.1.toList == s.1.toList)) = decide (s.1 < k.1.1) by
    rw [bl, beq_ba]
    by_cases h1 : k.1.1 < s.1
    · simp [h1]; grind
    · by_cases h2 : k.1.1 = s.1
      · simp [h2]; grind
      · simp [h1, h2]; grind)
  clear hs
  go_enter Try.func58, Try.ntmps58
  go_wp2_with fail
  go_ret
  exact ⟨by rw [← g1.out]; rfl, later_alloc _ _⟩
/-- The first that begins behind. -/
def BehindAt (L : List Mk) (s : Spn) (r : Int) : Prop := (r < 0 ∧ ∀ k, k ∈ L → ¬ s.1 < k.1.1) ∨ ∃ i : Nat, r = (i : Int) ∧ i < L.length ∧ (∀ k, k ∈ L.take i → ¬ s.1 < k.1.1) ∧ ∃ k, L[i]? = some k ∧ s.1 < k.1.1
def BehindPost (L : List Mk) (s : Spn) (w : World) (e : Ending) (w' : World) : Prop := (∃ r : Int, e = .returned (.int .i64 r) ∧ BehindAt L s r) ∧ Later w w'
set_option maxHeartbeats 2000000 in
theorem mindex_any {w : World} {A : Option Addr} {n c sb : Nat} {L : List Mk} (s : Spn) (hr : Rd w 3 A n (mrow L)) (hl : L.length = n) (hn : n ≤ 4398046511104) (hs : w.heap[sb]? = some (.cells #[.string s.1, .string s.2] 24 (0, 0))) :
    Calls Try.prog 57 #[.slice A n c, .func (.func 58) #[] #[.pointer (some ⟨sb, 0, none⟩)]] w (BehindPost L s w) := by
  have HR := hide_ hr; have HL := hide_ hl; have HS := hide_ hs
  have hn2 : (n : Int) ≤ 4398046511104 := by omega
  clear hr hl hs
  go_enter Try.func57, Try.ntmps57
  go_wp2_with fail
  go_loopw [8] (fun s8 wr => ∃ (k : Nat), k ≤ n ∧ s8 = .int .i64 k ∧ Hid (∀ m, m ∈ L.take k → ¬ s.1 < m.1.1) ∧ Hid (Later w wr)) (fun i _ => n - (intOf i).toNat)
  case atStart => exact ⟨0, Nat.zero_le _, rfl, hide_ (by simp), hide_ (Later.refl _)⟩
  case round =>
    obtain ⟨k, hk, rfl, HN, HB⟩ := hrel
    by_cases hlt : k < n
    · have q1 : (k : Int) < (n : Int) := by omega
      have q2 : (k : Int) ≤ 4398046511104 := by omega
      obtain ⟨m, hm⟩ : ∃ m, L[k]? = some m := ⟨_, List.getElem?_eq_getElem (by rw [HL.out]; exact hlt)⟩
      obtain ⟨b, o, rfl, l0, l1, l2⟩ := (HR.out.below HB.out).mark hm
      have HM := hide_ hm
      have hbh := hide_ (behind_b m s sb wr ((HB.out.block sb (heap_lt0 HS.out)).trans HS.out))
      clear hm
      go_wp2_with fail
      refine hbh.out.mono ?_; rintro e w5 ⟨rfl, hb5⟩
      have HB5 := hide_ (Later.trans HB.out hb5)
      clear hbh hb5
      by_cases he : s.1 < m.1.1
      · rw [decide_eq_true he]
        have HE := hide_ he
        clear he
        go_wp2_with fail
        go_ret
        exact ⟨⟨_, rfl, .inr ⟨k, rfl, by rw [HL.out]; exact hlt, HN.out, m, HM.out, HE.out⟩⟩, HB5.out⟩
      · rw [decide_eq_false he]
        have HE := hide_ he
        clear he
        go_wp2_with fail
        go_roundw
        case rel => exact ⟨k + 1, by omega, by go_num, hide_ (fun j hj => by rw [take_snoc HM.out] at hj; rcases List.mem_append.1 hj with hj | hj; exact HN.out j hj; rw [List.mem_singleton.1 hj]; exact HE.out), HB5⟩
        case measure => simp [intOf]; omega
    · obtain rfl : k = n := by omega
      have HF := hide_ (show ∀ m, m ∈ L → ¬ s.1 < m.1.1 by have := HN.out; rwa [← HL.out, List.take_length] at this)
      go_wp2_with fail
      go_ret
      exact ⟨⟨_, rfl, .inl ⟨by decide, HF.out⟩⟩, HB.out⟩

end Go.Proofs.Ytidlkomgondkiaa
