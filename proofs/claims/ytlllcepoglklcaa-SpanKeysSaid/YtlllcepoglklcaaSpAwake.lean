/-
  The walk of the law's own 'awake': it answers true.
-/
import Derived.Test.YtlllcepoglklcaaJoin
import Derived.Test.YtlllcepoglklcaaBehind
namespace Go.Proofs.Ytlllcepoglklcaa
open Go.RowKit
set_option linter.unusedVariables false
set_option linter.unusedSimpArgs false
theorem aw_uniq {R : List Spn} (hc : Canon R) (hk : ∀ k, InL R k ↔ InL [((⟨#[98]⟩ : ByteArray), (⟨#[100]⟩ : ByteArray)), (⟨#[97]⟩, ⟨#[98]⟩)] k) : R = [(⟨#[97]⟩, ⟨#[100]⟩)] := by
  have h1 : (⟨#[97]⟩ : ByteArray) < ⟨#[98]⟩ := by decide
  have h2 : (⟨#[98]⟩ : ByteArray) < ⟨#[100]⟩ := by decide
  refine canon_uniq hc ⟨by show (⟨#[97]⟩ : ByteArray) < ⟨#[100]⟩; grind, fun t ht => (by cases ht), trivial⟩ fun k => ?_
  rw [hk, InL.cons, InL.cons, InL.cons]
  simp only [InL.nil, or_false]
  unfold InS
  generalize (⟨#[97]⟩ : ByteArray) = a at *
  generalize (⟨#[98]⟩ : ByteArray) = b at *
  generalize (⟨#[100]⟩ : ByteArray) = d at *
  show (b ≤ k ∧ k < d) ∨ (a ≤ k ∧ k < b) ↔ a ≤ k ∧ k < d
  grind
set_option maxHeartbeats 1000000 in
theorem awake_any (w : World) : Calls Try.prog 11 #[] w fun e w' => e = .returned (.bool true) ∧ Below w.heap.size w w' := by
  have hj := hide_ (join_any (c := 2) (Rd.newAt w #[.string ⟨#[98]⟩, .string ⟨#[100]⟩, .string ⟨#[97]⟩, .string ⟨#[98]⟩] 23 2 2 w.heap.size (0, 0) rfl rfl) (L := [((⟨#[98]⟩ : ByteArray), (⟨#[100]⟩ : ByteArray)), (⟨#[97]⟩, ⟨#[98]⟩)]) (by simp) rfl (by omega))
  go_enter Try.func11, Try.ntmps11
  go_wp2_with fail
  refine (hj.out).mono ?_; rintro e w1 ⟨⟨A', R, rfl, hR, _, _, _, hc, hk⟩, hb1⟩
  obtain rfl := aw_uniq hc hk
  obtain ⟨b, o, rfl, c1, c2⟩ := hR.span (i := 0) rfl
  simp only [Nat.zero_mul, Nat.add_zero] at c1 c2
  have HB1 := hide_ (((Below.refl w.heap.size w).alloc (Nat.le_refl _) _).trans (hb1.mono (by simp)))
  clear hc hk hR hb1 hj
  go_wp2_with fail
  refine (behind_any ⟨#[97, 255]⟩ (by decide) _).mono ?_
  rintro e w2 ⟨hh, hb2⟩
  have hk1 : keep (⟨#[97, 255]⟩ : ByteArray).data.toList (⟨#[97, 255]⟩ : ByteArray).data.toList.length = 1 := by decide
  rw [hk1] at hh
  rcases hh with ⟨h, _⟩ | ⟨k, u, hk, rfl, hu⟩
  · cases h
  · obtain rfl : k = 0 := by omega
    obtain rfl : u = ⟨#[98]⟩ := ba_ext hu
    have d1 := (hb2.cell (p := ⟨b, o, none⟩) (cell_lt c1)).trans c1
    have d2 := (hb2.cell (p := ⟨b, o + 1, none⟩) (cell_lt c2)).trans c2
    have HB2 := hide_ (HB1.out.trans (hb2.mono HB1.out.size))
    have hh := fun W => has_yes ⟨#[97]⟩ ⟨#[100]⟩ ⟨#[99]⟩ W (by decide)
    have hn := fun W => next_any ⟨#[97]⟩ (by decide) W
    rw [show (⟨#[97]⟩ ++ ⟨#[0]⟩ : ByteArray) = ⟨#[97, 0]⟩ from ba_ext (by simp [ByteArray.toList_data_append])] at hn
    clear hu hk hk1 c1 c2 hb2
    go_wp2_with (first | (go_at_call 12; refine (hh _).mono ?_; rintro e w' ⟨rfl, rfl⟩) | (go_at_call 15; refine (hn _).mono ?_; rintro e w' ⟨rfl, rfl⟩))
    go_ret
    exact ⟨rfl, HB2.out.alloc HB2.out.size _⟩
end Go.Proofs.Ytlllcepoglklcaa
