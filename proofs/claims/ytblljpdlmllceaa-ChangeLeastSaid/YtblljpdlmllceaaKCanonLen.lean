/-
  Plain facts: joined spans are no more than those that they are of; what the document holds of the keys that are gone.
-/
import Derived.Test.YtblljpdlmllceaaG7
namespace Go.Proofs.Ytblljpdlmllceaa
open Go.RowKit
set_option linter.unusedVariables false
theorem up_length : ∀ {A B : List ByteArray}, Up A → (∀ x, x ∈ A → x ∈ B) → A.length ≤ B.length := by
  intro A
  induction A with
  | nil => intro B _ _; exact Nat.zero_le _
  | cons a A ih =>
    intro B hA hB
    obtain ⟨B1, B2, rfl⟩ := List.append_of_mem (hB a (List.mem_cons_self ..))
    have h1 : A.length ≤ (B1 ++ B2).length := ih hA.2 fun x hx => by
      have h2 := hB x (List.mem_cons_of_mem _ hx)
      have h3 := hA.1 x hx
      rw [List.mem_append, List.mem_cons] at h2
      rw [List.mem_append]
      rcases h2 with h2 | rfl | h2
      · exact .inl h2
      · grind
      · exact .inr h2
    rw [List.length_append] at h1
    rw [List.length_append, List.length_cons, List.length_cons]; omega
theorem canon_up {R : List Spn} (hR : Canon R) : Up (R.map (·.1)) := by
  induction R with
  | nil => trivial
  | cons r R ih =>
    refine ⟨fun x hx => ?_, ih hR.2.2⟩
    obtain ⟨s, hs, rfl⟩ := List.mem_map.1 hx
    have h1 := hR.2.1 s hs
    have h2 := hR.1
    grind
theorem canon_len {R L : List Spn} (hc : Canon R) (hk : ∀ x, InL R x ↔ InL L x) : R.length ≤ L.length := by
  have h := up_length (A := R.map (·.1)) (B := L.map (·.1)) (canon_up hc) fun x hx => by
    obtain ⟨r, hr, rfl⟩ := List.mem_map.1 hx
    have hrr := hc.mem r hr
    obtain ⟨s, hs, hsr⟩ := (hk r.1).1 ⟨r, hr, by unfold InS; grind⟩
    unfold InS at hsr
    by_cases he : s.1 = r.1
    · exact List.mem_map.2 ⟨s, hs, he⟩
    · exfalso
      obtain ⟨t, ht, hts⟩ := (hk s.1).2 ⟨s, hs, by unfold InS; grind⟩
      unfold InS at hts
      rcases canon_apart hc ht hr with rfl | h1 | h1
      · grind
      · obtain ⟨u, hu, hut⟩ := (hk t.2).2 ⟨s, hs, by unfold InS; grind⟩
        unfold InS at hut
        have htt := hc.mem t ht
        rcases canon_apart hc ht hu with rfl | h2 | h2 <;> grind
      · grind
  simpa using h
theorem without_two {g : Spn} {k : ByteArray} {R : List Spn} (hc : Canon R) (hk : ∀ x, InL R x ↔ InS g x ∧ ¬ x = k) : R.length ≤ 2 := by
  refine canon_len (L := [(g.1, if g.2 ≤ k then g.2 else k), (if k < g.1 then g.1 else k ++ ⟨#[0]⟩, g.2)]) hc fun x => ?_
  rw [hk, InL.cons, InL.cons]
  simp only [InL.nil, or_false]
  have h1 := next_lt k
  have h2 : k < x → k ++ ⟨#[0]⟩ ≤ x := next_gap k x
  generalize k ++ ⟨#[0]⟩ = k2 at *
  unfold InS
  simp only
  split <;> split <;> grind
theorem gone_join {C : List Chg} {k : Nat} {L R : List Spn} (h : GoneInv C k L) (hc : Canon R) (hk : ∀ x, InL R x ↔ InL L x) : GoneInv C k R := by
  refine ⟨Nat.le_trans (canon_len hc hk) h.1, fun x => ?_, fun x => by rw [hk, h.2.2]⟩
  by_cases hx : InL R x
  · have h1 := mult_canon hc x
    have h2 := h.2.1 x
    have h3 : 0 < mult L x := by
      obtain ⟨s, hs, hsx⟩ := (hk x).1 hx
      exact List.countP_pos_iff.2 ⟨s, hs, by simpa [InS] using hsx⟩
    omega
  · rw [mult_none hx]; exact Nat.zero_le _
end Go.Proofs.Ytblljpdlmllceaa
