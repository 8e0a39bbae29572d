/-
  Library functions at spans: Clone, Clip, IndexFunc.
-/
import Derived.Test.YtidlkomgondkiaaSpanA
namespace Go.Proofs.Ytidlkomgondkiaa
open Go.RowKit
set_option linter.unusedVariables false
set_option linter.unusedSimpArgs false
set_option maxHeartbeats 400000 in
theorem sclone_nil (c : Nat) (w : World) : Calls Try.prog 67 #[.slice none 0 c] w fun e w' => e = .returned (.slice none 0 0) ∧ w = w' := by
  have hq := fun W => eql_slice_nil_any Try.underlying29 W none 0 c 0 0
  go_enter Try.func67, Try.ntmps67
  go_wp2_with fail
  go_ret
  exact ⟨rfl, rfl⟩
set_option maxHeartbeats 400000 in
theorem sclone_some {w : World} {b o n : Nat} {L : List Spn} (hr : Rd w 2 (some ⟨b, o, none⟩) n (srow L)) (c : Nat) (hb : n * 32 ≤ 140737488355328) (hn : n ≤ maxLen) :
    Calls Try.prog 67 #[.slice (some ⟨b, o, none⟩) n c] w fun e w' =>
      (∃ v, e = .returned v ∧ w'.ownsRow w.heap.size 24 2 v n (srow L)) ∧ Below w.heap.size w w' := by
  have hq := fun W => eql_slice_nil_any Try.underlying29 W (some ⟨b, o, none⟩) n c 0 0
  have HR := hide_ hr
  have hown := hide_ (own_new w #[] 24 2 0 w.heap.size rfl (Nat.zero_le _) (Nat.le_refl _))
  clear hr
  go_enter Try.func67, Try.ntmps67
  go_wp2_with (at_builtin; go_loud (refine wpList_append_rd _ rfl (.tmp 5) (.tmp 6) 29 rfl w.heap.size 24 2 32 spanT _ 0 [] rfl hown.out _ n _ (srow L) rfl (HR.out.alloc _) (srow_one L) (by omega) (by omega) (by simp) (fun h => nomatch h) ?_; intro v2 w2 hown2 hg2 hat2; have hb2 := hide_ (own_grown ((Below.refl _ _).alloc (Nat.le_refl _) _) hown.out hg2 (by simp)); have HO2 := hide_ hown2; clear hown2 hg2 hat2))
  go_ret
  have h2 := HO2.out
  simp only [Nat.zero_add, List.nil_append] at h2
  exact ⟨⟨_, rfl, h2⟩, hb2.out⟩
theorem sclone_any {w : World} {A : Option Addr} {n c : Nat} {L : List Spn} (hr : Rd w 2 A n (srow L)) (hA : A = none → n = 0) (hb : n * 32 ≤ 140737488355328) (hn : n ≤ maxLen) :
    Calls Try.prog 67 #[.slice A n c] w fun e w' =>
      (∃ v, e = .returned v ∧ w'.ownsRow w.heap.size 24 2 v n (srow L)) ∧ Below w.heap.size w w' := by
  rcases A with _ | a
  · obtain rfl := hA rfl
    have hL : srow L = [] := List.eq_nil_of_length_eq_zero (by simpa using hr.1)
    refine (sclone_nil c w).mono fun e w' ⟨he, hw⟩ => ?_
    subst hw
    exact ⟨⟨_, he, by rw [hL]; exact World.ownsRow_nil _ _ _ _⟩, Below.refl _ _⟩
  · by_cases h0 : 0 < (srow L).length
    · obtain ⟨b, o, e, _⟩ := hr.2 h0
      injection e with e
      subst e
      exact sclone_some hr c hb hn
    · have hn0 : n = 0 := by have := hr.1; omega
      subst hn0
      have hL : srow L = [] := List.eq_nil_of_length_eq_zero (by omega)
      have hq := fun W => eql_slice_nil_any Try.underlying29 W (some a) 0 c 0 0
      have hown := hide_ (own_new w #[] 24 2 0 w.heap.size rfl (Nat.zero_le _) (Nat.le_refl _))
      rw [hL]
      clear hr hA hb hL
      go_enter Try.func67, Try.ntmps67
      go_wp2_with (at_builtin; go_loud (refine wpList_append_rd _ rfl (.tmp 5) (.tmp 6) 29 rfl w.heap.size 24 2 32 spanT _ 0 [] rfl hown.out _ 0 _ [] rfl (Rd.nil _ _ _) (fun u hu => by cases hu) (by omega) (by omega) (by simp) (fun h => nomatch h) ?_; intro v2 w2 hown2 hg2 hat2; have hb2 := hide_ (own_grown ((Below.refl _ _).alloc (Nat.le_refl _) _) hown.out hg2 (by simp)); have HO2 := hide_ hown2; clear hown2 hg2 hat2))
      go_ret
      have h2 := HO2.out
      simp only [Nat.zero_add, List.nil_append] at h2
      exact ⟨⟨_, rfl, h2⟩, hb2.out⟩
set_option maxHeartbeats 400000 in
theorem clip_any (A : Option Addr) (n c : Nat) (hnc : n ≤ c) (hA : A = none → n = 0) (w : World) : Calls Try.prog 71 #[.slice A n c] w fun e w' => e = .returned (.slice A n n) ∧ w = w' := by
  have q : (n : Int) ≤ (c : Int) := by omega
  rcases A with _ | ⟨b, o, s⟩
  · obtain rfl := hA rfl
    clear hA
    go_enter Try.func71, Try.ntmps71
    go_wp2_with fail
    go_ret
    exact ⟨rfl, rfl⟩
  · clear hA
    go_enter Try.func71, Try.ntmps71
    go_wp2_with fail
    go_ret
    exact ⟨rfl, rfl⟩
/-- The first empty one. -/
def FirstE (L : List Spn) (i : Int) : Prop := (i = -1 ∧ ∀ (j : Nat) s, L[j]? = some s → s.1 < s.2) ∨ ∃ k : Nat, i = k ∧ (∀ (j : Nat) s, j < k → L[j]? = some s → s.1 < s.2) ∧ ∃ s, L[k]? = some s ∧ s.2 ≤ s.1
set_option maxHeartbeats 800000 in
theorem index_any {w : World} {A : Option Addr} {n c : Nat} {L : List Spn} (hr : Rd w 2 A n (srow L)) (hl : L.length = n) (hn : n ≤ 4611686018427387904) :
    Calls Try.prog 64 #[.slice A n c, .func (.func 42) #[] #[]] w fun e w' => (∃ i, e = .returned (.int .i64 i) ∧ FirstE L i) ∧ Below w.heap.size w w' := by
  have HR := hide_ hr
  have HL := hide_ hl
  clear hr hl
  go_enter Try.func64, Try.ntmps64
  go_wp2_with fail
  go_loopw [5, 8] (fun _ s8 wr => ∃ k : Nat, k ≤ n ∧ s8 = .int .i64 k ∧ Hid (Below w.heap.size w wr) ∧ Hid (∀ (j : Nat) s, j < k → L[j]? = some s → s.1 < s.2)) (fun _ i _ => n - (intOf i).toNat)
  case atStart => exact ⟨0, Nat.zero_le _, rfl, Below.refl _ w, fun j s hj => absurd hj (Nat.not_lt_zero _)⟩
  case round =>
    obtain ⟨k, hk, rfl, HB, HF⟩ := hrel
    by_cases hlt : k < n
    · have q1 : (k : Int) < (n : Int) := by omega
      obtain ⟨s, hs⟩ : ∃ s, L[k]? = some s := ⟨_, List.getElem?_eq_getElem (by rw [HL.out]; exact hlt)⟩
      obtain ⟨b, o, rfl, c1, c2⟩ := (HR.out.below HB.out).span hs
      have HS := hide_ hs
      clear hs
      by_cases he : s.2 ≤ s.1
      · have HE := hide_ he
        have hem := fun W => empty_any s.1 s.2 W
        rw [decide_eq_true he] at hem
        clear he
        go_wp2_with (go_at_call 42; refine (hem _).mono ?_; rintro e w' ⟨rfl, rfl⟩)
        go_ret
        exact ⟨⟨_, rfl, .inr ⟨k, rfl, HF.out, s, HS.out, HE.out⟩⟩, HB.out.alloc HB.out.size _⟩
      · have HE := hide_ he
        have hem := fun W => empty_any s.1 s.2 W
        rw [decide_eq_false he] at hem
        clear he
        go_wp2_with (go_at_call 42; refine (hem _).mono ?_; rintro e w' ⟨rfl, rfl⟩)
        go_roundw
        case rel =>
          refine ⟨k + 1, by omega, by go_num, HB.out.alloc HB.out.size _, fun j t hj ht => ?_⟩
          by_cases hjk : j = k
          · subst hjk
            have h1 := HS.out
            rw [h1] at ht
            injection ht with ht
            subst ht
            have := HE.out
            grind
          · exact HF.out j t (by omega) ht
        case measure => simp [intOf]; omega
    · have hkn : k = n := by omega
      subst hkn
      go_wp2_with fail
      go_ret
      refine ⟨⟨_, rfl, .inl ⟨rfl, fun j s hs => HF.out j s ?_ hs⟩⟩, HB.out⟩
      have := (List.getElem?_eq_some_iff.1 hs).1
      have := HL.out
      omega
end Go.Proofs.Ytidlkomgondkiaa
