/-
  The document's answer: ends.
-/
import Derived.Test.YtidlkomgondkiaaKRefA
import Derived.IntWalk
namespace Go.Proofs.Ytidlkomgondkiaa
open Go.RowKit
set_option linter.unusedVariables false
set_option linter.unusedSimpArgs false
/-- All ends, rising, each once. -/
def EndsOf (L : List Spn) (E : List ByteArray) : Prop := Up E ∧ ∀ t, t ∈ E ↔ ∃ s, s ∈ L ∧ (t = s.1 ∨ t = s.2)
theorem ends_step {L : List Spn} {E E2 E3 : List ByteArray} {s : Spn} (h : EndsOf L E) (h2 : InsOf E s.1 E2) (h3 : InsOf E2 s.2 E3) : EndsOf (L ++ [s]) E3 := by
  refine ⟨h3.1 (h2.1 h.1), fun t => ?_⟩
  rw [h3.2, h2.2, h.2]
  constructor
  · rintro ((⟨u, hu, ht⟩ | ht) | ht)
    · exact ⟨u, by simp [hu], ht⟩
    · exact ⟨s, by simp, .inl ht⟩
    · exact ⟨s, by simp, .inr ht⟩
  · rintro ⟨u, hu, ht⟩
    rcases List.mem_append.1 hu with hu | hu
    · exact .inl (.inl ⟨u, hu, ht⟩)
    · have : u = s := by simpa using hu
      subst this
      rcases ht with ht | ht
      · exact .inl (.inr ht)
      · exact .inr ht
/-- What ends leaves. -/
def EndsPost (L : List Spn) (w : World) (e : Ending) (w' : World) : Prop :=
  (∃ (v : Value) (E : List ByteArray) (q : Nat), e = .returned v ∧ E.length = q ∧ q ≤ 2 * L.length ∧ EndsOf L E ∧ w'.ownsRow w.heap.size 9 1 v q (strs E)) ∧ Later w w'
set_option maxHeartbeats 2000000 in
theorem ends_any {w : World} {A : Option Addr} {n c : Nat} {L : List Spn} (hr : Rd w 2 A n (srow L)) (hl : L.length = n) (hn : n ≤ 274877906944) :
    Calls Try.prog 79 #[.slice A n c] w (EndsPost L w) := by
  have HR := hide_ hr
  have HL := hide_ hl
  have hn2 : (n : Int) ≤ 274877906944 := by omega
  have HO0 := hide_ (own_new w #[] 9 1 0 w.heap.size rfl (Nat.zero_le _) (Nat.le_refl _))
  clear hr hl
  go_enter Try.func79, Try.ntmps79
  go_wp2_with fail
  go_loopw [3, 4] (fun s3 s4 wr => ∃ (i q : Nat) (E : List ByteArray), i ≤ n ∧ s4 = .int .i64 i ∧ q ≤ 2 * i ∧ Hid (E.length = q) ∧ Hid (EndsOf (L.take i) E) ∧ Hid (wr.ownsRow w.heap.size 9 1 s3 q (strs E)) ∧ Hid (Later w wr)) (fun _ i _ => n - (intOf i).toNat)
  case atStart => exact ⟨0, 0, [], Nat.zero_le _, rfl, Nat.le_refl _, rfl, ⟨trivial, fun t => by simp⟩, HO0.out, (Below.refl _ _).alloc (Nat.le_refl _) _⟩
  case round =>
    obtain ⟨i, q, E, hi, rfl, hqi, HQ, HE, HO, HB⟩ := hrel
    by_cases hlt : i < n
    · have q1 : (i : Int) < (n : Int) := by omega
      have q2 : (i : Int) ≤ 274877906944 := by omega
      have q3 : (0 : Int) ≤ (i : Int) := by omega
      obtain ⟨s, hs⟩ : ∃ s, L[i]? = some s := ⟨_, List.getElem?_eq_getElem (by rw [HL.out]; exact hlt)⟩
      obtain ⟨b, o, rfl, c1, c2⟩ := (HR.out.below HB.out).span hs
      have HT := hide_ (take_next hs)
      obtain ⟨A3, c3, rfl⟩ := own_form HO.out
      have lc1 := later_drew_cell c1
      have lc2 := later_drew_cell c2
      have HBz := hide_ (Below.size HB.out)
      have HBd := hide_ (show Later w wr.drew from Below.drew HB.out)
      have HC1 := hide_ (insert_any s.1 (show wr.drew.ownsRow w.heap.size 9 1 (.slice A3 q c3) q (strs E) from HO.out) (by omega) HBz.out)
      clear hs c1 c2
      go_wp2_with fail
      refine wp_region_k (by kernel_rfl) ?_
      refine wpAnyK_take 0 (v := ?_) rfl (by kernel_rfl) (by kernel_rfl) (by kernel_rfl) (fun _ _ _ h => h) (by rfl) (by intro W hSw; go_simp; with_reducible rfl) ?_; try simp only [Act.put, List.setIfInBounds_toArray, List.set_cons_zero, List.set_cons_succ]
      refine wpAnyK_take 1 (v := ?_) rfl (by kernel_rfl) (by kernel_rfl) (by kernel_rfl) (fun _ _ _ h => h) (by rfl) (by intro W hSw; go_simp; with_reducible rfl) ?_; try simp only [Act.put, List.setIfInBounds_toArray, List.set_cons_zero, List.set_cons_succ]
      refine wpAnyK_take 2 (v := ?_) rfl (by kernel_rfl) (by kernel_rfl) (by kernel_rfl) (fun _ _ _ h => h) (by rfl) (by intro W hSw; go_simp; with_reducible rfl) ?_; try simp only [Act.put, List.setIfInBounds_toArray, List.set_cons_zero, List.set_cons_succ]
      refine wpAnyK_take 3 (v := ?_) rfl (by kernel_rfl) (by kernel_rfl) (by kernel_rfl) (fun _ _ _ h => h) (by rfl) (by intro W hSw; go_simp; with_reducible rfl) ?_; try simp only [Act.put, List.setIfInBounds_toArray, List.set_cons_zero, List.set_cons_succ]
      refine wpAnyK_take 4 (v := ?_) rfl (by kernel_rfl) (by kernel_rfl) (by kernel_rfl) (fun _ _ _ h => h) (by rfl) (by intro W hSw; go_simp; with_reducible rfl) ?_; try simp only [Act.put, List.setIfInBounds_toArray, List.set_cons_zero, List.set_cons_succ]
      refine wpAnyK_take 5 (v := ?_) rfl (by kernel_rfl) (by kernel_rfl) (by kernel_rfl) (fun _ _ _ h => h) (by rfl) (by intro W hSw; go_simp; with_reducible rfl) ?_; try simp only [Act.put, List.setIfInBounds_toArray, List.set_cons_zero, List.set_cons_succ]
      refine wpAnyK_take 7 (v := ?_) rfl (by kernel_rfl) (by kernel_rfl) (by kernel_rfl) (fun _ _ _ h => h) (by rfl) (by intro W hSw; go_simp; with_reducible rfl) ?_; try simp only [Act.put, List.setIfInBounds_toArray, List.set_cons_zero, List.set_cons_succ]
      refine wpAnyK_take 8 (v := ?_) rfl (by kernel_rfl) (by kernel_rfl) (by kernel_rfl) (fun _ _ _ h => h) (by rfl) (by intro W hSw; go_simp; with_reducible rfl) ?_; try simp only [Act.put, List.setIfInBounds_toArray, List.set_cons_zero, List.set_cons_succ]
      refine wpAnyK_take 9 (v := ?_) rfl (by kernel_rfl) (by kernel_rfl) (by kernel_rfl) (fun _ _ _ h => h) (by rfl) (by intro W hSw; go_simp; with_reducible rfl) ?_; try simp only [Act.put, List.setIfInBounds_toArray, List.set_cons_zero, List.set_cons_succ]
      refine wpAnyK_take 10 (v := ?_) rfl (by kernel_rfl) (by kernel_rfl) (by kernel_rfl) (fun _ _ _ h => h) (by rfl) (by intro W hSw; go_simp; with_reducible rfl) ?_; try simp only [Act.put, List.setIfInBounds_toArray, List.set_cons_zero, List.set_cons_succ]
      refine wpAnyK_take 11 (v := ?_) rfl (by kernel_rfl) (by kernel_rfl) (by kernel_rfl) (fun _ _ _ h => h) (by rfl) (by intro W hSw; go_simp; with_reducible rfl) ?_; try simp only [Act.put, List.setIfInBounds_toArray, List.set_cons_zero, List.set_cons_succ]
      refine wpAnyK_one 6 (by kernel_rfl) rfl (fun K hK => ?_)
      go_simp
      (with_reducible refine HC1.out.mono ?_); rintro e w2 ⟨⟨v2, E2, q2, rfl, hl2, hq2, hi2, ho2⟩, hb2⟩; obtain ⟨A4, c4, rfl⟩ := own_form ho2; have lc1 := later_step lc1 hb2; have lc2 := later_step lc2 hb2; have HO2 := hide_ ho2; have HI2 := hide_ hi2; have HQ2 := hide_ hl2; have HB2 := hide_ (Later.trans HBd.out hb2); have HC2 := hide_ (insert_any s.2 HO2.out (by omega) (Below.size HB2.out)); clear ho2 hi2 hl2
      refine hK.out _ _ (by assumption) ?_
      clear hK K; try simp only [Act.put, List.setIfInBounds_toArray, List.set_cons_zero, List.set_cons_succ]
      refine wpAnyK_one 12 (by kernel_rfl) rfl (fun K hK => ?_)
      go_simp
      (with_reducible refine HC2.out.mono ?_); rintro e w3 ⟨⟨v3, E3, q3, rfl, hl3, hq3, hi3, ho3⟩, hb3⟩; obtain ⟨A5, c5, rfl⟩ := own_form ho3; have HO3 := hide_ ho3; have HI3 := hide_ hi3; have HQ3 := hide_ hl3; have HB3 := hide_ (Later.trans HB2.out hb3); clear ho3 hi3 hl3
      refine hK.out _ _ (by assumption) ?_
      clear hK K; try simp only [Act.put, List.setIfInBounds_toArray, List.set_cons_zero, List.set_cons_succ]
      refine wpAnyK_take 13 (v := ?_) rfl (by kernel_rfl) (by kernel_rfl) (by kernel_rfl) (fun _ _ _ h => h) (by rfl) (by intro W hSw; go_simp; with_reducible rfl) ?_; try simp only [Act.put, List.setIfInBounds_toArray, List.set_cons_zero, List.set_cons_succ]
      refine wpAnyK_done (by kernel_rfl) ?_ _
      go_wp2_with fail
      go_roundw
      case rel => exact ⟨i + 1, q3, E3, by omega, by go_num, by omega, HQ3.out, by rw [HT.out]; exact ends_step HE.out HI2.out HI3.out, HO3.out, HB3.out⟩
      case measure => simp [intOf]; omega
    · have hin : i = n := by omega
      have HE2 := hide_ (show EndsOf L E by have := HE.out; rw [hin, ← HL.out, List.take_length] at this; exact this)
      clear hin
      go_wp2_with fail
      go_ret
      exact ⟨⟨_, E, q, rfl, HQ.out, by rw [HL.out]; omega, HE2.out, HO.out⟩, HB.out⟩

end Go.Proofs.Ytidlkomgondkiaa
