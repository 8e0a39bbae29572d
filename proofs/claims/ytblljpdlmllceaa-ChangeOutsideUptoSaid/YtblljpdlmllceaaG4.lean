/-
  Texts of this seat in one: RefSound, Apply, RefPairs, RefOneMath, RefHas, RefNamed, RefOne, RefApply, CAwake, Shape2, ChOpen, Parts, RefMeet.
-/
import Derived.Lib.SmallJoins
import Derived.Test.YtblljpdlmllceaaG3
/-
  The document's Sound.
-/
namespace Go.Proofs.Ytblljpdlmllceaa
open Go.RowKit
set_option linter.unusedVariables false
set_option linter.unusedSimpArgs false
set_option maxHeartbeats 4000000 in
theorem rsound_any {w : World} {A : Option Addr} {n c : Nat} {L : List Pr} (hr : Rd w 2 A n (prow L)) (hl : L.length = n) (hn : n ≤ 4398046511104) : Calls Try.prog 36 #[.slice A n c] w (SoundPost L w) := by
  have HR := hide_ hr; have HL := hide_ hl
  have hn2 : (n : Int) ≤ 4398046511104 := by omega
  clear hr hl
  go_enter Try.func36, Try.ntmps36
  go_wp2_with fail
  go_loopw [3] (fun s7 wr => ∃ k : Nat, k ≤ n ∧ s7 = .int .i64 k ∧ Hid (SndT L k) ∧ Hid (Later w wr)) (fun i _ => n - (intOf i).toNat)
  case atStart => exact ⟨0, Nat.zero_le _, rfl, hide_ (sndT_0 L), Later.refl w⟩
  case round =>
    obtain ⟨k, hkn, rfl, HS, HB⟩ := hrel
    by_cases hlt : k < n
    · obtain ⟨s, hs⟩ : ∃ s, L[k]? = some s := ⟨_, List.getElem?_eq_getElem (by rw [HL.out]; exact hlt)⟩
      obtain ⟨b, o, rfl, l0, l1⟩ := (HR.out.below HB.out).pair hs
      have q1 : (k : Int) < (n : Int) := by omega
      have q2 : (0 : Int) ≤ (k : Int) := by omega
      have q3 : (k : Int) ≤ 4398046511104 := by omega
      have HX := hide_ hs
      have HBA := HB
      obtain ⟨nk, hnk⟩ : ∃ nk, nk = s.1.size := ⟨_, rfl⟩
      obtain ⟨nv, hnv⟩ : ∃ nv, nv = s.2.size := ⟨_, rfl⟩
      have HNK := hide_ hnk; have HNV := hide_ hnv
      have s1 := hnk.symm; have s2 := hnv.symm
      clear hnk hnv hs
      by_cases a1 : 16 < nk
      · have p1 : (16 : Int) < (nk : Int) := by omega
        clear a1
        go_wp2_with fail
        refine wp_region_k (by kernel_rfl) ?_
        refine wpAnyK_take 0 (v := ?_) rfl (by kernel_rfl) (by kernel_rfl) (by kernel_rfl) (fun _ _ _ h => h) (by rfl) (by intro W hSw; go_simp; with_reducible rfl) ?_; try simp only [Act.put, List.setIfInBounds_toArray, List.set_cons_zero, List.set_cons_succ]
        refine wpAnyK_take 1 (v := ?_) rfl (by kernel_rfl) (by kernel_rfl) (by kernel_rfl) (fun _ _ _ h => h) (by rfl) (by intro W hSw; go_simp; with_reducible rfl) ?_; try simp only [Act.put, List.setIfInBounds_toArray, List.set_cons_zero, List.set_cons_succ]
        refine wpAnyK_take 2 (v := ?_) rfl (by kernel_rfl) (by kernel_rfl) (by kernel_rfl) (fun _ _ _ h => h) (by rfl) (by intro W hSw; go_simp; with_reducible rfl) ?_; try simp only [Act.put, List.setIfInBounds_toArray, List.set_cons_zero, List.set_cons_succ]
        refine wpAnyK_take 3 (v := ?_) rfl (by kernel_rfl) (by kernel_rfl) (by kernel_rfl) (fun _ _ _ h => h) (by rfl) (by intro W hSw; go_simp; with_reducible rfl) ?_; try simp only [Act.put, List.setIfInBounds_toArray, List.set_cons_zero, List.set_cons_succ]
        refine wpAnyK_one 4 (by kernel_rfl) rfl (fun K hK => ?_)
        go_simp
        refine hK.out _ _ (Later.refl _) ?_
        clear hK K; try simp only [Act.put, List.setIfInBounds_toArray, List.set_cons_zero, List.set_cons_succ]
        refine wpAnyK_take 5 (v := ?_) rfl (by kernel_rfl) (by kernel_rfl) (by kernel_rfl) (fun _ _ _ h => h) (by rfl) (by intro W hSw; go_simp; with_reducible rfl) ?_; try simp only [Act.put, List.setIfInBounds_toArray, List.set_cons_zero, List.set_cons_succ]
        refine wpAnyK_take 6 (v := ?_) rfl (by kernel_rfl) (by kernel_rfl) (by kernel_rfl) (fun _ _ _ h => h) (by rfl) (by intro W hSw; go_simp; with_reducible rfl) ?_; try simp only [Act.put, List.setIfInBounds_toArray, List.set_cons_zero, List.set_cons_succ]
        refine wpAnyK_take 7 (v := ?_) rfl (by kernel_rfl) (by kernel_rfl) (by kernel_rfl) (fun _ _ _ h => h) (by rfl) (by intro W hSw; go_simp; with_reducible rfl) ?_; try simp only [Act.put, List.setIfInBounds_toArray, List.set_cons_zero, List.set_cons_succ]
        refine wpAnyK_skip 8 rfl (by kernel_rfl) (by kernel_rfl) (by kernel_rfl) (fun _ _ _ h => h) (by rfl) ?_; try simp only [Act.put, List.setIfInBounds_toArray, List.set_cons_zero, List.set_cons_succ]
        refine wpAnyK_skip 9 rfl (by kernel_rfl) (by kernel_rfl) (by kernel_rfl) (fun _ _ _ h => h) (by rfl) ?_; try simp only [Act.put, List.setIfInBounds_toArray, List.set_cons_zero, List.set_cons_succ]
        refine wpAnyK_skip 10 rfl (by kernel_rfl) (by kernel_rfl) (by kernel_rfl) (fun _ _ _ h => h) (by rfl) ?_; try simp only [Act.put, List.setIfInBounds_toArray, List.set_cons_zero, List.set_cons_succ]
        refine wpAnyK_skip 11 rfl (by kernel_rfl) (by kernel_rfl) (by kernel_rfl) (fun _ _ _ h => h) (by rfl) ?_; try simp only [Act.put, List.setIfInBounds_toArray, List.set_cons_zero, List.set_cons_succ]
        refine wpAnyK_skip 12 rfl (by kernel_rfl) (by kernel_rfl) (by kernel_rfl) (fun _ _ _ h => h) (by rfl) ?_; try simp only [Act.put, List.setIfInBounds_toArray, List.set_cons_zero, List.set_cons_succ]
        refine wpAnyK_skip 13 rfl (by kernel_rfl) (by kernel_rfl) (by kernel_rfl) (fun _ _ _ h => h) (by rfl) ?_; try simp only [Act.put, List.setIfInBounds_toArray, List.set_cons_zero, List.set_cons_succ]
        refine wpAnyK_skip 14 rfl (by kernel_rfl) (by kernel_rfl) (by kernel_rfl) (fun _ _ _ h => h) (by rfl) ?_; try simp only [Act.put, List.setIfInBounds_toArray, List.set_cons_zero, List.set_cons_succ]
        refine wpAnyK_take 15 (v := ?_) rfl (by kernel_rfl) (by kernel_rfl) (by kernel_rfl) (fun _ _ _ h => h) (by rfl) (by intro W hSw; go_simp; with_reducible rfl) ?_; try simp only [Act.put, List.setIfInBounds_toArray, List.set_cons_zero, List.set_cons_succ]
        refine wpAnyK_take 16 (v := ?_) rfl (by kernel_rfl) (by kernel_rfl) (by kernel_rfl) (fun _ _ _ h => h) (by rfl) (by intro W hSw; go_simp; with_reducible rfl) ?_; try simp only [Act.put, List.setIfInBounds_toArray, List.set_cons_zero, List.set_cons_succ]
        refine wpAnyK_skip 17 rfl (by kernel_rfl) (by kernel_rfl) (by kernel_rfl) (fun _ _ _ h => h) (by rfl) ?_; try simp only [Act.put, List.setIfInBounds_toArray, List.set_cons_zero, List.set_cons_succ]
        refine wpAnyK_skip 18 rfl (by kernel_rfl) (by kernel_rfl) (by kernel_rfl) (fun _ _ _ h => h) (by rfl) ?_; try simp only [Act.put, List.setIfInBounds_toArray, List.set_cons_zero, List.set_cons_succ]
        refine wpAnyK_skip 19 rfl (by kernel_rfl) (by kernel_rfl) (by kernel_rfl) (fun _ _ _ h => h) (by rfl) ?_; try simp only [Act.put, List.setIfInBounds_toArray, List.set_cons_zero, List.set_cons_succ]
        refine wpAnyK_skip 20 rfl (by kernel_rfl) (by kernel_rfl) (by kernel_rfl) (fun _ _ _ h => h) (by rfl) ?_; try simp only [Act.put, List.setIfInBounds_toArray, List.set_cons_zero, List.set_cons_succ]
        refine wpAnyK_skip 21 rfl (by kernel_rfl) (by kernel_rfl) (by kernel_rfl) (fun _ _ _ h => h) (by rfl) ?_; try simp only [Act.put, List.setIfInBounds_toArray, List.set_cons_zero, List.set_cons_succ]
        refine wpAnyK_skip 22 rfl (by kernel_rfl) (by kernel_rfl) (by kernel_rfl) (fun _ _ _ h => h) (by rfl) ?_; try simp only [Act.put, List.setIfInBounds_toArray, List.set_cons_zero, List.set_cons_succ]
        refine wpAnyK_skip 23 rfl (by kernel_rfl) (by kernel_rfl) (by kernel_rfl) (fun _ _ _ h => h) (by rfl) ?_; try simp only [Act.put, List.setIfInBounds_toArray, List.set_cons_zero, List.set_cons_succ]
        refine wpAnyK_skip 24 rfl (by kernel_rfl) (by kernel_rfl) (by kernel_rfl) (fun _ _ _ h => h) (by rfl) ?_; try simp only [Act.put, List.setIfInBounds_toArray, List.set_cons_zero, List.set_cons_succ]
        refine wpAnyK_skip 25 rfl (by kernel_rfl) (by kernel_rfl) (by kernel_rfl) (fun _ _ _ h => h) (by rfl) ?_; try simp only [Act.put, List.setIfInBounds_toArray, List.set_cons_zero, List.set_cons_succ]
        refine wpAnyK_skip 26 rfl (by kernel_rfl) (by kernel_rfl) (by kernel_rfl) (fun _ _ _ h => h) (by rfl) ?_; try simp only [Act.put, List.setIfInBounds_toArray, List.set_cons_zero, List.set_cons_succ]
        refine wpAnyK_skip 27 rfl (by kernel_rfl) (by kernel_rfl) (by kernel_rfl) (fun _ _ _ h => h) (by rfl) ?_; try simp only [Act.put, List.setIfInBounds_toArray, List.set_cons_zero, List.set_cons_succ]
        refine wpAnyK_skip 28 rfl (by kernel_rfl) (by kernel_rfl) (by kernel_rfl) (fun _ _ _ h => h) (by rfl) ?_; try simp only [Act.put, List.setIfInBounds_toArray, List.set_cons_zero, List.set_cons_succ]
        refine wpAnyK_skip 29 rfl (by kernel_rfl) (by kernel_rfl) (by kernel_rfl) (fun _ _ _ h => h) (by rfl) ?_; try simp only [Act.put, List.setIfInBounds_toArray, List.set_cons_zero, List.set_cons_succ]
        refine wpAnyK_skip 30 rfl (by kernel_rfl) (by kernel_rfl) (by kernel_rfl) (fun _ _ _ h => h) (by rfl) ?_; try simp only [Act.put, List.setIfInBounds_toArray, List.set_cons_zero, List.set_cons_succ]
        refine wpAnyK_skip 31 rfl (by kernel_rfl) (by kernel_rfl) (by kernel_rfl) (fun _ _ _ h => h) (by rfl) ?_; try simp only [Act.put, List.setIfInBounds_toArray, List.set_cons_zero, List.set_cons_succ]
        refine wpAnyK_skip 32 rfl (by kernel_rfl) (by kernel_rfl) (by kernel_rfl) (fun _ _ _ h => h) (by rfl) ?_; try simp only [Act.put, List.setIfInBounds_toArray, List.set_cons_zero, List.set_cons_succ]
        refine wpAnyK_take 33 (v := ?_) rfl (by kernel_rfl) (by kernel_rfl) (by kernel_rfl) (fun _ _ _ h => h) (by rfl) (by intro W hSw; go_simp; with_reducible rfl) ?_; try simp only [Act.put, List.setIfInBounds_toArray, List.set_cons_zero, List.set_cons_succ]
        refine wpAnyK_done (by kernel_rfl) ?_ _
        go_wp2_with fail
        go_ret
        exact ⟨⟨false, rfl, ⟨fun h => (by cases h), fun h => absurd h (snd_no1 HX.out (by rw [← HNK.out]; omega))⟩⟩, HBA.out.drew⟩
      · have p1 : ¬ (16 : Int) < (nk : Int) := by omega
        clear a1
        by_cases a2 : 64 < nv
        · have p2 : (64 : Int) < (nv : Int) := by omega
          clear a2
          go_wp2_with fail
          have z1 : ¬ (16 : Int) < (nk : Int) := by omega
          refine wp_region_k (by kernel_rfl) ?_
          refine wpAnyK_take 0 (v := ?_) rfl (by kernel_rfl) (by kernel_rfl) (by kernel_rfl) (fun _ _ _ h => h) (by rfl) (by intro W hSw; go_simp; with_reducible rfl) ?_; try simp only [Act.put, List.setIfInBounds_toArray, List.set_cons_zero, List.set_cons_succ]
          refine wpAnyK_take 1 (v := ?_) rfl (by kernel_rfl) (by kernel_rfl) (by kernel_rfl) (fun _ _ _ h => h) (by rfl) (by intro W hSw; go_simp; with_reducible rfl) ?_; try simp only [Act.put, List.setIfInBounds_toArray, List.set_cons_zero, List.set_cons_succ]
          refine wpAnyK_take 2 (v := ?_) rfl (by kernel_rfl) (by kernel_rfl) (by kernel_rfl) (fun _ _ _ h => h) (by rfl) (by intro W hSw; go_simp; with_reducible rfl) ?_; try simp only [Act.put, List.setIfInBounds_toArray, List.set_cons_zero, List.set_cons_succ]
          refine wpAnyK_take 3 (v := ?_) rfl (by kernel_rfl) (by kernel_rfl) (by kernel_rfl) (fun _ _ _ h => h) (by rfl) (by intro W hSw; go_simp; with_reducible rfl) ?_; try simp only [Act.put, List.setIfInBounds_toArray, List.set_cons_zero, List.set_cons_succ]
          refine wpAnyK_one 4 (by kernel_rfl) rfl (fun K hK => ?_)
          go_simp
          refine hK.out _ _ (Later.refl _) ?_
          clear hK K; try simp only [Act.put, List.setIfInBounds_toArray, List.set_cons_zero, List.set_cons_succ]
          refine wpAnyK_take 5 (v := ?_) rfl (by kernel_rfl) (by kernel_rfl) (by kernel_rfl) (fun _ _ _ h => h) (by rfl) (by intro W hSw; go_simp; with_reducible rfl) ?_; try simp only [Act.put, List.setIfInBounds_toArray, List.set_cons_zero, List.set_cons_succ]
          refine wpAnyK_take 6 (v := ?_) rfl (by kernel_rfl) (by kernel_rfl) (by kernel_rfl) (fun _ _ _ h => h) (by rfl) (by intro W hSw; go_simp; with_reducible rfl) ?_; try simp only [Act.put, List.setIfInBounds_toArray, List.set_cons_zero, List.set_cons_succ]
          refine wpAnyK_take 7 (v := ?_) rfl (by kernel_rfl) (by kernel_rfl) (by kernel_rfl) (fun _ _ _ h => h) (by rfl) (by intro W hSw; go_simp; with_reducible rfl) ?_; try simp only [Act.put, List.setIfInBounds_toArray, List.set_cons_zero, List.set_cons_succ]
          refine wpAnyK_take 8 (v := ?_) rfl (by kernel_rfl) (by kernel_rfl) (by kernel_rfl) (fun _ _ _ h => h) (by rfl) (by intro W hSw; go_simp; with_reducible rfl) ?_; try simp only [Act.put, List.setIfInBounds_toArray, List.set_cons_zero, List.set_cons_succ]
          refine wpAnyK_take 9 (v := ?_) rfl (by kernel_rfl) (by kernel_rfl) (by kernel_rfl) (fun _ _ _ h => h) (by rfl) (by intro W hSw; go_simp; with_reducible rfl) ?_; try simp only [Act.put, List.setIfInBounds_toArray, List.set_cons_zero, List.set_cons_succ]
          refine wpAnyK_take 10 (v := ?_) rfl (by kernel_rfl) (by kernel_rfl) (by kernel_rfl) (fun _ _ _ h => h) (by rfl) (by intro W hSw; go_simp; with_reducible rfl) ?_; try simp only [Act.put, List.setIfInBounds_toArray, List.set_cons_zero, List.set_cons_succ]
          refine wpAnyK_take 11 (v := ?_) rfl (by kernel_rfl) (by kernel_rfl) (by kernel_rfl) (fun _ _ _ h => h) (by rfl) (by intro W hSw; go_simp; with_reducible rfl) ?_; try simp only [Act.put, List.setIfInBounds_toArray, List.set_cons_zero, List.set_cons_succ]
          refine wpAnyK_one 12 (by kernel_rfl) rfl (fun K hK => ?_)
          go_simp
          refine hK.out _ _ (Later.refl _) ?_
          clear hK K; try simp only [Act.put, List.setIfInBounds_toArray, List.set_cons_zero, List.set_cons_succ]
          refine wpAnyK_take 13 (v := ?_) rfl (by kernel_rfl) (by kernel_rfl) (by kernel_rfl) (fun _ _ _ h => h) (by rfl) (by intro W hSw; go_simp; with_reducible rfl) ?_; try simp only [Act.put, List.setIfInBounds_toArray, List.set_cons_zero, List.set_cons_succ]
          refine wpAnyK_take 14 (v := ?_) rfl (by kernel_rfl) (by kernel_rfl) (by kernel_rfl) (fun _ _ _ h => h) (by rfl) (by intro W hSw; go_simp; with_reducible rfl) ?_; try simp only [Act.put, List.setIfInBounds_toArray, List.set_cons_zero, List.set_cons_succ]
          refine wpAnyK_take 15 (v := ?_) rfl (by kernel_rfl) (by kernel_rfl) (by kernel_rfl) (fun _ _ _ h => h) (by rfl) (by intro W hSw; go_simp; with_reducible rfl) ?_; try simp only [Act.put, List.setIfInBounds_toArray, List.set_cons_zero, List.set_cons_succ]
          refine wpAnyK_take 16 (v := ?_) rfl (by kernel_rfl) (by kernel_rfl) (by kernel_rfl) (fun _ _ _ h => h) (by rfl) (by intro W hSw; go_simp; with_reducible rfl) ?_; try simp only [Act.put, List.setIfInBounds_toArray, List.set_cons_zero, List.set_cons_succ]
          refine wpAnyK_skip 17 rfl (by kernel_rfl) (by kernel_rfl) (by kernel_rfl) (fun _ _ _ h => h) (by rfl) ?_; try simp only [Act.put, List.setIfInBounds_toArray, List.set_cons_zero, List.set_cons_succ]
          refine wpAnyK_skip 18 rfl (by kernel_rfl) (by kernel_rfl) (by kernel_rfl) (fun _ _ _ h => h) (by rfl) ?_; try simp only [Act.put, List.setIfInBounds_toArray, List.set_cons_zero, List.set_cons_succ]
          refine wpAnyK_skip 19 rfl (by kernel_rfl) (by kernel_rfl) (by kernel_rfl) (fun _ _ _ h => h) (by rfl) ?_; try simp only [Act.put, List.setIfInBounds_toArray, List.set_cons_zero, List.set_cons_succ]
          refine wpAnyK_skip 20 rfl (by kernel_rfl) (by kernel_rfl) (by kernel_rfl) (fun _ _ _ h => h) (by rfl) ?_; try simp only [Act.put, List.setIfInBounds_toArray, List.set_cons_zero, List.set_cons_succ]
          refine wpAnyK_skip 21 rfl (by kernel_rfl) (by kernel_rfl) (by kernel_rfl) (fun _ _ _ h => h) (by rfl) ?_; try simp only [Act.put, List.setIfInBounds_toArray, List.set_cons_zero, List.set_cons_succ]
          refine wpAnyK_skip 22 rfl (by kernel_rfl) (by kernel_rfl) (by kernel_rfl) (fun _ _ _ h => h) (by rfl) ?_; try simp only [Act.put, List.setIfInBounds_toArray, List.set_cons_zero, List.set_cons_succ]
          refine wpAnyK_skip 23 rfl (by kernel_rfl) (by kernel_rfl) (by kernel_rfl) (fun _ _ _ h => h) (by rfl) ?_; try simp only [Act.put, List.setIfInBounds_toArray, List.set_cons_zero, List.set_cons_succ]
          refine wpAnyK_skip 24 rfl (by kernel_rfl) (by kernel_rfl) (by kernel_rfl) (fun _ _ _ h => h) (by rfl) ?_; try simp only [Act.put, List.setIfInBounds_toArray, List.set_cons_zero, List.set_cons_succ]
          refine wpAnyK_skip 25 rfl (by kernel_rfl) (by kernel_rfl) (by kernel_rfl) (fun _ _ _ h => h) (by rfl) ?_; try simp only [Act.put, List.setIfInBounds_toArray, List.set_cons_zero, List.set_cons_succ]
          refine wpAnyK_skip 26 rfl (by kernel_rfl) (by kernel_rfl) (by kernel_rfl) (fun _ _ _ h => h) (by rfl) ?_; try simp only [Act.put, List.setIfInBounds_toArray, List.set_cons_zero, List.set_cons_succ]
          refine wpAnyK_skip 27 rfl (by kernel_rfl) (by kernel_rfl) (by kernel_rfl) (fun _ _ _ h => h) (by rfl) ?_; try simp only [Act.put, List.setIfInBounds_toArray, List.set_cons_zero, List.set_cons_succ]
          refine wpAnyK_skip 28 rfl (by kernel_rfl) (by kernel_rfl) (by kernel_rfl) (fun _ _ _ h => h) (by rfl) ?_; try simp only [Act.put, List.setIfInBounds_toArray, List.set_cons_zero, List.set_cons_succ]
          refine wpAnyK_skip 29 rfl (by kernel_rfl) (by kernel_rfl) (by kernel_rfl) (fun _ _ _ h => h) (by rfl) ?_; try simp only [Act.put, List.setIfInBounds_toArray, List.set_cons_zero, List.set_cons_succ]
          refine wpAnyK_skip 30 rfl (by kernel_rfl) (by kernel_rfl) (by kernel_rfl) (fun _ _ _ h => h) (by rfl) ?_; try simp only [Act.put, List.setIfInBounds_toArray, List.set_cons_zero, List.set_cons_succ]
          refine wpAnyK_skip 31 rfl (by kernel_rfl) (by kernel_rfl) (by kernel_rfl) (fun _ _ _ h => h) (by rfl) ?_; try simp only [Act.put, List.setIfInBounds_toArray, List.set_cons_zero, List.set_cons_succ]
          refine wpAnyK_skip 32 rfl (by kernel_rfl) (by kernel_rfl) (by kernel_rfl) (fun _ _ _ h => h) (by rfl) ?_; try simp only [Act.put, List.setIfInBounds_toArray, List.set_cons_zero, List.set_cons_succ]
          refine wpAnyK_take 33 (v := ?_) rfl (by kernel_rfl) (by kernel_rfl) (by kernel_rfl) (fun _ _ _ h => h) (by rfl) (by intro W hSw; go_simp; with_reducible rfl) ?_; try simp only [Act.put, List.setIfInBounds_toArray, List.set_cons_zero, List.set_cons_succ]
          refine wpAnyK_done (by kernel_rfl) ?_ _
          go_wp2_with fail
          go_ret
          exact ⟨⟨false, rfl, ⟨fun h => (by cases h), fun h => absurd h (snd_no1 HX.out (by rw [← HNV.out]; omega))⟩⟩, HBA.out.drew⟩
        · have p2 : ¬ (64 : Int) < (nv : Int) := by omega
          clear a2
          rcases Nat.eq_zero_or_pos k with hk0 | hk0
          · subst hk0
            rw [show o + 0 * 2 = o from by omega] at l0 l1
            have HS2 := hide_ (sndT_next HS.out HX.out (by rw [← HNK.out]; omega) (by rw [← HNV.out]; omega) (fun i p h => by omega))
            go_wp2_with fail
            have z1 : ¬ (16 : Int) < (nk : Int) := by omega
            have z2 : ¬ (64 : Int) < (nv : Int) := by omega
            refine wp_region_k (by kernel_rfl) ?_
            refine wpAnyK_take 0 (v := ?_) rfl (by kernel_rfl) (by kernel_rfl) (by kernel_rfl) (fun _ _ _ h => h) (by rfl) (by intro W hSw; go_simp; with_reducible rfl) ?_; try simp only [Act.put, List.setIfInBounds_toArray, List.set_cons_zero, List.set_cons_succ]
            refine wpAnyK_take 1 (v := ?_) rfl (by kernel_rfl) (by kernel_rfl) (by kernel_rfl) (fun _ _ _ h => h) (by rfl) (by intro W hSw; go_simp; with_reducible rfl) ?_; try simp only [Act.put, List.setIfInBounds_toArray, List.set_cons_zero, List.set_cons_succ]
            refine wpAnyK_take 2 (v := ?_) rfl (by kernel_rfl) (by kernel_rfl) (by kernel_rfl) (fun _ _ _ h => h) (by rfl) (by intro W hSw; go_simp; with_reducible rfl) ?_; try simp only [Act.put, List.setIfInBounds_toArray, List.set_cons_zero, List.set_cons_succ]
            refine wpAnyK_take 3 (v := ?_) rfl (by kernel_rfl) (by kernel_rfl) (by kernel_rfl) (fun _ _ _ h => h) (by rfl) (by intro W hSw; go_simp; with_reducible rfl) ?_; try simp only [Act.put, List.setIfInBounds_toArray, List.set_cons_zero, List.set_cons_succ]
            refine wpAnyK_one 4 (by kernel_rfl) rfl (fun K hK => ?_)
            go_simp
            refine hK.out _ _ (Later.refl _) ?_
            clear hK K; try simp only [Act.put, List.setIfInBounds_toArray, List.set_cons_zero, List.set_cons_succ]
            refine wpAnyK_take 5 (v := ?_) rfl (by kernel_rfl) (by kernel_rfl) (by kernel_rfl) (fun _ _ _ h => h) (by rfl) (by intro W hSw; go_simp; with_reducible rfl) ?_; try simp only [Act.put, List.setIfInBounds_toArray, List.set_cons_zero, List.set_cons_succ]
            refine wpAnyK_take 6 (v := ?_) rfl (by kernel_rfl) (by kernel_rfl) (by kernel_rfl) (fun _ _ _ h => h) (by rfl) (by intro W hSw; go_simp; with_reducible rfl) ?_; try simp only [Act.put, List.setIfInBounds_toArray, List.set_cons_zero, List.set_cons_succ]
            refine wpAnyK_take 7 (v := ?_) rfl (by kernel_rfl) (by kernel_rfl) (by kernel_rfl) (fun _ _ _ h => h) (by rfl) (by intro W hSw; go_simp; with_reducible rfl) ?_; try simp only [Act.put, List.setIfInBounds_toArray, List.set_cons_zero, List.set_cons_succ]
            refine wpAnyK_take 8 (v := ?_) rfl (by kernel_rfl) (by kernel_rfl) (by kernel_rfl) (fun _ _ _ h => h) (by rfl) (by intro W hSw; go_simp; with_reducible rfl) ?_; try simp only [Act.put, List.setIfInBounds_toArray, List.set_cons_zero, List.set_cons_succ]
            refine wpAnyK_take 9 (v := ?_) rfl (by kernel_rfl) (by kernel_rfl) (by kernel_rfl) (fun _ _ _ h => h) (by rfl) (by intro W hSw; go_simp; with_reducible rfl) ?_; try simp only [Act.put, List.setIfInBounds_toArray, List.set_cons_zero, List.set_cons_succ]
            refine wpAnyK_take 10 (v := ?_) rfl (by kernel_rfl) (by kernel_rfl) (by kernel_rfl) (fun _ _ _ h => h) (by rfl) (by intro W hSw; go_simp; with_reducible rfl) ?_; try simp only [Act.put, List.setIfInBounds_toArray, List.set_cons_zero, List.set_cons_succ]
            refine wpAnyK_take 11 (v := ?_) rfl (by kernel_rfl) (by kernel_rfl) (by kernel_rfl) (fun _ _ _ h => h) (by rfl) (by intro W hSw; go_simp; with_reducible rfl) ?_; try simp only [Act.put, List.setIfInBounds_toArray, List.set_cons_zero, List.set_cons_succ]
            refine wpAnyK_one 12 (by kernel_rfl) rfl (fun K hK => ?_)
            go_simp
            refine hK.out _ _ (Later.refl _) ?_
            clear hK K; try simp only [Act.put, List.setIfInBounds_toArray, List.set_cons_zero, List.set_cons_succ]
            refine wpAnyK_take 13 (v := ?_) rfl (by kernel_rfl) (by kernel_rfl) (by kernel_rfl) (fun _ _ _ h => h) (by rfl) (by intro W hSw; go_simp; with_reducible rfl) ?_; try simp only [Act.put, List.setIfInBounds_toArray, List.set_cons_zero, List.set_cons_succ]
            refine wpAnyK_take 14 (v := ?_) rfl (by kernel_rfl) (by kernel_rfl) (by kernel_rfl) (fun _ _ _ h => h) (by rfl) (by intro W hSw; go_simp; with_reducible rfl) ?_; try simp only [Act.put, List.setIfInBounds_toArray, List.set_cons_zero, List.set_cons_succ]
            refine wpAnyK_take 15 (v := ?_) rfl (by kernel_rfl) (by kernel_rfl) (by kernel_rfl) (fun _ _ _ h => h) (by rfl) (by intro W hSw; go_simp; with_reducible rfl) ?_; try simp only [Act.put, List.setIfInBounds_toArray, List.set_cons_zero, List.set_cons_succ]
            refine wpAnyK_take 16 (v := ?_) rfl (by kernel_rfl) (by kernel_rfl) (by kernel_rfl) (fun _ _ _ h => h) (by rfl) (by intro W hSw; go_simp; with_reducible rfl) ?_; try simp only [Act.put, List.setIfInBounds_toArray, List.set_cons_zero, List.set_cons_succ]
            refine wpAnyK_take 17 (v := ?_) rfl (by kernel_rfl) (by kernel_rfl) (by kernel_rfl) (fun _ _ _ h => h) (by rfl) (by intro W hSw; go_simp; with_reducible rfl) ?_; try simp only [Act.put, List.setIfInBounds_toArray, List.set_cons_zero, List.set_cons_succ]
            refine wpAnyK_take 18 (v := ?_) rfl (by kernel_rfl) (by kernel_rfl) (by kernel_rfl) (fun _ _ _ h => h) (by rfl) (by intro W hSw; go_simp; with_reducible rfl) ?_; try simp only [Act.put, List.setIfInBounds_toArray, List.set_cons_zero, List.set_cons_succ]
            refine wpAnyK_take 19 (v := ?_) rfl (by kernel_rfl) (by kernel_rfl) (by kernel_rfl) (fun _ _ _ h => h) (by rfl) (by intro W hSw; go_simp; with_reducible rfl) ?_; try simp only [Act.put, List.setIfInBounds_toArray, List.set_cons_zero, List.set_cons_succ]
            refine wpAnyK_skip 20 rfl (by kernel_rfl) (by kernel_rfl) (by kernel_rfl) (fun _ _ _ h => h) (by rfl) ?_; try simp only [Act.put, List.setIfInBounds_toArray, List.set_cons_zero, List.set_cons_succ]
            refine wpAnyK_skip 21 rfl (by kernel_rfl) (by kernel_rfl) (by kernel_rfl) (fun _ _ _ h => h) (by rfl) ?_; try simp only [Act.put, List.setIfInBounds_toArray, List.set_cons_zero, List.set_cons_succ]
            refine wpAnyK_skip 22 rfl (by kernel_rfl) (by kernel_rfl) (by kernel_rfl) (fun _ _ _ h => h) (by rfl) ?_; try simp only [Act.put, List.setIfInBounds_toArray, List.set_cons_zero, List.set_cons_succ]
            refine wpAnyK_skip 23 rfl (by kernel_rfl) (by kernel_rfl) (by kernel_rfl) (fun _ _ _ h => h) (by rfl) ?_; try simp only [Act.put, List.setIfInBounds_toArray, List.set_cons_zero, List.set_cons_succ]
            refine wpAnyK_skip 24 rfl (by kernel_rfl) (by kernel_rfl) (by kernel_rfl) (fun _ _ _ h => h) (by rfl) ?_; try simp only [Act.put, List.setIfInBounds_toArray, List.set_cons_zero, List.set_cons_succ]
            refine wpAnyK_skip 25 rfl (by kernel_rfl) (by kernel_rfl) (by kernel_rfl) (fun _ _ _ h => h) (by rfl) ?_; try simp only [Act.put, List.setIfInBounds_toArray, List.set_cons_zero, List.set_cons_succ]
            refine wpAnyK_skip 26 rfl (by kernel_rfl) (by kernel_rfl) (by kernel_rfl) (fun _ _ _ h => h) (by rfl) ?_; try simp only [Act.put, List.setIfInBounds_toArray, List.set_cons_zero, List.set_cons_succ]
            refine wpAnyK_skip 27 rfl (by kernel_rfl) (by kernel_rfl) (by kernel_rfl) (fun _ _ _ h => h) (by rfl) ?_; try simp only [Act.put, List.setIfInBounds_toArray, List.set_cons_zero, List.set_cons_succ]
            refine wpAnyK_skip 28 rfl (by kernel_rfl) (by kernel_rfl) (by kernel_rfl) (fun _ _ _ h => h) (by rfl) ?_; try simp only [Act.put, List.setIfInBounds_toArray, List.set_cons_zero, List.set_cons_succ]
            refine wpAnyK_skip 29 rfl (by kernel_rfl) (by kernel_rfl) (by kernel_rfl) (fun _ _ _ h => h) (by rfl) ?_; try simp only [Act.put, List.setIfInBounds_toArray, List.set_cons_zero, List.set_cons_succ]
            refine wpAnyK_skip 30 rfl (by kernel_rfl) (by kernel_rfl) (by kernel_rfl) (fun _ _ _ h => h) (by rfl) ?_; try simp only [Act.put, List.setIfInBounds_toArray, List.set_cons_zero, List.set_cons_succ]
            refine wpAnyK_skip 31 rfl (by kernel_rfl) (by kernel_rfl) (by kernel_rfl) (fun _ _ _ h => h) (by rfl) ?_; try simp only [Act.put, List.setIfInBounds_toArray, List.set_cons_zero, List.set_cons_succ]
            refine wpAnyK_take 32 (v := ?_) rfl (by kernel_rfl) (by kernel_rfl) (by kernel_rfl) (fun _ _ _ h => h) (by rfl) (by intro W hSw; go_simp; with_reducible rfl) ?_; try simp only [Act.put, List.setIfInBounds_toArray, List.set_cons_zero, List.set_cons_succ]
            refine wpAnyK_take 33 (v := ?_) rfl (by kernel_rfl) (by kernel_rfl) (by kernel_rfl) (fun _ _ _ h => h) (by rfl) (by intro W hSw; go_simp; with_reducible rfl) ?_; try simp only [Act.put, List.setIfInBounds_toArray, List.set_cons_zero, List.set_cons_succ]
            refine wpAnyK_done (by kernel_rfl) ?_ _
            go_wp2_with fail
            go_roundw
            case rel => exact ⟨1, by omega, by go_num, HS2, HBA.out.drew⟩
            case measure => simp [intOf]; omega
          · obtain ⟨j, hj⟩ : ∃ j, k = j + 1 := ⟨k - 1, by omega⟩
            obtain ⟨y, hy⟩ : ∃ y, L[j]? = some y := ⟨_, List.getElem?_eq_getElem (by rw [HL.out]; omega)⟩
            obtain ⟨b', o', e', m0, m1⟩ := (HR.out.below HB.out).pair hy
            injection e' with e'; injection e' with e1 e2; subst e1; subst e2
            have m2 := m0
            clear m0 m1
            have HY := hide_ hy
            have p3 : (0 : Int) < (k : Int) := by omega
            have ew : IntKind.i64.wrap ((k : Int) - 1) = (j : Int) := by rw [show ((k : Int) - 1) = (j : Int) from by omega]; exact IntWalk.i64_in _ (by omega)
            have q4 : (0 : Int) ≤ (j : Int) := by omega
            have q5 : (j : Int) < (n : Int) := by omega
            have HJ := hide_ hj
            clear hy hj hk0
            by_cases a3 : y.1 < s.1
            · have HS2 := hide_ (sndT_next HS.out HX.out (by rw [← HNK.out]; omega) (by rw [← HNV.out]; omega) (fun i p h hp => by
                have e : i = j := by have := HJ.out; omega
                rw [e, HY.out] at hp; injection hp with hp; subst hp; exact a3))
              have h1 : Op.bytesLess s.1.toList y.1.toList = false := by rw [bl]; grind
              have h2 : (s.1.toList == y.1.toList) = false := by rw [beq_ba]; grind
              go_wp2_with fail
              have z1 : ¬ (16 : Int) < (nk : Int) := by omega
              have z2 : ¬ (64 : Int) < (nv : Int) := by omega
              have z3 : 0 < k := by omega
              have lc0 := later_drew_cell l0
              have lc1 := later_drew_cell l1
              have lc2 := later_drew_cell m2
              refine wp_region_k (by kernel_rfl) ?_
              refine wpAnyK_take 0 (v := ?_) rfl (by kernel_rfl) (by kernel_rfl) (by kernel_rfl) (fun _ _ _ h => h) (by rfl) (by intro W hSw; go_simp; with_reducible rfl) ?_; try simp only [Act.put, List.setIfInBounds_toArray, List.set_cons_zero, List.set_cons_succ]
              refine wpAnyK_take 1 (v := ?_) rfl (by kernel_rfl) (by kernel_rfl) (by kernel_rfl) (fun _ _ _ h => h) (by rfl) (by intro W hSw; go_simp; with_reducible rfl) ?_; try simp only [Act.put, List.setIfInBounds_toArray, List.set_cons_zero, List.set_cons_succ]
              refine wpAnyK_take 2 (v := ?_) rfl (by kernel_rfl) (by kernel_rfl) (by kernel_rfl) (fun _ _ _ h => h) (by rfl) (by intro W hSw; go_simp; with_reducible rfl) ?_; try simp only [Act.put, List.setIfInBounds_toArray, List.set_cons_zero, List.set_cons_succ]
              refine wpAnyK_take 3 (v := ?_) rfl (by kernel_rfl) (by kernel_rfl) (by kernel_rfl) (fun _ _ _ h => h) (by rfl) (by intro W hSw; go_simp; with_reducible rfl) ?_; try simp only [Act.put, List.setIfInBounds_toArray, List.set_cons_zero, List.set_cons_succ]
              refine wpAnyK_take 4 (v := ?_) rfl (by kernel_rfl) (by kernel_rfl) (by kernel_rfl) (fun _ _ _ h => h) (by rfl) (by intro W hSw; go_simp; with_reducible rfl) ?_; try simp only [Act.put, List.setIfInBounds_toArray, List.set_cons_zero, List.set_cons_succ]
              refine wpAnyK_take 5 (v := ?_) rfl (by kernel_rfl) (by kernel_rfl) (by kernel_rfl) (fun _ _ _ h => h) (by rfl) (by intro W hSw; go_simp; with_reducible rfl) ?_; try simp only [Act.put, List.setIfInBounds_toArray, List.set_cons_zero, List.set_cons_succ]
              refine wpAnyK_take 6 (v := ?_) rfl (by kernel_rfl) (by kernel_rfl) (by kernel_rfl) (fun _ _ _ h => h) (by rfl) (by intro W hSw; go_simp; with_reducible rfl) ?_; try simp only [Act.put, List.setIfInBounds_toArray, List.set_cons_zero, List.set_cons_succ]
              refine wpAnyK_take 7 (v := ?_) rfl (by kernel_rfl) (by kernel_rfl) (by kernel_rfl) (fun _ _ _ h => h) (by rfl) (by intro W hSw; go_simp; with_reducible rfl) ?_; try simp only [Act.put, List.setIfInBounds_toArray, List.set_cons_zero, List.set_cons_succ]
              refine wpAnyK_take 8 (v := ?_) rfl (by kernel_rfl) (by kernel_rfl) (by kernel_rfl) (fun _ _ _ h => h) (by rfl) (by intro W hSw; go_simp; with_reducible rfl) ?_; try simp only [Act.put, List.setIfInBounds_toArray, List.set_cons_zero, List.set_cons_succ]
              refine wpAnyK_take 9 (v := ?_) rfl (by kernel_rfl) (by kernel_rfl) (by kernel_rfl) (fun _ _ _ h => h) (by rfl) (by intro W hSw; go_simp; with_reducible rfl) ?_; try simp only [Act.put, List.setIfInBounds_toArray, List.set_cons_zero, List.set_cons_succ]
              refine wpAnyK_take 10 (v := ?_) rfl (by kernel_rfl) (by kernel_rfl) (by kernel_rfl) (fun _ _ _ h => h) (by rfl) (by intro W hSw; go_simp; with_reducible rfl) ?_; try simp only [Act.put, List.setIfInBounds_toArray, List.set_cons_zero, List.set_cons_succ]
              refine wpAnyK_take 11 (v := ?_) rfl (by kernel_rfl) (by kernel_rfl) (by kernel_rfl) (fun _ _ _ h => h) (by rfl) (by intro W hSw; go_simp; with_reducible rfl) ?_; try simp only [Act.put, List.setIfInBounds_toArray, List.set_cons_zero, List.set_cons_succ]
              refine wpAnyK_take 12 (v := ?_) rfl (by kernel_rfl) (by kernel_rfl) (by kernel_rfl) (fun _ _ _ h => h) (by rfl) (by intro W hSw; go_simp; with_reducible rfl) ?_; try simp only [Act.put, List.setIfInBounds_toArray, List.set_cons_zero, List.set_cons_succ]
              refine wpAnyK_take 13 (v := ?_) rfl (by kernel_rfl) (by kernel_rfl) (by kernel_rfl) (fun _ _ _ h => h) (by rfl) (by intro W hSw; go_simp; with_reducible rfl) ?_; try simp only [Act.put, List.setIfInBounds_toArray, List.set_cons_zero, List.set_cons_succ]
              refine wpAnyK_take 14 (v := ?_) rfl (by kernel_rfl) (by kernel_rfl) (by kernel_rfl) (fun _ _ _ h => h) (by rfl) (by intro W hSw; go_simp; with_reducible rfl) ?_; try simp only [Act.put, List.setIfInBounds_toArray, List.set_cons_zero, List.set_cons_succ]
              refine wpAnyK_take 15 (v := ?_) rfl (by kernel_rfl) (by kernel_rfl) (by kernel_rfl) (fun _ _ _ h => h) (by rfl) (by intro W hSw; go_simp; with_reducible rfl) ?_; try simp only [Act.put, List.setIfInBounds_toArray, List.set_cons_zero, List.set_cons_succ]
              refine wpAnyK_take 16 (v := ?_) rfl (by kernel_rfl) (by kernel_rfl) (by kernel_rfl) (fun _ _ _ h => h) (by rfl) (by intro W hSw; go_simp; with_reducible rfl) ?_; try simp only [Act.put, List.setIfInBounds_toArray, List.set_cons_zero, List.set_cons_succ]
              refine wpAnyK_take 17 (v := ?_) rfl (by kernel_rfl) (by kernel_rfl) (by kernel_rfl) (fun _ _ _ h => h) (by rfl) (by intro W hSw; go_simp; with_reducible rfl) ?_; try simp only [Act.put, List.setIfInBounds_toArray, List.set_cons_zero, List.set_cons_succ]
              refine wpAnyK_take 18 (v := ?_) rfl (by kernel_rfl) (by kernel_rfl) (by kernel_rfl) (fun _ _ _ h => h) (by rfl) (by intro W hSw; go_simp; with_reducible rfl) ?_; try simp only [Act.put, List.setIfInBounds_toArray, List.set_cons_zero, List.set_cons_succ]
              refine wpAnyK_take 19 (v := ?_) rfl (by kernel_rfl) (by kernel_rfl) (by kernel_rfl) (fun _ _ _ h => h) (by rfl) (by intro W hSw; go_simp; with_reducible rfl) ?_; try simp only [Act.put, List.setIfInBounds_toArray, List.set_cons_zero, List.set_cons_succ]
              refine wpAnyK_take 20 (v := ?_) rfl (by kernel_rfl) (by kernel_rfl) (by kernel_rfl) (fun _ _ _ h => h) (by rfl) (by intro W hSw; go_simp; with_reducible rfl) ?_; try simp only [Act.put, List.setIfInBounds_toArray, List.set_cons_zero, List.set_cons_succ]
              refine wpAnyK_take 21 (v := ?_) rfl (by kernel_rfl) (by kernel_rfl) (by kernel_rfl) (fun _ _ _ h => h) (by rfl) (by intro W hSw; go_simp; with_reducible rfl) ?_; try simp only [Act.put, List.setIfInBounds_toArray, List.set_cons_zero, List.set_cons_succ]
              refine wpAnyK_take 22 (v := ?_) rfl (by kernel_rfl) (by kernel_rfl) (by kernel_rfl) (fun _ _ _ h => h) (by rfl) (by intro W hSw; go_simp; with_reducible rfl) ?_; try simp only [Act.put, List.setIfInBounds_toArray, List.set_cons_zero, List.set_cons_succ]
              refine wpAnyK_take 23 (v := ?_) rfl (by kernel_rfl) (by kernel_rfl) (by kernel_rfl) (fun _ _ _ h => h) (by rfl) (by intro W hSw; go_simp; with_reducible rfl) ?_; try simp only [Act.put, List.setIfInBounds_toArray, List.set_cons_zero, List.set_cons_succ]
              refine wpAnyK_take 24 (v := ?_) rfl (by kernel_rfl) (by kernel_rfl) (by kernel_rfl) (fun _ _ _ h => h) (by rfl) (by intro W hSw; go_simp; with_reducible rfl) ?_; try simp only [Act.put, List.setIfInBounds_toArray, List.set_cons_zero, List.set_cons_succ]
              refine wpAnyK_take 25 (v := ?_) rfl (by kernel_rfl) (by kernel_rfl) (by kernel_rfl) (fun _ _ _ h => h) (by rfl) (by intro W hSw; go_simp; with_reducible rfl) ?_; try simp only [Act.put, List.setIfInBounds_toArray, List.set_cons_zero, List.set_cons_succ]
              refine wpAnyK_take 26 (v := ?_) rfl (by kernel_rfl) (by kernel_rfl) (by kernel_rfl) (fun _ _ _ h => h) (by rfl) (by intro W hSw; go_simp; with_reducible rfl) ?_; try simp only [Act.put, List.setIfInBounds_toArray, List.set_cons_zero, List.set_cons_succ]
              refine wpAnyK_take 27 (v := ?_) rfl (by kernel_rfl) (by kernel_rfl) (by kernel_rfl) (fun _ _ _ h => h) (by rfl) (by intro W hSw; go_simp; with_reducible rfl) ?_; try simp only [Act.put, List.setIfInBounds_toArray, List.set_cons_zero, List.set_cons_succ]
              refine wpAnyK_take 28 (v := ?_) rfl (by kernel_rfl) (by kernel_rfl) (by kernel_rfl) (fun _ _ _ h => h) (by rfl) (by intro W hSw; go_simp; with_reducible rfl) ?_; try simp only [Act.put, List.setIfInBounds_toArray, List.set_cons_zero, List.set_cons_succ]
              refine wpAnyK_take 29 (v := ?_) rfl (by kernel_rfl) (by kernel_rfl) (by kernel_rfl) (fun _ _ _ h => h) (by rfl) (by intro W hSw; go_simp; with_reducible rfl) ?_; try simp only [Act.put, List.setIfInBounds_toArray, List.set_cons_zero, List.set_cons_succ]
              refine wpAnyK_take 30 (v := ?_) rfl (by kernel_rfl) (by kernel_rfl) (by kernel_rfl) (fun _ _ _ h => h) (by rfl) (by intro W hSw; go_simp; with_reducible rfl) ?_; try simp only [Act.put, List.setIfInBounds_toArray, List.set_cons_zero, List.set_cons_succ]
              refine wpAnyK_take 31 (v := ?_) rfl (by kernel_rfl) (by kernel_rfl) (by kernel_rfl) (fun _ _ _ h => h) (by rfl) (by intro W hSw; go_simp; with_reducible rfl) ?_; try simp only [Act.put, List.setIfInBounds_toArray, List.set_cons_zero, List.set_cons_succ]
              refine wpAnyK_take 32 (v := ?_) rfl (by kernel_rfl) (by kernel_rfl) (by kernel_rfl) (fun _ _ _ h => h) (by rfl) (by intro W hSw; go_simp; with_reducible rfl) ?_; try simp only [Act.put, List.setIfInBounds_toArray, List.set_cons_zero, List.set_cons_succ]
              refine wpAnyK_take 33 (v := ?_) rfl (by kernel_rfl) (by kernel_rfl) (by kernel_rfl) (fun _ _ _ h => h) (by rfl) (by intro W hSw; go_simp; with_reducible rfl) ?_; try simp only [Act.put, List.setIfInBounds_toArray, List.set_cons_zero, List.set_cons_succ]
              refine wpAnyK_done (by kernel_rfl) ?_ _
              go_wp2_with fail
              go_roundw
              case rel => exact ⟨k + 1, by omega, by go_num, HS2, HBA.out.drew⟩
              case measure => simp [intOf]; omega
            · have HNO := hide_ (snd_no2 HY.out (by rw [← HJ.out]; exact HX.out) a3)
              have h1 : (Op.bytesLess s.1.toList y.1.toList || s.1.toList == y.1.toList) = true := by rw [ble]; grind
              go_wp2_with fail
              have z1 : ¬ (16 : Int) < (nk : Int) := by omega
              have z2 : ¬ (64 : Int) < (nv : Int) := by omega
              have z3 : 0 < k := by omega
              have lc0 := later_drew_cell l0
              have lc1 := later_drew_cell l1
              have lc2 := later_drew_cell m2
              refine wp_region_k (by kernel_rfl) ?_
              refine wpAnyK_take 0 (v := ?_) rfl (by kernel_rfl) (by kernel_rfl) (by kernel_rfl) (fun _ _ _ h => h) (by rfl) (by intro W hSw; go_simp; with_reducible rfl) ?_; try simp only [Act.put, List.setIfInBounds_toArray, List.set_cons_zero, List.set_cons_succ]
              refine wpAnyK_take 1 (v := ?_) rfl (by kernel_rfl) (by kernel_rfl) (by kernel_rfl) (fun _ _ _ h => h) (by rfl) (by intro W hSw; go_simp; with_reducible rfl) ?_; try simp only [Act.put, List.setIfInBounds_toArray, List.set_cons_zero, List.set_cons_succ]
              refine wpAnyK_take 2 (v := ?_) rfl (by kernel_rfl) (by kernel_rfl) (by kernel_rfl) (fun _ _ _ h => h) (by rfl) (by intro W hSw; go_simp; with_reducible rfl) ?_; try simp only [Act.put, List.setIfInBounds_toArray, List.set_cons_zero, List.set_cons_succ]
              refine wpAnyK_take 3 (v := ?_) rfl (by kernel_rfl) (by kernel_rfl) (by kernel_rfl) (fun _ _ _ h => h) (by rfl) (by intro W hSw; go_simp; with_reducible rfl) ?_; try simp only [Act.put, List.setIfInBounds_toArray, List.set_cons_zero, List.set_cons_succ]
              refine wpAnyK_take 4 (v := ?_) rfl (by kernel_rfl) (by kernel_rfl) (by kernel_rfl) (fun _ _ _ h => h) (by rfl) (by intro W hSw; go_simp; with_reducible rfl) ?_; try simp only [Act.put, List.setIfInBounds_toArray, List.set_cons_zero, List.set_cons_succ]
              refine wpAnyK_take 5 (v := ?_) rfl (by kernel_rfl) (by kernel_rfl) (by kernel_rfl) (fun _ _ _ h => h) (by rfl) (by intro W hSw; go_simp; with_reducible rfl) ?_; try simp only [Act.put, List.setIfInBounds_toArray, List.set_cons_zero, List.set_cons_succ]
              refine wpAnyK_take 6 (v := ?_) rfl (by kernel_rfl) (by kernel_rfl) (by kernel_rfl) (fun _ _ _ h => h) (by rfl) (by intro W hSw; go_simp; with_reducible rfl) ?_; try simp only [Act.put, List.setIfInBounds_toArray, List.set_cons_zero, List.set_cons_succ]
              refine wpAnyK_take 7 (v := ?_) rfl (by kernel_rfl) (by kernel_rfl) (by kernel_rfl) (fun _ _ _ h => h) (by rfl) (by intro W hSw; go_simp; with_reducible rfl) ?_; try simp only [Act.put, List.setIfInBounds_toArray, List.set_cons_zero, List.set_cons_succ]
              refine wpAnyK_take 8 (v := ?_) rfl (by kernel_rfl) (by kernel_rfl) (by kernel_rfl) (fun _ _ _ h => h) (by rfl) (by intro W hSw; go_simp; with_reducible rfl) ?_; try simp only [Act.put, List.setIfInBounds_toArray, List.set_cons_zero, List.set_cons_succ]
              refine wpAnyK_take 9 (v := ?_) rfl (by kernel_rfl) (by kernel_rfl) (by kernel_rfl) (fun _ _ _ h => h) (by rfl) (by intro W hSw; go_simp; with_reducible rfl) ?_; try simp only [Act.put, List.setIfInBounds_toArray, List.set_cons_zero, List.set_cons_succ]
              refine wpAnyK_take 10 (v := ?_) rfl (by kernel_rfl) (by kernel_rfl) (by kernel_rfl) (fun _ _ _ h => h) (by rfl) (by intro W hSw; go_simp; with_reducible rfl) ?_; try simp only [Act.put, List.setIfInBounds_toArray, List.set_cons_zero, List.set_cons_succ]
              refine wpAnyK_take 11 (v := ?_) rfl (by kernel_rfl) (by kernel_rfl) (by kernel_rfl) (fun _ _ _ h => h) (by rfl) (by intro W hSw; go_simp; with_reducible rfl) ?_; try simp only [Act.put, List.setIfInBounds_toArray, List.set_cons_zero, List.set_cons_succ]
              refine wpAnyK_take 12 (v := ?_) rfl (by kernel_rfl) (by kernel_rfl) (by kernel_rfl) (fun _ _ _ h => h) (by rfl) (by intro W hSw; go_simp; with_reducible rfl) ?_; try simp only [Act.put, List.setIfInBounds_toArray, List.set_cons_zero, List.set_cons_succ]
              refine wpAnyK_take 13 (v := ?_) rfl (by kernel_rfl) (by kernel_rfl) (by kernel_rfl) (fun _ _ _ h => h) (by rfl) (by intro W hSw; go_simp; with_reducible rfl) ?_; try simp only [Act.put, List.setIfInBounds_toArray, List.set_cons_zero, List.set_cons_succ]
              refine wpAnyK_take 14 (v := ?_) rfl (by kernel_rfl) (by kernel_rfl) (by kernel_rfl) (fun _ _ _ h => h) (by rfl) (by intro W hSw; go_simp; with_reducible rfl) ?_; try simp only [Act.put, List.setIfInBounds_toArray, List.set_cons_zero, List.set_cons_succ]
              refine wpAnyK_take 15 (v := ?_) rfl (by kernel_rfl) (by kernel_rfl) (by kernel_rfl) (fun _ _ _ h => h) (by rfl) (by intro W hSw; go_simp; with_reducible rfl) ?_; try simp only [Act.put, List.setIfInBounds_toArray, List.set_cons_zero, List.set_cons_succ]
              refine wpAnyK_take 16 (v := ?_) rfl (by kernel_rfl) (by kernel_rfl) (by kernel_rfl) (fun _ _ _ h => h) (by rfl) (by intro W hSw; go_simp; with_reducible rfl) ?_; try simp only [Act.put, List.setIfInBounds_toArray, List.set_cons_zero, List.set_cons_succ]
              refine wpAnyK_take 17 (v := ?_) rfl (by kernel_rfl) (by kernel_rfl) (by kernel_rfl) (fun _ _ _ h => h) (by rfl) (by intro W hSw; go_simp; with_reducible rfl) ?_; try simp only [Act.put, List.setIfInBounds_toArray, List.set_cons_zero, List.set_cons_succ]
              refine wpAnyK_take 18 (v := ?_) rfl (by kernel_rfl) (by kernel_rfl) (by kernel_rfl) (fun _ _ _ h => h) (by rfl) (by intro W hSw; go_simp; with_reducible rfl) ?_; try simp only [Act.put, List.setIfInBounds_toArray, List.set_cons_zero, List.set_cons_succ]
              refine wpAnyK_take 19 (v := ?_) rfl (by kernel_rfl) (by kernel_rfl) (by kernel_rfl) (fun _ _ _ h => h) (by rfl) (by intro W hSw; go_simp; with_reducible rfl) ?_; try simp only [Act.put, List.setIfInBounds_toArray, List.set_cons_zero, List.set_cons_succ]
              refine wpAnyK_take 20 (v := ?_) rfl (by kernel_rfl) (by kernel_rfl) (by kernel_rfl) (fun _ _ _ h => h) (by rfl) (by intro W hSw; go_simp; with_reducible rfl) ?_; try simp only [Act.put, List.setIfInBounds_toArray, List.set_cons_zero, List.set_cons_succ]
              refine wpAnyK_take 21 (v := ?_) rfl (by kernel_rfl) (by kernel_rfl) (by kernel_rfl) (fun _ _ _ h => h) (by rfl) (by intro W hSw; go_simp; with_reducible rfl) ?_; try simp only [Act.put, List.setIfInBounds_toArray, List.set_cons_zero, List.set_cons_succ]
              refine wpAnyK_take 22 (v := ?_) rfl (by kernel_rfl) (by kernel_rfl) (by kernel_rfl) (fun _ _ _ h => h) (by rfl) (by intro W hSw; go_simp; with_reducible rfl) ?_; try simp only [Act.put, List.setIfInBounds_toArray, List.set_cons_zero, List.set_cons_succ]
              refine wpAnyK_take 23 (v := ?_) rfl (by kernel_rfl) (by kernel_rfl) (by kernel_rfl) (fun _ _ _ h => h) (by rfl) (by intro W hSw; go_simp; with_reducible rfl) ?_; try simp only [Act.put, List.setIfInBounds_toArray, List.set_cons_zero, List.set_cons_succ]
              refine wpAnyK_take 24 (v := ?_) rfl (by kernel_rfl) (by kernel_rfl) (by kernel_rfl) (fun _ _ _ h => h) (by rfl) (by intro W hSw; go_simp; with_reducible rfl) ?_; try simp only [Act.put, List.setIfInBounds_toArray, List.set_cons_zero, List.set_cons_succ]
              refine wpAnyK_take 25 (v := ?_) rfl (by kernel_rfl) (by kernel_rfl) (by kernel_rfl) (fun _ _ _ h => h) (by rfl) (by intro W hSw; go_simp; with_reducible rfl) ?_; try simp only [Act.put, List.setIfInBounds_toArray, List.set_cons_zero, List.set_cons_succ]
              refine wpAnyK_take 26 (v := ?_) rfl (by kernel_rfl) (by kernel_rfl) (by kernel_rfl) (fun _ _ _ h => h) (by rfl) (by intro W hSw; go_simp; with_reducible rfl) ?_; try simp only [Act.put, List.setIfInBounds_toArray, List.set_cons_zero, List.set_cons_succ]
              refine wpAnyK_take 27 (v := ?_) rfl (by kernel_rfl) (by kernel_rfl) (by kernel_rfl) (fun _ _ _ h => h) (by rfl) (by intro W hSw; go_simp; with_reducible rfl) ?_; try simp only [Act.put, List.setIfInBounds_toArray, List.set_cons_zero, List.set_cons_succ]
              refine wpAnyK_take 28 (v := ?_) rfl (by kernel_rfl) (by kernel_rfl) (by kernel_rfl) (fun _ _ _ h => h) (by rfl) (by intro W hSw; go_simp; with_reducible rfl) ?_; try simp only [Act.put, List.setIfInBounds_toArray, List.set_cons_zero, List.set_cons_succ]
              refine wpAnyK_take 29 (v := ?_) rfl (by kernel_rfl) (by kernel_rfl) (by kernel_rfl) (fun _ _ _ h => h) (by rfl) (by intro W hSw; go_simp; with_reducible rfl) ?_; try simp only [Act.put, List.setIfInBounds_toArray, List.set_cons_zero, List.set_cons_succ]
              refine wpAnyK_take 30 (v := ?_) rfl (by kernel_rfl) (by kernel_rfl) (by kernel_rfl) (fun _ _ _ h => h) (by rfl) (by intro W hSw; go_simp; with_reducible rfl) ?_; try simp only [Act.put, List.setIfInBounds_toArray, List.set_cons_zero, List.set_cons_succ]
              refine wpAnyK_take 31 (v := ?_) rfl (by kernel_rfl) (by kernel_rfl) (by kernel_rfl) (fun _ _ _ h => h) (by rfl) (by intro W hSw; go_simp; with_reducible rfl) ?_; try simp only [Act.put, List.setIfInBounds_toArray, List.set_cons_zero, List.set_cons_succ]
              refine wpAnyK_take 32 (v := ?_) rfl (by kernel_rfl) (by kernel_rfl) (by kernel_rfl) (fun _ _ _ h => h) (by rfl) (by intro W hSw; go_simp; with_reducible rfl) ?_; try simp only [Act.put, List.setIfInBounds_toArray, List.set_cons_zero, List.set_cons_succ]
              refine wpAnyK_take 33 (v := ?_) rfl (by kernel_rfl) (by kernel_rfl) (by kernel_rfl) (fun _ _ _ h => h) (by rfl) (by intro W hSw; go_simp; with_reducible rfl) ?_; try simp only [Act.put, List.setIfInBounds_toArray, List.set_cons_zero, List.set_cons_succ]
              refine wpAnyK_done (by kernel_rfl) ?_ _
              go_wp2_with fail
              go_ret
              exact ⟨⟨false, rfl, ⟨fun h => (by cases h), fun h => absurd h HNO.out⟩⟩, HBA.out.drew⟩
    · have q1 : ¬ (k : Int) < (n : Int) := by omega
      obtain rfl : k = n := by omega
      have HE := hide_ (sndT_end (by rw [HL.out]; exact HS.out))
      go_wp2_with fail
      go_ret
      exact ⟨⟨true, rfl, ⟨fun _ => HE.out, fun _ => rfl⟩⟩, HB.out⟩

end Go.Proofs.Ytblljpdlmllceaa
/-
  Clone of pairs; Apply.
-/
namespace Go.Proofs.Ytblljpdlmllceaa
open Go.RowKit
set_option linter.unusedVariables false
set_option linter.unusedSimpArgs false
theorem own_base' {w : World} {base base' : Nat} {e : TypeId} {size n : Nat} {v : Value} {xs : List Value} (h : w.ownsRow base e size v n xs) (hb : base' ≤ base) : w.ownsRow base' e size v n xs := by
  refine ⟨h.1, ?_⟩
  rcases h.2 with h0 | ⟨g, cap, cur, hv, hbb, hh, hr⟩
  · exact .inl h0
  · exact .inr ⟨g, cap, cur, hv, by omega, hh, hr⟩
set_option maxHeartbeats 400000 in
theorem clone_nil (c : Nat) (w : World) : Calls Try.prog 34 #[.slice none 0 c] w fun e w' => e = .returned (.slice none 0 0) ∧ w = w' := by
  have hq := fun W => eql_slice_nil_any Try.underlying22 W none 0 c 0 0
  go_enter Try.func34, Try.ntmps34
  go_wp2_with fail
  go_ret
  exact ⟨rfl, rfl⟩
set_option maxHeartbeats 400000 in
theorem clone_some {w : World} {b o n : Nat} {L : List Pr} (hr : Rd w 2 (some ⟨b, o, none⟩) n (prow L)) (c : Nat) (hb : n * 32 ≤ 140737488355328) (hn : n ≤ maxLen) :
    Calls Try.prog 34 #[.slice (some ⟨b, o, none⟩) n c] w fun e w' =>
      (∃ v, e = .returned v ∧ w'.ownsRow w.heap.size 55 2 v n (prow L)) ∧ Below w.heap.size w w' := by
  have hq := fun W => eql_slice_nil_any Try.underlying22 W (some ⟨b, o, none⟩) n c 0 0
  have HR := hide_ hr
  have hown := hide_ (own_new w #[] 55 2 0 w.heap.size rfl (Nat.zero_le _) (Nat.le_refl _))
  clear hr
  go_enter Try.func34, Try.ntmps34
  go_wp2_with (at_builtin; go_loud (refine wpList_append_rd _ rfl (.tmp 5) (.tmp 6) 22 rfl w.heap.size 55 2 32 pairT _ 0 [] rfl hown.out _ n _ (prow L) rfl (HR.out.alloc _) (prow_one L) (by omega) (by omega) (by simp) (fun h => nomatch h) ?_; intro v2 w2 hown2 hg2 hat2; have hb2 := hide_ (own_grown ((Below.refl _ _).alloc (Nat.le_refl _) _) hown.out hg2 (by simp)); have HO2 := hide_ hown2; clear hown2 hg2 hat2))
  go_ret
  have h2 := HO2.out
  simp only [Nat.zero_add, List.nil_append] at h2
  exact ⟨⟨_, rfl, h2⟩, hb2.out⟩
theorem clone_any {w : World} {A : Option Addr} {n c : Nat} {L : List Pr} (hr : Rd w 2 A n (prow L)) (hA : A = none → n = 0) (hb : n * 32 ≤ 140737488355328) (hn : n ≤ maxLen) :
    Calls Try.prog 34 #[.slice A n c] w fun e w' =>
      (∃ v, e = .returned v ∧ w'.ownsRow w.heap.size 55 2 v n (prow L)) ∧ Below w.heap.size w w' := by
  rcases A with _ | a
  · obtain rfl := hA rfl
    have hL : prow L = [] := List.eq_nil_of_length_eq_zero (by simpa using hr.1)
    refine (clone_nil c w).mono fun e w' ⟨he, hw⟩ => ?_
    subst hw
    exact ⟨⟨_, he, by rw [hL]; exact World.ownsRow_nil _ _ _ _⟩, Below.refl _ _⟩
  · by_cases h0 : 0 < (prow L).length
    · obtain ⟨b, o, e, _⟩ := hr.2 h0
      injection e with e
      subst e
      exact clone_some hr c hb hn
    · have hn0 : n = 0 := by have := hr.1; omega
      subst hn0
      have hL : prow L = [] := List.eq_nil_of_length_eq_zero (by omega)
      have hq := fun W => eql_slice_nil_any Try.underlying22 W (some a) 0 c 0 0
      have hown := hide_ (own_new w #[] 55 2 0 w.heap.size rfl (Nat.zero_le _) (Nat.le_refl _))
      rw [hL]
      clear hr hA hb hL
      go_enter Try.func34, Try.ntmps34
      go_wp2_with (at_builtin; go_loud (refine wpList_append_rd _ rfl (.tmp 5) (.tmp 6) 22 rfl w.heap.size 55 2 32 pairT _ 0 [] rfl hown.out _ 0 _ [] rfl (Rd.nil _ _ _) (fun u hu => by cases hu) (by omega) (by omega) (by simp) (fun h => nomatch h) ?_; intro v2 w2 hown2 hg2 hat2; have hb2 := hide_ (own_grown ((Below.refl _ _).alloc (Nat.le_refl _) _) hown.out hg2 (by simp)); have HO2 := hide_ hown2; clear hown2 hg2 hat2))
      go_ret
      have h2 := HO2.out
      simp only [Nat.zero_add, List.nil_append] at h2
      exact ⟨⟨_, rfl, h2⟩, hb2.out⟩
/-- What changes make of pairs. -/
def AppOf : List Pr → List Chg → List Pr → Prop
  | L, [], M => M = L
  | L, c :: C, M => ∃ N, OneOf L c.1 c.2.1 c.2.2 N ∧ AppOf N C M
theorem app_snoc {C : List Chg} : ∀ {L M N : List Pr} {c : Chg}, AppOf L C M → OneOf M c.1 c.2.1 c.2.2 N → AppOf L (C ++ [c]) N := by
  induction C with
  | nil => intro L M N c h h2; obtain rfl := h; exact ⟨N, h2, rfl⟩
  | cons d C ih => intro L M N c h h2; obtain ⟨K, h3, h4⟩ := h; exact ⟨K, h3, ih h4 h2⟩
theorem chk_kind {kind : Int} {k v : ByteArray} (h : chk kind k v = 0) : kind = 1 ∨ kind = 2 ∨ kind = 3 := by
  unfold chk at h
  by_cases h3 : kind = 3
  · exact .inr (.inr h3)
  · by_cases h2 : kind = 2
    · exact .inr (.inl h2)
    · by_cases h1 : kind = 1
      · exact .inl h1
      · rw [if_neg h3, if_neg h2, if_neg h1] at h; cases h
theorem chkAll_mem {C : List Chg} (h : chkAll C = 0) : ∀ c, c ∈ C → chk c.1 c.2.1 c.2.2 = 0 := by
  induction C with
  | nil => intro c hc; cases hc
  | cons d C ih =>
    intro c hc
    unfold chkAll at h
    by_cases h0 : chk d.1 d.2.1 d.2.2 = 0
    · rw [if_pos h0] at h
      rcases List.mem_cons.1 hc with rfl | hc
      · exact h0
      · exact ih h c hc
    · rw [if_neg h0] at h; exact absurd h h0
theorem take_snoc {α : Type} {L : List α} {k : Nat} {x : α} (h : L[k]? = some x) : L.take (k + 1) = L.take k ++ [x] := by
  have e := List.getElem?_eq_some_iff.1 h
  rw [← List.take_append_getElem e.1, e.2]
/-- What Apply answers. -/
def ApplyPost (L : List Pr) (n : Nat) (C : List Chg) (p : Nat) (w : World) (e : Ending) (w' : World) : Prop :=
  ((chkAll C ≠ 0 ∧ e = .returned (.tuple #[.slice none 0 0, .int .i64 (chkAll C)])) ∨
   (chkAll C = 0 ∧ ¬ Snd L ∧ e = .returned (.tuple #[.slice none 0 0, .int .i64 2])) ∨
   (chkAll C = 0 ∧ Snd L ∧ ∃ (u : Value) (M : List Pr) (m : Nat), e = .returned (.tuple #[u, .int .i64 0]) ∧ M.length = m ∧ m ≤ n + p ∧ AppOf L C M ∧ w'.ownsRow w.heap.size 55 2 u m (prow M))) ∧ Later w w'
set_option maxHeartbeats 2000000 in
theorem apply_any {w : World} {A A' : Option Addr} {n c p c' : Nat} {L : List Pr} {C : List Chg} (hr : Rd w 2 A n (prow L)) (hl : L.length = n) (hA : A = none → n = 0) (hr' : Rd w 3 A' p (crow C)) (hl' : C.length = p) (hn : n + p ≤ 2199023255552) :
    Calls Try.prog 12 #[.slice A n c, .slice A' p c'] w (ApplyPost L n C p w) := by
  have HR := hide_ hr; have HL := hide_ hl; have HR' := hide_ hr'; have HL' := hide_ hl'
  have HA := hide_ hA
  have hc := hide_ (all_any (c := c') hr' hl' (by omega))
  have hn2 : (p : Int) ≤ 4398046511104 := by omega
  clear hr hl hr' hl' hA
  go_enter Try.func12, Try.ntmps12
  go_wp2_with fail
  refine hc.out.mono ?_; rintro e w1 ⟨rfl, hb1⟩
  have HB1 := hide_ hb1
  clear hb1 hc
  by_cases h0 : chkAll C = 0
  · rw [h0]
    have HC0 := hide_ h0
    have hs := hide_ (sound_any (c := c) (HR.out.below HB1.out) HL.out (by omega))
    clear h0
    go_wp2_with fail
    refine hs.out.mono ?_; rintro e w2 ⟨⟨r, rfl, hsr⟩, hb2⟩
    have HB2 := hide_ (HB1.out.trans hb2)
    have HSR := hide_ hsr
    clear hb2 hsr hs
    cases r with
    | false =>
      have HN := hide_ (show ¬ Snd L from fun h => by have := HSR.out.2 h; cases this)
      clear HSR
      go_wp2_with fail
      go_ret2
      exact ⟨.inr (.inl ⟨HC0.out, HN.out, rfl⟩), HB2.out⟩
    | true =>
      have HSND := hide_ (HSR.out.1 rfl)
      clear HSR
      have hcl := hide_ (clone_any (c := c) (HR.out.below HB2.out) HA.out (by omega) (by unfold maxLen; omega))
      go_wp2_with fail
      refine hcl.out.mono ?_; rintro e w3 ⟨⟨v, rfl, ho3⟩, hb3⟩
      have HO3 := hide_ (own_base' ho3 HB2.out.size)
      have HB3 := hide_ (Later.trans HB2.out hb3)
      obtain ⟨A3, c3, rfl⟩ := own_form ho3
      clear ho3 hb3 hcl
      have HMEM := hide_ (chkAll_mem HC0.out)
      go_wp2_with fail
      go_loopw [7, 9, 22] (fun s7 _ s22 wr => ∃ (k m : Nat) (M : List Pr), k ≤ p ∧ s22 = .int .i64 k ∧ Hid (M.length = m) ∧ m ≤ n + k ∧ Hid (AppOf L (C.take k) M) ∧ Hid (Ris M) ∧ Hid (wr.ownsRow w.heap.size 55 2 s7 m (prow M)) ∧ Hid (Later w wr)) (fun _ _ i _ => p - (intOf i).toNat)
      case atStart => exact ⟨0, n, L, Nat.zero_le _, rfl, HL, Nat.le_refl _, hide_ rfl, hide_ HSND.out.1, HO3, HB3⟩
      case round =>
        obtain ⟨k, m, M, hkp, rfl, HM, hmk, HAP, HRI, HO, HB⟩ := hrel
        obtain ⟨A4, c4, rfl⟩ := own_form HO.out
        by_cases hlt : k < p
        · obtain ⟨s, hs⟩ : ∃ s, C[k]? = some s := ⟨_, List.getElem?_eq_getElem (by rw [HL'.out]; exact hlt)⟩
          obtain ⟨b, o, rfl, l0, l1, l2⟩ := (HR'.out.below HB.out).chg hs
          have q1 : (k : Int) < (p : Int) := by omega
          have q2 : (0 : Int) ≤ (k : Int) := by omega
          have q3 : (k : Int) ≤ 4398046511104 := by omega
          have HT := hide_ (take_snoc hs)
          have hwa := hide_ (HB.out.alloc HB.out.size (.cells #[.int .i64 s.1, .string s.2.1, .string s.2.2] 32))
          have hc := hide_ (one_any s.2.1 s.2.2 (chk_kind (HMEM.out s (List.mem_of_getElem? hs))) (HO.out.alloc (.cells #[.int .i64 s.1, .string s.2.1, .string s.2.2] 32)) HM.out HRI.out (by omega) hwa.out.size)
          clear hs
          go_wp2_with fail
          refine hc.out.mono ?_; rintro e w5 ⟨⟨u, N, m', rfl, hm', hmm, hone, ho5⟩, hb5⟩
          obtain ⟨A5, c5, rfl⟩ := own_form ho5
          have HM5 := hide_ hm'; have HON := hide_ hone; have HO5 := hide_ ho5
          have HB5 := hide_ (show Later w w5 from hwa.out.trans hb5)
          clear hm' hone ho5 hb5 hc
          go_wp2_with fail
          go_roundw
          case rel => exact ⟨k + 1, m', N, by omega, by go_num, HM5, by omega, hide_ (by rw [HT.out]; exact app_snoc HAP.out HON.out), hide_ HON.out.1, HO5, HB5⟩
          case measure => simp [intOf]; omega
        · have q1 : ¬ (k : Int) < (p : Int) := by omega
          obtain rfl : k = p := by omega
          have HF := hide_ (show AppOf L C M by have := HAP.out; rwa [← HL'.out, List.take_length] at this)
          go_wp2_with fail
          go_ret2
          exact ⟨.inr (.inr ⟨HC0.out, HSND.out, _, M, m, rfl, HM.out, hmk, HF.out, HO.out⟩), HB.out⟩
  · have h0' : ¬ (0 : Int) = chkAll C := fun h => h0 h.symm
    go_wp2_with fail
    go_ret2
    exact ⟨.inl ⟨h0, rfl⟩, HB1.out⟩
end Go.Proofs.Ytblljpdlmllceaa
/-
  The document's Pairs: equal pairs are the same.
-/
namespace Go.Proofs.Ytblljpdlmllceaa
open Go.RowKit
set_option linter.unusedVariables false
set_option linter.unusedSimpArgs false
theorem toList_inj (a b : ByteArray) : a.toList = b.toList ↔ a = b := by
  rw [Lib.toList_data, Lib.toList_data]
  exact ⟨ba_ext, fun h => by rw [h]⟩
/-- '==' of two spans. -/
theorem eq_pair (x y : Pr) (W : World) : (binOp .eql 55 (.agg #[.string x.1, .string x.2]) (.agg #[.string y.1, .string y.2])).run Try.prog W = .ok (.bool (decide (x = y))) W := by
  have hS : Try.prog.underlying 55 = some (.struct (Try.prog.fieldsOf 55)) := by kernel_rfl
  have hp : Try.prog.stoodInHeld 55 = false := by kernel_rfl
  rw [run_eql_struct, show (10000 : Nat) = 9999 + 1 from rfl, run_equalIn_agg W 9999 55 _ _ hS hp]
  simp only [Program.fieldsOf, Try.underlying55]
  go_simp
  simp only [toList_inj]
  obtain ⟨x1, x2⟩ := x
  obtain ⟨y1, y2⟩ := y
  by_cases h1 : x1 = y1 <;> by_cases h2 : x2 = y2 <;> simp [h1, h2]
theorem neq_pair (x y : Pr) (W : World) : (binOp .neq 55 (.agg #[.string x.1, .string x.2]) (.agg #[.string y.1, .string y.2])).run Try.prog W = .ok (.bool (!decide (x = y))) W := by
  have hS : Try.prog.underlying 55 = some (.struct (Try.prog.fieldsOf 55)) := by kernel_rfl
  have hp : Try.prog.stoodInHeld 55 = false := by kernel_rfl
  rw [run_neq_struct, show (10000 : Nat) = 9999 + 1 from rfl, run_equalIn_agg W 9999 55 _ _ hS hp]
  simp only [Program.fieldsOf, Try.underlying55]
  go_simp
  simp only [toList_inj]
  obtain ⟨x1, x2⟩ := x
  obtain ⟨y1, y2⟩ := y
  by_cases h1 : x1 = y1 <;> by_cases h2 : x2 = y2 <;> simp [h1, h2]
theorem guard_pair (op : BinOp) (x y : Operand) (xs ys : Array Value) (W : World) : (eqGuard op 55 x y (.agg xs) (.agg ys)).run Try.prog W = .ok () W := run_eqGuard_agg W op 55 x y xs ys (by kernel_rfl)
set_option maxHeartbeats 1000000 in
theorem pairs_yes {w : World} {A A' : Option Addr} {n c c' : Nat} {L : List Pr} (hr : Rd w 2 A n (prow L)) (hr' : Rd w 2 A' n (prow L)) (hl : L.length = n) (hn : n ≤ 4398046511104) :
    Calls Try.prog 15 #[.slice A n c, .slice A' n c'] w fun e w' => e = .returned (.bool true) ∧ Later w w' := by
  have HR := hide_ hr
  have HR' := hide_ hr'
  have HL := hide_ hl
  have hn2 : (n : Int) ≤ 4398046511104 := by omega
  clear hr hr' hl
  go_enter Try.func15, Try.ntmps15
  go_wp2_with fail
  go_loopw [5] (fun s5 wr => ∃ k : Nat, k ≤ n ∧ s5 = .int .i64 k ∧ Hid (Later w wr)) (fun i _ => n - (intOf i).toNat)
  case atStart => exact ⟨0, Nat.zero_le _, rfl, Later.refl w⟩
  case round =>
    obtain ⟨k, hk, rfl, HB⟩ := hrel
    by_cases hlt : k < n
    · have q1 : (k : Int) < (n : Int) := by omega
      have q2 : (k : Int) ≤ 4398046511104 := by omega
      obtain ⟨s, hs⟩ : ∃ s, L[k]? = some s := ⟨_, List.getElem?_eq_getElem (by rw [HL.out]; exact hlt)⟩
      obtain ⟨b, o, rfl, c1, c2⟩ := (HR.out.below HB.out).pair hs
      obtain ⟨b', o', rfl, c3, c4⟩ := (HR'.out.below HB.out).pair hs
      have e1 := fun W => neq_pair s s W
      simp only [decide_true, Bool.not_true] at e1
      have e2 := guard_pair
      clear hs
      go_wp2_with fail
      go_quiet (fail)
      go_wp2_with fail
      go_roundw
      case rel => exact ⟨k + 1, by omega, by go_num, below_drewN HB.out _⟩
      case measure => simp [intOf]; omega
    · go_wp2_with fail
      go_ret
      exact ⟨rfl, HB.out⟩
theorem one_fun {L M M' : List Pr} {kind : Int} {k v : ByteArray} (h : OneOf L kind k v M) (h' : OneOf L kind k v M') : M = M' := ris_uniq h.1 h'.1 fun p => (h.2 p).trans (h'.2 p).symm
theorem app_fun {C : List Chg} : ∀ {L M M' : List Pr}, AppOf L C M → AppOf L C M' → M = M' := by
  induction C with
  | nil => intro L M M' h h'; exact h.trans h'.symm
  | cons c C ih =>
    intro L M M' h h'
    obtain ⟨N, h1, h2⟩ := h
    obtain ⟨N', h1', h2'⟩ := h'
    obtain rfl := one_fun h1 h1'
    exact ih h2 h2'
end Go.Proofs.Ytblljpdlmllceaa
/-
  Plain mathematics of the document's One: what it has when it has passed some of the pairs.
-/
namespace Go.Proofs.Ytblljpdlmllceaa
section
variable {α : Type} [LT α] [LE α]
/-- What the document's One has when it has passed the pairs L. -/
def Passed (L : List (α × α)) (kind : Int) (k v : α) (put : Bool) (M : List (α × α)) : Prop :=
  Ris M ∧ (put = false → kind = 1 ∧ ∀ p, p ∈ L → p.1 < k) ∧ ∀ p, p ∈ M ↔ (p ∈ L ∧ ¬ Named kind k v p.1) ∨ (kind = 1 ∧ put = true ∧ p = (k, v))
theorem passed_nil (kind : Int) (k v : α) (put : Bool) (h : put = false ↔ kind = 1) : Passed [] kind k v put [] := by
  refine ⟨by unfold Ris; simp, fun hp => ⟨h.1 hp, fun p hp => by cases hp⟩, fun p => ?_⟩
  constructor
  · intro hp; cases hp
  · rintro (⟨hp, _⟩ | ⟨h1, h2, _⟩)
    · cases hp
    · rw [h.2 h1] at h2; cases h2
theorem passed_end {L : List (α × α)} {kind : Int} {k v : α} {M : List (α × α)} (h : Passed L kind k v true M) : OneOf L kind k v M := by
  refine ⟨h.1, fun p => ?_⟩
  rw [h.2.2 p]
  simp
theorem passed_put {L : List (α × α)} {kind : Int} {k v : α} {M : List (α × α)} (h : Passed L kind k v false M) : Passed L kind k v true (M ++ [(k, v)]) := by
  obtain ⟨h1, h2⟩ := h.2.1 rfl
  refine ⟨?_, fun hp => (by cases hp), fun p => ?_⟩
  · unfold Ris
    rw [List.pairwise_append]
    refine ⟨h.1, by simp, fun a ha b hb => ?_⟩
    rw [List.mem_singleton.1 hb]
    rcases (h.2.2 a).1 ha with ⟨h3, _⟩ | ⟨_, h3, _⟩
    · exact h2 a h3
    · cases h3
  · rw [List.mem_append, h.2.2 p, List.mem_singleton]
    constructor
    · rintro ((h3 | ⟨_, h3, _⟩) | h3)
      · exact .inl h3
      · cases h3
      · exact .inr ⟨h1, rfl, h3⟩
    · rintro (h3 | ⟨_, _, h3⟩)
      · exact .inl (.inl h3)
      · exact .inr h3
theorem passed_keep [Std.IsLinearOrder α] [Std.LawfulOrderLT α] {L : List (α × α)} {kind : Int} {k v : α} {put : Bool} {M : List (α × α)} {x : α × α} (h : Passed L kind k v put M) (hL : ∀ p, p ∈ L → p.1 < x.1) (hx : ¬ Named kind k v x.1) (h0 : put = false → x.1 < k) (h1 : put = true → kind = 1 → k ≤ x.1) : Passed (L ++ [x]) kind k v put (M ++ [x]) := by
  refine ⟨?_, fun hp => ⟨(h.2.1 hp).1, fun p hm => ?_⟩, fun p => ?_⟩
  · unfold Ris
    rw [List.pairwise_append]
    refine ⟨h.1, by simp, fun a ha b hb => ?_⟩
    rw [List.mem_singleton.1 hb]
    rcases (h.2.2 a).1 ha with ⟨h3, _⟩ | ⟨h3, h4, h5⟩
    · exact hL a h3
    · have h6 := h1 h4 h3
      unfold Named at hx
      rw [if_neg (by omega)] at hx
      rw [h5]
      show k < x.1
      grind
  · rcases List.mem_append.1 hm with hm | hm
    · exact (h.2.1 hp).2 p hm
    · rw [List.mem_singleton.1 hm]; exact h0 hp
  · rw [List.mem_append, h.2.2 p, List.mem_append, List.mem_singleton]
    constructor
    · rintro ((⟨a, b⟩ | a) | rfl)
      · exact .inl ⟨.inl a, b⟩
      · exact .inr a
      · exact .inl ⟨.inr rfl, hx⟩
    · rintro (⟨a | rfl, b⟩ | a)
      · exact .inl (.inl ⟨a, b⟩)
      · exact .inr rfl
      · exact .inl (.inr a)
theorem passed_skip {L : List (α × α)} {kind : Int} {k v : α} {put : Bool} {M : List (α × α)} {x : α × α} (h : Passed L kind k v put M) (hx : Named kind k v x.1) (h0 : put = false → x.1 < k) : Passed (L ++ [x]) kind k v put M := by
  refine ⟨h.1, fun hp => ⟨(h.2.1 hp).1, fun p hm => ?_⟩, fun p => ?_⟩
  · rcases List.mem_append.1 hm with hm | hm
    · exact (h.2.1 hp).2 p hm
    · rw [List.mem_singleton.1 hm]; exact h0 hp
  · rw [h.2.2 p, List.mem_append, List.mem_singleton]
    constructor
    · rintro (⟨a, b⟩ | a)
      · exact .inl ⟨.inl a, b⟩
      · exact .inr a
    · rintro (⟨a | rfl, b⟩ | a)
      · exact .inl ⟨a, b⟩
      · exact absurd hx b
      · exact .inr a
end
end Go.Proofs.Ytblljpdlmllceaa
/-
  The document's Span and Has as its One meets them.
-/
namespace Go.Proofs.Ytblljpdlmllceaa
open Go.RowKit
set_option linter.unusedVariables false
set_option linter.unusedSimpArgs false
set_option maxHeartbeats 400000 in
theorem rhas_c (s : ByteArray × ByteArray) (k : ByteArray) (c : Bool) (hc : c = true ↔ InS s k) (w : World) : Calls Try.prog 28 #[.agg #[.string s.1, .string s.2], .string k] w fun e w' => e = .returned (.bool c) ∧ Later w w' := by
  have hin : InS s k ↔ s.1 ≤ k ∧ k < s.2 := Iff.rfl
  rw [hin] at hc
  clear hin
  by_cases h : k < s.1
  · obtain rfl : c = false := by rw [Bool.eq_false_iff]; intro h2; have := (hc.1 h2).1; grind
    have h1 : Op.bytesLess k.toList s.1.toList = true := by rw [bl]; simpa
    clear h hc
    go_enter Try.func28, Try.ntmps28
    go_wp2
    go_ret
    exact ⟨rfl, (Below.refl _ _).alloc (Nat.le_refl _) _⟩
  · have h1 : Op.bytesLess k.toList s.1.toList = false := by rw [bl]; simpa
    by_cases h2 : k < s.2
    · obtain rfl : c = true := hc.2 ⟨by grind, h2⟩
      have h3 : Op.bytesLess k.toList s.2.toList = true := by rw [bl]; simpa
      clear h h2 hc
      go_enter Try.func28, Try.ntmps28
      go_wp2
      go_ret
      exact ⟨rfl, (Below.refl _ _).alloc (Nat.le_refl _) _⟩
    · obtain rfl : c = false := by rw [Bool.eq_false_iff]; intro h3; exact h2 (hc.1 h3).2
      have h3 : Op.bytesLess k.toList s.2.toList = false := by rw [bl]; simpa
      clear h h2 hc
      go_enter Try.func28, Try.ntmps28
      go_wp2
      go_ret
      exact ⟨rfl, (Below.refl _ _).alloc (Nat.le_refl _) _⟩
/-- The span that a change names. -/
def spanC (kind : Int) (k v : ByteArray) : ByteArray × ByteArray := if kind = 3 then (k, v) else (k, k ++ ⟨#[0]⟩)
set_option maxHeartbeats 400000 in
theorem rspan_any (kind : Int) (k v : ByteArray) (hs : k.size ≤ 4611686018427387904) (w : World) : Calls Try.prog 17 #[.agg #[.int .i64 kind, .string k, .string v]] w fun e w' => e = .returned (.agg #[.string (spanC kind k v).1, .string (spanC kind k v).2]) ∧ Later w w' := by
  by_cases h : kind = 3
  · subst h
    go_enter Try.func17, Try.ntmps17
    go_wp2
    go_returns
    exact ⟨rfl, ((Below.refl _ _).alloc (Nat.le_refl _) _).alloc (by simp) _⟩
  · have h' : ¬ (3 : Int) = kind := fun e => h e.symm
    have e1 : spanC kind k v = (k, k ++ ⟨#[0]⟩) := by unfold spanC; rw [if_neg h]
    rw [e1]
    have hcat : ∀ W, (Op.stringOp .add k ⟨#[0]⟩).run Try.prog W = .ok (.string (k ++ ⟨#[0]⟩)) W := fun W => run_string_add_sum W k ⟨#[0]⟩ (by show k.size + 1 ≤ 9223372036854775807; omega)
    clear hs
    go_enter Try.func17, Try.ntmps17
    go_wp2
    go_returns
    exact ⟨rfl, ((Below.refl _ _).alloc (Nat.le_refl _) _).alloc (by simp) _⟩
end Go.Proofs.Ytblljpdlmllceaa
/-
  Has at the span that a change names.
-/
namespace Go.Proofs.Ytblljpdlmllceaa
open Go.RowKit
set_option linter.unusedVariables false
set_option linter.unusedSimpArgs false
theorem lt_snoc0 (l : List UInt8) : l < l ++ [0] := by
  induction l with
  | nil => exact List.nil_lt_cons _ _
  | cons a l ih => rw [List.cons_append, List.cons_lt_cons_iff]; exact .inr ⟨rfl, ih⟩
theorem no_between : ∀ (l m : List UInt8), l < m → ¬ m < l ++ [0]
  | [], [], h => by simp at h
  | [], b :: m, _ => by
    rw [List.nil_append, List.cons_lt_cons_iff]
    rintro (h | ⟨_, h⟩)
    · have := UInt8.toNat_lt b; simp [UInt8.lt_iff_toNat_lt] at h
    · simp at h
  | a :: l, [], h => by simp at h
  | a :: l, b :: m, h => by
    rw [List.cons_append, List.cons_lt_cons_iff]
    rw [List.cons_lt_cons_iff] at h
    rintro (h2 | ⟨rfl, h2⟩)
    · rcases h with h | ⟨rfl, _⟩
      · rw [UInt8.lt_iff_toNat_lt] at h h2; omega
      · rw [UInt8.lt_iff_toNat_lt] at h2; omega
    · rcases h with h | ⟨_, h⟩
      · rw [UInt8.lt_iff_toNat_lt] at h; omega
      · exact no_between l m h h2
theorem next_lt (s : ByteArray) : s < s ++ ⟨#[0]⟩ := by
  show s.data.toList < (s ++ ⟨#[0]⟩ : ByteArray).data.toList
  rw [ByteArray.toList_data_append]; exact lt_snoc0 _
theorem next_gap (s o : ByteArray) (h : s < o) : s ++ ⟨#[0]⟩ ≤ o := by
  have h1 : ¬ o < s ++ ⟨#[0]⟩ := by
    show ¬ o.data.toList < (s ++ ⟨#[0]⟩ : ByteArray).data.toList
    rw [ByteArray.toList_data_append]; exact no_between _ _ h
  grind
theorem named_has {kind : Int} (k v x : ByteArray) : InS (spanC kind k v) x ↔ Named kind k v x := by
  unfold InS spanC Named
  by_cases h : kind = 3
  · simp only [h, if_true]
  · simp only [h, if_false]
    have h1 := next_lt k
    constructor
    · rintro ⟨a, b⟩
      by_cases h2 : k < x
      · have := next_gap k x h2; grind
      · grind
    · rintro rfl
      exact ⟨by grind, h1⟩
end Go.Proofs.Ytblljpdlmllceaa
/-
  The document's One.
-/
namespace Go.Proofs.Ytblljpdlmllceaa
open Go.RowKit
set_option linter.unusedVariables false
set_option linter.unusedSimpArgs false
set_option maxHeartbeats 4000000 in
theorem rone_any {w : World} {A : Option Addr} {n c : Nat} {L : List Pr} (kind : Int) (k v : ByteArray) (hks : k.size ≤ 4611686018427387904) (hr : Rd w 2 A n (prow L)) (hl : L.length = n) (hL : Ris L) (hn : n ≤ 2199023255552) :
    Calls Try.prog 37 #[.slice A n c, .agg #[.int .i64 kind, .string k, .string v]] w (OnePost w.heap.size n L kind k v w) := by
  obtain ⟨W0, hW0⟩ : ∃ W0, W0 = w.alloc (.cells #[.int .i64 kind, .string k, .string v] 32) := ⟨_, rfl⟩
  have hbx : W0.heap[w.heap.size]? = some (.cells #[.int .i64 kind, .string k, .string v] 32 (0, 0)) := by rw [hW0]; exact heap_alloc_new w _
  have HB0 := hide_ (show Later w W0 by rw [hW0]; exact (Below.refl _ _).alloc (Nat.le_refl _) _)
  have HZ0 := hide_ (show W0.heap.size = w.heap.size + 1 by rw [hW0]; simp)
  have HR := hide_ (show Rd W0 2 A n (prow L) by rw [hW0]; exact hr.alloc _)
  have HO0 := hide_ (own_new W0 #[] 55 2 0 W0.heap.size rfl (Nat.zero_le _) (Nat.le_refl _))
  have HL := hide_ hl; have HRI := hide_ hL; have HBX := hide_ hbx
  have hz0 := HZ0.out
  have HW := hide_ hW0.symm
  have hn2 : (n : Int) ≤ 4398046511104 := by omega
  have c0 := fun ob => cell_stay (cell_of_row _ _ 0 _ _ (0, 0) hbx) ob
  clear hr hl hL hbx hW0
  go_enter Try.func37, Try.ntmps37
  go_wp2_with (rw [HW.out])
  obtain ⟨W1, hW1⟩ : ∃ W1, W1 = W0.alloc (.cells #[] 55) := ⟨_, rfl⟩
  rw [← hW1] at HO0 ⊢
  have HB1 := hide_ (show Later W0 W1 by rw [hW1]; exact (Below.refl _ _).alloc (Nat.le_refl _) _)
  clear c0 hW1
  go_loopw [5, 6, 7] (fun s5 s6 s7 wr => ∃ (i m : Nat) (put : Bool) (M : List Pr), i ≤ n ∧ s6 = .bool put ∧ s7 = .int .i64 i ∧ Hid (M.length = m) ∧ Hid (m ≤ i + (if put then 1 else 0)) ∧ Hid (Passed (L.take i) kind k v put M) ∧ Hid (put = true → kind = 1 → ∀ p, p ∈ L.drop i → k ≤ p.1) ∧ Hid (wr.ownsRow W0.heap.size 55 2 s5 m (prow M)) ∧ Hid (Later W0 wr)) (fun _ _ i _ => n - (intOf i).toNat)
  case atStart => exact ⟨0, 0, kind != 1, [], Nat.zero_le _, rfl, rfl, hide_ rfl, hide_ (by omega), hide_ (passed_nil kind k v _ (by simp)), hide_ (fun h1 h2 => by simp [h2] at h1), hide_ (by have h := HO0.out; rwa [show (some ⟨W0.heap.size, 0, none⟩ : Option Addr) = some ⟨w.heap.size + 1, 0, none⟩ from by rw [HZ0.out]] at h), HB1⟩
  case round =>
    obtain ⟨i, m, put, M, hin, rfl, rfl, HM, HMI, HP, HG, HO, HB⟩ := hrel
    obtain ⟨A4, c4, rfl⟩ := own_form HO.out
    by_cases hlt : i < n
    · obtain ⟨x, hx⟩ : ∃ x, L[i]? = some x := ⟨_, List.getElem?_eq_getElem (by rw [HL.out]; exact hlt)⟩
      obtain ⟨b, o, rfl, k0, k1⟩ := HR.out.pair hx
      have q1 : (i : Int) < (n : Int) := by omega
      have q2 : (0 : Int) ≤ (i : Int) := by omega
      have q3 : (i : Int) ≤ 4398046511104 := by omega
      have HT := hide_ (take_snoc hx)
      have hri := HRI.out
      rw [at_split hx] at hri
      have HLT := hide_ (ris_mid hri).1
      have HGT := hide_ (ris_mid hri).2.1
      have HXM := hide_ (show x ∈ L.drop i from List.mem_of_getElem? (i := 0) (by rw [List.getElem?_drop]; exact hx))
      clear hx hri
      obtain ⟨wd, hwd⟩ : ∃ wd, wr.drew = wd := ⟨_, rfl⟩
      have HWD := hide_ hwd
      have HBd := hide_ (show Later W0 wd by rw [← hwd]; exact HB.out.drew)
      have HOd := hide_ (show wd.ownsRow W0.heap.size 55 2 (.slice A4 m c4) m (prow M) by rw [← hwd]; exact own_below HO.out (Below.refl _ _).drew)
      clear hwd
      have l0 := (HB.out.cell (cell_lt k0)).trans k0
      have l1 := (HB.out.cell (cell_lt k1)).trans k1
      have d0 : wr.cell? ⟨w.heap.size, 0, none⟩ = some (.int .i64 kind) := cell_of_row _ _ 0 _ _ (0, 0) ((HB.out.block _ (by have := HZ0.out; omega)).trans HBX.out)
      have d1 : wr.cell? ⟨w.heap.size, 1, none⟩ = some (.string k) := cell_of_row _ _ 1 _ _ (0, 0) ((HB.out.block _ (by have := HZ0.out; omega)).trans HBX.out)
      have d2 : wr.cell? ⟨w.heap.size, 2, none⟩ = some (.string v) := cell_of_row _ _ 2 _ _ (0, 0) ((HB.out.block _ (by have := HZ0.out; omega)).trans HBX.out)
      cases put with
      | true =>
        have hmi : m ≤ i + 1 := by simpa using HMI.out
        have HG1 := hide_ (HG.out rfl)
        have e0 := (HBd.out.cell (cell_lt k0)).trans k0
        have e1 := (HBd.out.cell (cell_lt k1)).trans k1
        have f0 : wd.cell? ⟨w.heap.size, 0, none⟩ = some (.int .i64 kind) := cell_of_row _ _ 0 _ _ (0, 0) ((HBd.out.block _ (by have := HZ0.out; omega)).trans HBX.out)
        have f1 : wd.cell? ⟨w.heap.size, 1, none⟩ = some (.string k) := cell_of_row _ _ 1 _ _ (0, 0) ((HBd.out.block _ (by have := HZ0.out; omega)).trans HBX.out)
        have f2 : wd.cell? ⟨w.heap.size, 2, none⟩ = some (.string v) := cell_of_row _ _ 2 _ _ (0, 0) ((HBd.out.block _ (by have := HZ0.out; omega)).trans HBX.out)
        have lc0 := later_drew_cell e0
        have lc1 := later_drew_cell e1
        have ld0 := later_drew_cell f0
        have ld1 := later_drew_cell f1
        have ld2 := later_drew_cell f2
        by_cases hnm : Named kind k v x.1
        · have hsp := hide_ (fun W => rspan_any kind k v hks W)
          have hhas := hide_ (fun W => rhas_c (spanC kind k v) x.1 true (by simp [named_has, hnm]) W)
          have HP2 := hide_ (passed_skip HP.out hnm (fun h => by cases h))
          clear hnm
          go_wp2_with fail
          refine wp_region_k (by kernel_rfl) ?_
          refine wpAnyK_take 0 (v := ?_) rfl (by kernel_rfl) (by kernel_rfl) (by kernel_rfl) (fun _ _ _ h => h) (by rfl) (by intro W hSw; go_simp; with_reducible rfl) ?_; try simp only [Act.put, List.setIfInBounds_toArray, List.set_cons_zero, List.set_cons_succ]
          refine wpAnyK_take 1 (v := ?_) rfl (by kernel_rfl) (by kernel_rfl) (by kernel_rfl) (fun _ _ _ h => h) (by rfl) (by intro W hSw; go_simp; with_reducible rfl) ?_; try simp only [Act.put, List.setIfInBounds_toArray, List.set_cons_zero, List.set_cons_succ]
          refine wpAnyK_take 2 (v := ?_) rfl (by kernel_rfl) (by kernel_rfl) (by kernel_rfl) (fun _ _ _ h => h) (by rfl) (by intro W hSw; go_simp; with_reducible rfl) ?_; try simp only [Act.put, List.setIfInBounds_toArray, List.set_cons_zero, List.set_cons_succ]
          refine wpAnyK_skip 3 rfl (by kernel_rfl) (by kernel_rfl) (by kernel_rfl) (fun _ _ _ h => h) (by rfl) ?_; try simp only [Act.put, List.setIfInBounds_toArray, List.set_cons_zero, List.set_cons_succ]
          refine wpAnyK_skip 4 rfl (by kernel_rfl) (by kernel_rfl) (by kernel_rfl) (fun _ _ _ h => h) (by rfl) ?_; try simp only [Act.put, List.setIfInBounds_toArray, List.set_cons_zero, List.set_cons_succ]
          refine wpAnyK_skip 5 rfl (by kernel_rfl) (by kernel_rfl) (by kernel_rfl) (fun _ _ _ h => h) (by rfl) ?_; try simp only [Act.put, List.setIfInBounds_toArray, List.set_cons_zero, List.set_cons_succ]
          refine wpAnyK_skip 6 rfl (by kernel_rfl) (by kernel_rfl) (by kernel_rfl) (fun _ _ _ h => h) (by rfl) ?_; try simp only [Act.put, List.setIfInBounds_toArray, List.set_cons_zero, List.set_cons_succ]
          refine wpAnyK_skip 7 rfl (by kernel_rfl) (by kernel_rfl) (by kernel_rfl) (fun _ _ _ h => h) (by rfl) ?_; try simp only [Act.put, List.setIfInBounds_toArray, List.set_cons_zero, List.set_cons_succ]
          refine wpAnyK_skip 8 rfl (by kernel_rfl) (by kernel_rfl) (by kernel_rfl) (fun _ _ _ h => h) (by rfl) ?_; try simp only [Act.put, List.setIfInBounds_toArray, List.set_cons_zero, List.set_cons_succ]
          refine wpAnyK_skip 9 rfl (by kernel_rfl) (by kernel_rfl) (by kernel_rfl) (fun _ _ _ h => h) (by rfl) ?_; try simp only [Act.put, List.setIfInBounds_toArray, List.set_cons_zero, List.set_cons_succ]
          refine wpAnyK_skip 10 rfl (by kernel_rfl) (by kernel_rfl) (by kernel_rfl) (fun _ _ _ h => h) (by rfl) ?_; try simp only [Act.put, List.setIfInBounds_toArray, List.set_cons_zero, List.set_cons_succ]
          refine wpAnyK_take 11 (v := ?_) rfl (by kernel_rfl) (by kernel_rfl) (by kernel_rfl) (fun _ _ _ h => h) (by rfl) (by intro W hSw; go_simp; with_reducible rfl) ?_; try simp only [Act.put, List.setIfInBounds_toArray, List.set_cons_zero, List.set_cons_succ]
          refine wpAnyK_done (by kernel_rfl) ?_ _
          go_wp2_with (rw [HWD.out])
          refine wp_region_k (by kernel_rfl) ?_
          refine wpAnyK_take 0 (v := ?_) rfl (by kernel_rfl) (by kernel_rfl) (by kernel_rfl) (fun _ _ _ h => h) (by rfl) (by intro W hSw; go_simp; with_reducible rfl) ?_; try simp only [Act.put, List.setIfInBounds_toArray, List.set_cons_zero, List.set_cons_succ]
          refine wpAnyK_take 2 (v := ?_) rfl (by kernel_rfl) (by kernel_rfl) (by kernel_rfl) (fun _ _ _ h => h) (by rfl) (by intro W hSw; go_simp; with_reducible rfl) ?_; try simp only [Act.put, List.setIfInBounds_toArray, List.set_cons_zero, List.set_cons_succ]
          refine wpAnyK_take 3 (v := ?_) rfl (by kernel_rfl) (by kernel_rfl) (by kernel_rfl) (fun _ _ _ h => h) (by rfl) (by intro W hSw; go_simp; with_reducible rfl) ?_; try simp only [Act.put, List.setIfInBounds_toArray, List.set_cons_zero, List.set_cons_succ]
          refine wpAnyK_take 4 (v := ?_) rfl (by kernel_rfl) (by kernel_rfl) (by kernel_rfl) (fun _ _ _ h => h) (by rfl) (by intro W hSw; go_simp; with_reducible rfl) ?_; try simp only [Act.put, List.setIfInBounds_toArray, List.set_cons_zero, List.set_cons_succ]
          refine wpAnyK_take 5 (v := ?_) rfl (by kernel_rfl) (by kernel_rfl) (by kernel_rfl) (fun _ _ _ h => h) (by rfl) (by intro W hSw; go_simp; with_reducible rfl) ?_; try simp only [Act.put, List.setIfInBounds_toArray, List.set_cons_zero, List.set_cons_succ]
          refine wpAnyK_take 6 (v := ?_) rfl (by kernel_rfl) (by kernel_rfl) (by kernel_rfl) (fun _ _ _ h => h) (by rfl) (by intro W hSw; go_simp; with_reducible rfl) ?_; try simp only [Act.put, List.setIfInBounds_toArray, List.set_cons_zero, List.set_cons_succ]
          refine wpAnyK_one 1 (by kernel_rfl) rfl (fun K hK => ?_)
          go_simp
          refine (hsp.out _).mono ?_; rintro e w5 ⟨rfl, hb5⟩
          refine hK.out _ _ (by assumption) ?_
          clear hK K; try simp only [Act.put, List.setIfInBounds_toArray, List.set_cons_zero, List.set_cons_succ]
          refine wpAnyK_one 7 (by kernel_rfl) rfl (fun K hK => ?_)
          go_simp
          refine (hhas.out _).mono ?_; rintro e w6 ⟨rfl, hb6⟩
          refine hK.out _ _ (by assumption) ?_
          clear hK K; try simp only [Act.put, List.setIfInBounds_toArray, List.set_cons_zero, List.set_cons_succ]
          refine wpAnyK_take 8 (v := ?_) rfl (by kernel_rfl) (by kernel_rfl) (by kernel_rfl) (fun _ _ _ h => h) (by rfl) (by intro W hSw; go_simp; with_reducible rfl) ?_; try simp only [Act.put, List.setIfInBounds_toArray, List.set_cons_zero, List.set_cons_succ]
          refine wpAnyK_done (by kernel_rfl) ?_ _
          have HB6 := hide_ (show Later wd w6 from (Later.refl wd).drew.trans (hb5.trans hb6))
          clear hb5 hb6
          go_wp2_with fail
          go_roundw
          case rel => exact ⟨i + 1, m, true, M, by omega, rfl, by go_num, HM, hide_ (by have := hmi; simp; omega), hide_ (by rw [HT.out]; exact HP2.out), hide_ (fun _ h2 p hp => HG1.out h2 p (List.drop_subset_drop_left L (Nat.le_succ i) hp)), hide_ (own_below HOd.out HB6.out), hide_ (HBd.out.trans HB6.out)⟩
          case measure => simp [intOf]; omega
        · have hsp := hide_ (fun W => rspan_any kind k v hks W)
          have hhas := hide_ (fun W => rhas_c (spanC kind k v) x.1 false (by simp [named_has, hnm]) W)
          have HP2 := hide_ (passed_keep HP.out HLT.out hnm (fun h => by cases h) (fun _ h2 => HG1.out h2 x HXM.out))
          clear hnm
          go_wp2_with fail
          refine wp_region_k (by kernel_rfl) ?_
          refine wpAnyK_take 0 (v := ?_) rfl (by kernel_rfl) (by kernel_rfl) (by kernel_rfl) (fun _ _ _ h => h) (by rfl) (by intro W hSw; go_simp; with_reducible rfl) ?_; try simp only [Act.put, List.setIfInBounds_toArray, List.set_cons_zero, List.set_cons_succ]
          refine wpAnyK_take 1 (v := ?_) rfl (by kernel_rfl) (by kernel_rfl) (by kernel_rfl) (fun _ _ _ h => h) (by rfl) (by intro W hSw; go_simp; with_reducible rfl) ?_; try simp only [Act.put, List.setIfInBounds_toArray, List.set_cons_zero, List.set_cons_succ]
          refine wpAnyK_take 2 (v := ?_) rfl (by kernel_rfl) (by kernel_rfl) (by kernel_rfl) (fun _ _ _ h => h) (by rfl) (by intro W hSw; go_simp; with_reducible rfl) ?_; try simp only [Act.put, List.setIfInBounds_toArray, List.set_cons_zero, List.set_cons_succ]
          refine wpAnyK_skip 3 rfl (by kernel_rfl) (by kernel_rfl) (by kernel_rfl) (fun _ _ _ h => h) (by rfl) ?_; try simp only [Act.put, List.setIfInBounds_toArray, List.set_cons_zero, List.set_cons_succ]
          refine wpAnyK_skip 4 rfl (by kernel_rfl) (by kernel_rfl) (by kernel_rfl) (fun _ _ _ h => h) (by rfl) ?_; try simp only [Act.put, List.setIfInBounds_toArray, List.set_cons_zero, List.set_cons_succ]
          refine wpAnyK_skip 5 rfl (by kernel_rfl) (by kernel_rfl) (by kernel_rfl) (fun _ _ _ h => h) (by rfl) ?_; try simp only [Act.put, List.setIfInBounds_toArray, List.set_cons_zero, List.set_cons_succ]
          refine wpAnyK_skip 6 rfl (by kernel_rfl) (by kernel_rfl) (by kernel_rfl) (fun _ _ _ h => h) (by rfl) ?_; try simp only [Act.put, List.setIfInBounds_toArray, List.set_cons_zero, List.set_cons_succ]
          refine wpAnyK_skip 7 rfl (by kernel_rfl) (by kernel_rfl) (by kernel_rfl) (fun _ _ _ h => h) (by rfl) ?_; try simp only [Act.put, List.setIfInBounds_toArray, List.set_cons_zero, List.set_cons_succ]
          refine wpAnyK_skip 8 rfl (by kernel_rfl) (by kernel_rfl) (by kernel_rfl) (fun _ _ _ h => h) (by rfl) ?_; try simp only [Act.put, List.setIfInBounds_toArray, List.set_cons_zero, List.set_cons_succ]
          refine wpAnyK_skip 9 rfl (by kernel_rfl) (by kernel_rfl) (by kernel_rfl) (fun _ _ _ h => h) (by rfl) ?_; try simp only [Act.put, List.setIfInBounds_toArray, List.set_cons_zero, List.set_cons_succ]
          refine wpAnyK_skip 10 rfl (by kernel_rfl) (by kernel_rfl) (by kernel_rfl) (fun _ _ _ h => h) (by rfl) ?_; try simp only [Act.put, List.setIfInBounds_toArray, List.set_cons_zero, List.set_cons_succ]
          refine wpAnyK_take 11 (v := ?_) rfl (by kernel_rfl) (by kernel_rfl) (by kernel_rfl) (fun _ _ _ h => h) (by rfl) (by intro W hSw; go_simp; with_reducible rfl) ?_; try simp only [Act.put, List.setIfInBounds_toArray, List.set_cons_zero, List.set_cons_succ]
          refine wpAnyK_done (by kernel_rfl) ?_ _
          go_wp2_with (rw [HWD.out])
          refine wp_region_k (by kernel_rfl) ?_
          refine wpAnyK_take 0 (v := ?_) rfl (by kernel_rfl) (by kernel_rfl) (by kernel_rfl) (fun _ _ _ h => h) (by rfl) (by intro W hSw; go_simp; with_reducible rfl) ?_; try simp only [Act.put, List.setIfInBounds_toArray, List.set_cons_zero, List.set_cons_succ]
          refine wpAnyK_take 2 (v := ?_) rfl (by kernel_rfl) (by kernel_rfl) (by kernel_rfl) (fun _ _ _ h => h) (by rfl) (by intro W hSw; go_simp; with_reducible rfl) ?_; try simp only [Act.put, List.setIfInBounds_toArray, List.set_cons_zero, List.set_cons_succ]
          refine wpAnyK_take 3 (v := ?_) rfl (by kernel_rfl) (by kernel_rfl) (by kernel_rfl) (fun _ _ _ h => h) (by rfl) (by intro W hSw; go_simp; with_reducible rfl) ?_; try simp only [Act.put, List.setIfInBounds_toArray, List.set_cons_zero, List.set_cons_succ]
          refine wpAnyK_take 4 (v := ?_) rfl (by kernel_rfl) (by kernel_rfl) (by kernel_rfl) (fun _ _ _ h => h) (by rfl) (by intro W hSw; go_simp; with_reducible rfl) ?_; try simp only [Act.put, List.setIfInBounds_toArray, List.set_cons_zero, List.set_cons_succ]
          refine wpAnyK_take 5 (v := ?_) rfl (by kernel_rfl) (by kernel_rfl) (by kernel_rfl) (fun _ _ _ h => h) (by rfl) (by intro W hSw; go_simp; with_reducible rfl) ?_; try simp only [Act.put, List.setIfInBounds_toArray, List.set_cons_zero, List.set_cons_succ]
          refine wpAnyK_take 6 (v := ?_) rfl (by kernel_rfl) (by kernel_rfl) (by kernel_rfl) (fun _ _ _ h => h) (by rfl) (by intro W hSw; go_simp; with_reducible rfl) ?_; try simp only [Act.put, List.setIfInBounds_toArray, List.set_cons_zero, List.set_cons_succ]
          refine wpAnyK_one 1 (by kernel_rfl) rfl (fun K hK => ?_)
          go_simp
          refine (hsp.out _).mono ?_; rintro e w5 ⟨rfl, hb5⟩
          refine hK.out _ _ (by assumption) ?_
          clear hK K; try simp only [Act.put, List.setIfInBounds_toArray, List.set_cons_zero, List.set_cons_succ]
          refine wpAnyK_one 7 (by kernel_rfl) rfl (fun K hK => ?_)
          go_simp
          refine (hhas.out _).mono ?_; rintro e w6 ⟨rfl, hb6⟩
          refine hK.out _ _ (by assumption) ?_
          clear hK K; try simp only [Act.put, List.setIfInBounds_toArray, List.set_cons_zero, List.set_cons_succ]
          refine wpAnyK_take 8 (v := ?_) rfl (by kernel_rfl) (by kernel_rfl) (by kernel_rfl) (fun _ _ _ h => h) (by rfl) (by intro W hSw; go_simp; with_reducible rfl) ?_; try simp only [Act.put, List.setIfInBounds_toArray, List.set_cons_zero, List.set_cons_succ]
          refine wpAnyK_done (by kernel_rfl) ?_ _
          have HB6 := hide_ (show Later wd w6 from (Later.refl wd).drew.trans (hb5.trans hb6))
          clear hb5 hb6
          have HO6 := hide_ (own_below HOd.out HB6.out)
          have HBA := hide_ (HBd.out.trans HB6.out)
          have g0 := (HBA.out.cell (cell_lt k0)).trans k0
          have g1 := (HBA.out.cell (cell_lt k1)).trans k1
          go_wp2_with (at_builtin; (refine wpList_append_rd _ rfl (.tmp 47) (.tmp 52) 22 rfl W0.heap.size 55 2 32 pairT _ m (prow M) rfl (HO6.out.alloc _) _ 1 _ (encP x) rfl (Rd.newAt _ #[.string x.1, .string x.2] 55 1 2 _ (0, 0) rfl (by simp)) (encP_one x) (by omega) (by unfold maxLen; omega) (by have := HBA.out.size; simp; omega) (fun h => nomatch h) ?_; intro v9 w9 ho hg hat; obtain ⟨A9, c9, rfl⟩ := own_form ho; have HO9 := hide_ (show w9.ownsRow W0.heap.size 55 2 (.slice A9 (m + 1) c9) (m + 1) (prow (M ++ [x])) by simpa [prow] using ho); have HB9 := hide_ (own_grown (HBA.out.alloc HBA.out.size _) (HO6.out.alloc _) hg (by have := HBA.out.size; simp; omega)); clear ho hg hat))
          go_roundw
          case rel => exact ⟨i + 1, m + 1, true, M ++ [x], by omega, rfl, by go_num, hide_ (by rw [List.length_append, HM.out]; rfl), hide_ (by have := hmi; simp; omega), hide_ (by rw [HT.out]; exact HP2.out), hide_ (fun _ h2 p hp => HG1.out h2 p (List.drop_subset_drop_left L (Nat.le_succ i) hp)), HO9, HB9⟩
          case measure => simp [intOf]; omega
      | false =>
        have hmi : m ≤ i := by simpa using HMI.out
        have lr0 := later_drew_cell l0
        have lr1 := later_drew_cell l1
        have ls0 := later_drew_cell d0
        have ls1 := later_drew_cell d1
        have ls2 := later_drew_cell d2
        by_cases hxk : x.1 < k
        · have h1 : Op.bytesLess x.1.toList k.toList = true := by rw [bl]; simpa
          have HXK := hide_ hxk
          clear hxk
          have e0 := (HBd.out.cell (cell_lt k0)).trans k0
          have e1 := (HBd.out.cell (cell_lt k1)).trans k1
          have f0 : wd.cell? ⟨w.heap.size, 0, none⟩ = some (.int .i64 kind) := cell_of_row _ _ 0 _ _ (0, 0) ((HBd.out.block _ (by have := HZ0.out; omega)).trans HBX.out)
          have f1 : wd.cell? ⟨w.heap.size, 1, none⟩ = some (.string k) := cell_of_row _ _ 1 _ _ (0, 0) ((HBd.out.block _ (by have := HZ0.out; omega)).trans HBX.out)
          have f2 : wd.cell? ⟨w.heap.size, 2, none⟩ = some (.string v) := cell_of_row _ _ 2 _ _ (0, 0) ((HBd.out.block _ (by have := HZ0.out; omega)).trans HBX.out)
          have lc0 := later_drew_cell e0
          have lc1 := later_drew_cell e1
          have ld0 := later_drew_cell f0
          have ld1 := later_drew_cell f1
          have ld2 := later_drew_cell f2
          by_cases hnm : Named kind k v x.1
          · have hsp := hide_ (fun W => rspan_any kind k v hks W)
            have hhas := hide_ (fun W => rhas_c (spanC kind k v) x.1 true (by simp [named_has, hnm]) W)
            have HP2 := hide_ (passed_skip HP.out hnm (fun _ => HXK.out))
            clear hnm
            go_wp2_with fail
            refine wp_region_k (by kernel_rfl) ?_
            refine wpAnyK_take 0 (v := ?_) rfl (by kernel_rfl) (by kernel_rfl) (by kernel_rfl) (fun _ _ _ h => h) (by rfl) (by intro W hSw; go_simp; with_reducible rfl) ?_; try simp only [Act.put, List.setIfInBounds_toArray, List.set_cons_zero, List.set_cons_succ]
            refine wpAnyK_take 1 (v := ?_) rfl (by kernel_rfl) (by kernel_rfl) (by kernel_rfl) (fun _ _ _ h => h) (by rfl) (by intro W hSw; go_simp; with_reducible rfl) ?_; try simp only [Act.put, List.setIfInBounds_toArray, List.set_cons_zero, List.set_cons_succ]
            refine wpAnyK_take 2 (v := ?_) rfl (by kernel_rfl) (by kernel_rfl) (by kernel_rfl) (fun _ _ _ h => h) (by rfl) (by intro W hSw; go_simp; with_reducible rfl) ?_; try simp only [Act.put, List.setIfInBounds_toArray, List.set_cons_zero, List.set_cons_succ]
            refine wpAnyK_take 3 (v := ?_) rfl (by kernel_rfl) (by kernel_rfl) (by kernel_rfl) (fun _ _ _ h => h) (by rfl) (by intro W hSw; go_simp; with_reducible rfl) ?_; try simp only [Act.put, List.setIfInBounds_toArray, List.set_cons_zero, List.set_cons_succ]
            refine wpAnyK_take 4 (v := ?_) rfl (by kernel_rfl) (by kernel_rfl) (by kernel_rfl) (fun _ _ _ h => h) (by rfl) (by intro W hSw; go_simp; with_reducible rfl) ?_; try simp only [Act.put, List.setIfInBounds_toArray, List.set_cons_zero, List.set_cons_succ]
            refine wpAnyK_take 5 (v := ?_) rfl (by kernel_rfl) (by kernel_rfl) (by kernel_rfl) (fun _ _ _ h => h) (by rfl) (by intro W hSw; go_simp; with_reducible rfl) ?_; try simp only [Act.put, List.setIfInBounds_toArray, List.set_cons_zero, List.set_cons_succ]
            refine wpAnyK_take 6 (v := ?_) rfl (by kernel_rfl) (by kernel_rfl) (by kernel_rfl) (fun _ _ _ h => h) (by rfl) (by intro W hSw; go_simp; with_reducible rfl) ?_; try simp only [Act.put, List.setIfInBounds_toArray, List.set_cons_zero, List.set_cons_succ]
            refine wpAnyK_take 7 (v := ?_) rfl (by kernel_rfl) (by kernel_rfl) (by kernel_rfl) (fun _ _ _ h => h) (by rfl) (by intro W hSw; go_simp; with_reducible rfl) ?_; try simp only [Act.put, List.setIfInBounds_toArray, List.set_cons_zero, List.set_cons_succ]
            refine wpAnyK_take 8 (v := ?_) rfl (by kernel_rfl) (by kernel_rfl) (by kernel_rfl) (fun _ _ _ h => h) (by rfl) (by intro W hSw; go_simp; with_reducible rfl) ?_; try simp only [Act.put, List.setIfInBounds_toArray, List.set_cons_zero, List.set_cons_succ]
            refine wpAnyK_take 9 (v := ?_) rfl (by kernel_rfl) (by kernel_rfl) (by kernel_rfl) (fun _ _ _ h => h) (by rfl) (by intro W hSw; go_simp; with_reducible rfl) ?_; try simp only [Act.put, List.setIfInBounds_toArray, List.set_cons_zero, List.set_cons_succ]
            refine wpAnyK_take 10 (v := ?_) rfl (by kernel_rfl) (by kernel_rfl) (by kernel_rfl) (fun _ _ _ h => h) (by rfl) (by intro W hSw; go_simp; with_reducible rfl) ?_; try simp only [Act.put, List.setIfInBounds_toArray, List.set_cons_zero, List.set_cons_succ]
            refine wpAnyK_take 11 (v := ?_) rfl (by kernel_rfl) (by kernel_rfl) (by kernel_rfl) (fun _ _ _ h => h) (by rfl) (by intro W hSw; go_simp; with_reducible rfl) ?_; try simp only [Act.put, List.setIfInBounds_toArray, List.set_cons_zero, List.set_cons_succ]
            refine wpAnyK_done (by kernel_rfl) ?_ _
            go_wp2_with (rw [HWD.out])
            refine wp_region_k (by kernel_rfl) ?_
            refine wpAnyK_take 0 (v := ?_) rfl (by kernel_rfl) (by kernel_rfl) (by kernel_rfl) (fun _ _ _ h => h) (by rfl) (by intro W hSw; go_simp; with_reducible rfl) ?_; try simp only [Act.put, List.setIfInBounds_toArray, List.set_cons_zero, List.set_cons_succ]
            refine wpAnyK_take 2 (v := ?_) rfl (by kernel_rfl) (by kernel_rfl) (by kernel_rfl) (fun _ _ _ h => h) (by rfl) (by intro W hSw; go_simp; with_reducible rfl) ?_; try simp only [Act.put, List.setIfInBounds_toArray, List.set_cons_zero, List.set_cons_succ]
            refine wpAnyK_take 3 (v := ?_) rfl (by kernel_rfl) (by kernel_rfl) (by kernel_rfl) (fun _ _ _ h => h) (by rfl) (by intro W hSw; go_simp; with_reducible rfl) ?_; try simp only [Act.put, List.setIfInBounds_toArray, List.set_cons_zero, List.set_cons_succ]
            refine wpAnyK_take 4 (v := ?_) rfl (by kernel_rfl) (by kernel_rfl) (by kernel_rfl) (fun _ _ _ h => h) (by rfl) (by intro W hSw; go_simp; with_reducible rfl) ?_; try simp only [Act.put, List.setIfInBounds_toArray, List.set_cons_zero, List.set_cons_succ]
            refine wpAnyK_take 5 (v := ?_) rfl (by kernel_rfl) (by kernel_rfl) (by kernel_rfl) (fun _ _ _ h => h) (by rfl) (by intro W hSw; go_simp; with_reducible rfl) ?_; try simp only [Act.put, List.setIfInBounds_toArray, List.set_cons_zero, List.set_cons_succ]
            refine wpAnyK_take 6 (v := ?_) rfl (by kernel_rfl) (by kernel_rfl) (by kernel_rfl) (fun _ _ _ h => h) (by rfl) (by intro W hSw; go_simp; with_reducible rfl) ?_; try simp only [Act.put, List.setIfInBounds_toArray, List.set_cons_zero, List.set_cons_succ]
            refine wpAnyK_one 1 (by kernel_rfl) rfl (fun K hK => ?_)
            go_simp
            refine (hsp.out _).mono ?_; rintro e w5 ⟨rfl, hb5⟩
            refine hK.out _ _ (by assumption) ?_
            clear hK K; try simp only [Act.put, List.setIfInBounds_toArray, List.set_cons_zero, List.set_cons_succ]
            refine wpAnyK_one 7 (by kernel_rfl) rfl (fun K hK => ?_)
            go_simp
            refine (hhas.out _).mono ?_; rintro e w6 ⟨rfl, hb6⟩
            refine hK.out _ _ (by assumption) ?_
            clear hK K; try simp only [Act.put, List.setIfInBounds_toArray, List.set_cons_zero, List.set_cons_succ]
            refine wpAnyK_take 8 (v := ?_) rfl (by kernel_rfl) (by kernel_rfl) (by kernel_rfl) (fun _ _ _ h => h) (by rfl) (by intro W hSw; go_simp; with_reducible rfl) ?_; try simp only [Act.put, List.setIfInBounds_toArray, List.set_cons_zero, List.set_cons_succ]
            refine wpAnyK_done (by kernel_rfl) ?_ _
            have HB6 := hide_ (show Later wd w6 from (Later.refl wd).drew.trans (hb5.trans hb6))
            clear hb5 hb6
            go_wp2_with fail
            go_roundw
            case rel => exact ⟨i + 1, m, false, M, by omega, rfl, by go_num, HM, hide_ (by have := hmi; simp; omega), hide_ (by rw [HT.out]; exact HP2.out), hide_ (fun h => by cases h), hide_ (own_below HOd.out HB6.out), hide_ (HBd.out.trans HB6.out)⟩
            case measure => simp [intOf]; omega
          · have hsp := hide_ (fun W => rspan_any kind k v hks W)
            have hhas := hide_ (fun W => rhas_c (spanC kind k v) x.1 false (by simp [named_has, hnm]) W)
            have HP2 := hide_ (passed_keep HP.out HLT.out hnm (fun _ => HXK.out) (fun h => by cases h))
            clear hnm
            go_wp2_with fail
            refine wp_region_k (by kernel_rfl) ?_
            refine wpAnyK_take 0 (v := ?_) rfl (by kernel_rfl) (by kernel_rfl) (by kernel_rfl) (fun _ _ _ h => h) (by rfl) (by intro W hSw; go_simp; with_reducible rfl) ?_; try simp only [Act.put, List.setIfInBounds_toArray, List.set_cons_zero, List.set_cons_succ]
            refine wpAnyK_take 1 (v := ?_) rfl (by kernel_rfl) (by kernel_rfl) (by kernel_rfl) (fun _ _ _ h => h) (by rfl) (by intro W hSw; go_simp; with_reducible rfl) ?_; try simp only [Act.put, List.setIfInBounds_toArray, List.set_cons_zero, List.set_cons_succ]
            refine wpAnyK_take 2 (v := ?_) rfl (by kernel_rfl) (by kernel_rfl) (by kernel_rfl) (fun _ _ _ h => h) (by rfl) (by intro W hSw; go_simp; with_reducible rfl) ?_; try simp only [Act.put, List.setIfInBounds_toArray, List.set_cons_zero, List.set_cons_succ]
            refine wpAnyK_take 3 (v := ?_) rfl (by kernel_rfl) (by kernel_rfl) (by kernel_rfl) (fun _ _ _ h => h) (by rfl) (by intro W hSw; go_simp; with_reducible rfl) ?_; try simp only [Act.put, List.setIfInBounds_toArray, List.set_cons_zero, List.set_cons_succ]
            refine wpAnyK_take 4 (v := ?_) rfl (by kernel_rfl) (by kernel_rfl) (by kernel_rfl) (fun _ _ _ h => h) (by rfl) (by intro W hSw; go_simp; with_reducible rfl) ?_; try simp only [Act.put, List.setIfInBounds_toArray, List.set_cons_zero, List.set_cons_succ]
            refine wpAnyK_take 5 (v := ?_) rfl (by kernel_rfl) (by kernel_rfl) (by kernel_rfl) (fun _ _ _ h => h) (by rfl) (by intro W hSw; go_simp; with_reducible rfl) ?_; try simp only [Act.put, List.setIfInBounds_toArray, List.set_cons_zero, List.set_cons_succ]
            refine wpAnyK_take 6 (v := ?_) rfl (by kernel_rfl) (by kernel_rfl) (by kernel_rfl) (fun _ _ _ h => h) (by rfl) (by intro W hSw; go_simp; with_reducible rfl) ?_; try simp only [Act.put, List.setIfInBounds_toArray, List.set_cons_zero, List.set_cons_succ]
            refine wpAnyK_take 7 (v := ?_) rfl (by kernel_rfl) (by kernel_rfl) (by kernel_rfl) (fun _ _ _ h => h) (by rfl) (by intro W hSw; go_simp; with_reducible rfl) ?_; try simp only [Act.put, List.setIfInBounds_toArray, List.set_cons_zero, List.set_cons_succ]
            refine wpAnyK_take 8 (v := ?_) rfl (by kernel_rfl) (by kernel_rfl) (by kernel_rfl) (fun _ _ _ h => h) (by rfl) (by intro W hSw; go_simp; with_reducible rfl) ?_; try simp only [Act.put, List.setIfInBounds_toArray, List.set_cons_zero, List.set_cons_succ]
            refine wpAnyK_take 9 (v := ?_) rfl (by kernel_rfl) (by kernel_rfl) (by kernel_rfl) (fun _ _ _ h => h) (by rfl) (by intro W hSw; go_simp; with_reducible rfl) ?_; try simp only [Act.put, List.setIfInBounds_toArray, List.set_cons_zero, List.set_cons_succ]
            refine wpAnyK_take 10 (v := ?_) rfl (by kernel_rfl) (by kernel_rfl) (by kernel_rfl) (fun _ _ _ h => h) (by rfl) (by intro W hSw; go_simp; with_reducible rfl) ?_; try simp only [Act.put, List.setIfInBounds_toArray, List.set_cons_zero, List.set_cons_succ]
            refine wpAnyK_take 11 (v := ?_) rfl (by kernel_rfl) (by kernel_rfl) (by kernel_rfl) (fun _ _ _ h => h) (by rfl) (by intro W hSw; go_simp; with_reducible rfl) ?_; try simp only [Act.put, List.setIfInBounds_toArray, List.set_cons_zero, List.set_cons_succ]
            refine wpAnyK_done (by kernel_rfl) ?_ _
            go_wp2_with (rw [HWD.out])
            refine wp_region_k (by kernel_rfl) ?_
            refine wpAnyK_take 0 (v := ?_) rfl (by kernel_rfl) (by kernel_rfl) (by kernel_rfl) (fun _ _ _ h => h) (by rfl) (by intro W hSw; go_simp; with_reducible rfl) ?_; try simp only [Act.put, List.setIfInBounds_toArray, List.set_cons_zero, List.set_cons_succ]
            refine wpAnyK_take 2 (v := ?_) rfl (by kernel_rfl) (by kernel_rfl) (by kernel_rfl) (fun _ _ _ h => h) (by rfl) (by intro W hSw; go_simp; with_reducible rfl) ?_; try simp only [Act.put, List.setIfInBounds_toArray, List.set_cons_zero, List.set_cons_succ]
            refine wpAnyK_take 3 (v := ?_) rfl (by kernel_rfl) (by kernel_rfl) (by kernel_rfl) (fun _ _ _ h => h) (by rfl) (by intro W hSw; go_simp; with_reducible rfl) ?_; try simp only [Act.put, List.setIfInBounds_toArray, List.set_cons_zero, List.set_cons_succ]
            refine wpAnyK_take 4 (v := ?_) rfl (by kernel_rfl) (by kernel_rfl) (by kernel_rfl) (fun _ _ _ h => h) (by rfl) (by intro W hSw; go_simp; with_reducible rfl) ?_; try simp only [Act.put, List.setIfInBounds_toArray, List.set_cons_zero, List.set_cons_succ]
            refine wpAnyK_take 5 (v := ?_) rfl (by kernel_rfl) (by kernel_rfl) (by kernel_rfl) (fun _ _ _ h => h) (by rfl) (by intro W hSw; go_simp; with_reducible rfl) ?_; try simp only [Act.put, List.setIfInBounds_toArray, List.set_cons_zero, List.set_cons_succ]
            refine wpAnyK_take 6 (v := ?_) rfl (by kernel_rfl) (by kernel_rfl) (by kernel_rfl) (fun _ _ _ h => h) (by rfl) (by intro W hSw; go_simp; with_reducible rfl) ?_; try simp only [Act.put, List.setIfInBounds_toArray, List.set_cons_zero, List.set_cons_succ]
            refine wpAnyK_one 1 (by kernel_rfl) rfl (fun K hK => ?_)
            go_simp
            refine (hsp.out _).mono ?_; rintro e w5 ⟨rfl, hb5⟩
            refine hK.out _ _ (by assumption) ?_
            clear hK K; try simp only [Act.put, List.setIfInBounds_toArray, List.set_cons_zero, List.set_cons_succ]
            refine wpAnyK_one 7 (by kernel_rfl) rfl (fun K hK => ?_)
            go_simp
            refine (hhas.out _).mono ?_; rintro e w6 ⟨rfl, hb6⟩
            refine hK.out _ _ (by assumption) ?_
            clear hK K; try simp only [Act.put, List.setIfInBounds_toArray, List.set_cons_zero, List.set_cons_succ]
            refine wpAnyK_take 8 (v := ?_) rfl (by kernel_rfl) (by kernel_rfl) (by kernel_rfl) (fun _ _ _ h => h) (by rfl) (by intro W hSw; go_simp; with_reducible rfl) ?_; try simp only [Act.put, List.setIfInBounds_toArray, List.set_cons_zero, List.set_cons_succ]
            refine wpAnyK_done (by kernel_rfl) ?_ _
            have HB6 := hide_ (show Later wd w6 from (Later.refl wd).drew.trans (hb5.trans hb6))
            clear hb5 hb6
            have HO6 := hide_ (own_below HOd.out HB6.out)
            have HBA := hide_ (HBd.out.trans HB6.out)
            have g0 := (HBA.out.cell (cell_lt k0)).trans k0
            have g1 := (HBA.out.cell (cell_lt k1)).trans k1
            go_wp2_with (at_builtin; (refine wpList_append_rd _ rfl (.tmp 47) (.tmp 52) 22 rfl W0.heap.size 55 2 32 pairT _ m (prow M) rfl (HO6.out.alloc _) _ 1 _ (encP x) rfl (Rd.newAt _ #[.string x.1, .string x.2] 55 1 2 _ (0, 0) rfl (by simp)) (encP_one x) (by omega) (by unfold maxLen; omega) (by have := HBA.out.size; simp; omega) (fun h => nomatch h) ?_; intro v9 w9 ho hg hat; obtain ⟨A9, c9, rfl⟩ := own_form ho; have HO9 := hide_ (show w9.ownsRow W0.heap.size 55 2 (.slice A9 (m + 1) c9) (m + 1) (prow (M ++ [x])) by simpa [prow] using ho); have HB9 := hide_ (own_grown (HBA.out.alloc HBA.out.size _) (HO6.out.alloc _) hg (by have := HBA.out.size; simp; omega)); clear ho hg hat))
            go_roundw
            case rel => exact ⟨i + 1, m + 1, false, M ++ [x], by omega, rfl, by go_num, hide_ (by rw [List.length_append, HM.out]; rfl), hide_ (by have := hmi; simp; omega), hide_ (by rw [HT.out]; exact HP2.out), hide_ (fun h => by cases h), HO9, HB9⟩
            case measure => simp [intOf]; omega
        · have h1 : Op.bytesLess x.1.toList k.toList = false := by rw [bl]; simpa
          have HKX := hide_ (show k ≤ x.1 by grind)
          have HPP := hide_ (passed_put HP.out)
          have HG2 := hide_ (show ∀ p, p ∈ L.drop (i + 1) → k ≤ p.1 from fun p hp => by have h3 := HGT.out p hp; have h4 := HKX.out; grind)
          clear hxk
          have e0 := (HBd.out.cell (cell_lt k0)).trans k0
          have e1 := (HBd.out.cell (cell_lt k1)).trans k1
          have f0 : wd.cell? ⟨w.heap.size, 0, none⟩ = some (.int .i64 kind) := cell_of_row _ _ 0 _ _ (0, 0) ((HBd.out.block _ (by have := HZ0.out; omega)).trans HBX.out)
          have f1 : wd.cell? ⟨w.heap.size, 1, none⟩ = some (.string k) := cell_of_row _ _ 1 _ _ (0, 0) ((HBd.out.block _ (by have := HZ0.out; omega)).trans HBX.out)
          have f2 : wd.cell? ⟨w.heap.size, 2, none⟩ = some (.string v) := cell_of_row _ _ 2 _ _ (0, 0) ((HBd.out.block _ (by have := HZ0.out; omega)).trans HBX.out)
          have lc0 := later_drew_cell e0
          have lc1 := later_drew_cell e1
          have ld0 := later_drew_cell f0
          have ld1 := later_drew_cell f1
          have ld2 := later_drew_cell f2
          go_wp2_with fail
          refine wp_region_k (by kernel_rfl) ?_
          refine wpAnyK_take 0 (v := ?_) rfl (by kernel_rfl) (by kernel_rfl) (by kernel_rfl) (fun _ _ _ h => h) (by rfl) (by intro W hSw; go_simp; with_reducible rfl) ?_; try simp only [Act.put, List.setIfInBounds_toArray, List.set_cons_zero, List.set_cons_succ]
          refine wpAnyK_take 1 (v := ?_) rfl (by kernel_rfl) (by kernel_rfl) (by kernel_rfl) (fun _ _ _ h => h) (by rfl) (by intro W hSw; go_simp; with_reducible rfl) ?_; try simp only [Act.put, List.setIfInBounds_toArray, List.set_cons_zero, List.set_cons_succ]
          refine wpAnyK_take 2 (v := ?_) rfl (by kernel_rfl) (by kernel_rfl) (by kernel_rfl) (fun _ _ _ h => h) (by rfl) (by intro W hSw; go_simp; with_reducible rfl) ?_; try simp only [Act.put, List.setIfInBounds_toArray, List.set_cons_zero, List.set_cons_succ]
          refine wpAnyK_take 3 (v := ?_) rfl (by kernel_rfl) (by kernel_rfl) (by kernel_rfl) (fun _ _ _ h => h) (by rfl) (by intro W hSw; go_simp; with_reducible rfl) ?_; try simp only [Act.put, List.setIfInBounds_toArray, List.set_cons_zero, List.set_cons_succ]
          refine wpAnyK_take 4 (v := ?_) rfl (by kernel_rfl) (by kernel_rfl) (by kernel_rfl) (fun _ _ _ h => h) (by rfl) (by intro W hSw; go_simp; with_reducible rfl) ?_; try simp only [Act.put, List.setIfInBounds_toArray, List.set_cons_zero, List.set_cons_succ]
          refine wpAnyK_take 5 (v := ?_) rfl (by kernel_rfl) (by kernel_rfl) (by kernel_rfl) (fun _ _ _ h => h) (by rfl) (by intro W hSw; go_simp; with_reducible rfl) ?_; try simp only [Act.put, List.setIfInBounds_toArray, List.set_cons_zero, List.set_cons_succ]
          refine wpAnyK_take 6 (v := ?_) rfl (by kernel_rfl) (by kernel_rfl) (by kernel_rfl) (fun _ _ _ h => h) (by rfl) (by intro W hSw; go_simp; with_reducible rfl) ?_; try simp only [Act.put, List.setIfInBounds_toArray, List.set_cons_zero, List.set_cons_succ]
          refine wpAnyK_take 7 (v := ?_) rfl (by kernel_rfl) (by kernel_rfl) (by kernel_rfl) (fun _ _ _ h => h) (by rfl) (by intro W hSw; go_simp; with_reducible rfl) ?_; try simp only [Act.put, List.setIfInBounds_toArray, List.set_cons_zero, List.set_cons_succ]
          refine wpAnyK_take 8 (v := ?_) rfl (by kernel_rfl) (by kernel_rfl) (by kernel_rfl) (fun _ _ _ h => h) (by rfl) (by intro W hSw; go_simp; with_reducible rfl) ?_; try simp only [Act.put, List.setIfInBounds_toArray, List.set_cons_zero, List.set_cons_succ]
          refine wpAnyK_take 9 (v := ?_) rfl (by kernel_rfl) (by kernel_rfl) (by kernel_rfl) (fun _ _ _ h => h) (by rfl) (by intro W hSw; go_simp; with_reducible rfl) ?_; try simp only [Act.put, List.setIfInBounds_toArray, List.set_cons_zero, List.set_cons_succ]
          refine wpAnyK_take 10 (v := ?_) rfl (by kernel_rfl) (by kernel_rfl) (by kernel_rfl) (fun _ _ _ h => h) (by rfl) (by intro W hSw; go_simp; with_reducible rfl) ?_; try simp only [Act.put, List.setIfInBounds_toArray, List.set_cons_zero, List.set_cons_succ]
          refine wpAnyK_take 11 (v := ?_) rfl (by kernel_rfl) (by kernel_rfl) (by kernel_rfl) (fun _ _ _ h => h) (by rfl) (by intro W hSw; go_simp; with_reducible rfl) ?_; try simp only [Act.put, List.setIfInBounds_toArray, List.set_cons_zero, List.set_cons_succ]
          refine wpAnyK_done (by kernel_rfl) ?_ _
          go_wp2_with (first | (at_builtin; (refine wpList_append_rd _ rfl (.tmp 30) (.tmp 36) 22 rfl W0.heap.size 55 2 32 pairT _ m (prow M) rfl (HOd.out.alloc _) _ 1 _ (encP (k, v)) rfl (Rd.newAt _ #[.string k, .string v] 55 1 2 _ (0, 0) rfl (by simp)) (encP_one (k, v)) (by omega) (by unfold maxLen; omega) (by have := HBd.out.size; simp; omega) (fun h => nomatch h) ?_; intro v7 w7 ho hg hat; obtain ⟨A7, c7, rfl⟩ := own_form ho; have HO7 := hide_ (show w7.ownsRow W0.heap.size 55 2 (.slice A7 (m + 1) c7) (m + 1) (prow (M ++ [(k, v)])) by simpa [prow] using ho); have HB7 := hide_ (own_grown (HBd.out.alloc HBd.out.size _) (HOd.out.alloc _) hg (by have := HBd.out.size; simp; omega)); clear ho hg hat)) | (rw [HWD.out]))
          clear e0 e1 f0 f1 f2 lc0 lc1 ld0 ld1 ld2 HWD HBd HOd
          have HBd := hide_ (show Later W0 w7 from HB7.out)
          have HOd := HO7
          have HM7 := hide_ (show (M ++ [(k, v)]).length = m + 1 by rw [List.length_append, HM.out]; rfl)
          have e0 := (HBd.out.cell (cell_lt k0)).trans k0
          have e1 := (HBd.out.cell (cell_lt k1)).trans k1
          have f0 : w7.cell? ⟨w.heap.size, 0, none⟩ = some (.int .i64 kind) := cell_of_row _ _ 0 _ _ (0, 0) ((HBd.out.block _ (by have := HZ0.out; omega)).trans HBX.out)
          have f1 : w7.cell? ⟨w.heap.size, 1, none⟩ = some (.string k) := cell_of_row _ _ 1 _ _ (0, 0) ((HBd.out.block _ (by have := HZ0.out; omega)).trans HBX.out)
          have f2 : w7.cell? ⟨w.heap.size, 2, none⟩ = some (.string v) := cell_of_row _ _ 2 _ _ (0, 0) ((HBd.out.block _ (by have := HZ0.out; omega)).trans HBX.out)
          have lc0 := later_drew_cell e0
          have lc1 := later_drew_cell e1
          have ld0 := later_drew_cell f0
          have ld1 := later_drew_cell f1
          have ld2 := later_drew_cell f2
          by_cases hnm : Named kind k v x.1
          · have hsp := hide_ (fun W => rspan_any kind k v hks W)
            have hhas := hide_ (fun W => rhas_c (spanC kind k v) x.1 true (by simp [named_has, hnm]) W)
            have HP2 := hide_ (passed_skip HPP.out hnm (fun h => by cases h))
            clear hnm
            refine wp_region_k (by kernel_rfl) ?_
            refine wpAnyK_take 0 (v := ?_) rfl (by kernel_rfl) (by kernel_rfl) (by kernel_rfl) (fun _ _ _ h => h) (by rfl) (by intro W hSw; go_simp; with_reducible rfl) ?_; try simp only [Act.put, List.setIfInBounds_toArray, List.set_cons_zero, List.set_cons_succ]
            refine wpAnyK_take 2 (v := ?_) rfl (by kernel_rfl) (by kernel_rfl) (by kernel_rfl) (fun _ _ _ h => h) (by rfl) (by intro W hSw; go_simp; with_reducible rfl) ?_; try simp only [Act.put, List.setIfInBounds_toArray, List.set_cons_zero, List.set_cons_succ]
            refine wpAnyK_take 3 (v := ?_) rfl (by kernel_rfl) (by kernel_rfl) (by kernel_rfl) (fun _ _ _ h => h) (by rfl) (by intro W hSw; go_simp; with_reducible rfl) ?_; try simp only [Act.put, List.setIfInBounds_toArray, List.set_cons_zero, List.set_cons_succ]
            refine wpAnyK_take 4 (v := ?_) rfl (by kernel_rfl) (by kernel_rfl) (by kernel_rfl) (fun _ _ _ h => h) (by rfl) (by intro W hSw; go_simp; with_reducible rfl) ?_; try simp only [Act.put, List.setIfInBounds_toArray, List.set_cons_zero, List.set_cons_succ]
            refine wpAnyK_take 5 (v := ?_) rfl (by kernel_rfl) (by kernel_rfl) (by kernel_rfl) (fun _ _ _ h => h) (by rfl) (by intro W hSw; go_simp; with_reducible rfl) ?_; try simp only [Act.put, List.setIfInBounds_toArray, List.set_cons_zero, List.set_cons_succ]
            refine wpAnyK_take 6 (v := ?_) rfl (by kernel_rfl) (by kernel_rfl) (by kernel_rfl) (fun _ _ _ h => h) (by rfl) (by intro W hSw; go_simp; with_reducible rfl) ?_; try simp only [Act.put, List.setIfInBounds_toArray, List.set_cons_zero, List.set_cons_succ]
            refine wpAnyK_one 1 (by kernel_rfl) rfl (fun K hK => ?_)
            go_simp
            refine (hsp.out _).mono ?_; rintro e w5 ⟨rfl, hb5⟩
            refine hK.out _ _ (by assumption) ?_
            clear hK K; try simp only [Act.put, List.setIfInBounds_toArray, List.set_cons_zero, List.set_cons_succ]
            refine wpAnyK_one 7 (by kernel_rfl) rfl (fun K hK => ?_)
            go_simp
            refine (hhas.out _).mono ?_; rintro e w6 ⟨rfl, hb6⟩
            refine hK.out _ _ (by assumption) ?_
            clear hK K; try simp only [Act.put, List.setIfInBounds_toArray, List.set_cons_zero, List.set_cons_succ]
            refine wpAnyK_take 8 (v := ?_) rfl (by kernel_rfl) (by kernel_rfl) (by kernel_rfl) (fun _ _ _ h => h) (by rfl) (by intro W hSw; go_simp; with_reducible rfl) ?_; try simp only [Act.put, List.setIfInBounds_toArray, List.set_cons_zero, List.set_cons_succ]
            refine wpAnyK_done (by kernel_rfl) ?_ _
            have HB6 := hide_ (show Later w7 w6 from (Later.refl w7).drew.trans (hb5.trans hb6))
            clear hb5 hb6
            go_wp2_with fail
            go_roundw
            case rel => exact ⟨i + 1, (m + 1), true, (M ++ [(k, v)]), by omega, rfl, by go_num, HM7, hide_ (by have := hmi; simp; omega), hide_ (by rw [HT.out]; exact HP2.out), hide_ (fun _ _ => HG2.out), hide_ (own_below HOd.out HB6.out), hide_ (HBd.out.trans HB6.out)⟩
            case measure => simp [intOf]; omega
          · have hsp := hide_ (fun W => rspan_any kind k v hks W)
            have hhas := hide_ (fun W => rhas_c (spanC kind k v) x.1 false (by simp [named_has, hnm]) W)
            have HP2 := hide_ (passed_keep HPP.out HLT.out hnm (fun h => by cases h) (fun _ _ => HKX.out))
            clear hnm
            refine wp_region_k (by kernel_rfl) ?_
            refine wpAnyK_take 0 (v := ?_) rfl (by kernel_rfl) (by kernel_rfl) (by kernel_rfl) (fun _ _ _ h => h) (by rfl) (by intro W hSw; go_simp; with_reducible rfl) ?_; try simp only [Act.put, List.setIfInBounds_toArray, List.set_cons_zero, List.set_cons_succ]
            refine wpAnyK_take 2 (v := ?_) rfl (by kernel_rfl) (by kernel_rfl) (by kernel_rfl) (fun _ _ _ h => h) (by rfl) (by intro W hSw; go_simp; with_reducible rfl) ?_; try simp only [Act.put, List.setIfInBounds_toArray, List.set_cons_zero, List.set_cons_succ]
            refine wpAnyK_take 3 (v := ?_) rfl (by kernel_rfl) (by kernel_rfl) (by kernel_rfl) (fun _ _ _ h => h) (by rfl) (by intro W hSw; go_simp; with_reducible rfl) ?_; try simp only [Act.put, List.setIfInBounds_toArray, List.set_cons_zero, List.set_cons_succ]
            refine wpAnyK_take 4 (v := ?_) rfl (by kernel_rfl) (by kernel_rfl) (by kernel_rfl) (fun _ _ _ h => h) (by rfl) (by intro W hSw; go_simp; with_reducible rfl) ?_; try simp only [Act.put, List.setIfInBounds_toArray, List.set_cons_zero, List.set_cons_succ]
            refine wpAnyK_take 5 (v := ?_) rfl (by kernel_rfl) (by kernel_rfl) (by kernel_rfl) (fun _ _ _ h => h) (by rfl) (by intro W hSw; go_simp; with_reducible rfl) ?_; try simp only [Act.put, List.setIfInBounds_toArray, List.set_cons_zero, List.set_cons_succ]
            refine wpAnyK_take 6 (v := ?_) rfl (by kernel_rfl) (by kernel_rfl) (by kernel_rfl) (fun _ _ _ h => h) (by rfl) (by intro W hSw; go_simp; with_reducible rfl) ?_; try simp only [Act.put, List.setIfInBounds_toArray, List.set_cons_zero, List.set_cons_succ]
            refine wpAnyK_one 1 (by kernel_rfl) rfl (fun K hK => ?_)
            go_simp
            refine (hsp.out _).mono ?_; rintro e w5 ⟨rfl, hb5⟩
            refine hK.out _ _ (by assumption) ?_
            clear hK K; try simp only [Act.put, List.setIfInBounds_toArray, List.set_cons_zero, List.set_cons_succ]
            refine wpAnyK_one 7 (by kernel_rfl) rfl (fun K hK => ?_)
            go_simp
            refine (hhas.out _).mono ?_; rintro e w6 ⟨rfl, hb6⟩
            refine hK.out _ _ (by assumption) ?_
            clear hK K; try simp only [Act.put, List.setIfInBounds_toArray, List.set_cons_zero, List.set_cons_succ]
            refine wpAnyK_take 8 (v := ?_) rfl (by kernel_rfl) (by kernel_rfl) (by kernel_rfl) (fun _ _ _ h => h) (by rfl) (by intro W hSw; go_simp; with_reducible rfl) ?_; try simp only [Act.put, List.setIfInBounds_toArray, List.set_cons_zero, List.set_cons_succ]
            refine wpAnyK_done (by kernel_rfl) ?_ _
            have HB6 := hide_ (show Later w7 w6 from (Later.refl w7).drew.trans (hb5.trans hb6))
            clear hb5 hb6
            have HO6 := hide_ (own_below HOd.out HB6.out)
            have HBA := hide_ (HBd.out.trans HB6.out)
            have g0 := (HBA.out.cell (cell_lt k0)).trans k0
            have g1 := (HBA.out.cell (cell_lt k1)).trans k1
            go_wp2_with (at_builtin; (refine wpList_append_rd _ rfl (.tmp 47) (.tmp 52) 22 rfl W0.heap.size 55 2 32 pairT _ (m + 1) (prow (M ++ [(k, v)])) rfl (HO6.out.alloc _) _ 1 _ (encP x) rfl (Rd.newAt _ #[.string x.1, .string x.2] 55 1 2 _ (0, 0) rfl (by simp)) (encP_one x) (by omega) (by unfold maxLen; omega) (by have := HBA.out.size; simp; omega) (fun h => nomatch h) ?_; intro v9 w9 ho hg hat; obtain ⟨A9, c9, rfl⟩ := own_form ho; have HO9 := hide_ (show w9.ownsRow W0.heap.size 55 2 (.slice A9 ((m + 1) + 1) c9) ((m + 1) + 1) (prow ((M ++ [(k, v)]) ++ [x])) by simpa [prow] using ho); have HB9 := hide_ (own_grown (HBA.out.alloc HBA.out.size _) (HO6.out.alloc _) hg (by have := HBA.out.size; simp; omega)); clear ho hg hat))
            go_roundw
            case rel => exact ⟨i + 1, (m + 1) + 1, true, (M ++ [(k, v)]) ++ [x], by omega, rfl, by go_num, hide_ (by rw [List.length_append, HM7.out]; rfl), hide_ (by have := hmi; simp; omega), hide_ (by rw [HT.out]; exact HP2.out), hide_ (fun _ _ => HG2.out), HO9, HB9⟩
            case measure => simp [intOf]; omega
    · have q1 : ¬ (i : Int) < (n : Int) := by omega
      obtain rfl : i = n := by omega
      have HPE := hide_ (show Passed L kind k v put M by have := HP.out; rwa [← HL.out, List.take_length] at this)
      cases put with
      | true =>
        have hmi : m ≤ i + 1 := by simpa using HMI.out
        go_wp2_with fail
        go_ret
        exact ⟨⟨_, M, m, rfl, HM.out, hmi, passed_end HPE.out, own_base' HO.out (by have := HZ0.out; omega)⟩, HB0.out.trans HB.out⟩
      | false =>
        have hmi : m ≤ i := by simpa using HMI.out
        have d0 : wr.cell? ⟨w.heap.size, 0, none⟩ = some (.int .i64 kind) := cell_of_row _ _ 0 _ _ (0, 0) ((HB.out.block _ (by have := HZ0.out; omega)).trans HBX.out)
        have d1 : wr.cell? ⟨w.heap.size, 1, none⟩ = some (.string k) := cell_of_row _ _ 1 _ _ (0, 0) ((HB.out.block _ (by have := HZ0.out; omega)).trans HBX.out)
        have d2 : wr.cell? ⟨w.heap.size, 2, none⟩ = some (.string v) := cell_of_row _ _ 2 _ _ (0, 0) ((HB.out.block _ (by have := HZ0.out; omega)).trans HBX.out)
        go_wp2_with (at_builtin; (refine wpList_append_rd _ rfl (.tmp 56) (.tmp 62) 22 rfl W0.heap.size 55 2 32 pairT _ m (prow M) rfl (HO.out.alloc _) _ 1 _ (encP (k, v)) rfl (Rd.newAt _ #[.string k, .string v] 55 1 2 _ (0, 0) rfl (by simp)) (encP_one (k, v)) (by omega) (by unfold maxLen; omega) (by have := HB.out.size; simp; omega) (fun h => nomatch h) ?_; intro v7 w7 ho hg hat; obtain ⟨A7, c7, rfl⟩ := own_form ho; have HO7 := hide_ (show w7.ownsRow W0.heap.size 55 2 (.slice A7 (m + 1) c7) (m + 1) (prow (M ++ [(k, v)])) by simpa [prow] using ho); have HB7 := hide_ (own_grown (HB.out.alloc HB.out.size _) (HO.out.alloc _) hg (by have := HB.out.size; simp; omega)); clear ho hg hat))
        go_ret
        exact ⟨⟨_, M ++ [(k, v)], m + 1, rfl, (by rw [List.length_append, HM.out]; rfl), by omega, passed_end (passed_put HPE.out), own_base' HO7.out (by have := HZ0.out; omega)⟩, HB0.out.trans HB7.out⟩

end Go.Proofs.Ytblljpdlmllceaa
/-
  The document's Apply.
-/
namespace Go.Proofs.Ytblljpdlmllceaa
open Go.RowKit
set_option linter.unusedVariables false
set_option linter.unusedSimpArgs false
theorem chk_size {kind : Int} {k v : ByteArray} (h : chk kind k v = 0) : k.size ≤ 17 := by
  unfold chk at h
  repeat' split at h
  all_goals first | omega | (exact absurd h (by decide)) | skip
/-- What the document's Apply answers. -/
def RApplyPost (L : List Pr) (n : Nat) (C : List Chg) (p : Nat) (w : World) (e : Ending) (w' : World) : Prop :=
  ((chkAll C ≠ 0 ∧ e = .returned (.tuple #[.slice none 0 0, .int .i64 (chkAll C)])) ∨
   (chkAll C = 0 ∧ ¬ Snd L ∧ e = .returned (.tuple #[.slice none 0 0, .int .i64 2])) ∨
   (chkAll C = 0 ∧ Snd L ∧ ∃ (A : Option Addr) (c m : Nat) (M : List Pr), e = .returned (.tuple #[.slice A m c, .int .i64 0]) ∧ M.length = m ∧ m ≤ n + p ∧ AppOf L C M ∧ Rd w' 2 A m (prow M))) ∧ Later w w'
set_option maxHeartbeats 2000000 in
theorem rapply_any {w : World} {A A' : Option Addr} {n c p c' : Nat} {L : List Pr} {C : List Chg} (hr : Rd w 2 A n (prow L)) (hl : L.length = n) (hr' : Rd w 3 A' p (crow C)) (hl' : C.length = p) (hn : n + p ≤ 2199023255552) :
    Calls Try.prog 13 #[.slice A n c, .slice A' p c'] w (RApplyPost L n C p w) := by
  have HR := hide_ hr; have HL := hide_ hl; have HR' := hide_ hr'; have HL' := hide_ hl'
  have hc := hide_ (rall_any (c := c') hr' hl' (by omega))
  have hn2 : (p : Int) ≤ 4398046511104 := by omega
  clear hr hl hr' hl'
  go_enter Try.func13, Try.ntmps13
  go_wp2_with fail
  refine hc.out.mono ?_; rintro e w1 ⟨rfl, hb1⟩
  have HB1 := hide_ hb1
  clear hb1 hc
  by_cases h0 : chkAll C = 0
  · rw [h0]
    have HC0 := hide_ h0
    have hs := hide_ (rsound_any (c := c) (HR.out.below HB1.out) HL.out (by omega))
    clear h0
    go_wp2_with fail
    refine hs.out.mono ?_; rintro e w2 ⟨⟨r, rfl, hsr⟩, hb2⟩
    have HB2 := hide_ (HB1.out.trans hb2)
    have HSR := hide_ hsr
    clear hb2 hsr hs
    cases r with
    | false =>
      have HN := hide_ (show ¬ Snd L from fun h => by have := HSR.out.2 h; cases this)
      clear HSR
      go_wp2_with fail
      go_ret2
      exact ⟨.inr (.inl ⟨HC0.out, HN.out, rfl⟩), HB2.out⟩
    | true =>
      have HSND := hide_ (HSR.out.1 rfl)
      clear HSR
      have HMEM := hide_ (chkAll_mem HC0.out)
      go_wp2_with fail
      go_loopw [0, 7] (fun s0 s7 wr => ∃ (k m c : Nat) (A : Option Addr) (M : List Pr), k ≤ p ∧ s0 = .slice A m c ∧ s7 = .int .i64 k ∧ Hid (M.length = m) ∧ m ≤ n + k ∧ Hid (AppOf L (C.take k) M) ∧ Hid (Ris M) ∧ Hid (Rd wr 2 A m (prow M)) ∧ Hid (Later w wr)) (fun _ i _ => p - (intOf i).toNat)
      case atStart => exact ⟨0, n, c, A, L, Nat.zero_le _, rfl, rfl, HL, Nat.le_refl _, hide_ rfl, hide_ HSND.out.1, hide_ (HR.out.below HB2.out), HB2⟩
      case round =>
        obtain ⟨k, m, c4, A4, M, hkp, rfl, rfl, HM, hmk, HAP, HRI, HO, HB⟩ := hrel
        by_cases hlt : k < p
        · obtain ⟨s, hs⟩ : ∃ s, C[k]? = some s := ⟨_, List.getElem?_eq_getElem (by rw [HL'.out]; exact hlt)⟩
          obtain ⟨b, o, rfl, l0, l1, l2⟩ := (HR'.out.below HB.out).chg hs
          have q1 : (k : Int) < (p : Int) := by omega
          have q2 : (0 : Int) ≤ (k : Int) := by omega
          have q3 : (k : Int) ≤ 4398046511104 := by omega
          have HT := hide_ (take_snoc hs)
          have hck := hide_ (rone_any (c := c4) s.1 s.2.1 s.2.2 (by have := chk_size (HMEM.out s (List.mem_of_getElem? hs)); omega) HO.out HM.out HRI.out (by omega))
          clear hs
          go_wp2_with fail
          refine hck.out.mono ?_; rintro e w5 ⟨⟨u, N, m', rfl, hm', hmm, hone, ho5⟩, hb5⟩
          obtain ⟨A5, c5, rfl⟩ := own_form ho5
          have HM5 := hide_ hm'; have HON := hide_ hone; have HO5 := hide_ (Rd.of_own ho5)
          have HB5 := hide_ (show Later w w5 from HB.out.trans hb5)
          clear hm' hone ho5 hb5 hck
          go_wp2_with fail
          go_roundw
          case rel => exact ⟨k + 1, m', c5, A5, N, by omega, rfl, by go_num, HM5, by omega, hide_ (by rw [HT.out]; exact app_snoc HAP.out HON.out), hide_ HON.out.1, HO5, HB5⟩
          case measure => simp [intOf]; omega
        · have q1 : ¬ (k : Int) < (p : Int) := by omega
          obtain rfl : k = p := by omega
          have HF := hide_ (show AppOf L C M by have := HAP.out; rwa [← HL'.out, List.take_length] at this)
          go_wp2_with fail
          go_ret2
          exact ⟨.inr (.inr ⟨HC0.out, HSND.out, A4, c4, m, M, rfl, HM.out, hmk, HF.out, HO.out⟩), HB.out⟩
  · have h0' : ¬ (0 : Int) = chkAll C := fun h => h0 h.symm
    go_wp2_with fail
    go_ret2
    exact ⟨.inl ⟨h0, rfl⟩, HB1.out⟩
end Go.Proofs.Ytblljpdlmllceaa
/-
  awake of law 04: one small Apply and one Check.
-/
namespace Go.Proofs.Ytblljpdlmllceaa
open Go.RowKit
set_option linter.unusedVariables false
set_option linter.unusedSimpArgs false
theorem aw_app {M : List Pr} (h : AppOf [] [(1, ⟨#[97]⟩, ⟨#[49]⟩), (1, ⟨#[98]⟩, ⟨#[]⟩), (3, ⟨#[97]⟩, ⟨#[98]⟩)] M) : M = [(⟨#[98]⟩, ⟨#[]⟩)] := by
  have h1 : (⟨#[97]⟩ : ByteArray) < ⟨#[98]⟩ := by decide
  obtain ⟨N1, ⟨_, a1⟩, N2, ⟨_, a2⟩, N3, ⟨r3, a3⟩, rfl⟩ := h
  generalize (⟨#[97]⟩ : ByteArray) = a at *
  generalize (⟨#[98]⟩ : ByteArray) = b at *
  generalize (⟨#[49]⟩ : ByteArray) = u at *
  generalize (⟨#[]⟩ : ByteArray) = z at *
  refine ris_uniq r3 (by unfold Ris; simp) fun p => ?_
  rw [a3 p, a2 p, a1 p]
  unfold Named
  simp only [show ¬ (1 : Int) = 3 from by decide, show ¬ (3 : Int) = 1 from by decide, if_true, if_false, List.not_mem_nil, false_and, false_or, true_and, or_false, List.mem_singleton]
  constructor
  · rintro ⟨⟨rfl, h⟩ | rfl, h2⟩
    · exact absurd ⟨(by grind : a ≤ a), h1⟩ h2
    · rfl
  · rintro rfl
    exact ⟨.inr rfl, fun h => by have := h.2; grind⟩
set_option maxHeartbeats 2000000 in
theorem awake_yes (w : World) : Calls Try.prog 14 #[] w fun e w' => e = .returned (.bool true) ∧ Later w w' := by
  have hj := hide_ (apply_any (A := none) (c := 0) (c' := 3) (n := 0) (L := []) (p := 3) (C := [((1 : Int), (⟨#[97]⟩ : ByteArray), (⟨#[49]⟩ : ByteArray)), (1, ⟨#[98]⟩, ⟨#[]⟩), (3, ⟨#[97]⟩, ⟨#[98]⟩)]) (Rd.nil _ _ _) rfl (fun _ => rfl) (Rd.newAt w #[.int .i64 1, .string ⟨#[97]⟩, .string ⟨#[49]⟩, .int .i64 1, .string ⟨#[98]⟩, .string ⟨#[]⟩, .int .i64 3, .string ⟨#[97]⟩, .string ⟨#[98]⟩] 32 3 3 w.heap.size (0, 0) rfl rfl) rfl (by omega))
  go_enter Try.func14, Try.ntmps14
  go_wp2_with fail
  refine (hj.out).mono ?_; rintro e w1 ⟨h, hb1⟩
  have hk0 : chkAll [((1 : Int), (⟨#[97]⟩ : ByteArray), (⟨#[49]⟩ : ByteArray)), (1, ⟨#[98]⟩, ⟨#[]⟩), (3, ⟨#[97]⟩, ⟨#[98]⟩)] = 0 := by decide
  rcases h with ⟨h, _⟩ | ⟨_, h, _⟩ | ⟨_, _, u, M, m, rfl, hm, _, hap, ho⟩
  · exact absurd hk0 h
  · exact absurd ⟨by unfold Ris; simp, fun p hp => by cases hp⟩ h
  obtain rfl := aw_app hap
  obtain rfl : 1 = m := hm
  obtain ⟨A1, c1, rfl⟩ := own_form ho
  obtain ⟨b, o, rfl, l0, l1⟩ := (Rd.of_own ho).pair (i := 0) rfl
  have HB1 := hide_ (((Below.refl w.heap.size w).alloc (Nat.le_refl _) _).trans (hb1.mono (by simp)))
  simp only [Nat.zero_mul, Nat.add_zero] at l0 l1
  have hc := fun W => check_any 9 ⟨#[]⟩ ⟨#[]⟩ W
  rw [show chk 9 ⟨#[]⟩ ⟨#[]⟩ = 1 from by decide] at hc
  clear ho hap hb1 hj hk0
  go_wp2_with fail
  refine (hc _).mono ?_; rintro e w2 ⟨rfl, hb2⟩
  have HB2 := hide_ (Later.trans HB1.out hb2)
  clear hb2 hc
  go_wp2_with fail
  go_ret
  exact ⟨rfl, HB2.out⟩
end Go.Proofs.Ytblljpdlmllceaa
/-
  An incoming slice of records, as a row of cells.
-/
namespace Go.Proofs.Ytblljpdlmllceaa
open Go.RowKit
set_option linter.unusedVariables false
set_option linter.unusedSimpArgs false
theorem rd_of_sh {α : Type} {size : Nat} {R : Sh α} {enc : α → List Value} {W : World} {v : Value} {L : List α} (hk : ∀ x, (enc x).length = size) (hpos : 0 < size) (hR : ∀ cs x, R W cs x → cs = enc x) (h : SliceSh size R W [v] L) :
    ∃ (A : Option Addr) (c : Nat), v = .slice A L.length c ∧ L.length ≤ c ∧ c ≤ maxLen ∧ (A = none → L.length = 0) ∧ Rd W size A L.length (L.flatMap enc) := by
  obtain ⟨A, c, hv', hlc, hcm, hA, hx⟩ := h
  injection hv' with hv'
  subst hv'
  refine ⟨A, c, rfl, hlc, hcm, hA, rec_len hk L, fun h0 => ?_⟩
  have h0' : 0 < L.length := by
    rw [rec_len hk] at h0
    exact Nat.pos_of_ne_zero fun e => by rw [e] at h0; simp at h0
  obtain ⟨bb, o, rfl, he⟩ := hx h0'
  refine ⟨bb, o, rfl, fun j u hu => ?_⟩
  have hj : j < L.length * size := by rw [← rec_len hk L]; exact (List.getElem?_eq_some_iff.1 hu).1
  have hd : j / size < L.length := Nat.div_lt_of_lt_mul (by rwa [Nat.mul_comm] at hj)
  obtain ⟨s, hs⟩ : ∃ s, L[j / size]? = some s := ⟨_, List.getElem?_eq_getElem hd⟩
  obtain ⟨us, hul, huc, hr⟩ := he (j / size) s hs
  have e := hR _ _ hr
  subst e
  have hm : j % size < size := Nat.mod_lt _ hpos
  have ej : j = j / size * size + j % size := by rw [Nat.mul_comm]; exact (Nat.div_add_mod j size).symm
  have h1 := rec_at hk hs (j % size) hm
  rw [← ej, hu] at h1
  have h2 := huc (j % size) u h1.symm
  rw [Nat.add_assoc, ← ej] at h2
  exact h2
end Go.Proofs.Ytblljpdlmllceaa
/-
  How pairs and changes come in as arguments.
-/
namespace Go.Proofs.Ytblljpdlmllceaa
open Go.ChangeShapes Go.WideShapes Go.ChangeAt Go.RowKit
set_option linter.unusedVariables false
set_option linter.unusedSimpArgs false
set_option maxRecDepth 20000
section
variable {H : Type} {enc : TypeId × Value → H} {W : World} {b base : Nat} {held : Bool} {r : Reach}
theorem opens_pairs : Opens enc Try.prog 22 (SliceSh 2 (fun w cs (a : ByteArray × ByteArray) => ∃ u0 u1, cs = [u0, u1] ∧ StringSh w [u0] a.1 ∧ StringSh w [u1] a.2)) (sumM fun a => a.1.size + a.2.size + 2) :=
  opens_slice (size := 2) Try.underlying22 (by kernel_rfl) (by omega) (opens_struct2 Try.underlying55 (by kernel_rfl) ⟨rfl, rfl⟩ ⟨by kernel_rfl, by kernel_rfl⟩ (opens_string Try.underlying9) (opens_string Try.underlying9))
theorem opens_changes : Opens enc Try.prog 23 (SliceSh 3 (fun w cs (a : Int × ByteArray × ByteArray) => ∃ u0 u1 u2, cs = [u0, u1, u2] ∧ IntSh .i64 w [u0] a.1 ∧ StringSh w [u1] a.2.1 ∧ StringSh w [u2] a.2.2)) (sumM fun a => 0 + a.2.1.size + a.2.2.size + 3) :=
  opens_slice (size := 3) Try.underlying23 (by kernel_rfl) (by omega) (opens_struct3 Try.underlying32 (by kernel_rfl) ⟨rfl, rfl, rfl⟩ ⟨by kernel_rfl, by kernel_rfl, by kernel_rfl⟩ (opens_int Try.underlying3) (opens_string Try.underlying9) (opens_string Try.underlying9))
theorem open_pairs {v : Value} {d : DataW H} {p : List MemPlace} (hv : Value.okWide Try.prog W r base 22 v) (h : DataW.Trod enc Try.prog W b (fun _ => true) held 22 v d p) :
    ∃ (A : Option Addr) (c : Nat) (L : List Pr), v = .slice A L.length c ∧ L.length ≤ c ∧ c ≤ maxLen ∧ (A = none → L.length = 0) ∧ Rd W 2 A L.length (prow L) ∧ L.length + 1 ≤ Rows.uptoBulk d := by
  obtain ⟨L, hL, hb⟩ := open_sh opens_pairs Try.underlying22 hv h
  obtain ⟨A, c, h1, h2, h3, h4, h5⟩ := rd_of_sh (enc := encP) encP_len (by omega) (fun cs x hx => by
    obtain ⟨u0, u1, rfl, ⟨e0, _⟩, ⟨e1, _⟩⟩ := hx
    injection e0 with e0; injection e1 with e1
    subst e0 e1; rfl) hL
  have := sumM_length (fun a : ByteArray × ByteArray => a.1.size + a.2.size + 2) L
  exact ⟨A, c, L, h1, h2, h3, h4, h5, by omega⟩
theorem open_changes {v : Value} {d : DataW H} {p : List MemPlace} (hv : Value.okWide Try.prog W r base 23 v) (h : DataW.Trod enc Try.prog W b (fun _ => true) held 23 v d p) :
    ∃ (A : Option Addr) (c : Nat) (L : List Chg), v = .slice A L.length c ∧ L.length ≤ c ∧ c ≤ maxLen ∧ (A = none → L.length = 0) ∧ Rd W 3 A L.length (crow L) ∧ sumM (fun a : Int × ByteArray × ByteArray => 0 + a.2.1.size + a.2.2.size + 3) L + 1 ≤ Rows.uptoBulk d ∧ (∀ x, x ∈ L → x.2.1.size ≤ maxLen ∧ x.2.2.size ≤ maxLen) := by
  obtain ⟨L, hL, hb⟩ := open_sh opens_changes Try.underlying23 hv h
  obtain ⟨A, c, h1, h2, h3, h4, h5⟩ := rd_of_sh (enc := encC) encC_len (by omega) (fun cs x hx => by
    obtain ⟨u0, u1, u2, rfl, ⟨e0, _⟩, ⟨e1, _⟩, ⟨e2, _⟩⟩ := hx
    injection e0 with e0; injection e1 with e1; injection e2 with e2
    subst e0 e1 e2; rfl) hL
  refine ⟨A, c, L, h1, h2, h3, h4, h5, hb, fun x hx => ?_⟩
  obtain ⟨i, hi⟩ := List.mem_iff_getElem?.1 hx
  subst h1
  obtain ⟨_, _, _, _, us, _, _, u0, u1, u2, _, _, ⟨_, h6⟩, ⟨_, h7⟩⟩ := SliceSh.at_ hL hi
  exact ⟨h6, h7⟩
theorem open_change {v : Value} {d : DataW H} {p : List MemPlace} (hv : Value.okWide Try.prog W r base 32 v) (h : DataW.Trod enc Try.prog W b (fun _ => true) held 32 v d p) :
    ∃ s : Chg, v = .agg #[.int .i64 s.1, .string s.2.1, .string s.2.2] ∧ s.2.1.size ≤ maxLen ∧ s.2.2.size ≤ maxLen := by
  obtain ⟨c0, c1, c2, y0, y1, y2, m, rfl, rfl, rfl, hy0, hy1, hy2⟩ := Joins.open_agg3 Try.underlying32 (by kernel_rfl) (by kernel_rfl) hv h
  obtain ⟨k, e0, rfl, _⟩ := DataW.trod_int Try.underlying3 hy0
  obtain ⟨s1, e1, rfl, w1⟩ := DataW.trod_string Try.underlying9 hy1
  obtain ⟨s2, e2, rfl, w2⟩ := DataW.trod_string Try.underlying9 hy2
  simp at e0 e1 e2
  subst e0 e1 e2
  exact ⟨(k, s1, s2), rfl, w1, w2⟩
end
end Go.Proofs.Ytblljpdlmllceaa
/-
  Changes in two parts, in either order; what Apply answers, in one form.
-/
namespace Go.Proofs.Ytblljpdlmllceaa
open Go.RowKit
set_option linter.unusedVariables false
set_option linter.unusedSimpArgs false
theorem chkAll_cons (c : Chg) (L : List Chg) : chkAll (c :: L) = if chk c.1 c.2.1 c.2.2 = 0 then chkAll L else chk c.1 c.2.1 c.2.2 := rfl
theorem chkAll_append (A B : List Chg) : chkAll (A ++ B) = 0 ↔ chkAll A = 0 ∧ chkAll B = 0 := by
  induction A with
  | nil => simp [chkAll]
  | cons c A ih =>
    rw [List.cons_append, chkAll_cons, chkAll_cons]
    by_cases h : chk c.1 c.2.1 c.2.2 = 0
    · rw [if_pos h, if_pos h, ih]
    · rw [if_neg h, if_neg h]; exact ⟨fun h2 => absurd h2 h, fun h2 => absurd h2.1 h⟩
theorem app_append {A B : List Chg} : ∀ {L M N : List Pr}, AppOf L A M → AppOf M B N → AppOf L (A ++ B) N := by
  induction A with
  | nil => intro L M N h h2; obtain rfl := h; exact h2
  | cons d A ih => intro L M N h h2; obtain ⟨K, h3, h4⟩ := h; exact ⟨K, h3, ih h4 h2⟩
theorem chk_put {kind : Int} {k v : ByteArray} (h : chk kind k v = 0) (h1 : kind = 1) : k.size ≤ 16 ∧ v.size ≤ 64 := by
  subst h1
  unfold chk at h
  rw [if_neg (by decide), if_neg (by decide), if_pos rfl] at h
  by_cases h2 : 16 < k.size
  · rw [if_pos h2] at h; cases h
  · rw [if_neg h2] at h
    by_cases h3 : 64 < v.size
    · rw [if_pos h3] at h; cases h
    · omega
theorem snd_one {L N : List Pr} {c : Chg} (h : Snd L) (hc : chk c.1 c.2.1 c.2.2 = 0) (ho : OneOf L c.1 c.2.1 c.2.2 N) : Snd N := by
  refine ⟨ho.1, fun p hp => ?_⟩
  rcases (ho.2 p).1 hp with ⟨h1, _⟩ | ⟨h1, rfl⟩
  · exact h.2 p h1
  · exact chk_put hc h1
theorem snd_app {C : List Chg} : ∀ {L M : List Pr}, Snd L → chkAll C = 0 → AppOf L C M → Snd M := by
  induction C with
  | nil => intro L M h _ h2; obtain rfl := h2; exact h
  | cons c C ih =>
    intro L M h hc h2
    obtain ⟨N, h3, h4⟩ := h2
    have h5 := chkAll_mem hc c (List.mem_cons_self ..)
    unfold chkAll at hc
    rw [if_pos h5] at hc
    exact ih (snd_one h h5 h3) hc h4
/-- Two changes that name no key both, in either order. -/
theorem one_comm {L M N M' N' : List Pr} {x y : Chg} (hd : ∀ k, ¬ (Named x.1 x.2.1 x.2.2 k ∧ Named y.1 y.2.1 y.2.2 k)) (h1 : OneOf L x.1 x.2.1 x.2.2 M) (h2 : OneOf M y.1 y.2.1 y.2.2 N) (h3 : OneOf L y.1 y.2.1 y.2.2 M') (h4 : OneOf M' x.1 x.2.1 x.2.2 N') : N = N' := by
  refine ris_uniq h2.1 h4.1 fun p => ?_
  rw [h2.2 p, h1.2 p, h4.2 p, h3.2 p]
  have hx : x.1 = 1 → Named x.1 x.2.1 x.2.2 x.2.1 := fun h => by unfold Named; rw [if_neg (by omega)]
  have hy : y.1 = 1 → Named y.1 y.2.1 y.2.2 y.2.1 := fun h => by unfold Named; rw [if_neg (by omega)]
  constructor
  · rintro (⟨⟨a, b⟩ | ⟨a, rfl⟩, c⟩ | ⟨a, rfl⟩)
    · exact .inl ⟨.inl ⟨a, c⟩, b⟩
    · exact .inr ⟨a, rfl⟩
    · exact .inl ⟨.inr ⟨a, rfl⟩, fun h => hd _ ⟨h, hy a⟩⟩
  · rintro (⟨⟨a, b⟩ | ⟨a, rfl⟩, c⟩ | ⟨a, rfl⟩)
    · exact .inl ⟨.inl ⟨a, c⟩, b⟩
    · exact .inr ⟨a, rfl⟩
    · exact .inl ⟨.inr ⟨a, rfl⟩, fun h => hd _ ⟨hx a, h⟩⟩
theorem app_two {L N : List Pr} {x y : Chg} (h : AppOf L [x, y] N) : ∃ M, OneOf L x.1 x.2.1 x.2.2 M ∧ OneOf M y.1 y.2.1 y.2.2 N := by
  obtain ⟨M, h1, K, h2, h3⟩ := h
  obtain rfl := h3
  exact ⟨M, h1, h2⟩
/-- What Apply answers, in one form. -/
def ApplySum (L : List Pr) (n : Nat) (C : List Chg) (p : Nat) (w : World) (e : Ending) (w' : World) : Prop :=
  (∃ (A1 : Option Addr) (c1 m : Nat) (M : List Pr) (err : Int), e = .returned (.tuple #[.slice A1 m c1, .int .i64 err]) ∧ M.length = m ∧ m ≤ n + p ∧ (A1 = none → m = 0) ∧ m ≤ c1 ∧ Rd w' 2 A1 m (prow M) ∧ (err = 0 ↔ chkAll C = 0 ∧ Snd L) ∧ (err = 0 → AppOf L C M) ∧ (chkAll C ≠ 0 → err = chkAll C) ∧ (err ≠ 0 → m = 0)) ∧ Later w w'
theorem own_cap2 {w : World} {base n size c : Nat} {e : TypeId} {A : Option Addr} {xs : List Value} (h : w.ownsRow base e size (.slice A n c) n xs) : (A = none → n = 0) ∧ n ≤ c := by
  rcases h.2 with ⟨h1, h2, _⟩ | ⟨g, cap, cur, h1, _, _, h2, _⟩
  · injection h1 with h1 h3 h4; subst h1
    exact ⟨fun _ => by omega, by omega⟩
  · injection h1 with h1 h3 h4; subst h1 h4
    exact ⟨fun h => (by cases h), h2⟩
theorem apply_sum {w : World} {A A' : Option Addr} {n c p c' : Nat} {L : List Pr} {C : List Chg} (hr : Rd w 2 A n (prow L)) (hl : L.length = n) (hA : A = none → n = 0) (hr' : Rd w 3 A' p (crow C)) (hl' : C.length = p) (hn : n + p ≤ 2199023255552) :
    Calls Try.prog 12 #[.slice A n c, .slice A' p c'] w (ApplySum L n C p w) := by
  refine (apply_any (c := c) (c' := c') hr hl hA hr' hl' hn).mono fun e w' h => ?_
  rcases h with ⟨⟨h0, rfl⟩ | ⟨h0, hs, rfl⟩ | ⟨h0, hs, u, M, m, rfl, hm, hmn, hap, ho⟩, hb⟩
  · exact ⟨⟨none, 0, 0, [], chkAll C, rfl, rfl, Nat.zero_le _, fun _ => rfl, Nat.le_refl _, Rd.nil _ _ _, ⟨fun h => absurd h h0, fun h => absurd h.1 h0⟩, fun h => absurd h h0, fun _ => rfl, fun _ => rfl⟩, hb⟩
  · exact ⟨⟨none, 0, 0, [], 2, rfl, rfl, Nat.zero_le _, fun _ => rfl, Nat.le_refl _, Rd.nil _ _ _, ⟨fun h => (by cases h), fun h => absurd h.2 hs⟩, fun h => (by cases h), fun h => absurd h0 h, fun _ => rfl⟩, hb⟩
  · obtain ⟨A1, c1, rfl⟩ := own_form ho
    have hc := own_cap2 ho
    exact ⟨⟨A1, c1, m, M, 0, rfl, hm, hmn, hc.1, hc.2, Rd.of_own ho, ⟨fun _ => ⟨h0, hs⟩, fun _ => rfl⟩, fun _ => hap, fun h => absurd h0 h, fun h => absurd rfl h⟩, hb⟩
theorem later_on {w w1 : World} {p : Addr} {u : Value} (l : ∀ W, Later w W → W.cell? p = some u) (h : Later w w1) : ∀ W, Later w1 W → W.cell? p = some u := fun W hW => l W (h.trans hW)
theorem row_al {w : World} {k : Nat} {o : Obj} (h : w.heap[k]? = some o) (ob : Obj) : (w.alloc ob).heap[k]? = some o := by
  rw [← h]; exact Below.heap_alloc w ob k (heap_lt0 h)
theorem later_alloc (w : World) (ob : Obj) : Later w (w.alloc ob) := (Below.refl _ _).alloc (Nat.le_refl _) _
theorem row_al_later {W W' : World} {Z : Obj} (h : Later (W.alloc Z) W') : W'.heap[W.heap.size]? = some Z := (h.block _ (by simp)).trans (heap_alloc_new W _)
theorem set_two {W0 W : World} {bk : Nat} {a b u v : Value} {t : TypeId} (h : Later W0 W) (hb : W0.heap.size ≤ bk) (hr : W.heap[bk]? = some (.cells #[a, b] t (0, 0))) :
    Later W0 ((W.setCell ⟨bk, 0, none⟩ u).setCell ⟨bk, 1, none⟩ v) ∧ ((W.setCell ⟨bk, 0, none⟩ u).setCell ⟨bk, 1, none⟩ v).cell? ⟨bk, 0, none⟩ = some u ∧ ((W.setCell ⟨bk, 0, none⟩ u).setCell ⟨bk, 1, none⟩ v).cell? ⟨bk, 1, none⟩ = some v := by
  have h1 := heap_setCell_same W bk 0 _ _ u hr
  have h2 := heap_setCell_same _ bk 1 _ _ v h1
  exact ⟨Below.setCell (Below.setCell h hb _) hb _, cell_of_row _ _ 0 _ _ (0, 0) h2, cell_of_row _ _ 1 _ _ (0, 0) h2⟩
theorem set_two' {W0 W : World} {bk : Nat} {a b u v : Value} {t : TypeId} (h : Later W0 W) (hb : W0.heap.size ≤ bk) (hr : W.heap[bk]? = some (.cells #[a, b] t (0, 0))) :
    Later W0 ((W.setCell ⟨bk, 0, none⟩ u).setCell ⟨bk, 1, none⟩ v) ∧ W0.heap.size ≤ bk ∧ ((W.setCell ⟨bk, 0, none⟩ u).setCell ⟨bk, 1, none⟩ v).heap[bk]? = some (.cells #[u, v] t (0, 0)) := by
  have h1 := heap_setCell_same W bk 0 _ _ u hr
  have h2 := heap_setCell_same _ bk 1 _ _ v h1
  exact ⟨Below.setCell (Below.setCell h hb _) hb _, hb, by simpa using h2⟩
theorem changeT : ElemT Try.prog 23 32 3 40 := elem_mk (z := .agg #[.int .i64 0, .string ByteArray.empty, .string ByteArray.empty]) Try.underlying23 (by kernel_rfl) rfl (by decide)
end Go.Proofs.Ytblljpdlmllceaa
/-
  The document's Meet, as the laws of changes meet it.
-/
namespace Go.Proofs.Ytblljpdlmllceaa
open Go.RowKit
set_option linter.unusedVariables false
set_option linter.unusedSimpArgs false
/-- What two spans have both. -/
def meetS (a b : Pr) : Pr :=
  let f := if a.1 < b.1 then b.1 else a.1
  let t := if b.2 < a.2 then b.2 else a.2
  if t ≤ f then (ByteArray.empty, ByteArray.empty) else (f, t)
theorem meet_comm (a b : Pr) : meetS a b = meetS b a := by
  unfold meetS
  have e1 : (if a.1 < b.1 then b.1 else a.1) = (if b.1 < a.1 then a.1 else b.1) := by split <;> split <;> grind
  have e2 : (if b.2 < a.2 then b.2 else a.2) = (if a.2 < b.2 then a.2 else b.2) := by split <;> split <;> grind
  simp only [e1, e2]
theorem empty_lo (k : ByteArray) : ByteArray.empty ≤ k := List.nil_le _
theorem meet_in (a b : Pr) (k : ByteArray) : InS (meetS a b) k ↔ InS a k ∧ InS b k := by
  unfold meetS InS
  simp only
  have he := empty_lo k
  by_cases h : (if b.2 < a.2 then b.2 else a.2) ≤ (if a.1 < b.1 then b.1 else a.1)
  · rw [if_pos h]
    simp only
    constructor
    · rintro ⟨h1, h2⟩; grind
    · rintro ⟨⟨h1, h2⟩, h3, h4⟩
      split at h <;> split at h <;> grind
  · rw [if_neg h]
    simp only
    split at h <;> split at h <;> split <;> grind
set_option maxHeartbeats 2000000 in
theorem rmeet_any (a b : Pr) (w : World) : Calls Try.prog 16 #[.agg #[.string a.1, .string a.2], .agg #[.string b.1, .string b.2]] w fun e w' => e = .returned (.agg #[.string (meetS a b).1, .string (meetS a b).2]) ∧ Later w w' := by
  obtain ⟨f, hf⟩ : ∃ f, f = if a.1 < b.1 then b.1 else a.1 := ⟨_, rfl⟩
  obtain ⟨t, ht⟩ : ∃ t, t = if b.2 < a.2 then b.2 else a.2 := ⟨_, rfl⟩
  have hm : meetS a b = if t ≤ f then (ByteArray.empty, ByteArray.empty) else (f, t) := by unfold meetS; rw [hf, ht]
  have HM := hide_ hm
  have g1 := ble b.1 a.1
  have g2 := bl b.2 a.2
  have g3 := bl f t
  clear hm
  by_cases h1 : a.1 < b.1
  all_goals by_cases h2 : b.2 < a.2
  all_goals by_cases h3 : t ≤ f
  all_goals simp only [h1, h2, if_true, if_false] at hf ht
  all_goals subst hf ht
  all_goals have k1 := hide_ h3
  all_goals first | rw [decide_eq_false (show ¬ b.1 ≤ a.1 by grind)] at g1 | rw [decide_eq_true (show b.1 ≤ a.1 by grind)] at g1
  all_goals first | rw [decide_eq_true h2] at g2 | rw [decide_eq_false h2] at g2
  all_goals first | rw [decide_eq_true (by grind)] at g3 | rw [decide_eq_false (by grind)] at g3
  all_goals clear h1 h2 h3
  all_goals
    go_enter Try.func16, Try.ntmps16
    go_wp2_with fail
    go_returns
    refine ⟨?_, ?_⟩
    · rw [HM.out]
      first
      | (rw [if_pos k1.out]; rfl)
      | (rw [if_neg k1.out])
    · exact ((((Below.refl _ _).alloc (Nat.le_refl _) _).alloc (by simp) _).alloc (by simp; omega) _).alloc (by simp; omega) _
end Go.Proofs.Ytblljpdlmllceaa
