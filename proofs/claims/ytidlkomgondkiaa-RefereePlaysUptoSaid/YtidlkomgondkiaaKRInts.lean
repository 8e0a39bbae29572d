/-
  The document's Ints: rows of the same numbers are the same.
-/
import Derived.Test.YtidlkomgondkiaaKRMem
namespace Go.Proofs.Ytidlkomgondkiaa
open Go.RowKit
set_option linter.unusedVariables false
set_option linter.unusedSimpArgs false
set_option maxRecDepth 100000 in
set_option maxHeartbeats 2000000 in
theorem ints_same {w : World} {A A' : Option Addr} {n c c' : Nat} {V : List Int} (h1 : Rd w 1 A n (ints V)) (h2 : Rd w 1 A' n (ints V)) (hV : V.length = n) (hn : n ≤ 1048576) :
    Calls Try.prog 20 #[.slice A n c, .slice A' n c'] w fun e w' => e = .returned (.bool true) ∧ Later w w' := by
  have HR := hide_ h1; have HR' := hide_ h2; have HL := hide_ hV
  have hn2 : (n : Int) ≤ 1048576 := by omega
  clear h1 h2 hV
  go_enter Try.func20, Try.ntmps20
  go_wp2_with fail
  go_loopw [5] (fun s5 wr => ∃ (k : Nat), k ≤ n ∧ s5 = .int .i64 k ∧ Hid (Later w wr)) (fun i _ => n - (intOf i).toNat)
  case atStart => exact ⟨0, Nat.zero_le _, rfl, hide_ (Later.refl _)⟩
  case round =>
    obtain ⟨k, hk, rfl, HB⟩ := hrel
    by_cases hlt : k < n
    · have r1 : (k : Int) < (n : Int) := by omega
      have r2 : (k : Int) ≤ 1048576 := by omega
      have r3 : (0 : Int) ≤ (k : Int) := by omega
      obtain ⟨v, hv⟩ : ∃ v, V[k]? = some v := ⟨_, List.getElem?_eq_getElem (by rw [HL.out]; exact hlt)⟩
      have hx : (ints V)[k]? = some (.int .i64 v) := by simp [ints, hv]
      have hpos : 0 < (ints V).length := by simp [ints]; have := HL.out; omega
      obtain ⟨b, o, rfl, hc⟩ := (HR.out.below HB.out).2 hpos
      obtain ⟨b', o', rfl, hc'⟩ := (HR'.out.below HB.out).2 hpos
      have l0 : wr.cell? ⟨b, o + k * 1, none⟩ = some (.int .i64 v) := by rw [Nat.mul_one]; exact hc k _ hx
      have l1 : wr.cell? ⟨b', o' + k * 1, none⟩ = some (.int .i64 v) := by rw [Nat.mul_one]; exact hc' k _ hx
      have k0 := later_drew_cell l0
      have k1 := later_drew_cell l1
      have k2 := later_drew_cell (hc k _ hx)
      have k3 := later_drew_cell (hc' k _ hx)
      clear hx hpos hc hc' hv
      go_wp2_with fail
      refine wp_region_k (by kernel_rfl) ?_
      refine wpAnyK_take 0 (v := ?_) rfl (by kernel_rfl) (by kernel_rfl) (by kernel_rfl) (fun _ _ _ h => h) (by rfl) (by intro W hSw; go_simp; with_reducible rfl) ?_; try simp only [Act.put, List.setIfInBounds_toArray, List.set_cons_zero, List.set_cons_succ]
      refine wpAnyK_take 1 (v := ?_) rfl (by kernel_rfl) (by kernel_rfl) (by kernel_rfl) (fun _ _ _ h => h) (by rfl) (by intro W hSw; go_simp; with_reducible rfl) ?_; try simp only [Act.put, List.setIfInBounds_toArray, List.set_cons_zero, List.set_cons_succ]
      refine wpAnyK_take 2 (v := ?_) rfl (by kernel_rfl) (by kernel_rfl) (by kernel_rfl) (fun _ _ _ h => h) (by rfl) (by intro W hSw; go_simp; with_reducible rfl) ?_; try simp only [Act.put, List.setIfInBounds_toArray, List.set_cons_zero, List.set_cons_succ]
      refine wpAnyK_take 3 (v := ?_) rfl (by kernel_rfl) (by kernel_rfl) (by kernel_rfl) (fun _ _ _ h => h) (by rfl) (by intro W hSw; go_simp; with_reducible rfl) ?_; try simp only [Act.put, List.setIfInBounds_toArray, List.set_cons_zero, List.set_cons_succ]
      refine wpAnyK_take 4 (v := ?_) rfl (by kernel_rfl) (by kernel_rfl) (by kernel_rfl) (fun _ _ _ h => h) (by rfl) (by intro W hSw; go_simp; with_reducible rfl) ?_; try simp only [Act.put, List.setIfInBounds_toArray, List.set_cons_zero, List.set_cons_succ]
      refine wpAnyK_take 5 (v := ?_) rfl (by kernel_rfl) (by kernel_rfl) (by kernel_rfl) (fun _ _ _ h => h) (by rfl) (by intro W hSw; go_simp; with_reducible rfl) ?_; try simp only [Act.put, List.setIfInBounds_toArray, List.set_cons_zero, List.set_cons_succ]
      refine wpAnyK_take 6 (v := ?_) rfl (by kernel_rfl) (by kernel_rfl) (by kernel_rfl) (fun _ _ _ h => h) (by rfl) (by intro W hSw; go_simp; with_reducible rfl) ?_; try simp only [Act.put, List.setIfInBounds_toArray, List.set_cons_zero, List.set_cons_succ]
      refine wpAnyK_take 7 (v := ?_) rfl (by kernel_rfl) (by kernel_rfl) (by kernel_rfl) (fun _ _ _ h => h) (by rfl) (by intro W hSw; go_simp; with_reducible rfl) ?_; try simp only [Act.put, List.setIfInBounds_toArray, List.set_cons_zero, List.set_cons_succ]
      refine wpAnyK_take 8 (v := ?_) rfl (by kernel_rfl) (by kernel_rfl) (by kernel_rfl) (fun _ _ _ h => h) (by rfl) (by intro W hSw; go_simp; with_reducible rfl) ?_; try simp only [Act.put, List.setIfInBounds_toArray, List.set_cons_zero, List.set_cons_succ]
      refine wpAnyK_done (by kernel_rfl) ?_ _
      go_wp2_with fail
      go_roundw
      case rel => exact ⟨k + 1, by omega, by go_num, hide_ (HB.out.trans (below_drewN (Later.refl _) 1))⟩
      case measure => simp [intOf]; omega
    · have r1 : ¬ (k : Int) < (n : Int) := by omega
      go_wp2_with fail
      go_ret
      exact ⟨rfl, HB.out⟩

end Go.Proofs.Ytidlkomgondkiaa
