/-
  ChestChain: batches that are pushed one behind the other are peeked as they were; popped ones are not.
  Conditions: none but the row's own.
-/
import Derived.Test.YtlgnnmpfipmjeaaGreatG7
import Derived.Test.YtlgnnmpfipmjeaaGreatZkFrame
namespace Go.Proofs.YtlgnnmpfipmjeaaGreat
open Go.ChangeShapes Go.WideShapes Go.ChangeAt Go.RowKit
set_option linter.unusedVariables false
set_option linter.unusedSimpArgs false
set_option maxHeartbeats 32000000 in
set_option maxRecDepth 100000 in
theorem chestChain_walk {w : World} (Al : Option Addr) (nl cl : Nat) (l : List UInt8) (hr : Rd w 1 Al nl (bvs l)) (hl : l.length = nl) (hc : nl ≤ maxLen) (mo po : Nat) (hmo : mo ≤ 255) (hpo : po ≤ 255) :
    Calls Tryz.prog 5 #[.slice Al nl cl, .int .u8 mo, .int .u8 po] w fun e w' => e = .returned (.bool true) ∧ Below w.heap.size w w' := by
  have HT := hide_ (newK (w0 := w) (w := w) (Later.refl _) 524288 (by omega))
  have HR := hide_ hr; have HL := hide_ hl
  unfold maxLen at hc
  clear hr hl
  go_enter Tryz.func5, Tryz.ntmps5
  go_wp2_with fail
  refine HT.out.mono ?_; rintro e w1 ⟨rfl, ht1, hl1⟩
  have HO := hide_ (openK (w0 := w) hl1 (Nat.le_refl _) ht1)
  clear ht1 hl1
  go_wp2_with fail
  refine HO.out.mono ?_; rintro e w2 ⟨c, rfl, hk2⟩
  have HK2 := hide_ hk2
  clear hk2
  go_wp2_with fail
  refine (awake_any _).mono ?_; rintro e w3 ⟨rfl, hl3⟩
  have HLY := hide_ (lay_firstK (HK2.out.later hl3) (by omega) (epoch := 1) (base := 7) (A := none) (n := 0) (cc := 0) (L := []) (by omega) (by omega) (by omega) (Rd.nil _ _ _) rfl (by omega) (fun x hx => by cases hx) trivial (by omega))
  clear hl3
  go_wp2_with fail
  refine HLY.out.mono ?_; rintro e w4 ⟨rfl, hk4, _⟩
  have HK4 := hide_ (show KX w (fun _ => False) w4 c (60 + 0 * 2500) 524288 0 ⟨1, 7, 7, 0, [], bcc 7 []⟩ from hk4)
  have HL4 := hide_ HK4.out.below
  clear hk4 HLY HO HT HK2
  go_wp2_with fail
  go_loopw [11, 12, 13] (fun s11 s12 s13 wr => ∃ i A c1, i ≤ nl ∧ i ≤ 24 ∧ s11 = .int .i64 (tp 7 (l.take i) : Nat) ∧ s12 = .slice A i c1 ∧ s13 = .int .i64 (i : Nat) ∧ Hid (InvC w w4 wr c l i A c1)) (fun _ _ s13 _ => 24 - (intOf s13).toNat)
  case atStart => exact ⟨0, some ⟨w4.heap.size, 0, none⟩, 0, by omega, by omega, rfl, rfl, rfl, hide_ (invC_start HK4.out)⟩
  case round =>
    obtain ⟨i, A, c1, hi, hi24, rfl, rfl, rfl, HI⟩ := hrel
    have r1 : (0 : Int) ≤ (i : Int) := by omega
    obtain ⟨a0, ha0⟩ : ∃ a, a = tp 7 (l.take i) := ⟨_, rfl⟩
    rw [← ha0]
    have HTB := hide_ (show a0 ≤ 7 + 256 * 24 by have := (tp_le 7 (l.take i)).2; rw [List.length_take, ← ha0] at this; omega)
    have HA0 := hide_ ha0
    clear ha0
    by_cases hlt : i < nl ∧ i < 24
    · obtain ⟨h1, h2⟩ := hlt
      obtain ⟨s, hs⟩ : ∃ s, l[i]? = some s := ⟨_, List.getElem?_eq_getElem (by rw [HL.out]; exact h1)⟩
      have HTK := hide_ (show l.take (i + 1) = l.take i ++ [s] by rw [List.take_add_one, hs]; rfl)
      have hcell : ∃ b o, Al = some ⟨b, o, none⟩ ∧ b < w.heap.size ∧ wr.cell? ⟨b, o + i, none⟩ = some (.int .u8 (s.toNat : Int)) := by
        obtain ⟨b, o, e, hcc⟩ := HR.out.2 (by simp [bvs]; rw [HL.out]; omega)
        have h3 := hcc i (.int .u8 (s.toNat : Int)) (by simp [bvs, bv, hs])
        exact ⟨b, o, e, cell_lt h3, by rw [HI.out.below.cell (cell_lt h3)]; exact h3⟩
      obtain ⟨b, o, rfl, hblt, q0⟩ := hcell
      have r2 : (i : Int) < (nl : Int) := by omega
      have r3 : (i : Int) < 24 := by omega
      have r4 := s.toNat_lt
      have Q0 := Stands.cell (X := fun k => k < wr.heap.size) q0 (Nat.lt_of_lt_of_le hblt HI.out.below.size)
      have HBL := hide_ hblt
      have HIL := hide_ (show (l.take i).length = i by rw [List.length_take]; have := HL.out; omega)
      clear hs hblt q0
      have htb := HTB.out
      go_wp2_with fail
      refine wp_region_z (R := Stands (fun k => k < wr.heap.size)) [20] (by kernel_rfl) ?_
      refine wpAnyZ_pure (Stands.steady (fun k => k < wr.heap.size)) 0 (v := ?_) rfl (by kernel_rfl) (by kernel_rfl) (by kernel_rfl) (fun _ _ _ h => h) (by rfl) (by intro W; go_simp; with_reducible rfl) ?_; try simp only [Act.put, List.setIfInBounds_toArray, List.set_cons_zero, List.set_cons_succ]
      refine wpAnyZ_pure (Stands.steady (fun k => k < wr.heap.size)) 1 (v := ?_) rfl (by kernel_rfl) (by kernel_rfl) (by kernel_rfl) (fun _ _ _ h => h) (by rfl) (by intro W; go_simp; with_reducible rfl) ?_; try simp only [Act.put, List.setIfInBounds_toArray, List.set_cons_zero, List.set_cons_succ]
      refine wpAnyZ_pure (Stands.steady (fun k => k < wr.heap.size)) 2 (v := ?_) rfl (by kernel_rfl) (by kernel_rfl) (by kernel_rfl) (fun _ _ _ h => h) (by rfl) (by intro W; go_simp; with_reducible rfl) ?_; try simp only [Act.put, List.setIfInBounds_toArray, List.set_cons_zero, List.set_cons_succ]
      refine wpAnyZ_pure (Stands.steady (fun k => k < wr.heap.size)) 3 (v := ?_) rfl (by kernel_rfl) (by kernel_rfl) (by kernel_rfl) (fun _ _ _ h => h) (by rfl) (by intro W; go_simp; with_reducible rfl) ?_; try simp only [Act.put, List.setIfInBounds_toArray, List.set_cons_zero, List.set_cons_succ]
      refine wpAnyZ_pure (Stands.steady (fun k => k < wr.heap.size)) 4 (v := ?_) rfl (by kernel_rfl) (by kernel_rfl) (by kernel_rfl) (fun _ _ _ h => h) (by rfl) (by intro W; go_simp; with_reducible rfl) ?_; try simp only [Act.put, List.setIfInBounds_toArray, List.set_cons_zero, List.set_cons_succ]
      refine wpAnyZ_take (Stands.steady (fun k => k < wr.heap.size)) 5 (v := ?_) rfl (by kernel_rfl) (by kernel_rfl) (by kernel_rfl) (by kernel_rfl) (fun _ _ _ h => h) (by rfl) (by intro W hSw; have hS0 := Stands.trans (show Stands (fun k => k < wr.heap.size) wr _ from by repeat first | assumption | exact Stands.refl _ _ | refine Stands.alloc ?_ _ | refine Stands.drew ?_ | refine Stands.trans ?_ (by assumption)) hSw; go_simp; with_reducible rfl) ?_; try simp only [Act.put, List.setIfInBounds_toArray, List.set_cons_zero, List.set_cons_succ]
      refine wpAnyZ_take (Stands.steady (fun k => k < wr.heap.size)) 6 (v := ?_) rfl (by kernel_rfl) (by kernel_rfl) (by kernel_rfl) (by kernel_rfl) (fun _ _ _ h => h) (by rfl) (by intro W hSw; have hS0 := Stands.trans (show Stands (fun k => k < wr.heap.size) wr _ from by repeat first | assumption | exact Stands.refl _ _ | refine Stands.alloc ?_ _ | refine Stands.drew ?_ | refine Stands.trans ?_ (by assumption)) hSw; go_simp; with_reducible rfl) ?_; try simp only [Act.put, List.setIfInBounds_toArray, List.set_cons_zero, List.set_cons_succ]
      refine wpAnyZ_take (Stands.steady (fun k => k < wr.heap.size)) 7 (v := ?_) rfl (by kernel_rfl) (by kernel_rfl) (by kernel_rfl) (by kernel_rfl) (fun _ _ _ h => h) (by rfl) (by intro W hSw; have hS0 := Stands.trans (show Stands (fun k => k < wr.heap.size) wr _ from by repeat first | assumption | exact Stands.refl _ _ | refine Stands.alloc ?_ _ | refine Stands.drew ?_ | refine Stands.trans ?_ (by assumption)) hSw; go_simp; with_reducible rfl) ?_; try simp only [Act.put, List.setIfInBounds_toArray, List.set_cons_zero, List.set_cons_succ]
      refine wpAnyZ_take (Stands.steady (fun k => k < wr.heap.size)) 8 (v := ?_) rfl (by kernel_rfl) (by kernel_rfl) (by kernel_rfl) (by kernel_rfl) (fun _ _ _ h => h) (by rfl) (by intro W hSw; have hS0 := Stands.trans (show Stands (fun k => k < wr.heap.size) wr _ from by repeat first | assumption | exact Stands.refl _ _ | refine Stands.alloc ?_ _ | refine Stands.drew ?_ | refine Stands.trans ?_ (by assumption)) hSw; go_simp; with_reducible rfl) ?_; try simp only [Act.put, List.setIfInBounds_toArray, List.set_cons_zero, List.set_cons_succ]
      refine wpAnyZ_pure (Stands.steady (fun k => k < wr.heap.size)) 9 (v := ?_) rfl (by kernel_rfl) (by kernel_rfl) (by kernel_rfl) (fun _ _ _ h => h) (by rfl) (by intro W; go_simp; with_reducible rfl) ?_; try simp only [Act.put, List.setIfInBounds_toArray, List.set_cons_zero, List.set_cons_succ]
      refine wpAnyZ_pure (Stands.steady (fun k => k < wr.heap.size)) 10 (v := ?_) rfl (by kernel_rfl) (by kernel_rfl) (by kernel_rfl) (fun _ _ _ h => h) (by rfl) (by intro W; go_simp; with_reducible rfl) ?_; try simp only [Act.put, List.setIfInBounds_toArray, List.set_cons_zero, List.set_cons_succ]
      refine wpAnyZ_pure (Stands.steady (fun k => k < wr.heap.size)) 11 (v := ?_) rfl (by kernel_rfl) (by kernel_rfl) (by kernel_rfl) (fun _ _ _ h => h) (by rfl) (by intro W; go_simp; with_reducible rfl) ?_; try simp only [Act.put, List.setIfInBounds_toArray, List.set_cons_zero, List.set_cons_succ]
      refine wpAnyZ_pure (Stands.steady (fun k => k < wr.heap.size)) 12 (v := ?_) rfl (by kernel_rfl) (by kernel_rfl) (by kernel_rfl) (fun _ _ _ h => h) (by rfl) (by intro W; go_simp; with_reducible rfl) ?_; try simp only [Act.put, List.setIfInBounds_toArray, List.set_cons_zero, List.set_cons_succ]
      refine wpAnyZ_take (Stands.steady (fun k => k < wr.heap.size)) 13 (v := ?_) rfl (by kernel_rfl) (by kernel_rfl) (by kernel_rfl) (by kernel_rfl) (fun _ _ _ h => h) (by rfl) (by intro W hSw; have hS0 := Stands.trans (show Stands (fun k => k < wr.heap.size) wr _ from by repeat first | assumption | exact Stands.refl _ _ | refine Stands.alloc ?_ _ | refine Stands.drew ?_ | refine Stands.trans ?_ (by assumption)) hSw; go_simp; with_reducible rfl) ?_; try simp only [Act.put, List.setIfInBounds_toArray, List.set_cons_zero, List.set_cons_succ]
      refine wpAnyZ_two 14 19 (by kernel_rfl) rfl rfl (fun K hK => ?_) (fun K hK => ?_)
      rotate_right 1
      focus
        go_simp
        refine hK.out _ _ (.inr (by repeat first | assumption | exact Stands.refl _ _ | refine Stands.alloc ?_ _ | refine Stands.drew ?_ | refine Stands.of_later ?_)) ?_
        clear hK K; try simp only [Act.put, List.setIfInBounds_toArray, List.set_cons_zero, List.set_cons_succ]
        refine wpAnyZ_one 14 (by kernel_rfl) rfl (fun K hK => ?_)
        go_simp
        refine hK.out _ _ (by repeat first | assumption | exact Stands.refl _ _ | refine Stands.alloc ?_ _ | refine Stands.drew ?_ | refine Stands.of_later ?_) ?_
        clear hK K; try simp only [Act.put, List.setIfInBounds_toArray, List.set_cons_zero, List.set_cons_succ]
        refine wpAnyZ_one 15 (by kernel_rfl) rfl (fun K hK => ?_)
        refine step_conv (by rfl) (.tmp 82) _ _ rfl _ (.string ⟨#[s]⟩) rfl (by first | exact conv_1 wr s | exact conv_2 wr s _ | exact conv_3 wr s _) ?_
        refine hK.out _ _ (by repeat first | assumption | exact Stands.refl _ _ | refine Stands.alloc ?_ _ | refine Stands.drew ?_ | refine Stands.of_later ?_) ?_
        clear hK K; try simp only [Act.put, List.setIfInBounds_toArray, List.set_cons_zero, List.set_cons_succ]
        refine wpAnyZ_pure (Stands.steady (fun k => k < wr.heap.size)) 16 (v := ?_) rfl (by kernel_rfl) (by kernel_rfl) (by kernel_rfl) (fun _ _ _ h => h) (by rfl) (by intro W; go_simp; with_reducible rfl) ?_; try simp only [Act.put, List.setIfInBounds_toArray, List.set_cons_zero, List.set_cons_succ]
        refine wpAnyZ_one 17 (by kernel_rfl) rfl (fun K hK => ?_)
        go_simp
        refine hK.out _ _ (by repeat first | assumption | exact Stands.refl _ _ | refine Stands.alloc ?_ _ | refine Stands.drew ?_ | refine Stands.of_later ?_) ?_
        clear hK K; try simp only [Act.put, List.setIfInBounds_toArray, List.set_cons_zero, List.set_cons_succ]
        refine wpAnyZ_pure (Stands.steady (fun k => k < wr.heap.size)) 18 (v := ?_) rfl (by kernel_rfl) (by kernel_rfl) (by kernel_rfl) (fun _ _ _ h => h) (by rfl) (by intro W; go_simp; with_reducible rfl) ?_; try simp only [Act.put, List.setIfInBounds_toArray, List.set_cons_zero, List.set_cons_succ]
        refine wpAnyZ_loud 20 (by kernel_rfl) (by rfl) rfl (fun K hK => ?_)
        go_simp
        refine hK.out _ _ ?_
        clear hK K; try simp only [Act.put, List.setIfInBounds_toArray, List.set_cons_zero, List.set_cons_succ]
        refine wpAnyZ_done (by kernel_rfl) ?_ _
      rotate_right 1
      focus
        go_simp
        refine hK.out _ _ (.inr (by repeat first | assumption | exact Stands.refl _ _ | refine Stands.alloc ?_ _ | refine Stands.drew ?_ | refine Stands.of_later ?_)) ?_
        clear hK K; try simp only [Act.put, List.setIfInBounds_toArray, List.set_cons_zero, List.set_cons_succ]
        refine wpAnyZ_two 15 19 (by kernel_rfl) rfl rfl (fun K hK => ?_) (fun K hK => ?_)
        rotate_right 1
        focus
          go_simp
          refine hK.out _ _ (.inr (by repeat first | assumption | exact Stands.refl _ _ | refine Stands.alloc ?_ _ | refine Stands.drew ?_ | refine Stands.of_later ?_)) ?_
          clear hK K; try simp only [Act.put, List.setIfInBounds_toArray, List.set_cons_zero, List.set_cons_succ]
          refine wpAnyZ_one 15 (by kernel_rfl) rfl (fun K hK => ?_)
          refine step_conv (by rfl) (.tmp 82) _ _ rfl _ (.string ⟨#[s]⟩) rfl (by first | exact conv_1 wr s | exact conv_2 wr s _ | exact conv_3 wr s _) ?_
          refine hK.out _ _ (by repeat first | assumption | exact Stands.refl _ _ | refine Stands.alloc ?_ _ | refine Stands.drew ?_ | refine Stands.of_later ?_) ?_
          clear hK K; try simp only [Act.put, List.setIfInBounds_toArray, List.set_cons_zero, List.set_cons_succ]
          refine wpAnyZ_pure (Stands.steady (fun k => k < wr.heap.size)) 16 (v := ?_) rfl (by kernel_rfl) (by kernel_rfl) (by kernel_rfl) (fun _ _ _ h => h) (by rfl) (by intro W; go_simp; with_reducible rfl) ?_; try simp only [Act.put, List.setIfInBounds_toArray, List.set_cons_zero, List.set_cons_succ]
          refine wpAnyZ_one 17 (by kernel_rfl) rfl (fun K hK => ?_)
          go_simp
          refine hK.out _ _ (by repeat first | assumption | exact Stands.refl _ _ | refine Stands.alloc ?_ _ | refine Stands.drew ?_ | refine Stands.of_later ?_) ?_
          clear hK K; try simp only [Act.put, List.setIfInBounds_toArray, List.set_cons_zero, List.set_cons_succ]
          refine wpAnyZ_pure (Stands.steady (fun k => k < wr.heap.size)) 18 (v := ?_) rfl (by kernel_rfl) (by kernel_rfl) (by kernel_rfl) (fun _ _ _ h => h) (by rfl) (by intro W; go_simp; with_reducible rfl) ?_; try simp only [Act.put, List.setIfInBounds_toArray, List.set_cons_zero, List.set_cons_succ]
          refine wpAnyZ_loud 20 (by kernel_rfl) (by rfl) rfl (fun K hK => ?_)
          go_simp
          refine hK.out _ _ ?_
          clear hK K; try simp only [Act.put, List.setIfInBounds_toArray, List.set_cons_zero, List.set_cons_succ]
          refine wpAnyZ_done (by kernel_rfl) ?_ _
        rotate_right 1
        focus
          refine step_conv (by rfl) (.tmp 82) _ _ rfl _ (.string ⟨#[s]⟩) rfl (by first | exact conv_1 wr s | exact conv_2 wr s _ | exact conv_3 wr s _) ?_
          refine hK.out _ _ (.inr (by repeat first | assumption | exact Stands.refl _ _ | refine Stands.alloc ?_ _ | refine Stands.drew ?_ | refine Stands.of_later ?_)) ?_
          clear hK K; try simp only [Act.put, List.setIfInBounds_toArray, List.set_cons_zero, List.set_cons_succ]
          refine wpAnyZ_pure (Stands.steady (fun k => k < wr.heap.size)) 16 (v := ?_) rfl (by kernel_rfl) (by kernel_rfl) (by kernel_rfl) (fun _ _ _ h => h) (by rfl) (by intro W; go_simp; with_reducible rfl) ?_; try simp only [Act.put, List.setIfInBounds_toArray, List.set_cons_zero, List.set_cons_succ]
          refine wpAnyZ_two 17 19 (by kernel_rfl) rfl rfl (fun K hK => ?_) (fun K hK => ?_)
          rotate_right 1
          focus
            go_simp
            refine hK.out _ _ (.inr (by repeat first | assumption | exact Stands.refl _ _ | refine Stands.alloc ?_ _ | refine Stands.drew ?_ | refine Stands.of_later ?_)) ?_
            clear hK K; try simp only [Act.put, List.setIfInBounds_toArray, List.set_cons_zero, List.set_cons_succ]
            refine wpAnyZ_one 17 (by kernel_rfl) rfl (fun K hK => ?_)
            go_simp
            refine hK.out _ _ (by repeat first | assumption | exact Stands.refl _ _ | refine Stands.alloc ?_ _ | refine Stands.drew ?_ | refine Stands.of_later ?_) ?_
            clear hK K; try simp only [Act.put, List.setIfInBounds_toArray, List.set_cons_zero, List.set_cons_succ]
            refine wpAnyZ_pure (Stands.steady (fun k => k < wr.heap.size)) 18 (v := ?_) rfl (by kernel_rfl) (by kernel_rfl) (by kernel_rfl) (fun _ _ _ h => h) (by rfl) (by intro W; go_simp; with_reducible rfl) ?_; try simp only [Act.put, List.setIfInBounds_toArray, List.set_cons_zero, List.set_cons_succ]
            refine wpAnyZ_loud 20 (by kernel_rfl) (by rfl) rfl (fun K hK => ?_)
            go_simp
            refine hK.out _ _ ?_
            clear hK K; try simp only [Act.put, List.setIfInBounds_toArray, List.set_cons_zero, List.set_cons_succ]
            refine wpAnyZ_done (by kernel_rfl) ?_ _
          rotate_right 1
          focus
            go_simp
            refine hK.out _ _ (.inr (by repeat first | assumption | exact Stands.refl _ _ | refine Stands.alloc ?_ _ | refine Stands.drew ?_ | refine Stands.of_later ?_)) ?_
            clear hK K; try simp only [Act.put, List.setIfInBounds_toArray, List.set_cons_zero, List.set_cons_succ]
            refine wpAnyZ_pure (Stands.steady (fun k => k < wr.heap.size)) 18 (v := ?_) rfl (by kernel_rfl) (by kernel_rfl) (by kernel_rfl) (fun _ _ _ h => h) (by rfl) (by intro W; go_simp; with_reducible rfl) ?_; try simp only [Act.put, List.setIfInBounds_toArray, List.set_cons_zero, List.set_cons_succ]
            refine wpAnyZ_one 19 (by kernel_rfl) rfl (fun K hK => ?_)
            go_simp
            refine hK.out _ _ (by repeat first | assumption | exact Stands.refl _ _ | refine Stands.alloc ?_ _ | refine Stands.drew ?_ | refine Stands.of_later ?_) ?_
            clear hK K; try simp only [Act.put, List.setIfInBounds_toArray, List.set_cons_zero, List.set_cons_succ]
            refine wpAnyZ_loud 20 (by kernel_rfl) (by rfl) rfl (fun K hK => ?_)
            go_simp
            refine hK.out _ _ ?_
            clear hK K; try simp only [Act.put, List.setIfInBounds_toArray, List.set_cons_zero, List.set_cons_succ]
            refine wpAnyZ_done (by kernel_rfl) ?_ _
      all_goals (
        go_wp2_with fail
        first
          | ((with_reducible refine (InvC.push2 HI.out HTK.out h2 HIL.out (al3 _ _ _ _) (q := wr.heap.size + 1) (bq := wr.heap.size + 1 + 1) (by omega) (by rw [al3_size]; omega) (al3_1 _ _ _ _) HA0.out (by omega) (by rw [al3_size]; omega) (al3_2 _ _ _ _)).mono ?_))
          | ((with_reducible refine (InvC.push2 HI.out HTK.out h2 HIL.out (al3 _ _ _ _) (q := wr.heap.size + 1 + 1) (bq := wr.heap.size + 1) (by omega) (by rw [al3_size]; omega) (al3_2 _ _ _ _) HA0.out (by omega) (by rw [al3_size]; omega) (al3_1 _ _ _ _)).mono ?_))
          | ((with_reducible refine (InvC.push2 HI.out HTK.out h2 HIL.out (al3 _ _ _ _) (q := wr.heap.size + 1 + 1) (bq := wr.heap.size) (by omega) (by rw [al3_size]; omega) (al3_2 _ _ _ _) HA0.out (by omega) (by rw [al3_size]; omega) (al3_0 _ _ _ _)).mono ?_))
        rintro e w5 ⟨rfl, hm2⟩
        obtain ⟨g0, g1, g2, g3⟩ := cell_row4 hm2.row
        have HM2 := hide_ hm2
        obtain ⟨La, ho, hsz, hnx⟩ := hm2.own HTK.out HA0.out
        have HOW := hide_ ho; have HSZ := hide_ hsz; have HNX := hide_ hnx
        have HTP := hide_ (tp_next HTK.out HA0.out)
        clear hm2 ho hsz hnx
        go_wp2_with (at_builtin; go_loud (refine wpList_append_rd _ rfl (.tmp 103) (.tmp 105) 31 rfl w4.heap.size 38 4 48 batT (.slice A i c1) i (brow La) rfl HOW.out (some ⟨w5.heap.size, 0, none⟩) 1 1 _ rfl (rd_cbv _ _ _ _) (encV_one _) (by omega) (by unfold maxLen; omega) (by have h1 := HSZ.out; simp; omega) (fun h => by cases h) ?_; intro v9 w9 hown hg hat; obtain ⟨A9, c9, hv9⟩ := own_form hown; subst hv9; have HN := hide_ (HNX.out A9 c9 w9 _ (by simp) hown hg hat); clear hown hg hat g0 g1 g2 g3))
        rw [HTP.out]
        go_roundw
        case rel => exact ⟨i + 1, A9, c9, by omega, by omega, rfl, rfl, by go_num, HN⟩
        case measure => simp [intOf]; omega)
    · have HEQ := hide_ (show (l.take i).length = i by rw [List.length_take]; have := HL.out; omega)
      obtain ⟨bl, hbl⟩ : ∃ bl, bl = l.take i := ⟨_, rfl⟩
      obtain ⟨wo, hwo⟩ : ∃ wo, wo = wr := ⟨_, rfl⟩
      have HIX := HI.out.ex
      rw [← hbl] at HIX HEQ HA0
      obtain ⟨La, kn, hmp, hkx, hown, hbok, hgew⟩ := HIX
      rw [← hwo] at hkx hown hbok
      rw [← hwo]
      have HMP := hide_ hmp; have HKX := hide_ hkx; have HOA := hide_ hown; have HBOK := hide_ hbok
      have HGI := hide_ (gotI_start wo bl)
      have hcond : ¬ ((i : Int) < (nl : Int) ∧ (i : Int) < 24) := by omega
      obtain ⟨m, hm, hm5⟩ : ∃ m : Nat, m = mo % 5 ∧ m < 5 := ⟨_, rfl, by omega⟩
      have htm : (mo : Int).tmod 5 = (m : Int) := by rw [hm]; exact Int.ofNat_tmod _ _ |>.symm
      clear hm hmp hkx hown hbok hgew hbl hwo HI HK4 HR
      by_cases hlt1 : (i : Int) < (nl : Int)
      all_goals (
        first
          | (have hge : ¬ (i : Int) < 24 := by omega)
          | skip
        go_wp2_with fail
        go_loopw [17, 18, 19] (fun s17 s18 s19 wx => ∃ j k : Nat, ∃ A2 c2, j ≤ i ∧ k ≤ 30 ∧ (k ≤ j ∨ j = i) ∧ s17 = .slice A2 j c2 ∧ s18 = .int .i64 (tp 7 (bl.take j) : Nat) ∧ s19 = .int .i64 k ∧ Hid (GotI wo wx bl j A2 c2)) (fun _ _ s19 _ => 30 - (intOf s19).toNat)
        case atStart => exact ⟨0, 0, some ⟨wo.heap.size, 0, none⟩, 0, by omega, by omega, .inl (by omega), rfl, rfl, rfl, HGI⟩
        case round =>
          obtain ⟨j, k, A2, c2, hj, hk, hjk, rfl, rfl, rfl, HG⟩ := hrel
          obtain ⟨from_, hfrom⟩ : ∃ f, f = tp 7 (bl.take j) := ⟨_, rfl⟩
          have hfb : 7 ≤ from_ ∧ from_ ≤ 7 + 256 * 24 := by have := tp_le 7 (bl.take j); rw [List.length_take, ← hfrom] at this; omega
          have HPK := hide_ (peekNK (HKX.out.later HG.out.le) (Nat.le_refl 1) from_ (m + 1) hfb.1 (by omega) (by omega))
          have HFR := hide_ hfrom
          rw [← hfrom]
          clear hfrom
          by_cases hk30 : k < 30
          · have r1 : (k : Int) < 30 := by omega
            go_wp2_with fail
            refine HPK.out.mono ?_; rintro e w10 ⟨A5, c5, n5, L5, rfl, hn5, ho5, hm5, hok5, hna5, hl5⟩
            rw [HFR.out, bcc_peek] at hm5
            have HN5 := hide_ hn5; have HO5 := hide_ ho5; have HM5 := hide_ hm5; have HOK5 := hide_ hok5; have HNA5 := hide_ hna5; have HL5 := hide_ hl5
            have hn5' : n5 = min (m + 1) (i - j) := by rw [← hn5]; have := congrArg List.length hm5; rw [List.length_map, List.length_take, List.length_drop, bcc_len, HEQ.out] at this; exact this
            have e1 : n5 ≤ m + 1 := by omega
            have e2 : j + n5 ≤ i := by omega
            have e3 : j < i → 0 < n5 := by omega
            clear hn5' hn5 ho5 hm5 hok5 hna5 hl5 HPK
            by_cases hji : j < i
            · have q5 : 0 < n5 := e3 hji
              have q6 : ¬ ((m : Int) + 1 < (n5 : Int)) := by omega
              have q7 : ((n5 : Int) == 0) = false := by simp; omega
              obtain ⟨xv, hxv⟩ : ∃ x, L5[n5 - 1]? = some x := ⟨_, List.getElem?_eq_getElem (by rw [HN5.out]; omega)⟩
              have hver : xv.ver = tp 7 (bl.take (j + n5)) := by
                have h1 : (L5.map BV.bp)[n5 - 1]? = some xv.bp := by rw [List.getElem?_map, hxv]; rfl
                rw [HM5.out, List.getElem?_take] at h1
                rw [if_pos (by omega), List.getElem?_drop] at h1
                have h2 := bcc_ver h1
                rw [show j + (n5 - 1) + 1 = j + n5 by omega] at h2
                exact h2
              obtain ⟨b5, o5, hA5, l0, l1, l2, l3⟩ := (Rd.of_own HO5.out).bat hxv
              subst hA5
              obtain ⟨Lg, hg1, hg2, hg3, hg4⟩ := HG.out.ex
              have HG1 := hide_ hg1; have HG2 := hide_ hg2; have HG3 := hide_ hg3; have HG4 := hide_ hg4
              have HB5 := hide_ (own_block (g := b5) HO5.out (by
                obtain ⟨g1, cap1, hv, _, _⟩ := HO5.out.form q5
                injection hv with hv; injection hv with hv; injection hv with h1 h2; subst h1 h2; rfl))
              have HL1 := hide_ l1
              have HV := hide_ hver
              have q8 : ((n5 : Int) - 1).toNat = n5 - 1 := by omega
              have q9 : (0 : Int) ≤ (n5 : Int) - 1 := by omega
              have q10 : (n5 : Int) - 1 < (n5 : Int) := by omega
              clear hxv hg1 hg2 hg3 hg4 l0 l1 l2 l3 hver
              go_wp2_with (at_builtin; refine wpList_append_rd _ rfl (.tmp 137) (.tmp 138) 31 rfl wo.heap.size 38 4 48 batT (.slice A2 j c2) j (brow Lg) rfl ?c1 (some ⟨b5, o5, none⟩) n5 c5 (brow L5) rfl ?c2 (brow_one _) (by omega) (by unfold maxLen; omega) ?c6 (fun h => by cases h) ?c8)
              case c1 => exact own_below HG2.out HL5.out
              case c2 => exact Rd.of_own HO5.out
              case c6 => exact Nat.le_trans HG.out.le.size HL5.out.size
              case c8 =>
                intro v9 w9 hown hg hat
                obtain ⟨A9, c9, hv9⟩ := own_form hown
                subst hv9
                have HG9 := hide_ (GotI.next HG.out HG1.out HG2.out HG3.out HG4.out HL5.out HN5.out HM5.out HOK5.out HNA5.out hown hg)
                have y1 : w9.cell? ⟨b5, o5 + (n5 - 1) * 4 + 1, none⟩ = some (.int .i64 xv.ver) := by
                  rw [World.cell?_of_block (hg.block b5 HB5.out.2.1 (fun e => by have h1 := (own_block HG2.out e.symm).2.1; have h2 := HB5.out.1; omega))]
                  exact HL1.out
                rw [HV.out] at y1
                clear hown hg hat HL1 HV HG
                go_wp2_with fail
                go_roundw
                case rel => exact ⟨j + n5, k + 1, A9, c9, by omega, by omega, by omega, rfl, rfl, by go_num, HG9⟩
                case measure => simp [intOf]; omega
            · obtain rfl : n5 = 0 := by omega
              have hje : j = i := by omega
              subst hje
              obtain ⟨Lg, he⟩ := endI_start HMP.out HKX.out HOA.out HBOK.out HEQ.out (HG.out.later HL5.out)
              have hcap := own_cap HOA.out
              have HE := hide_ he
              clear he HG HFR HMP HKX HOA HBOK HEQ HGI
              rcases Nat.eq_zero_or_pos j with rfl | hpos
              · first
                  | (exfalso; omega)
                  | (
                    have HLK := hide_ (HE.out.lock (by omega))
                    go_wp2_with fail
                    refine HLK.out.mono ?_; rintro e w20 ⟨A', c', n, L', kn, rfl, g1, g2, g3, g4, u, lock, g5⟩
                    have G1 := hide_ g1; have G2 := hide_ g2; have G3 := hide_ g3; have G4 := hide_ g4; have G5 := hide_ g5
                    clear g1 g2 g3 g4 g5 HLK HE
                    go_wp2_with fail
                    refine (G5.out.both (by omega) _ _).mono ?_; rintro e w21 ⟨rfl, hl21⟩
                    have HL21 := hide_ hl21
                    clear hl21
                    go_wp2_with fail
                    refine (G5.out.rest0 (by omega) hcap G1.out G2.out G3.out G4.out HL21.out).mono ?_; rintro e w22 ⟨rfl, hl22⟩
                    have HBW := hide_ (Below.trans G5.out.below ((HL21.out.trans hl22).mono G5.out.below.size))
                    clear hl22
                    go_wp2_with fail
                    go_ret
                    exact ⟨rfl, HBW.out⟩)
              · obtain ⟨cut, hcut, hcj⟩ : ∃ cut : Nat, (po : Int) % ((j : Int) + 1) = (cut : Int) ∧ cut ≤ j := ⟨po % (j + 1), by rw [Int.natCast_emod]; rfl, by have := Nat.mod_lt po (show 0 < j + 1 by omega); omega⟩
                have p1 : (0 : Int) < (j : Int) := by omega
                rcases Nat.eq_zero_or_pos cut with rfl | hcpos
                · have HLK := hide_ (HE.out.lock (by omega))
                  go_wp2_with fail
                  refine HLK.out.mono ?_; rintro e w20 ⟨A', c', n, L', kn, rfl, g1, g2, g3, g4, u, lock, g5⟩
                  have G1 := hide_ g1; have G2 := hide_ g2; have G3 := hide_ g3; have G4 := hide_ g4; have G5 := hide_ g5
                  clear g1 g2 g3 g4 g5 HLK HE
                  go_wp2_with fail
                  refine (G5.out.both (by omega) _ _).mono ?_; rintro e w21 ⟨rfl, hl21⟩
                  have HL21 := hide_ hl21
                  clear hl21
                  go_wp2_with fail
                  refine (G5.out.rest0 (by omega) hcap G1.out G2.out G3.out G4.out HL21.out).mono ?_; rintro e w22 ⟨rfl, hl22⟩
                  have HBW := hide_ (Below.trans G5.out.below ((HL21.out.trans hl22).mono G5.out.below.size))
                  clear hl22
                  go_wp2_with fail
                  go_ret
                  exact ⟨rfl, HBW.out⟩
                · obtain ⟨k1, rfl⟩ : ∃ k1, cut = k1 + 1 := ⟨cut - 1, by omega⟩
                  obtain ⟨b8, o8, rfl, hv8⟩ := HE.out.ver (show k1 < j by omega)
                  have HPO := hide_ (HE.out.pop (by omega) (k1 + 1) (by omega) (by omega) _ rfl)
                  have p2 : ((k1 + 1 : Nat) : Int) - 1 = (k1 : Int) := by omega
                  have p3 : (0 : Int) < ((k1 + 1 : Nat) : Int) := by omega
                  have p4 : (k1 : Int) < (j : Int) := by omega
                  go_wp2_with fail
                  refine HPO.out.mono ?_; rintro e w19 ⟨rfl, hq⟩
                  clear HE hv8 HPO
                  have HE := hide_ hq; clear hq
                  have HLK := hide_ (HE.out.lock (by omega))
                  obtain ⟨vv, hvv⟩ : ∃ v, v = tp 7 (List.take (k1 + 1) bl) := ⟨_, rfl⟩
                  have HVV := hide_ hvv
                  rw [← hvv]
                  clear hvv
                  go_wp2_with fail
                  refine HLK.out.mono ?_; rintro e w20 ⟨A', c', n, L', kn, rfl, g1, g2, g3, g4, u, lock, g5⟩
                  have G1 := hide_ g1; have G2 := hide_ g2; have G3 := hide_ g3; have G4 := hide_ g4; have G5 := hide_ g5
                  clear g1 g2 g3 g4 g5 HLK HE
                  obtain ⟨b9, o9, e9, hv9⟩ := G5.out.ver (show k1 < j by omega)
                  injection e9 with e9; injection e9 with e9 e10 _; subst e9 e10
                  go_wp2_with fail
                  refine (G5.out.both (by omega) _ _).mono ?_; rintro e w21 ⟨rfl, hl21⟩
                  have HL21 := hide_ hl21
                  clear hl21
                  go_wp2_with fail
                  all_goals (
                    first
                      | ((with_reducible refine (G5.out.rest1 (by omega) (by omega) hcap (by omega) G1.out G2.out G3.out G4.out HL21.out).mono ?_))
                      | ((with_reducible refine (G5.out.rest2 (by omega) (by omega) hcap (by omega) G1.out G2.out G3.out G4.out HL21.out).mono ?_))
                    rintro e w22 ⟨rfl, hl22⟩
                    have HBW := hide_ (Below.trans G5.out.below ((HL21.out.trans hl22).mono G5.out.below.size))
                    clear hl22
                    go_wp2_with fail
                    go_ret
                    exact ⟨rfl, HBW.out⟩)
          · have r1 : ¬ (k : Int) < 30 := by omega
            clear HPK
            have hje : j = i := by omega
            subst hje
            obtain ⟨Lg, he⟩ := endI_start HMP.out HKX.out HOA.out HBOK.out HEQ.out HG.out
            have hcap := own_cap HOA.out
            have HE := hide_ he
            clear he HG HFR HMP HKX HOA HBOK HEQ HGI
            rcases Nat.eq_zero_or_pos j with rfl | hpos
            · first
                | (exfalso; omega)
                | (
                  have HLK := hide_ (HE.out.lock (by omega))
                  go_wp2_with fail
                  refine HLK.out.mono ?_; rintro e w20 ⟨A', c', n, L', kn, rfl, g1, g2, g3, g4, u, lock, g5⟩
                  have G1 := hide_ g1; have G2 := hide_ g2; have G3 := hide_ g3; have G4 := hide_ g4; have G5 := hide_ g5
                  clear g1 g2 g3 g4 g5 HLK HE
                  go_wp2_with fail
                  refine (G5.out.both (by omega) _ _).mono ?_; rintro e w21 ⟨rfl, hl21⟩
                  have HL21 := hide_ hl21
                  clear hl21
                  go_wp2_with fail
                  refine (G5.out.rest0 (by omega) hcap G1.out G2.out G3.out G4.out HL21.out).mono ?_; rintro e w22 ⟨rfl, hl22⟩
                  have HBW := hide_ (Below.trans G5.out.below ((HL21.out.trans hl22).mono G5.out.below.size))
                  clear hl22
                  go_wp2_with fail
                  go_ret
                  exact ⟨rfl, HBW.out⟩)
            · obtain ⟨cut, hcut, hcj⟩ : ∃ cut : Nat, (po : Int) % ((j : Int) + 1) = (cut : Int) ∧ cut ≤ j := ⟨po % (j + 1), by rw [Int.natCast_emod]; rfl, by have := Nat.mod_lt po (show 0 < j + 1 by omega); omega⟩
              have p1 : (0 : Int) < (j : Int) := by omega
              rcases Nat.eq_zero_or_pos cut with rfl | hcpos
              · have HLK := hide_ (HE.out.lock (by omega))
                go_wp2_with fail
                refine HLK.out.mono ?_; rintro e w20 ⟨A', c', n, L', kn, rfl, g1, g2, g3, g4, u, lock, g5⟩
                have G1 := hide_ g1; have G2 := hide_ g2; have G3 := hide_ g3; have G4 := hide_ g4; have G5 := hide_ g5
                clear g1 g2 g3 g4 g5 HLK HE
                go_wp2_with fail
                refine (G5.out.both (by omega) _ _).mono ?_; rintro e w21 ⟨rfl, hl21⟩
                have HL21 := hide_ hl21
                clear hl21
                go_wp2_with fail
                refine (G5.out.rest0 (by omega) hcap G1.out G2.out G3.out G4.out HL21.out).mono ?_; rintro e w22 ⟨rfl, hl22⟩
                have HBW := hide_ (Below.trans G5.out.below ((HL21.out.trans hl22).mono G5.out.below.size))
                clear hl22
                go_wp2_with fail
                go_ret
                exact ⟨rfl, HBW.out⟩
              · obtain ⟨k1, rfl⟩ : ∃ k1, cut = k1 + 1 := ⟨cut - 1, by omega⟩
                obtain ⟨b8, o8, rfl, hv8⟩ := HE.out.ver (show k1 < j by omega)
                have HPO := hide_ (HE.out.pop (by omega) (k1 + 1) (by omega) (by omega) _ rfl)
                have p2 : ((k1 + 1 : Nat) : Int) - 1 = (k1 : Int) := by omega
                have p3 : (0 : Int) < ((k1 + 1 : Nat) : Int) := by omega
                have p4 : (k1 : Int) < (j : Int) := by omega
                go_wp2_with fail
                refine HPO.out.mono ?_; rintro e w19 ⟨rfl, hq⟩
                clear HE hv8 HPO
                have HE := hide_ hq; clear hq
                have HLK := hide_ (HE.out.lock (by omega))
                obtain ⟨vv, hvv⟩ : ∃ v, v = tp 7 (List.take (k1 + 1) bl) := ⟨_, rfl⟩
                have HVV := hide_ hvv
                rw [← hvv]
                clear hvv
                go_wp2_with fail
                refine HLK.out.mono ?_; rintro e w20 ⟨A', c', n, L', kn, rfl, g1, g2, g3, g4, u, lock, g5⟩
                have G1 := hide_ g1; have G2 := hide_ g2; have G3 := hide_ g3; have G4 := hide_ g4; have G5 := hide_ g5
                clear g1 g2 g3 g4 g5 HLK HE
                obtain ⟨b9, o9, e9, hv9⟩ := G5.out.ver (show k1 < j by omega)
                injection e9 with e9; injection e9 with e9 e10 _; subst e9 e10
                go_wp2_with fail
                refine (G5.out.both (by omega) _ _).mono ?_; rintro e w21 ⟨rfl, hl21⟩
                have HL21 := hide_ hl21
                clear hl21
                go_wp2_with fail
                all_goals (
                  first
                    | ((with_reducible refine (G5.out.rest1 (by omega) (by omega) hcap (by omega) G1.out G2.out G3.out G4.out HL21.out).mono ?_))
                    | ((with_reducible refine (G5.out.rest2 (by omega) (by omega) hcap (by omega) G1.out G2.out G3.out G4.out HL21.out).mono ?_))
                  rintro e w22 ⟨rfl, hl22⟩
                  have HBW := hide_ (Below.trans G5.out.below ((HL21.out.trans hl22).mono G5.out.below.size))
                  clear hl22
                  go_wp2_with fail
                  go_ret
                  exact ⟨rfl, HBW.out⟩))
set_option maxRecDepth 20000 in
theorem chestChain_contract (H : Type) (enc : TypeId × Value → H) (W : World) (base : Nat) (args : Array Value) (ds : List (DataW H)) (before : List MemPlace)
    (hval : ∀ (j : Nat) t v, Tryz.f5.params[j]? = some t → args[j]? = some v → Value.okWide Tryz.prog W .any base t v)
    (hA : DataW.TrodAll enc Tryz.prog W 0 (fun _ => true) true Tryz.f5.params.toList args.toList ds before)
    (_hsz : (DataW.weightsEach Tryz.prog (Tryz.f5.params.toList ++ Rows.chestChainSpec.plain.varTypes Tryz.prog) (ds ++ [])).all (· ≤ reachBytes) = true) :
    Calls Tryz.prog 5 args W fun e W' => e = .returned (.bool true) ∧ Below W.heap.size W W' := by
  rw [Tryz.params5] at hA hval
  obtain ⟨v0, vs0, d0, ds0, p0, q0, hargs, rfl, rfl, h0, r0⟩ := trodAll_cons hA
  obtain ⟨v1, vs1, d1, ds1, p1, q1, rfl, rfl, rfl, h1, r1⟩ := trodAll_cons r0
  obtain ⟨v2, vs2, d2, ds2, p2, q2, rfl, rfl, rfl, h2, r2⟩ := trodAll_cons r1
  obtain ⟨rfl, rfl, rfl⟩ := trodAll_nil r2
  obtain rfl : args = #[v0, v1, v2] := by cases args; simp_all
  obtain ⟨Al, cl, Ll, rfl, hlcl, hcml, _, hrl, _⟩ := open_bytes Tryz.underlying43 Tryz.underlying5 (by kernel_rfl) (hval 0 43 v0 rfl rfl) h0
  obtain ⟨mo, rfl, rfl, rfl, w1⟩ := open_int Tryz.underlying5 (hval 1 5 v1 rfl rfl) h1
  have hm : 0 ≤ mo ∧ mo ≤ 255 := by simpa [Lit.wf, IntKind.min, IntKind.max, IntKind.signed, IntKind.bits] using w1
  obtain ⟨m', rfl⟩ : ∃ k : Nat, mo = k := ⟨mo.toNat, by omega⟩
  obtain ⟨po, rfl, rfl, rfl, w2⟩ := open_int Tryz.underlying5 (hval 2 5 v2 rfl rfl) h2
  have hp : 0 ≤ po ∧ po ≤ 255 := by simpa [Lit.wf, IntKind.min, IntKind.max, IntKind.signed, IntKind.bits] using w2
  obtain ⟨p', rfl⟩ : ∃ k : Nat, po = k := ⟨po.toNat, by omega⟩
  exact chestChain_walk Al _ cl Ll hrl rfl (by omega) m' p' (by omega) (by omega)

set_option maxRecDepth 100000 in
theorem chestChain_lifted (os : Os) (started : os.Started) (H : Type) (enc : TypeId × Value → H) :
    ReturnsInHanded {} Tryz.checked os 5 .any (Rows.chestChainSpec.pre6 enc Tryz.prog Tryz.f5 Rows.chestChainRow.domain false) (Rows.chestChainSpec.post enc Tryz.prog Tryz.f5 false true false false) := by
  refine returnsInHanded_of_change_sized (C := Tryz.checked) own started (by kernel_rfl) Tryz.func5
    (ChangeSpec.witness6 (enc := enc) (C := Tryz.checked) false ⟨#[], #[.slice none 0 0, .int .u8 0, .int .u8 0], []⟩ 8 (by kernel_rfl) (by kernel_rfl) (by kernel_rfl) (by kernel_rfl)) ?_
  intro W base args ds gs before hval hW _ hsz _
  have hW' := hW
  obtain ⟨p, q, hA0, hV, rfl, hfz, hnd⟩ := hW
  obtain ⟨rfl, rfl⟩ := trodVars_none hV
  have hA : DataW.TrodAll enc Tryz.prog W 0 (fun _ => true) true Tryz.f5.params.toList args.toList ds p := hA0
  refine (chestChain_contract H enc W base args ds p hval hA hsz).mono fun e W' ⟨he, hb⟩ => ?_
  subst he
  have hds : ds.length = 3 := by
    rw [Tryz.params5] at hA
    obtain ⟨v0, vs0, d0, ds0, p0, q0, _, rfl, rfl, _, r0⟩ := trodAll_cons hA
    obtain ⟨v1, vs1, d1, ds1, p1, q1, _, rfl, rfl, _, r1⟩ := trodAll_cons r0
    obtain ⟨v2, vs2, d2, ds2, p2, q2, _, rfl, rfl, _, r2⟩ := trodAll_cons r1
    obtain ⟨_, rfl, rfl⟩ := trodAll_nil r2
    rfl
  have hsh : ∃ d0 d1 d2 : DataW H, ds = [d0, d1, d2] := by
    match ds, hds with
    | [d0, d1, d2], _ => exact ⟨d0, d1, d2, rfl⟩
  obtain ⟨d0, d1, d2, rfl⟩ := hsh
  exact ⟨_, rfl, post_law (s := Rows.chestChainSpec) laidOut (by kernel_rfl) Tryz.underlying4 rfl (by kernel_rfl) hW' rfl rfl rfl hb⟩
theorem chestChain_over : Rows.chestChainRow.holds Tryz.pinned (OpenSpec.ofChange Rows.chestChainSpec) :=
  OpenClaim.holds_of_wide 5 Tryz.f5 rfl rfl rfl rfl rfl rfl rfl ⟨rfl, rfl, rfl, rfl, rfl⟩ rfl rfl rfl rfl rfl (by kernel_rfl) Tryz.func5 (by kernel_rfl)
    (of_decide_eq_true (by kernel_rfl)) (by unfold Func.isWrapper; first | (rw [if_pos (by decide +kernel)]; kernel_rfl) | (rw [if_neg (by decide +kernel)]; exact ⟨rfl, rfl⟩))
    (fun os started H enc _ => chestChain_lifted os started H enc)
/-- The statement. -/
theorem chestChain_holds : Rows.ChestChainSaid := chestChain_over
end Go.Proofs.YtlgnnmpfipmjeaaGreat
