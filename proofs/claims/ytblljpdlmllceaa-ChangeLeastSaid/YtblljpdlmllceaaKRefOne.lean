/-
  The document's One.
-/
import Derived.Test.YtblljpdlmllceaaKRefNamed
namespace Go.Proofs.Ytblljpdlmllceaa
open Go.RowKit
set_option linter.unusedVariables false
set_option linter.unusedSimpArgs false
set_option maxHeartbeats 4000000 in
theorem rone_any {w : World} {A : Option Addr} {n c : Nat} {L : List Pr} (kind : Int) (k v : ByteArray) (hks : k.size ≤ 4611686018427387904) (hr : Rd w 2 A n (prow L)) (hl : L.length = n) (hL : Ris L) (hn : n ≤ 2199023255552) :
    Calls Try.prog 37 #[.slice A n c, .agg #[.int .i64 kind, .string k, .string v]] w (OnePost w.heap.size n L kind k v w) := by
  obtain ⟨W0, hW0⟩ : ∃ W0, W0 = w.alloc (.cells #[.int .i64 kind, .string k, .string v] 32) := ⟨_, rfl⟩
  have hbx : W0.heap[w.heap.size]? = some (.cells #[.int .i64 kind, .string k, .string v] 32 (0, 0)) := by rw [hW0]; exact heap_alloc_new w _
  have HB0 := hide_ (show Later w W0 by rw [hW0]; exact (Below.refl _ _).alloc (Nat.le_refl _) _)
  have HZ0 := hide_ (show W0.heap.size = w.heap.size + 1 by rw [hW0]; simp)
  have HR := hide_ (show Rd W0 2 A n (prow L) by rw [hW0]; exact hr.alloc _)
  have HO0 := hide_ (own_new W0 #[] 55 2 0 W0.heap.size rfl (Nat.zero_le _) (Nat.le_refl _))
  have HL := hide_ hl; have HRI := hide_ hL; have HBX := hide_ hbx
  have hz0 := HZ0.out
  have HW := hide_ hW0.symm
  have hn2 : (n : Int) ≤ 4398046511104 := by omega
  have c0 := fun ob => cell_stay (cell_of_row _ _ 0 _ _ (0, 0) hbx) ob
  clear hr hl hL hbx hW0
  go_enter Try.func37, Try.ntmps37
  go_wp2_with (rw [HW.out])
  obtain ⟨W1, hW1⟩ : ∃ W1, W1 = W0.alloc (.cells #[] 55) := ⟨_, rfl⟩
  rw [← hW1] at HO0 ⊢
  have HB1 := hide_ (show Later W0 W1 by rw [hW1]; exact (Below.refl _ _).alloc (Nat.le_refl _) _)
  clear c0 hW1
  go_loopw [5, 6, 7] (fun s5 s6 s7 wr => ∃ (i m : Nat) (put : Bool) (M : List Pr), i ≤ n ∧ s6 = .bool put ∧ s7 = .int .i64 i ∧ Hid (M.length = m) ∧ Hid (m ≤ i + (if put then 1 else 0)) ∧ Hid (Passed (L.take i) kind k v put M) ∧ Hid (put = true → kind = 1 → ∀ p, p ∈ L.drop i → k ≤ p.1) ∧ Hid (wr.ownsRow W0.heap.size 55 2 s5 m (prow M)) ∧ Hid (Later W0 wr)) (fun _ _ i _ => n - (intOf i).toNat)
  case atStart => exact ⟨0, 0, kind != 1, [], Nat.zero_le _, rfl, rfl, hide_ rfl, hide_ (by omega), hide_ (passed_nil kind k v _ (by simp)), hide_ (fun h1 h2 => by simp [h2] at h1), hide_ (by have h := HO0.out; rwa [show (some ⟨W0.heap.size, 0, none⟩ : Option Addr) = some ⟨w.heap.size + 1, 0, none⟩ from by rw [HZ0.out]] at h), HB1⟩
  case round =>
    obtain ⟨i, m, put, M, hin, rfl, rfl, HM, HMI, HP, HG, HO, HB⟩ := hrel
    obtain ⟨A4, c4, rfl⟩ := own_form HO.out
    by_cases hlt : i < n
    · obtain ⟨x, hx⟩ : ∃ x, L[i]? = some x := ⟨_, List.getElem?_eq_getElem (by rw [HL.out]; exact hlt)⟩
      obtain ⟨b, o, rfl, k0, k1⟩ := HR.out.pair hx
      have q1 : (i : Int) < (n : Int) := by omega
      have q2 : (0 : Int) ≤ (i : Int) := by omega
      have q3 : (i : Int) ≤ 4398046511104 := by omega
      have HT := hide_ (take_snoc hx)
      have hri := HRI.out
      rw [at_split hx] at hri
      have HLT := hide_ (ris_mid hri).1
      have HGT := hide_ (ris_mid hri).2.1
      have HXM := hide_ (show x ∈ L.drop i from List.mem_of_getElem? (i := 0) (by rw [List.getElem?_drop]; exact hx))
      clear hx hri
      obtain ⟨wd, hwd⟩ : ∃ wd, wr.drew = wd := ⟨_, rfl⟩
      have HWD := hide_ hwd
      have HBd := hide_ (show Later W0 wd by rw [← hwd]; exact HB.out.drew)
      have HOd := hide_ (show wd.ownsRow W0.heap.size 55 2 (.slice A4 m c4) m (prow M) by rw [← hwd]; exact own_below HO.out (Below.refl _ _).drew)
      clear hwd
      have l0 := (HB.out.cell (cell_lt k0)).trans k0
      have l1 := (HB.out.cell (cell_lt k1)).trans k1
      have d0 : wr.cell? ⟨w.heap.size, 0, none⟩ = some (.int .i64 kind) := cell_of_row _ _ 0 _ _ (0, 0) ((HB.out.block _ (by have := HZ0.out; omega)).trans HBX.out)
      have d1 : wr.cell? ⟨w.heap.size, 1, none⟩ = some (.string k) := cell_of_row _ _ 1 _ _ (0, 0) ((HB.out.block _ (by have := HZ0.out; omega)).trans HBX.out)
      have d2 : wr.cell? ⟨w.heap.size, 2, none⟩ = some (.string v) := cell_of_row _ _ 2 _ _ (0, 0) ((HB.out.block _ (by have := HZ0.out; omega)).trans HBX.out)
      cases put with
      | true =>
        have hmi : m ≤ i + 1 := by simpa using HMI.out
        have HG1 := hide_ (HG.out rfl)
        have e0 := (HBd.out.cell (cell_lt k0)).trans k0
        have e1 := (HBd.out.cell (cell_lt k1)).trans k1
        have f0 : wd.cell? ⟨w.heap.size, 0, none⟩ = some (.int .i64 kind) := cell_of_row _ _ 0 _ _ (0, 0) ((HBd.out.block _ (by have := HZ0.out; omega)).trans HBX.out)
        have f1 : wd.cell? ⟨w.heap.size, 1, none⟩ = some (.string k) := cell_of_row _ _ 1 _ _ (0, 0) ((HBd.out.block _ (by have := HZ0.out; omega)).trans HBX.out)
        have f2 : wd.cell? ⟨w.heap.size, 2, none⟩ = some (.string v) := cell_of_row _ _ 2 _ _ (0, 0) ((HBd.out.block _ (by have := HZ0.out; omega)).trans HBX.out)
        have lc0 := later_drew_cell e0
        have lc1 := later_drew_cell e1
        have ld0 := later_drew_cell f0
        have ld1 := later_drew_cell f1
        have ld2 := later_drew_cell f2
        by_cases hnm : Named kind k v x.1
        · have hsp := hide_ (fun W => rspan_any kind k v hks W)
          have hhas := hide_ (fun W => rhas_c (spanC kind k v) x.1 true (by simp [named_has, hnm]) W)
          have HP2 := hide_ (passed_skip HP.out hnm (fun h => by cases h))
          clear hnm
          go_wp2_with fail
          refine wp_region_k (by kernel_rfl) ?_
          refine wpAnyK_take 0 (v := ?_) rfl (by kernel_rfl) (by kernel_rfl) (by kernel_rfl) (fun _ _ _ h => h) (by rfl) (by intro W hSw; go_simp; with_reducible rfl) ?_; try simp only [Act.put, List.setIfInBounds_toArray, List.set_cons_zero, List.set_cons_succ]
          refine wpAnyK_take 1 (v := ?_) rfl (by kernel_rfl) (by kernel_rfl) (by kernel_rfl) (fun _ _ _ h => h) (by rfl) (by intro W hSw; go_simp; with_reducible rfl) ?_; try simp only [Act.put, List.setIfInBounds_toArray, List.set_cons_zero, List.set_cons_succ]
          refine wpAnyK_take 2 (v := ?_) rfl (by kernel_rfl) (by kernel_rfl) (by kernel_rfl) (fun _ _ _ h => h) (by rfl) (by intro W hSw; go_simp; with_reducible rfl) ?_; try simp only [Act.put, List.setIfInBounds_toArray, List.set_cons_zero, List.set_cons_succ]
          refine wpAnyK_skip 3 rfl (by kernel_rfl) (by kernel_rfl) (by kernel_rfl) (fun _ _ _ h => h) (by rfl) ?_; try simp only [Act.put, List.setIfInBounds_toArray, List.set_cons_zero, List.set_cons_succ]
          refine wpAnyK_skip 4 rfl (by kernel_rfl) (by kernel_rfl) (by kernel_rfl) (fun _ _ _ h => h) (by rfl) ?_; try simp only [Act.put, List.setIfInBounds_toArray, List.set_cons_zero, List.set_cons_succ]
          refine wpAnyK_skip 5 rfl (by kernel_rfl) (by kernel_rfl) (by kernel_rfl) (fun _ _ _ h => h) (by rfl) ?_; try simp only [Act.put, List.setIfInBounds_toArray, List.set_cons_zero, List.set_cons_succ]
          refine wpAnyK_skip 6 rfl (by kernel_rfl) (by kernel_rfl) (by kernel_rfl) (fun _ _ _ h => h) (by rfl) ?_; try simp only [Act.put, List.setIfInBounds_toArray, List.set_cons_zero, List.set_cons_succ]
          refine wpAnyK_skip 7 rfl (by kernel_rfl) (by kernel_rfl) (by kernel_rfl) (fun _ _ _ h => h) (by rfl) ?_; try simp only [Act.put, List.setIfInBounds_toArray, List.set_cons_zero, List.set_cons_succ]
          refine wpAnyK_skip 8 rfl (by kernel_rfl) (by kernel_rfl) (by kernel_rfl) (fun _ _ _ h => h) (by rfl) ?_; try simp only [Act.put, List.setIfInBounds_toArray, List.set_cons_zero, List.set_cons_succ]
          refine wpAnyK_skip 9 rfl (by kernel_rfl) (by kernel_rfl) (by kernel_rfl) (fun _ _ _ h => h) (by rfl) ?_; try simp only [Act.put, List.setIfInBounds_toArray, List.set_cons_zero, List.set_cons_succ]
          refine wpAnyK_skip 10 rfl (by kernel_rfl) (by kernel_rfl) (by kernel_rfl) (fun _ _ _ h => h) (by rfl) ?_; try simp only [Act.put, List.setIfInBounds_toArray, List.set_cons_zero, List.set_cons_succ]
          refine wpAnyK_take 11 (v := ?_) rfl (by kernel_rfl) (by kernel_rfl) (by kernel_rfl) (fun _ _ _ h => h) (by rfl) (by intro W hSw; go_simp; with_reducible rfl) ?_; try simp only [Act.put, List.setIfInBounds_toArray, List.set_cons_zero, List.set_cons_succ]
          refine wpAnyK_done (by kernel_rfl) ?_ _
          go_wp2_with (rw [HWD.out])
          refine wp_region_k (by kernel_rfl) ?_
          refine wpAnyK_take 0 (v := ?_) rfl (by kernel_rfl) (by kernel_rfl) (by kernel_rfl) (fun _ _ _ h => h) (by rfl) (by intro W hSw; go_simp; with_reducible rfl) ?_; try simp only [Act.put, List.setIfInBounds_toArray, List.set_cons_zero, List.set_cons_succ]
          refine wpAnyK_take 2 (v := ?_) rfl (by kernel_rfl) (by kernel_rfl) (by kernel_rfl) (fun _ _ _ h => h) (by rfl) (by intro W hSw; go_simp; with_reducible rfl) ?_; try simp only [Act.put, List.setIfInBounds_toArray, List.set_cons_zero, List.set_cons_succ]
          refine wpAnyK_take 3 (v := ?_) rfl (by kernel_rfl) (by kernel_rfl) (by kernel_rfl) (fun _ _ _ h => h) (by rfl) (by intro W hSw; go_simp; with_reducible rfl) ?_; try simp only [Act.put, List.setIfInBounds_toArray, List.set_cons_zero, List.set_cons_succ]
          refine wpAnyK_take 4 (v := ?_) rfl (by kernel_rfl) (by kernel_rfl) (by kernel_rfl) (fun _ _ _ h => h) (by rfl) (by intro W hSw; go_simp; with_reducible rfl) ?_; try simp only [Act.put, List.setIfInBounds_toArray, List.set_cons_zero, List.set_cons_succ]
          refine wpAnyK_take 5 (v := ?_) rfl (by kernel_rfl) (by kernel_rfl) (by kernel_rfl) (fun _ _ _ h => h) (by rfl) (by intro W hSw; go_simp; with_reducible rfl) ?_; try simp only [Act.put, List.setIfInBounds_toArray, List.set_cons_zero, List.set_cons_succ]
          refine wpAnyK_take 6 (v := ?_) rfl (by kernel_rfl) (by kernel_rfl) (by kernel_rfl) (fun _ _ _ h => h) (by rfl) (by intro W hSw; go_simp; with_reducible rfl) ?_; try simp only [Act.put, List.setIfInBounds_toArray, List.set_cons_zero, List.set_cons_succ]
          refine wpAnyK_one 1 (by kernel_rfl) rfl (fun K hK => ?_)
          go_simp
          refine (hsp.out _).mono ?_; rintro e w5 ⟨rfl, hb5⟩
          refine hK.out _ _ (by assumption) ?_
          clear hK K; try simp only [Act.put, List.setIfInBounds_toArray, List.set_cons_zero, List.set_cons_succ]
          refine wpAnyK_one 7 (by kernel_rfl) rfl (fun K hK => ?_)
          go_simp
          refine (hhas.out _).mono ?_; rintro e w6 ⟨rfl, hb6⟩
          refine hK.out _ _ (by assumption) ?_
          clear hK K; try simp only [Act.put, List.setIfInBounds_toArray, List.set_cons_zero, List.set_cons_succ]
          refine wpAnyK_take 8 (v := ?_) rfl (by kernel_rfl) (by kernel_rfl) (by kernel_rfl) (fun _ _ _ h => h) (by rfl) (by intro W hSw; go_simp; with_reducible rfl) ?_; try simp only [Act.put, List.setIfInBounds_toArray, List.set_cons_zero, List.set_cons_succ]
          refine wpAnyK_done (by kernel_rfl) ?_ _
          have HB6 := hide_ (show Later wd w6 from (Later.refl wd).drew.trans (hb5.trans hb6))
          clear hb5 hb6
          go_wp2_with fail
          go_roundw
          case rel => exact ⟨i + 1, m, true, M, by omega, rfl, by go_num, HM, hide_ (by have := hmi; simp; omega), hide_ (by rw [HT.out]; exact HP2.out), hide_ (fun _ h2 p hp => HG1.out h2 p (List.drop_subset_drop_left L (Nat.le_succ i) hp)), hide_ (own_below HOd.out HB6.out), hide_ (HBd.out.trans HB6.out)⟩
          case measure => simp [intOf]; omega
        · have hsp := hide_ (fun W => rspan_any kind k v hks W)
          have hhas := hide_ (fun W => rhas_c (spanC kind k v) x.1 false (by simp [named_has, hnm]) W)
          have HP2 := hide_ (passed_keep HP.out HLT.out hnm (fun h => by cases h) (fun _ h2 => HG1.out h2 x HXM.out))
          clear hnm
          go_wp2_with fail
          refine wp_region_k (by kernel_rfl) ?_
          refine wpAnyK_take 0 (v := ?_) rfl (by kernel_rfl) (by kernel_rfl) (by kernel_rfl) (fun _ _ _ h => h) (by rfl) (by intro W hSw; go_simp; with_reducible rfl) ?_; try simp only [Act.put, List.setIfInBounds_toArray, List.set_cons_zero, List.set_cons_succ]
          refine wpAnyK_take 1 (v := ?_) rfl (by kernel_rfl) (by kernel_rfl) (by kernel_rfl) (fun _ _ _ h => h) (by rfl) (by intro W hSw; go_simp; with_reducible rfl) ?_; try simp only [Act.put, List.setIfInBounds_toArray, List.set_cons_zero, List.set_cons_succ]
          refine wpAnyK_take 2 (v := ?_) rfl (by kernel_rfl) (by kernel_rfl) (by kernel_rfl) (fun _ _ _ h => h) (by rfl) (by intro W hSw; go_simp; with_reducible rfl) ?_; try simp only [Act.put, List.setIfInBounds_toArray, List.set_cons_zero, List.set_cons_succ]
          refine wpAnyK_skip 3 rfl (by kernel_rfl) (by kernel_rfl) (by kernel_rfl) (fun _ _ _ h => h) (by rfl) ?_; try simp only [Act.put, List.setIfInBounds_toArray, List.set_cons_zero, List.set_cons_succ]
          refine wpAnyK_skip 4 rfl (by kernel_rfl) (by kernel_rfl) (by kernel_rfl) (fun _ _ _ h => h) (by rfl) ?_; try simp only [Act.put, List.setIfInBounds_toArray, List.set_cons_zero, List.set_cons_succ]
          refine wpAnyK_skip 5 rfl (by kernel_rfl) (by kernel_rfl) (by kernel_rfl) (fun _ _ _ h => h) (by rfl) ?_; try simp only [Act.put, List.setIfInBounds_toArray, List.set_cons_zero, List.set_cons_succ]
          refine wpAnyK_skip 6 rfl (by kernel_rfl) (by kernel_rfl) (by kernel_rfl) (fun _ _ _ h => h) (by rfl) ?_; try simp only [Act.put, List.setIfInBounds_toArray, List.set_cons_zero, List.set_cons_succ]
          refine wpAnyK_skip 7 rfl (by kernel_rfl) (by kernel_rfl) (by kernel_rfl) (fun _ _ _ h => h) (by rfl) ?_; try simp only [Act.put, List.setIfInBounds_toArray, List.set_cons_zero, List.set_cons_succ]
          refine wpAnyK_skip 8 rfl (by kernel_rfl) (by kernel_rfl) (by kernel_rfl) (fun _ _ _ h => h) (by rfl) ?_; try simp only [Act.put, List.setIfInBounds_toArray, List.set_cons_zero, List.set_cons_succ]
          refine wpAnyK_skip 9 rfl (by kernel_rfl) (by kernel_rfl) (by kernel_rfl) (fun _ _ _ h => h) (by rfl) ?_; try simp only [Act.put, List.setIfInBounds_toArray, List.set_cons_zero, List.set_cons_succ]
          refine wpAnyK_skip 10 rfl (by kernel_rfl) (by kernel_rfl) (by kernel_rfl) (fun _ _ _ h => h) (by rfl) ?_; try simp only [Act.put, List.setIfInBounds_toArray, List.set_cons_zero, List.set_cons_succ]
          refine wpAnyK_take 11 (v := ?_) rfl (by kernel_rfl) (by kernel_rfl) (by kernel_rfl) (fun _ _ _ h => h) (by rfl) (by intro W hSw; go_simp; with_reducible rfl) ?_; try simp only [Act.put, List.setIfInBounds_toArray, List.set_cons_zero, List.set_cons_succ]
          refine wpAnyK_done (by kernel_rfl) ?_ _
          go_wp2_with (rw [HWD.out])
          refine wp_region_k (by kernel_rfl) ?_
          refine wpAnyK_take 0 (v := ?_) rfl (by kernel_rfl) (by kernel_rfl) (by kernel_rfl) (fun _ _ _ h => h) (by rfl) (by intro W hSw; go_simp; with_reducible rfl) ?_; try simp only [Act.put, List.setIfInBounds_toArray, List.set_cons_zero, List.set_cons_succ]
          refine wpAnyK_take 2 (v := ?_) rfl (by kernel_rfl) (by kernel_rfl) (by kernel_rfl) (fun _ _ _ h => h) (by rfl) (by intro W hSw; go_simp; with_reducible rfl) ?_; try simp only [Act.put, List.setIfInBounds_toArray, List.set_cons_zero, List.set_cons_succ]
          refine wpAnyK_take 3 (v := ?_) rfl (by kernel_rfl) (by kernel_rfl) (by kernel_rfl) (fun _ _ _ h => h) (by rfl) (by intro W hSw; go_simp; with_reducible rfl) ?_; try simp only [Act.put, List.setIfInBounds_toArray, List.set_cons_zero, List.set_cons_succ]
          refine wpAnyK_take 4 (v := ?_) rfl (by kernel_rfl) (by kernel_rfl) (by kernel_rfl) (fun _ _ _ h => h) (by rfl) (by intro W hSw; go_simp; with_reducible rfl) ?_; try simp only [Act.put, List.setIfInBounds_toArray, List.set_cons_zero, List.set_cons_succ]
          refine wpAnyK_take 5 (v := ?_) rfl (by kernel_rfl) (by kernel_rfl) (by kernel_rfl) (fun _ _ _ h => h) (by rfl) (by intro W hSw; go_simp; with_reducible rfl) ?_; try simp only [Act.put, List.setIfInBounds_toArray, List.set_cons_zero, List.set_cons_succ]
          refine wpAnyK_take 6 (v := ?_) rfl (by kernel_rfl) (by kernel_rfl) (by kernel_rfl) (fun _ _ _ h => h) (by rfl) (by intro W hSw; go_simp; with_reducible rfl) ?_; try simp only [Act.put, List.setIfInBounds_toArray, List.set_cons_zero, List.set_cons_succ]
          refine wpAnyK_one 1 (by kernel_rfl) rfl (fun K hK => ?_)
          go_simp
          refine (hsp.out _).mono ?_; rintro e w5 ⟨rfl, hb5⟩
          refine hK.out _ _ (by assumption) ?_
          clear hK K; try simp only [Act.put, List.setIfInBounds_toArray, List.set_cons_zero, List.set_cons_succ]
          refine wpAnyK_one 7 (by kernel_rfl) rfl (fun K hK => ?_)
          go_simp
          refine (hhas.out _).mono ?_; rintro e w6 ⟨rfl, hb6⟩
          refine hK.out _ _ (by assumption) ?_
          clear hK K; try simp only [Act.put, List.setIfInBounds_toArray, List.set_cons_zero, List.set_cons_succ]
          refine wpAnyK_take 8 (v := ?_) rfl (by kernel_rfl) (by kernel_rfl) (by kernel_rfl) (fun _ _ _ h => h) (by rfl) (by intro W hSw; go_simp; with_reducible rfl) ?_; try simp only [Act.put, List.setIfInBounds_toArray, List.set_cons_zero, List.set_cons_succ]
          refine wpAnyK_done (by kernel_rfl) ?_ _
          have HB6 := hide_ (show Later wd w6 from (Later.refl wd).drew.trans (hb5.trans hb6))
          clear hb5 hb6
          have HO6 := hide_ (own_below HOd.out HB6.out)
          have HBA := hide_ (HBd.out.trans HB6.out)
          have g0 := (HBA.out.cell (cell_lt k0)).trans k0
          have g1 := (HBA.out.cell (cell_lt k1)).trans k1
          go_wp2_with (at_builtin; (refine wpList_append_rd _ rfl (.tmp 47) (.tmp 52) 22 rfl W0.heap.size 55 2 32 pairT _ m (prow M) rfl (HO6.out.alloc _) _ 1 _ (encP x) rfl (Rd.newAt _ #[.string x.1, .string x.2] 55 1 2 _ (0, 0) rfl (by simp)) (encP_one x) (by omega) (by unfold maxLen; omega) (by have := HBA.out.size; simp; omega) (fun h => nomatch h) ?_; intro v9 w9 ho hg hat; obtain ⟨A9, c9, rfl⟩ := own_form ho; have HO9 := hide_ (show w9.ownsRow W0.heap.size 55 2 (.slice A9 (m + 1) c9) (m + 1) (prow (M ++ [x])) by simpa [prow] using ho); have HB9 := hide_ (own_grown (HBA.out.alloc HBA.out.size _) (HO6.out.alloc _) hg (by have := HBA.out.size; simp; omega)); clear ho hg hat))
          go_roundw
          case rel => exact ⟨i + 1, m + 1, true, M ++ [x], by omega, rfl, by go_num, hide_ (by rw [List.length_append, HM.out]; rfl), hide_ (by have := hmi; simp; omega), hide_ (by rw [HT.out]; exact HP2.out), hide_ (fun _ h2 p hp => HG1.out h2 p (List.drop_subset_drop_left L (Nat.le_succ i) hp)), HO9, HB9⟩
          case measure => simp [intOf]; omega
      | false =>
        have hmi : m ≤ i := by simpa using HMI.out
        have lr0 := later_drew_cell l0
        have lr1 := later_drew_cell l1
        have ls0 := later_drew_cell d0
        have ls1 := later_drew_cell d1
        have ls2 := later_drew_cell d2
        by_cases hxk : x.1 < k
        · have h1 : Op.bytesLess x.1.toList k.toList = true := by rw [bl]; simpa
          have HXK := hide_ hxk
          clear hxk
          have e0 := (HBd.out.cell (cell_lt k0)).trans k0
          have e1 := (HBd.out.cell (cell_lt k1)).trans k1
          have f0 : wd.cell? ⟨w.heap.size, 0, none⟩ = some (.int .i64 kind) := cell_of_row _ _ 0 _ _ (0, 0) ((HBd.out.block _ (by have := HZ0.out; omega)).trans HBX.out)
          have f1 : wd.cell? ⟨w.heap.size, 1, none⟩ = some (.string k) := cell_of_row _ _ 1 _ _ (0, 0) ((HBd.out.block _ (by have := HZ0.out; omega)).trans HBX.out)
          have f2 : wd.cell? ⟨w.heap.size, 2, none⟩ = some (.string v) := cell_of_row _ _ 2 _ _ (0, 0) ((HBd.out.block _ (by have := HZ0.out; omega)).trans HBX.out)
          have lc0 := later_drew_cell e0
          have lc1 := later_drew_cell e1
          have ld0 := later_drew_cell f0
          have ld1 := later_drew_cell f1
          have ld2 := later_drew_cell f2
          by_cases hnm : Named kind k v x.1
          · have hsp := hide_ (fun W => rspan_any kind k v hks W)
            have hhas := hide_ (fun W => rhas_c (spanC kind k v) x.1 true (by simp [named_has, hnm]) W)
            have HP2 := hide_ (passed_skip HP.out hnm (fun _ => HXK.out))
            clear hnm
            go_wp2_with fail
            refine wp_region_k (by kernel_rfl) ?_
            refine wpAnyK_take 0 (v := ?_) rfl (by kernel_rfl) (by kernel_rfl) (by kernel_rfl) (fun _ _ _ h => h) (by rfl) (by intro W hSw; go_simp; with_reducible rfl) ?_; try simp only [Act.put, List.setIfInBounds_toArray, List.set_cons_zero, List.set_cons_succ]
            refine wpAnyK_take 1 (v := ?_) rfl (by kernel_rfl) (by kernel_rfl) (by kernel_rfl) (fun _ _ _ h => h) (by rfl) (by intro W hSw; go_simp; with_reducible rfl) ?_; try simp only [Act.put, List.setIfInBounds_toArray, List.set_cons_zero, List.set_cons_succ]
            refine wpAnyK_take 2 (v := ?_) rfl (by kernel_rfl) (by kernel_rfl) (by kernel_rfl) (fun _ _ _ h => h) (by rfl) (by intro W hSw; go_simp; with_reducible rfl) ?_; try simp only [Act.put, List.setIfInBounds_toArray, List.set_cons_zero, List.set_cons_succ]
            refine wpAnyK_take 3 (v := ?_) rfl (by kernel_rfl) (by kernel_rfl) (by kernel_rfl) (fun _ _ _ h => h) (by rfl) (by intro W hSw; go_simp; with_reducible rfl) ?_; try simp only [Act.put, List.setIfInBounds_toArray, List.set_cons_zero, List.set_cons_succ]
            refine wpAnyK_take 4 (v := ?_) rfl (by kernel_rfl) (by kernel_rfl) (by kernel_rfl) (fun _ _ _ h => h) (by rfl) (by intro W hSw; go_simp; with_reducible rfl) ?_; try simp only [Act.put, List.setIfInBounds_toArray, List.set_cons_zero, List.set_cons_succ]
            refine wpAnyK_take 5 (v := ?_) rfl (by kernel_rfl) (by kernel_rfl) (by kernel_rfl) (fun _ _ _ h => h) (by rfl) (by intro W hSw; go_simp; with_reducible rfl) ?_; try simp only [Act.put, List.setIfInBounds_toArray, List.set_cons_zero, List.set_cons_succ]
            refine wpAnyK_take 6 (v := ?_) rfl (by kernel_rfl) (by kernel_rfl) (by kernel_rfl) (fun _ _ _ h => h) (by rfl) (by intro W hSw; go_simp; with_reducible rfl) ?_; try simp only [Act.put, List.setIfInBounds_toArray, List.set_cons_zero, List.set_cons_succ]
            refine wpAnyK_take 7 (v := ?_) rfl (by kernel_rfl) (by kernel_rfl) (by kernel_rfl) (fun _ _ _ h => h) (by rfl) (by intro W hSw; go_simp; with_reducible rfl) ?_; try simp only [Act.put, List.setIfInBounds_toArray, List.set_cons_zero, List.set_cons_succ]
            refine wpAnyK_take 8 (v := ?_) rfl (by kernel_rfl) (by kernel_rfl) (by kernel_rfl) (fun _ _ _ h => h) (by rfl) (by intro W hSw; go_simp; with_reducible rfl) ?_; try simp only [Act.put, List.setIfInBounds_toArray, List.set_cons_zero, List.set_cons_succ]
            refine wpAnyK_take 9 (v := ?_) rfl (by kernel_rfl) (by kernel_rfl) (by kernel_rfl) (fun _ _ _ h => h) (by rfl) (by intro W hSw; go_simp; with_reducible rfl) ?_; try simp only [Act.put, List.setIfInBounds_toArray, List.set_cons_zero, List.set_cons_succ]
            refine wpAnyK_take 10 (v := ?_) rfl (by kernel_rfl) (by kernel_rfl) (by kernel_rfl) (fun _ _ _ h => h) (by rfl) (by intro W hSw; go_simp; with_reducible rfl) ?_; try simp only [Act.put, List.setIfInBounds_toArray, List.set_cons_zero, List.set_cons_succ]
            refine wpAnyK_take 11 (v := ?_) rfl (by kernel_rfl) (by kernel_rfl) (by kernel_rfl) (fun _ _ _ h => h) (by rfl) (by intro W hSw; go_simp; with_reducible rfl) ?_; try simp only [Act.put, List.setIfInBounds_toArray, List.set_cons_zero, List.set_cons_succ]
            refine wpAnyK_done (by kernel_rfl) ?_ _
            go_wp2_with (rw [HWD.out])
            refine wp_region_k (by kernel_rfl) ?_
            refine wpAnyK_take 0 (v := ?_) rfl (by kernel_rfl) (by kernel_rfl) (by kernel_rfl) (fun _ _ _ h => h) (by rfl) (by intro W hSw; go_simp; with_reducible rfl) ?_; try simp only [Act.put, List.setIfInBounds_toArray, List.set_cons_zero, List.set_cons_succ]
            refine wpAnyK_take 2 (v := ?_) rfl (by kernel_rfl) (by kernel_rfl) (by kernel_rfl) (fun _ _ _ h => h) (by rfl) (by intro W hSw; go_simp; with_reducible rfl) ?_; try simp only [Act.put, List.setIfInBounds_toArray, List.set_cons_zero, List.set_cons_succ]
            refine wpAnyK_take 3 (v := ?_) rfl (by kernel_rfl) (by kernel_rfl) (by kernel_rfl) (fun _ _ _ h => h) (by rfl) (by intro W hSw; go_simp; with_reducible rfl) ?_; try simp only [Act.put, List.setIfInBounds_toArray, List.set_cons_zero, List.set_cons_succ]
            refine wpAnyK_take 4 (v := ?_) rfl (by kernel_rfl) (by kernel_rfl) (by kernel_rfl) (fun _ _ _ h => h) (by rfl) (by intro W hSw; go_simp; with_reducible rfl) ?_; try simp only [Act.put, List.setIfInBounds_toArray, List.set_cons_zero, List.set_cons_succ]
            refine wpAnyK_take 5 (v := ?_) rfl (by kernel_rfl) (by kernel_rfl) (by kernel_rfl) (fun _ _ _ h => h) (by rfl) (by intro W hSw; go_simp; with_reducible rfl) ?_; try simp only [Act.put, List.setIfInBounds_toArray, List.set_cons_zero, List.set_cons_succ]
            refine wpAnyK_take 6 (v := ?_) rfl (by kernel_rfl) (by kernel_rfl) (by kernel_rfl) (fun _ _ _ h => h) (by rfl) (by intro W hSw; go_simp; with_reducible rfl) ?_; try simp only [Act.put, List.setIfInBounds_toArray, List.set_cons_zero, List.set_cons_succ]
            refine wpAnyK_one 1 (by kernel_rfl) rfl (fun K hK => ?_)
            go_simp
            refine (hsp.out _).mono ?_; rintro e w5 ⟨rfl, hb5⟩
            refine hK.out _ _ (by assumption) ?_
            clear hK K; try simp only [Act.put, List.setIfInBounds_toArray, List.set_cons_zero, List.set_cons_succ]
            refine wpAnyK_one 7 (by kernel_rfl) rfl (fun K hK => ?_)
            go_simp
            refine (hhas.out _).mono ?_; rintro e w6 ⟨rfl, hb6⟩
            refine hK.out _ _ (by assumption) ?_
            clear hK K; try simp only [Act.put, List.setIfInBounds_toArray, List.set_cons_zero, List.set_cons_succ]
            refine wpAnyK_take 8 (v := ?_) rfl (by kernel_rfl) (by kernel_rfl) (by kernel_rfl) (fun _ _ _ h => h) (by rfl) (by intro W hSw; go_simp; with_reducible rfl) ?_; try simp only [Act.put, List.setIfInBounds_toArray, List.set_cons_zero, List.set_cons_succ]
            refine wpAnyK_done (by kernel_rfl) ?_ _
            have HB6 := hide_ (show Later wd w6 from (Later.refl wd).drew.trans (hb5.trans hb6))
            clear hb5 hb6
            go_wp2_with fail
            go_roundw
            case rel => exact ⟨i + 1, m, false, M, by omega, rfl, by go_num, HM, hide_ (by have := hmi; simp; omega), hide_ (by rw [HT.out]; exact HP2.out), hide_ (fun h => by cases h), hide_ (own_below HOd.out HB6.out), hide_ (HBd.out.trans HB6.out)⟩
            case measure => simp [intOf]; omega
          · have hsp := hide_ (fun W => rspan_any kind k v hks W)
            have hhas := hide_ (fun W => rhas_c (spanC kind k v) x.1 false (by simp [named_has, hnm]) W)
            have HP2 := hide_ (passed_keep HP.out HLT.out hnm (fun _ => HXK.out) (fun h => by cases h))
            clear hnm
            go_wp2_with fail
            refine wp_region_k (by kernel_rfl) ?_
            refine wpAnyK_take 0 (v := ?_) rfl (by kernel_rfl) (by kernel_rfl) (by kernel_rfl) (fun _ _ _ h => h) (by rfl) (by intro W hSw; go_simp; with_reducible rfl) ?_; try simp only [Act.put, List.setIfInBounds_toArray, List.set_cons_zero, List.set_cons_succ]
            refine wpAnyK_take 1 (v := ?_) rfl (by kernel_rfl) (by kernel_rfl) (by kernel_rfl) (fun _ _ _ h => h) (by rfl) (by intro W hSw; go_simp; with_reducible rfl) ?_; try simp only [Act.put, List.setIfInBounds_toArray, List.set_cons_zero, List.set_cons_succ]
            refine wpAnyK_take 2 (v := ?_) rfl (by kernel_rfl) (by kernel_rfl) (by kernel_rfl) (fun _ _ _ h => h) (by rfl) (by intro W hSw; go_simp; with_reducible rfl) ?_; try simp only [Act.put, List.setIfInBounds_toArray, List.set_cons_zero, List.set_cons_succ]
            refine wpAnyK_take 3 (v := ?_) rfl (by kernel_rfl) (by kernel_rfl) (by kernel_rfl) (fun _ _ _ h => h) (by rfl) (by intro W hSw; go_simp; with_reducible rfl) ?_; try simp only [Act.put, List.setIfInBounds_toArray, List.set_cons_zero, List.set_cons_succ]
            refine wpAnyK_take 4 (v := ?_) rfl (by kernel_rfl) (by kernel_rfl) (by kernel_rfl) (fun _ _ _ h => h) (by rfl) (by intro W hSw; go_simp; with_reducible rfl) ?_; try simp only [Act.put, List.setIfInBounds_toArray, List.set_cons_zero, List.set_cons_succ]
            refine wpAnyK_take 5 (v := ?_) rfl (by kernel_rfl) (by kernel_rfl) (by kernel_rfl) (fun _ _ _ h => h) (by rfl) (by intro W hSw; go_simp; with_reducible rfl) ?_; try simp only [Act.put, List.setIfInBounds_toArray, List.set_cons_zero, List.set_cons_succ]
            refine wpAnyK_take 6 (v := ?_) rfl (by kernel_rfl) (by kernel_rfl) (by kernel_rfl) (fun _ _ _ h => h) (by rfl) (by intro W hSw; go_simp; with_reducible rfl) ?_; try simp only [Act.put, List.setIfInBounds_toArray, List.set_cons_zero, List.set_cons_succ]
            refine wpAnyK_take 7 (v := ?_) rfl (by kernel_rfl) (by kernel_rfl) (by kernel_rfl) (fun _ _ _ h => h) (by rfl) (by intro W hSw; go_simp; with_reducible rfl) ?_; try simp only [Act.put, List.setIfInBounds_toArray, List.set_cons_zero, List.set_cons_succ]
            refine wpAnyK_take 8 (v := ?_) rfl (by kernel_rfl) (by kernel_rfl) (by kernel_rfl) (fun _ _ _ h => h) (by rfl) (by intro W hSw; go_simp; with_reducible rfl) ?_; try simp only [Act.put, List.setIfInBounds_toArray, List.set_cons_zero, List.set_cons_succ]
            refine wpAnyK_take 9 (v := ?_) rfl (by kernel_rfl) (by kernel_rfl) (by kernel_rfl) (fun _ _ _ h => h) (by rfl) (by intro W hSw; go_simp; with_reducible rfl) ?_; try simp only [Act.put, List.setIfInBounds_toArray, List.set_cons_zero, List.set_cons_succ]
            refine wpAnyK_take 10 (v := ?_) rfl (by kernel_rfl) (by kernel_rfl) (by kernel_rfl) (fun _ _ _ h => h) (by rfl) (by intro W hSw; go_simp; with_reducible rfl) ?_; try simp only [Act.put, List.setIfInBounds_toArray, List.set_cons_zero, List.set_cons_succ]
            refine wpAnyK_take 11 (v := ?_) rfl (by kernel_rfl) (by kernel_rfl) (by kernel_rfl) (fun _ _ _ h => h) (by rfl) (by intro W hSw; go_simp; with_reducible rfl) ?_; try simp only [Act.put, List.setIfInBounds_toArray, List.set_cons_zero, List.set_cons_succ]
            refine wpAnyK_done (by kernel_rfl) ?_ _
            go_wp2_with (rw [HWD.out])
            refine wp_region_k (by kernel_rfl) ?_
            refine wpAnyK_take 0 (v := ?_) rfl (by kernel_rfl) (by kernel_rfl) (by kernel_rfl) (fun _ _ _ h => h) (by rfl) (by intro W hSw; go_simp; with_reducible rfl) ?_; try simp only [Act.put, List.setIfInBounds_toArray, List.set_cons_zero, List.set_cons_succ]
            refine wpAnyK_take 2 (v := ?_) rfl (by kernel_rfl) (by kernel_rfl) (by kernel_rfl) (fun _ _ _ h => h) (by rfl) (by intro W hSw; go_simp; with_reducible rfl) ?_; try simp only [Act.put, List.setIfInBounds_toArray, List.set_cons_zero, List.set_cons_succ]
            refine wpAnyK_take 3 (v := ?_) rfl (by kernel_rfl) (by kernel_rfl) (by kernel_rfl) (fun _ _ _ h => h) (by rfl) (by intro W hSw; go_simp; with_reducible rfl) ?_; try simp only [Act.put, List.setIfInBounds_toArray, List.set_cons_zero, List.set_cons_succ]
            refine wpAnyK_take 4 (v := ?_) rfl (by kernel_rfl) (by kernel_rfl) (by kernel_rfl) (fun _ _ _ h => h) (by rfl) (by intro W hSw; go_simp; with_reducible rfl) ?_; try simp only [Act.put, List.setIfInBounds_toArray, List.set_cons_zero, List.set_cons_succ]
            refine wpAnyK_take 5 (v := ?_) rfl (by kernel_rfl) (by kernel_rfl) (by kernel_rfl) (fun _ _ _ h => h) (by rfl) (by intro W hSw; go_simp; with_reducible rfl) ?_; try simp only [Act.put, List.setIfInBounds_toArray, List.set_cons_zero, List.set_cons_succ]
            refine wpAnyK_take 6 (v := ?_) rfl (by kernel_rfl) (by kernel_rfl) (by kernel_rfl) (fun _ _ _ h => h) (by rfl) (by intro W hSw; go_simp; with_reducible rfl) ?_; try simp only [Act.put, List.setIfInBounds_toArray, List.set_cons_zero, List.set_cons_succ]
            refine wpAnyK_one 1 (by kernel_rfl) rfl (fun K hK => ?_)
            go_simp
            refine (hsp.out _).mono ?_; rintro e w5 ⟨rfl, hb5⟩
            refine hK.out _ _ (by assumption) ?_
            clear hK K; try simp only [Act.put, List.setIfInBounds_toArray, List.set_cons_zero, List.set_cons_succ]
            refine wpAnyK_one 7 (by kernel_rfl) rfl (fun K hK => ?_)
            go_simp
            refine (hhas.out _).mono ?_; rintro e w6 ⟨rfl, hb6⟩
            refine hK.out _ _ (by assumption) ?_
            clear hK K; try simp only [Act.put, List.setIfInBounds_toArray, List.set_cons_zero, List.set_cons_succ]
            refine wpAnyK_take 8 (v := ?_) rfl (by kernel_rfl) (by kernel_rfl) (by kernel_rfl) (fun _ _ _ h => h) (by rfl) (by intro W hSw; go_simp; with_reducible rfl) ?_; try simp only [Act.put, List.setIfInBounds_toArray, List.set_cons_zero, List.set_cons_succ]
            refine wpAnyK_done (by kernel_rfl) ?_ _
            have HB6 := hide_ (show Later wd w6 from (Later.refl wd).drew.trans (hb5.trans hb6))
            clear hb5 hb6
            have HO6 := hide_ (own_below HOd.out HB6.out)
            have HBA := hide_ (HBd.out.trans HB6.out)
            have g0 := (HBA.out.cell (cell_lt k0)).trans k0
            have g1 := (HBA.out.cell (cell_lt k1)).trans k1
            go_wp2_with (at_builtin; (refine wpList_append_rd _ rfl (.tmp 47) (.tmp 52) 22 rfl W0.heap.size 55 2 32 pairT _ m (prow M) rfl (HO6.out.alloc _) _ 1 _ (encP x) rfl (Rd.newAt _ #[.string x.1, .string x.2] 55 1 2 _ (0, 0) rfl (by simp)) (encP_one x) (by omega) (by unfold maxLen; omega) (by have := HBA.out.size; simp; omega) (fun h => nomatch h) ?_; intro v9 w9 ho hg hat; obtain ⟨A9, c9, rfl⟩ := own_form ho; have HO9 := hide_ (show w9.ownsRow W0.heap.size 55 2 (.slice A9 (m + 1) c9) (m + 1) (prow (M ++ [x])) by simpa [prow] using ho); have HB9 := hide_ (own_grown (HBA.out.alloc HBA.out.size _) (HO6.out.alloc _) hg (by have := HBA.out.size; simp; omega)); clear ho hg hat))
            go_roundw
            case rel => exact ⟨i + 1, m + 1, false, M ++ [x], by omega, rfl, by go_num, hide_ (by rw [List.length_append, HM.out]; rfl), hide_ (by have := hmi; simp; omega), hide_ (by rw [HT.out]; exact HP2.out), hide_ (fun h => by cases h), HO9, HB9⟩
            case measure => simp [intOf]; omega
        · have h1 : Op.bytesLess x.1.toList k.toList = false := by rw [bl]; simpa
          have HKX := hide_ (show k ≤ x.1 by grind)
          have HPP := hide_ (passed_put HP.out)
          have HG2 := hide_ (show ∀ p, p ∈ L.drop (i + 1) → k ≤ p.1 from fun p hp => by have h3 := HGT.out p hp; have h4 := HKX.out; grind)
          clear hxk
          have e0 := (HBd.out.cell (cell_lt k0)).trans k0
          have e1 := (HBd.out.cell (cell_lt k1)).trans k1
          have f0 : wd.cell? ⟨w.heap.size, 0, none⟩ = some (.int .i64 kind) := cell_of_row _ _ 0 _ _ (0, 0) ((HBd.out.block _ (by have := HZ0.out; omega)).trans HBX.out)
          have f1 : wd.cell? ⟨w.heap.size, 1, none⟩ = some (.string k) := cell_of_row _ _ 1 _ _ (0, 0) ((HBd.out.block _ (by have := HZ0.out; omega)).trans HBX.out)
          have f2 : wd.cell? ⟨w.heap.size, 2, none⟩ = some (.string v) := cell_of_row _ _ 2 _ _ (0, 0) ((HBd.out.block _ (by have := HZ0.out; omega)).trans HBX.out)
          have lc0 := later_drew_cell e0
          have lc1 := later_drew_cell e1
          have ld0 := later_drew_cell f0
          have ld1 := later_drew_cell f1
          have ld2 := later_drew_cell f2
          go_wp2_with fail
          refine wp_region_k (by kernel_rfl) ?_
          refine wpAnyK_take 0 (v := ?_) rfl (by kernel_rfl) (by kernel_rfl) (by kernel_rfl) (fun _ _ _ h => h) (by rfl) (by intro W hSw; go_simp; with_reducible rfl) ?_; try simp only [Act.put, List.setIfInBounds_toArray, List.set_cons_zero, List.set_cons_succ]
          refine wpAnyK_take 1 (v := ?_) rfl (by kernel_rfl) (by kernel_rfl) (by kernel_rfl) (fun _ _ _ h => h) (by rfl) (by intro W hSw; go_simp; with_reducible rfl) ?_; try simp only [Act.put, List.setIfInBounds_toArray, List.set_cons_zero, List.set_cons_succ]
          refine wpAnyK_take 2 (v := ?_) rfl (by kernel_rfl) (by kernel_rfl) (by kernel_rfl) (fun _ _ _ h => h) (by rfl) (by intro W hSw; go_simp; with_reducible rfl) ?_; try simp only [Act.put, List.setIfInBounds_toArray, List.set_cons_zero, List.set_cons_succ]
          refine wpAnyK_take 3 (v := ?_) rfl (by kernel_rfl) (by kernel_rfl) (by kernel_rfl) (fun _ _ _ h => h) (by rfl) (by intro W hSw; go_simp; with_reducible rfl) ?_; try simp only [Act.put, List.setIfInBounds_toArray, List.set_cons_zero, List.set_cons_succ]
          refine wpAnyK_take 4 (v := ?_) rfl (by kernel_rfl) (by kernel_rfl) (by kernel_rfl) (fun _ _ _ h => h) (by rfl) (by intro W hSw; go_simp; with_reducible rfl) ?_; try simp only [Act.put, List.setIfInBounds_toArray, List.set_cons_zero, List.set_cons_succ]
          refine wpAnyK_take 5 (v := ?_) rfl (by kernel_rfl) (by kernel_rfl) (by kernel_rfl) (fun _ _ _ h => h) (by rfl) (by intro W hSw; go_simp; with_reducible rfl) ?_; try simp only [Act.put, List.setIfInBounds_toArray, List.set_cons_zero, List.set_cons_succ]
          refine wpAnyK_take 6 (v := ?_) rfl (by kernel_rfl) (by kernel_rfl) (by kernel_rfl) (fun _ _ _ h => h) (by rfl) (by intro W hSw; go_simp; with_reducible rfl) ?_; try simp only [Act.put, List.setIfInBounds_toArray, List.set_cons_zero, List.set_cons_succ]
          refine wpAnyK_take 7 (v := ?_) rfl (by kernel_rfl) (by kernel_rfl) (by kernel_rfl) (fun _ _ _ h => h) (by rfl) (by intro W hSw; go_simp; with_reducible rfl) ?_; try simp only [Act.put, List.setIfInBounds_toArray, List.set_cons_zero, List.set_cons_succ]
          refine wpAnyK_take 8 (v := ?_) rfl (by kernel_rfl) (by kernel_rfl) (by kernel_rfl) (fun _ _ _ h => h) (by rfl) (by intro W hSw; go_simp; with_reducible rfl) ?_; try simp only [Act.put, List.setIfInBounds_toArray, List.set_cons_zero, List.set_cons_succ]
          refine wpAnyK_take 9 (v := ?_) rfl (by kernel_rfl) (by kernel_rfl) (by kernel_rfl) (fun _ _ _ h => h) (by rfl) (by intro W hSw; go_simp; with_reducible rfl) ?_; try simp only [Act.put, List.setIfInBounds_toArray, List.set_cons_zero, List.set_cons_succ]
          refine wpAnyK_take 10 (v := ?_) rfl (by kernel_rfl) (by kernel_rfl) (by kernel_rfl) (fun _ _ _ h => h) (by rfl) (by intro W hSw; go_simp; with_reducible rfl) ?_; try simp only [Act.put, List.setIfInBounds_toArray, List.set_cons_zero, List.set_cons_succ]
          refine wpAnyK_take 11 (v := ?_) rfl (by kernel_rfl) (by kernel_rfl) (by kernel_rfl) (fun _ _ _ h => h) (by rfl) (by intro W hSw; go_simp; with_reducible rfl) ?_; try simp only [Act.put, List.setIfInBounds_toArray, List.set_cons_zero, List.set_cons_succ]
          refine wpAnyK_done (by kernel_rfl) ?_ _
          go_wp2_with (first | (at_builtin; (refine wpList_append_rd _ rfl (.tmp 30) (.tmp 36) 22 rfl W0.heap.size 55 2 32 pairT _ m (prow M) rfl (HOd.out.alloc _) _ 1 _ (encP (k, v)) rfl (Rd.newAt _ #[.string k, .string v] 55 1 2 _ (0, 0) rfl (by simp)) (encP_one (k, v)) (by omega) (by unfold maxLen; omega) (by have := HBd.out.size; simp; omega) (fun h => nomatch h) ?_; intro v7 w7 ho hg hat; obtain ⟨A7, c7, rfl⟩ := own_form ho; have HO7 := hide_ (show w7.ownsRow W0.heap.size 55 2 (.slice A7 (m + 1) c7) (m + 1) (prow (M ++ [(k, v)])) by simpa [prow] using ho); have HB7 := hide_ (own_grown (HBd.out.alloc HBd.out.size _) (HOd.out.alloc _) hg (by have := HBd.out.size; simp; omega)); clear ho hg hat)) | (rw [HWD.out]))
          clear e0 e1 f0 f1 f2 lc0 lc1 ld0 ld1 ld2 HWD HBd HOd
          have HBd := hide_ (show Later W0 w7 from HB7.out)
          have HOd := HO7
          have HM7 := hide_ (show (M ++ [(k, v)]).length = m + 1 by rw [List.length_append, HM.out]; rfl)
          have e0 := (HBd.out.cell (cell_lt k0)).trans k0
          have e1 := (HBd.out.cell (cell_lt k1)).trans k1
          have f0 : w7.cell? ⟨w.heap.size, 0, none⟩ = some (.int .i64 kind) := cell_of_row _ _ 0 _ _ (0, 0) ((HBd.out.block _ (by have := HZ0.out; omega)).trans HBX.out)
          have f1 : w7.cell? ⟨w.heap.size, 1, none⟩ = some (.string k) := cell_of_row _ _ 1 _ _ (0, 0) ((HBd.out.block _ (by have := HZ0.out; omega)).trans HBX.out)
          have f2 : w7.cell? ⟨w.heap.size, 2, none⟩ = some (.string v) := cell_of_row _ _ 2 _ _ (0, 0) ((HBd.out.block _ (by have := HZ0.out; omega)).trans HBX.out)
          have lc0 := later_drew_cell e0
          have lc1 := later_drew_cell e1
          have ld0 := later_drew_cell f0
          have ld1 := later_drew_cell f1
          have ld2 := later_drew_cell f2
          by_cases hnm : Named kind k v x.1
          · have hsp := hide_ (fun W => rspan_any kind k v hks W)
            have hhas := hide_ (fun W => rhas_c (spanC kind k v) x.1 true (by simp [named_has, hnm]) W)
            have HP2 := hide_ (passed_skip HPP.out hnm (fun h => by cases h))
            clear hnm
            refine wp_region_k (by kernel_rfl) ?_
            refine wpAnyK_take 0 (v := ?_) rfl (by kernel_rfl) (by kernel_rfl) (by kernel_rfl) (fun _ _ _ h => h) (by rfl) (by intro W hSw; go_simp; with_reducible rfl) ?_; try simp only [Act.put, List.setIfInBounds_toArray, List.set_cons_zero, List.set_cons_succ]
            refine wpAnyK_take 2 (v := ?_) rfl (by kernel_rfl) (by kernel_rfl) (by kernel_rfl) (fun _ _ _ h => h) (by rfl) (by intro W hSw; go_simp; with_reducible rfl) ?_; try simp only [Act.put, List.setIfInBounds_toArray, List.set_cons_zero, List.set_cons_succ]
            refine wpAnyK_take 3 (v := ?_) rfl (by kernel_rfl) (by kernel_rfl) (by kernel_rfl) (fun _ _ _ h => h) (by rfl) (by intro W hSw; go_simp; with_reducible rfl) ?_; try simp only [Act.put, List.setIfInBounds_toArray, List.set_cons_zero, List.set_cons_succ]
            refine wpAnyK_take 4 (v := ?_) rfl (by kernel_rfl) (by kernel_rfl) (by kernel_rfl) (fun _ _ _ h => h) (by rfl) (by intro W hSw; go_simp; with_reducible rfl) ?_; try simp only [Act.put, List.setIfInBounds_toArray, List.set_cons_zero, List.set_cons_succ]
            refine wpAnyK_take 5 (v := ?_) rfl (by kernel_rfl) (by kernel_rfl) (by kernel_rfl) (fun _ _ _ h => h) (by rfl) (by intro W hSw; go_simp; with_reducible rfl) ?_; try simp only [Act.put, List.setIfInBounds_toArray, List.set_cons_zero, List.set_cons_succ]
            refine wpAnyK_take 6 (v := ?_) rfl (by kernel_rfl) (by kernel_rfl) (by kernel_rfl) (fun _ _ _ h => h) (by rfl) (by intro W hSw; go_simp; with_reducible rfl) ?_; try simp only [Act.put, List.setIfInBounds_toArray, List.set_cons_zero, List.set_cons_succ]
            refine wpAnyK_one 1 (by kernel_rfl) rfl (fun K hK => ?_)
            go_simp
            refine (hsp.out _).mono ?_; rintro e w5 ⟨rfl, hb5⟩
            refine hK.out _ _ (by assumption) ?_
            clear hK K; try simp only [Act.put, List.setIfInBounds_toArray, List.set_cons_zero, List.set_cons_succ]
            refine wpAnyK_one 7 (by kernel_rfl) rfl (fun K hK => ?_)
            go_simp
            refine (hhas.out _).mono ?_; rintro e w6 ⟨rfl, hb6⟩
            refine hK.out _ _ (by assumption) ?_
            clear hK K; try simp only [Act.put, List.setIfInBounds_toArray, List.set_cons_zero, List.set_cons_succ]
            refine wpAnyK_take 8 (v := ?_) rfl (by kernel_rfl) (by kernel_rfl) (by kernel_rfl) (fun _ _ _ h => h) (by rfl) (by intro W hSw; go_simp; with_reducible rfl) ?_; try simp only [Act.put, List.setIfInBounds_toArray, List.set_cons_zero, List.set_cons_succ]
            refine wpAnyK_done (by kernel_rfl) ?_ _
            have HB6 := hide_ (show Later w7 w6 from (Later.refl w7).drew.trans (hb5.trans hb6))
            clear hb5 hb6
            go_wp2_with fail
            go_roundw
            case rel => exact ⟨i + 1, (m + 1), true, (M ++ [(k, v)]), by omega, rfl, by go_num, HM7, hide_ (by have := hmi; simp; omega), hide_ (by rw [HT.out]; exact HP2.out), hide_ (fun _ _ => HG2.out), hide_ (own_below HOd.out HB6.out), hide_ (HBd.out.trans HB6.out)⟩
            case measure => simp [intOf]; omega
          · have hsp := hide_ (fun W => rspan_any kind k v hks W)
            have hhas := hide_ (fun W => rhas_c (spanC kind k v) x.1 false (by simp [named_has, hnm]) W)
            have HP2 := hide_ (passed_keep HPP.out HLT.out hnm (fun h => by cases h) (fun _ _ => HKX.out))
            clear hnm
            refine wp_region_k (by kernel_rfl) ?_
            refine wpAnyK_take 0 (v := ?_) rfl (by kernel_rfl) (by kernel_rfl) (by kernel_rfl) (fun _ _ _ h => h) (by rfl) (by intro W hSw; go_simp; with_reducible rfl) ?_; try simp only [Act.put, List.setIfInBounds_toArray, List.set_cons_zero, List.set_cons_succ]
            refine wpAnyK_take 2 (v := ?_) rfl (by kernel_rfl) (by kernel_rfl) (by kernel_rfl) (fun _ _ _ h => h) (by rfl) (by intro W hSw; go_simp; with_reducible rfl) ?_; try simp only [Act.put, List.setIfInBounds_toArray, List.set_cons_zero, List.set_cons_succ]
            refine wpAnyK_take 3 (v := ?_) rfl (by kernel_rfl) (by kernel_rfl) (by kernel_rfl) (fun _ _ _ h => h) (by rfl) (by intro W hSw; go_simp; with_reducible rfl) ?_; try simp only [Act.put, List.setIfInBounds_toArray, List.set_cons_zero, List.set_cons_succ]
            refine wpAnyK_take 4 (v := ?_) rfl (by kernel_rfl) (by kernel_rfl) (by kernel_rfl) (fun _ _ _ h => h) (by rfl) (by intro W hSw; go_simp; with_reducible rfl) ?_; try simp only [Act.put, List.setIfInBounds_toArray, List.set_cons_zero, List.set_cons_succ]
            refine wpAnyK_take 5 (v := ?_) rfl (by kernel_rfl) (by kernel_rfl) (by kernel_rfl) (fun _ _ _ h => h) (by rfl) (by intro W hSw; go_simp; with_reducible rfl) ?_; try simp only [Act.put, List.setIfInBounds_toArray, List.set_cons_zero, List.set_cons_succ]
            refine wpAnyK_take 6 (v := ?_) rfl (by kernel_rfl) (by kernel_rfl) (by kernel_rfl) (fun _ _ _ h => h) (by rfl) (by intro W hSw; go_simp; with_reducible rfl) ?_; try simp only [Act.put, List.setIfInBounds_toArray, List.set_cons_zero, List.set_cons_succ]
            refine wpAnyK_one 1 (by kernel_rfl) rfl (fun K hK => ?_)
            go_simp
            refine (hsp.out _).mono ?_; rintro e w5 ⟨rfl, hb5⟩
            refine hK.out _ _ (by assumption) ?_
            clear hK K; try simp only [Act.put, List.setIfInBounds_toArray, List.set_cons_zero, List.set_cons_succ]
            refine wpAnyK_one 7 (by kernel_rfl) rfl (fun K hK => ?_)
            go_simp
            refine (hhas.out _).mono ?_; rintro e w6 ⟨rfl, hb6⟩
            refine hK.out _ _ (by assumption) ?_
            clear hK K; try simp only [Act.put, List.setIfInBounds_toArray, List.set_cons_zero, List.set_cons_succ]
            refine wpAnyK_take 8 (v := ?_) rfl (by kernel_rfl) (by kernel_rfl) (by kernel_rfl) (fun _ _ _ h => h) (by rfl) (by intro W hSw; go_simp; with_reducible rfl) ?_; try simp only [Act.put, List.setIfInBounds_toArray, List.set_cons_zero, List.set_cons_succ]
            refine wpAnyK_done (by kernel_rfl) ?_ _
            have HB6 := hide_ (show Later w7 w6 from (Later.refl w7).drew.trans (hb5.trans hb6))
            clear hb5 hb6
            have HO6 := hide_ (own_below HOd.out HB6.out)
            have HBA := hide_ (HBd.out.trans HB6.out)
            have g0 := (HBA.out.cell (cell_lt k0)).trans k0
            have g1 := (HBA.out.cell (cell_lt k1)).trans k1
            go_wp2_with (at_builtin; (refine wpList_append_rd _ rfl (.tmp 47) (.tmp 52) 22 rfl W0.heap.size 55 2 32 pairT _ (m + 1) (prow (M ++ [(k, v)])) rfl (HO6.out.alloc _) _ 1 _ (encP x) rfl (Rd.newAt _ #[.string x.1, .string x.2] 55 1 2 _ (0, 0) rfl (by simp)) (encP_one x) (by omega) (by unfold maxLen; omega) (by have := HBA.out.size; simp; omega) (fun h => nomatch h) ?_; intro v9 w9 ho hg hat; obtain ⟨A9, c9, rfl⟩ := own_form ho; have HO9 := hide_ (show w9.ownsRow W0.heap.size 55 2 (.slice A9 ((m + 1) + 1) c9) ((m + 1) + 1) (prow ((M ++ [(k, v)]) ++ [x])) by simpa [prow] using ho); have HB9 := hide_ (own_grown (HBA.out.alloc HBA.out.size _) (HO6.out.alloc _) hg (by have := HBA.out.size; simp; omega)); clear ho hg hat))
            go_roundw
            case rel => exact ⟨i + 1, (m + 1) + 1, true, (M ++ [(k, v)]) ++ [x], by omega, rfl, by go_num, hide_ (by rw [List.length_append, HM7.out]; rfl), hide_ (by have := hmi; simp; omega), hide_ (by rw [HT.out]; exact HP2.out), hide_ (fun _ _ => HG2.out), HO9, HB9⟩
            case measure => simp [intOf]; omega
    · have q1 : ¬ (i : Int) < (n : Int) := by omega
      obtain rfl : i = n := by omega
      have HPE := hide_ (show Passed L kind k v put M by have := HP.out; rwa [← HL.out, List.take_length] at this)
      cases put with
      | true =>
        have hmi : m ≤ i + 1 := by simpa using HMI.out
        go_wp2_with fail
        go_ret
        exact ⟨⟨_, M, m, rfl, HM.out, hmi, passed_end HPE.out, own_base' HO.out (by have := HZ0.out; omega)⟩, HB0.out.trans HB.out⟩
      | false =>
        have hmi : m ≤ i := by simpa using HMI.out
        have d0 : wr.cell? ⟨w.heap.size, 0, none⟩ = some (.int .i64 kind) := cell_of_row _ _ 0 _ _ (0, 0) ((HB.out.block _ (by have := HZ0.out; omega)).trans HBX.out)
        have d1 : wr.cell? ⟨w.heap.size, 1, none⟩ = some (.string k) := cell_of_row _ _ 1 _ _ (0, 0) ((HB.out.block _ (by have := HZ0.out; omega)).trans HBX.out)
        have d2 : wr.cell? ⟨w.heap.size, 2, none⟩ = some (.string v) := cell_of_row _ _ 2 _ _ (0, 0) ((HB.out.block _ (by have := HZ0.out; omega)).trans HBX.out)
        go_wp2_with (at_builtin; (refine wpList_append_rd _ rfl (.tmp 56) (.tmp 62) 22 rfl W0.heap.size 55 2 32 pairT _ m (prow M) rfl (HO.out.alloc _) _ 1 _ (encP (k, v)) rfl (Rd.newAt _ #[.string k, .string v] 55 1 2 _ (0, 0) rfl (by simp)) (encP_one (k, v)) (by omega) (by unfold maxLen; omega) (by have := HB.out.size; simp; omega) (fun h => nomatch h) ?_; intro v7 w7 ho hg hat; obtain ⟨A7, c7, rfl⟩ := own_form ho; have HO7 := hide_ (show w7.ownsRow W0.heap.size 55 2 (.slice A7 (m + 1) c7) (m + 1) (prow (M ++ [(k, v)])) by simpa [prow] using ho); have HB7 := hide_ (own_grown (HB.out.alloc HB.out.size _) (HO.out.alloc _) hg (by have := HB.out.size; simp; omega)); clear ho hg hat))
        go_ret
        exact ⟨⟨_, M ++ [(k, v)], m + 1, rfl, (by rw [List.length_append, HM.out]; rfl), by omega, passed_end (passed_put HPE.out), own_base' HO7.out (by have := HZ0.out; omega)⟩, HB0.out.trans HB7.out⟩

end Go.Proofs.Ytblljpdlmllceaa
