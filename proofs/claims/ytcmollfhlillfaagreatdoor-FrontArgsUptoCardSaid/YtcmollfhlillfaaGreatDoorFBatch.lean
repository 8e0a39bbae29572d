/-
  frame: batch, changes, PutBatch.
-/
import Derived.Test.YtcmollfhlillfaaGreatDoorKTexts
import Derived.Test.YtcmollfhlillfaaGreatDoorKBytes
import Derived.Test.YtcmollfhlillfaaGreatDoorFMath
import Derived.Test.YtcmollfhlillfaaGreatDoorZone
namespace Go.Proofs.YtcmollfhlillfaaGreatDoor
open Go.RowKit
set_option linter.unusedVariables false
set_option linter.unusedSimpArgs false
set_option maxHeartbeats 2000000 in
set_option maxRecDepth 100000 in
theorem batch_ok {w : World} {A : Option Addr} {n c prev ver known : Nat} {L : List Chg} (hr : Rd w 3 A n (crow L)) (hl : L.length = n) (hn : n ≤ 4096) (hok : chkAll L = 0) :
    Calls Tryz.prog 106 #[.agg #[.int .i64 prev, .int .i64 ver, .int .i64 known, .slice A n c]] w fun e w' => e = .returned (.bool true) ∧ Later w w' := by
  have hn2 : (n : Int) ≤ 4096 := by omega
  have HC := hide_ (fun W => all_any (w := W) (c := c) (A := A) (L := L) (n := n))
  have HR := hide_ hr; have HL := hide_ hl; have HO := hide_ hok
  have m1 : (0 : Int) ≤ min (min (prev : Int) (ver : Int)) (known : Int) := by omega
  clear hr hl hok
  go_enter Tryz.func106, Tryz.ntmps106
  go_wp2_with fail
  all_goals
    refine (HC.out _ (HR.out.alloc _) HL.out (by omega)).mono ?_; rintro e w1 ⟨rfl, hl1⟩
    rw [HO.out]
    have HB := hide_ (show Later w w1 from (later_alloc w _).trans hl1)
    clear hl1
    go_wp2_with fail
    go_ret
    exact ⟨rfl, HB.out⟩
theorem wr_step {w wr wc w2 : World} {p : Nat} {v v' v2 : Value} (hh0 : Hits (wFp p v) w wr) (hd0 : NS w v v') (hl : Later wr wc) (hh : Hits (wFp p v') wc w2) (hd : NS wc v' v2) : Hits (wFp p v) w w2 ∧ NS w v v2 :=
  ⟨(hh0.thenLater hl).trans hh (fun i hi hG => by
    rcases hG with h | h
    · exact .inl h
    · rcases hd0 with h0 | ⟨g, h0, hg⟩
      · exact .inr (h0 ▸ h)
      · rw [h0] at h; injection h with h; omega), hd0.trans hd (Nat.le_trans hh0.size hl.size)⟩
theorem Rd.fresh1 {w : World} {b : Nat} {u : Value} {t : TypeId} {fz : Nat × Nat} (hb : b = w.heap.size) : Rd (w.alloc (.cells #[u] t fz)) 1 (some ⟨b, 0, none⟩) 1 [u] := Rd.newAt _ #[u] t 1 1 _ fz rfl hb
theorem Rd.fresh2 {w : World} {b : Nat} {u u2 : Value} {t : TypeId} {fz : Nat × Nat} (hb : b = w.heap.size) : Rd (w.alloc (.cells #[u, u2] t fz)) 1 (some ⟨b, 0, none⟩) 2 [u, u2] := Rd.newAt _ #[u, u2] t 2 1 _ fz rfl hb
theorem flat_take {L : List Chg} {k : Nat} {x : Chg} (h : L[k]? = some x) : (L.take (k + 1)).flatMap encCh = (L.take k).flatMap encCh ++ encCh x := by
  rw [List.take_add_one, h, List.flatMap_append]; simp
set_option maxHeartbeats 4000000 in
set_option maxRecDepth 100000 in
theorem changes_any {w : World} {B p : Nat} {v : Value} {s : WS} (h : WrAt w B p v s) {A : Option Addr} {n c : Nat} {L : List Chg} (hr : Rd w 3 A n (crow L)) (hl : L.length = n) (hn : n ≤ 4096) (hok : ∀ c ∈ L, chk c.1 c.2.1 c.2.2 = 0) (hA : ∀ a, A = some a → ¬ wFp p v a.block)
    (hlen : s.1.length ≤ 1000000) (hB : B ≤ w.heap.size) :
    Calls Tryz.prog 104 #[.pointer (some ⟨p, 0, none⟩), .slice A n c] w fun e w' => e = .returned (.tuple #[]) ∧ WrPost B p v (s.1 ++ putN n ++ L.flatMap encCh, s.2) w w' := by
  have HW := hide_ h; have HR := hide_ hr; have HL := hide_ hl; have HO := hide_ hok; have HA := hide_ hA; have HLEN := hide_ hlen
  have hn2 : (n : Int) ≤ 4096 := by omega
  have HN0 := hide_ (show wNums [(n : Int)] s = (s.1 ++ putN n, s.2) by unfold wNums; rw [if_neg (by omega)]; rfl)
  have HNL := hide_ (putN_len3 (n := n) (by omega))
  clear h hr hl hok hA hlen
  go_enter Tryz.func104, Tryz.ntmps104
  go_wp2_with fail
  refine (nums_any (HW.out.later (later_alloc w _)) (A := some ⟨w.heap.size, 0, none⟩) (n := 1) (L := [(n : Int)]) (Rd.newAt _ #[.int .i64 (n : Int)] 3 1 1 _ (0, 0) rfl rfl) rfl (by omega) (by intro x hx; rw [List.mem_singleton] at hx; omega) (by
    intro a ha; injection ha with ha; subst ha; intro hf
    rcases hf with hf | hf
    · have := HW.out.lt; simp at hf; omega
    · have := (HW.out.2.2.lt _ hf).2; simp at this) (by have := HLEN.out; omega) (by simp; omega)).mono ?_; rintro e w1 ⟨rfl, hp1⟩
  rw [HN0.out] at hp1
  obtain ⟨v1, ht1, hh1, hd1⟩ := hp1
  have HT1 := hide_ ht1
  have HH1 := hide_ (show Hits (wFp p v) w w1 from (Hits.later (later_alloc w _)).trans hh1 (fun _ _ h => h))
  have HD1 := hide_ (show NS w v v1 from by
    rcases hd1 with h | ⟨g, h, h2⟩
    · exact .inl h
    · exact .inr ⟨g, h, by simp at h2; omega⟩)
  clear ht1 hh1 hd1
  go_wp2_with fail
  go_loopw [13] (fun s9 wr => ∃ (k : Nat) (v' : Value), k ≤ n ∧ s9 = .int .i64 k ∧ Hid (WrAt wr B p v' (s.1 ++ putN n ++ (L.take k).flatMap encCh, s.2)) ∧ Hid (Hits (wFp p v) w wr) ∧ Hid (NS w v v')) (fun i _ => n - (intOf i).toNat)
  case atStart => exact ⟨0, v1, Nat.zero_le _, rfl, by simpa using HT1, HH1, HD1⟩
  case round =>
    obtain ⟨k, v', hkn, rfl, HT, HH, HD⟩ := hrel
    by_cases hlt : k < n
    · obtain ⟨x, hx⟩ : ∃ x, L[k]? = some x := ⟨_, List.getElem?_eq_getElem (by rw [HL.out]; exact hlt)⟩
      have HR2 := hide_ (HH.out.rd HR.out HA.out)
      obtain ⟨b, o, rfl, l0, l1, l2⟩ := HR2.out.chg hx
      have HX := hide_ (HO.out x (List.mem_of_getElem? hx))
      have HFT := hide_ (flat_take hx)
      have q1 : (k : Int) < (n : Int) := by omega
      have q2 : (0 : Int) ≤ (k : Int) := by omega
      have q3 : (k : Int) ≤ 4096 := by omega
      have HNX := hide_ (show wNums [x.1] (s.1 ++ putN n ++ (L.take k).flatMap encCh, s.2) = (s.1 ++ putN n ++ (L.take k).flatMap encCh ++ putN x.1.toNat, s.2) by
        unfold wNums; rw [if_neg (by have := (chk_ok HX.out).1.k0; omega)]; rfl)
      have HTX := hide_ (show wTexts [x.2.1, x.2.2] (s.1 ++ putN n ++ (L.take k).flatMap encCh ++ putN x.1.toNat, s.2) = (s.1 ++ putN n ++ (L.take (k + 1)).flatMap encCh, s.2) by
        have h := (chk_ok HX.out).1
        unfold wTexts; rw [if_neg (by have := h.a; omega)]; unfold wTexts; rw [if_neg (by have := h.b; omega)]; unfold wTexts
        rw [HFT.out]; unfold encCh; simp [List.append_assoc])
      have HPL := hide_ HT.out.lt
      have HVL := hide_ (show ∀ g, v'.ownBlock = some g → g < wr.heap.size from fun g hg => (HT.out.2.2.lt g hg).2)
      have HSL := hide_ (show (s.1 ++ putN n ++ (L.take k).flatMap encCh).length ≤ 1400000 by
        have h1 := HLEN.out; have h2 := HNL.out
        have h3 := flat_len (L := L.take k) (fun c hc => HO.out c (List.mem_of_mem_take hc))
        rw [List.length_append, List.length_append]; rw [List.length_take] at h3; omega)
      clear hx
      go_wp2_with fail
      obtain ⟨W0, hW0⟩ : ∃ W0, W0 = wr.alloc (Obj.cells #[Value.int IntKind.i64 x.fst, Value.string x.snd.fst, Value.string x.snd.snd] 142) := ⟨_, rfl⟩
      rw [← hW0]
      have HL0 := hide_ (show Later wr W0 by rw [hW0]; exact later_alloc _ _)
      have HZ0 := hide_ (show W0.heap.size = wr.heap.size + 1 by rw [hW0]; simp)
      have hrow := heap_alloc_new wr (Obj.cells #[Value.int IntKind.i64 x.fst, Value.string x.snd.fst, Value.string x.snd.snd] 142)
      rw [← hW0] at hrow
      have e0 := Stands.cell (X := (fun k => k = wr.heap.size)) (cell_of_row _ _ 0 _ _ (0, 0) hrow) rfl
      have e1 := Stands.cell (X := (fun k => k = wr.heap.size)) (cell_of_row _ _ 1 _ _ (0, 0) hrow) rfl
      have e2 := Stands.cell (X := (fun k => k = wr.heap.size)) (cell_of_row _ _ 2 _ _ (0, 0) hrow) rfl
      have HTL := hide_ (fun (W : World) (hl : Later W0 W) => HT.out.later (HL0.out.trans hl))
      clear hW0 hrow
      refine wp_region_z (R := Stands (fun k => k = wr.heap.size)) [] (by kernel_rfl) ?_
      refine wpAnyZ_take0 (Stands.steady (fun k => k = wr.heap.size)) 0 (v := ?_) rfl (by kernel_rfl) (by kernel_rfl) (by kernel_rfl) (fun _ _ _ h => h) (by rfl) (by intro W hSw; go_simp; with_reducible rfl) ?_; try simp only [Act.put, List.setIfInBounds_toArray, List.set_cons_zero, List.set_cons_succ]
      refine wpAnyZ_take0 (Stands.steady (fun k => k = wr.heap.size)) 1 (v := ?_) rfl (by kernel_rfl) (by kernel_rfl) (by kernel_rfl) (fun _ _ _ h => h) (by rfl) (by intro W hSw; go_simp; with_reducible rfl) ?_; try simp only [Act.put, List.setIfInBounds_toArray, List.set_cons_zero, List.set_cons_succ]
      refine wpAnyZ_take0 (Stands.steady (fun k => k = wr.heap.size)) 2 (v := ?_) rfl (by kernel_rfl) (by kernel_rfl) (by kernel_rfl) (fun _ _ _ h => h) (by rfl) (by intro W hSw; have hS0 := Stands.trans (show Stands (fun k => k = wr.heap.size) W0 _ from by repeat first | assumption | exact Stands.refl _ _ | refine Stands.alloc ?_ _ | refine Stands.drew ?_ | refine Stands.trans ?_ (by assumption)) hSw; go_simp; with_reducible rfl) ?_; try simp only [Act.put, List.setIfInBounds_toArray, List.set_cons_zero, List.set_cons_succ]
      refine wpAnyZ_take0 (Stands.steady (fun k => k = wr.heap.size)) 5 (v := ?_) rfl (by kernel_rfl) (by kernel_rfl) (by kernel_rfl) (fun _ _ _ h => h) (by rfl) (by intro W hSw; go_simp; with_reducible rfl) ?_; try simp only [Act.put, List.setIfInBounds_toArray, List.set_cons_zero, List.set_cons_succ]
      refine wpAnyZ_take0 (Stands.steady (fun k => k = wr.heap.size)) 6 (v := ?_) rfl (by kernel_rfl) (by kernel_rfl) (by kernel_rfl) (fun _ _ _ h => h) (by rfl) (by intro W hSw; have hS0 := Stands.trans (show Stands (fun k => k = wr.heap.size) W0 _ from by repeat first | assumption | exact Stands.refl _ _ | refine Stands.alloc ?_ _ | refine Stands.drew ?_ | refine Stands.trans ?_ (by assumption)) hSw; go_simp; with_reducible rfl) ?_; try simp only [Act.put, List.setIfInBounds_toArray, List.set_cons_zero, List.set_cons_succ]
      refine wpAnyZ_take0 (Stands.steady (fun k => k = wr.heap.size)) 7 (v := ?_) rfl (by kernel_rfl) (by kernel_rfl) (by kernel_rfl) (fun _ _ _ h => h) (by rfl) (by intro W hSw; go_simp; with_reducible rfl) ?_; try simp only [Act.put, List.setIfInBounds_toArray, List.set_cons_zero, List.set_cons_succ]
      refine wpAnyZ_take0 (Stands.steady (fun k => k = wr.heap.size)) 8 (v := ?_) rfl (by kernel_rfl) (by kernel_rfl) (by kernel_rfl) (fun _ _ _ h => h) (by rfl) (by intro W hSw; have hS0 := Stands.trans (show Stands (fun k => k = wr.heap.size) W0 _ from by repeat first | assumption | exact Stands.refl _ _ | refine Stands.alloc ?_ _ | refine Stands.drew ?_ | refine Stands.trans ?_ (by assumption)) hSw; go_simp; with_reducible rfl) ?_; try simp only [Act.put, List.setIfInBounds_toArray, List.set_cons_zero, List.set_cons_succ]
      refine wpAnyZ_two 3 9 (by kernel_rfl) rfl rfl (fun K hK => ?_) (fun K hK => ?_)
      rotate_right 1
      focus
        go_simp
        refine hK.out _ _ (.inr (by repeat first | assumption | exact Stands.refl _ _ | refine Stands.alloc ?_ _ | refine Stands.drew ?_ | refine Stands.of_later ?_)) ?_
        clear hK K; try simp only [Act.put, List.setIfInBounds_toArray, List.set_cons_zero, List.set_cons_succ]
        refine wpAnyZ_one 3 (by kernel_rfl) rfl (fun K hK => ?_)
        go_simp
        refine hK.out _ _ (by repeat first | assumption | exact Stands.refl _ _ | refine Stands.alloc ?_ _ | refine Stands.drew ?_ | refine Stands.of_later ?_) ?_
        clear hK K; try simp only [Act.put, List.setIfInBounds_toArray, List.set_cons_zero, List.set_cons_succ]
        refine wpAnyZ_one 4 (by kernel_rfl) rfl (fun K hK => ?_)
        go_simp
        refine (nums_any (HTL.out _ (by repeat first | exact Later.refl _ | refine Later.al ?_ _ | refine Later.dr ?_)) (n := 1) (L := [x.1]) (by first | exact Rd.fresh1 (by simp) | exact (Rd.fresh1 (by simp)).alloc _) rfl (by omega) (by intro y hy; rw [List.mem_singleton] at hy; subst hy; have := (chk_ok HX.out).1.k1; omega) (by intro a ha; injection ha with ha; subst ha; have := HZ0.out; rintro (hf | hf); (have := HPL.out; simp at hf; omega); (have := HVL.out _ hf; simp at this; omega)) (by have := HSL.out; simp only; omega) (by have := HZ0.out; have := HH.out.size; simp; omega)).mono ?_; rintro e w2 ⟨rfl, hp2⟩; rw [HNX.out] at hp2; obtain ⟨v2, ht2, hh2, hd2⟩ := hp2; have HT2 := hide_ ht2; have HH2 := hide_ hh2; have HD2 := hide_ hd2; have hb : Stands (fun k => k = wr.heap.size) _ w2 := hh2.stands (by intro k hk hf hx; subst hx; rcases hf with hf | hf; (have := HPL.out; omega); (have := HVL.out _ hf; omega)); have HS2 := hide_ (wr_step HH.out HD.out (HL0.out.trans (by repeat first | exact Later.refl _ | refine Later.al ?_ _ | refine Later.dr ?_)) hh2 hd2); clear ht2 hh2 hd2
        refine hK.out _ _ (by repeat first | assumption | exact Stands.refl _ _ | refine Stands.alloc ?_ _ | refine Stands.drew ?_ | refine Stands.of_later ?_) ?_
        clear hK K; try simp only [Act.put, List.setIfInBounds_toArray, List.set_cons_zero, List.set_cons_succ]
        refine wpAnyZ_one 10 (by kernel_rfl) rfl (fun K hK => ?_)
        go_simp
        refine (texts_any (HT2.out.later (by repeat first | exact Later.refl _ | refine Later.al ?_ _ | refine Later.dr ?_)) (n := 2) (L := [x.2.1, x.2.2]) (by first | exact Rd.fresh2 (by simp) | exact HH2.out.rd (Rd.fresh2 (by simp)) (by intro a ha; injection ha with ha; subst ha; have hz := HZ0.out; have hp := HPL.out; rintro (hf | hf); (simp at hf; omega); (have := HVL.out _ hf; simp at this; omega)) | exact HH2.out.rd ((Rd.fresh2 (by simp)).alloc _) (by intro a ha; injection ha with ha; subst ha; have hz := HZ0.out; have hp := HPL.out; rintro (hf | hf); (simp at hf; omega); (have := HVL.out _ hf; simp at this; omega))) rfl (by omega) (by intro y hy; have h := (chk_ok HX.out).1; simp only [List.mem_cons, List.not_mem_nil, or_false] at hy; rcases hy with rfl | rfl; exact h.a; exact h.b) (by intro a ha; injection ha with ha; subst ha; have hz := HZ0.out; have hs2 := HH2.out.size; have hp := HPL.out; simp at hs2; rintro (hf | hf); (simp at hf; omega); (first | (have hh := (HT2.out.2.2.lt _ hf).2; simp at hh; done) | (rcases HD2.out with h | ⟨g, h, hg⟩; (rw [h] at hf; have := HVL.out _ hf; simp at this; omega); (rw [h] at hf; injection hf with hf; simp at hf hg; omega)))) (by have h1 := HSL.out; have h2 := putN_len9 (n := x.1.toNat) (by have := (chk_ok HX.out).1.k1; omega); rw [List.length_append]; omega) (by have h1 := HZ0.out; have h2 := HH.out.size; have h3 := HH2.out.size; simp at h3; simp; omega)).mono ?_; rintro e w3 ⟨rfl, hp3⟩; rw [HTX.out] at hp3; obtain ⟨v3, ht3, hh3, hd3⟩ := hp3; have HT3 := hide_ ht3; have hb3 : Stands (fun k => k = wr.heap.size) _ w3 := hh3.stands (by intro k hk hf hx; subst hx; have hz := HZ0.out; rcases hf with hf | hf; (have := HPL.out; omega); (rcases HD2.out with h | ⟨g, h, hg⟩; (rw [h] at hf; have := HVL.out _ hf; omega); (rw [h] at hf; injection hf with hf; simp at hg; omega))); have HS3 := hide_ (wr_step HS2.out.1 HS2.out.2 (by repeat first | exact Later.refl _ | refine Later.al ?_ _ | refine Later.dr ?_) hh3 hd3); clear ht3 hh3 hd3
        refine hK.out _ _ (by repeat first | assumption | exact Stands.refl _ _ | refine Stands.alloc ?_ _ | refine Stands.drew ?_ | refine Stands.of_later ?_) ?_
        clear hK K; try simp only [Act.put, List.setIfInBounds_toArray, List.set_cons_zero, List.set_cons_succ]
        refine wpAnyZ_done (by kernel_rfl) ?_ _
      rotate_right 1
      focus
        go_simp
        refine hK.out _ _ (.inr (by repeat first | assumption | exact Stands.refl _ _ | refine Stands.alloc ?_ _ | refine Stands.drew ?_ | refine Stands.of_later ?_)) ?_
        clear hK K; try simp only [Act.put, List.setIfInBounds_toArray, List.set_cons_zero, List.set_cons_succ]
        refine wpAnyZ_two 4 9 (by kernel_rfl) rfl rfl (fun K hK => ?_) (fun K hK => ?_)
        rotate_right 1
        focus
          go_simp
          refine hK.out _ _ (.inr (by repeat first | assumption | exact Stands.refl _ _ | refine Stands.alloc ?_ _ | refine Stands.drew ?_ | refine Stands.of_later ?_)) ?_
          clear hK K; try simp only [Act.put, List.setIfInBounds_toArray, List.set_cons_zero, List.set_cons_succ]
          refine wpAnyZ_one 4 (by kernel_rfl) rfl (fun K hK => ?_)
          go_simp
          refine (nums_any (HTL.out _ (by repeat first | exact Later.refl _ | refine Later.al ?_ _ | refine Later.dr ?_)) (n := 1) (L := [x.1]) (by first | exact Rd.fresh1 (by simp) | exact (Rd.fresh1 (by simp)).alloc _) rfl (by omega) (by intro y hy; rw [List.mem_singleton] at hy; subst hy; have := (chk_ok HX.out).1.k1; omega) (by intro a ha; injection ha with ha; subst ha; have := HZ0.out; rintro (hf | hf); (have := HPL.out; simp at hf; omega); (have := HVL.out _ hf; simp at this; omega)) (by have := HSL.out; simp only; omega) (by have := HZ0.out; have := HH.out.size; simp; omega)).mono ?_; rintro e w2 ⟨rfl, hp2⟩; rw [HNX.out] at hp2; obtain ⟨v2, ht2, hh2, hd2⟩ := hp2; have HT2 := hide_ ht2; have HH2 := hide_ hh2; have HD2 := hide_ hd2; have hb : Stands (fun k => k = wr.heap.size) _ w2 := hh2.stands (by intro k hk hf hx; subst hx; rcases hf with hf | hf; (have := HPL.out; omega); (have := HVL.out _ hf; omega)); have HS2 := hide_ (wr_step HH.out HD.out (HL0.out.trans (by repeat first | exact Later.refl _ | refine Later.al ?_ _ | refine Later.dr ?_)) hh2 hd2); clear ht2 hh2 hd2
          refine hK.out _ _ (by repeat first | assumption | exact Stands.refl _ _ | refine Stands.alloc ?_ _ | refine Stands.drew ?_ | refine Stands.of_later ?_) ?_
          clear hK K; try simp only [Act.put, List.setIfInBounds_toArray, List.set_cons_zero, List.set_cons_succ]
          refine wpAnyZ_one 10 (by kernel_rfl) rfl (fun K hK => ?_)
          go_simp
          refine (texts_any (HT2.out.later (by repeat first | exact Later.refl _ | refine Later.al ?_ _ | refine Later.dr ?_)) (n := 2) (L := [x.2.1, x.2.2]) (by first | exact Rd.fresh2 (by simp) | exact HH2.out.rd (Rd.fresh2 (by simp)) (by intro a ha; injection ha with ha; subst ha; have hz := HZ0.out; have hp := HPL.out; rintro (hf | hf); (simp at hf; omega); (have := HVL.out _ hf; simp at this; omega)) | exact HH2.out.rd ((Rd.fresh2 (by simp)).alloc _) (by intro a ha; injection ha with ha; subst ha; have hz := HZ0.out; have hp := HPL.out; rintro (hf | hf); (simp at hf; omega); (have := HVL.out _ hf; simp at this; omega))) rfl (by omega) (by intro y hy; have h := (chk_ok HX.out).1; simp only [List.mem_cons, List.not_mem_nil, or_false] at hy; rcases hy with rfl | rfl; exact h.a; exact h.b) (by intro a ha; injection ha with ha; subst ha; have hz := HZ0.out; have hs2 := HH2.out.size; have hp := HPL.out; simp at hs2; rintro (hf | hf); (simp at hf; omega); (first | (have hh := (HT2.out.2.2.lt _ hf).2; simp at hh; done) | (rcases HD2.out with h | ⟨g, h, hg⟩; (rw [h] at hf; have := HVL.out _ hf; simp at this; omega); (rw [h] at hf; injection hf with hf; simp at hf hg; omega)))) (by have h1 := HSL.out; have h2 := putN_len9 (n := x.1.toNat) (by have := (chk_ok HX.out).1.k1; omega); rw [List.length_append]; omega) (by have h1 := HZ0.out; have h2 := HH.out.size; have h3 := HH2.out.size; simp at h3; simp; omega)).mono ?_; rintro e w3 ⟨rfl, hp3⟩; rw [HTX.out] at hp3; obtain ⟨v3, ht3, hh3, hd3⟩ := hp3; have HT3 := hide_ ht3; have hb3 : Stands (fun k => k = wr.heap.size) _ w3 := hh3.stands (by intro k hk hf hx; subst hx; have hz := HZ0.out; rcases hf with hf | hf; (have := HPL.out; omega); (rcases HD2.out with h | ⟨g, h, hg⟩; (rw [h] at hf; have := HVL.out _ hf; omega); (rw [h] at hf; injection hf with hf; simp at hg; omega))); have HS3 := hide_ (wr_step HS2.out.1 HS2.out.2 (by repeat first | exact Later.refl _ | refine Later.al ?_ _ | refine Later.dr ?_) hh3 hd3); clear ht3 hh3 hd3
          refine hK.out _ _ (by repeat first | assumption | exact Stands.refl _ _ | refine Stands.alloc ?_ _ | refine Stands.drew ?_ | refine Stands.of_later ?_) ?_
          clear hK K; try simp only [Act.put, List.setIfInBounds_toArray, List.set_cons_zero, List.set_cons_succ]
          refine wpAnyZ_done (by kernel_rfl) ?_ _
        rotate_right 1
        focus
          go_simp
          refine (nums_any (HTL.out _ (by repeat first | exact Later.refl _ | refine Later.al ?_ _ | refine Later.dr ?_)) (n := 1) (L := [x.1]) (by first | exact Rd.fresh1 (by simp) | exact (Rd.fresh1 (by simp)).alloc _) rfl (by omega) (by intro y hy; rw [List.mem_singleton] at hy; subst hy; have := (chk_ok HX.out).1.k1; omega) (by intro a ha; injection ha with ha; subst ha; have := HZ0.out; rintro (hf | hf); (have := HPL.out; simp at hf; omega); (have := HVL.out _ hf; simp at this; omega)) (by have := HSL.out; simp only; omega) (by have := HZ0.out; have := HH.out.size; simp; omega)).mono ?_; rintro e w2 ⟨rfl, hp2⟩; rw [HNX.out] at hp2; obtain ⟨v2, ht2, hh2, hd2⟩ := hp2; have HT2 := hide_ ht2; have HH2 := hide_ hh2; have HD2 := hide_ hd2; have hb : Stands (fun k => k = wr.heap.size) _ w2 := hh2.stands (by intro k hk hf hx; subst hx; rcases hf with hf | hf; (have := HPL.out; omega); (have := HVL.out _ hf; omega)); have HS2 := hide_ (wr_step HH.out HD.out (HL0.out.trans (by repeat first | exact Later.refl _ | refine Later.al ?_ _ | refine Later.dr ?_)) hh2 hd2); clear ht2 hh2 hd2
          refine hK.out _ _ (.inr (by repeat first | assumption | exact Stands.refl _ _ | refine Stands.alloc ?_ _ | refine Stands.drew ?_ | refine Stands.of_later ?_)) ?_
          clear hK K; try simp only [Act.put, List.setIfInBounds_toArray, List.set_cons_zero, List.set_cons_succ]
          refine wpAnyZ_one 9 (by kernel_rfl) rfl (fun K hK => ?_)
          go_simp
          refine hK.out _ _ (by repeat first | assumption | exact Stands.refl _ _ | refine Stands.alloc ?_ _ | refine Stands.drew ?_ | refine Stands.of_later ?_) ?_
          clear hK K; try simp only [Act.put, List.setIfInBounds_toArray, List.set_cons_zero, List.set_cons_succ]
          refine wpAnyZ_one 10 (by kernel_rfl) rfl (fun K hK => ?_)
          go_simp
          refine (texts_any (HT2.out.later (by repeat first | exact Later.refl _ | refine Later.al ?_ _ | refine Later.dr ?_)) (n := 2) (L := [x.2.1, x.2.2]) (by first | exact Rd.fresh2 (by simp) | exact HH2.out.rd (Rd.fresh2 (by simp)) (by intro a ha; injection ha with ha; subst ha; have hz := HZ0.out; have hp := HPL.out; rintro (hf | hf); (simp at hf; omega); (have := HVL.out _ hf; simp at this; omega)) | exact HH2.out.rd ((Rd.fresh2 (by simp)).alloc _) (by intro a ha; injection ha with ha; subst ha; have hz := HZ0.out; have hp := HPL.out; rintro (hf | hf); (simp at hf; omega); (have := HVL.out _ hf; simp at this; omega))) rfl (by omega) (by intro y hy; have h := (chk_ok HX.out).1; simp only [List.mem_cons, List.not_mem_nil, or_false] at hy; rcases hy with rfl | rfl; exact h.a; exact h.b) (by intro a ha; injection ha with ha; subst ha; have hz := HZ0.out; have hs2 := HH2.out.size; have hp := HPL.out; simp at hs2; rintro (hf | hf); (simp at hf; omega); (first | (have hh := (HT2.out.2.2.lt _ hf).2; simp at hh; done) | (rcases HD2.out with h | ⟨g, h, hg⟩; (rw [h] at hf; have := HVL.out _ hf; simp at this; omega); (rw [h] at hf; injection hf with hf; simp at hf hg; omega)))) (by have h1 := HSL.out; have h2 := putN_len9 (n := x.1.toNat) (by have := (chk_ok HX.out).1.k1; omega); rw [List.length_append]; omega) (by have h1 := HZ0.out; have h2 := HH.out.size; have h3 := HH2.out.size; simp at h3; simp; omega)).mono ?_; rintro e w3 ⟨rfl, hp3⟩; rw [HTX.out] at hp3; obtain ⟨v3, ht3, hh3, hd3⟩ := hp3; have HT3 := hide_ ht3; have hb3 : Stands (fun k => k = wr.heap.size) _ w3 := hh3.stands (by intro k hk hf hx; subst hx; have hz := HZ0.out; rcases hf with hf | hf; (have := HPL.out; omega); (rcases HD2.out with h | ⟨g, h, hg⟩; (rw [h] at hf; have := HVL.out _ hf; omega); (rw [h] at hf; injection hf with hf; simp at hg; omega))); have HS3 := hide_ (wr_step HS2.out.1 HS2.out.2 (by repeat first | exact Later.refl _ | refine Later.al ?_ _ | refine Later.dr ?_) hh3 hd3); clear ht3 hh3 hd3
          refine hK.out _ _ (by repeat first | assumption | exact Stands.refl _ _ | refine Stands.alloc ?_ _ | refine Stands.drew ?_ | refine Stands.of_later ?_) ?_
          clear hK K; try simp only [Act.put, List.setIfInBounds_toArray, List.set_cons_zero, List.set_cons_succ]
          refine wpAnyZ_done (by kernel_rfl) ?_ _
      all_goals
        clear HS2
        go_wp2_with fail
        go_roundw
        case rel => exact ⟨k + 1, v3, by omega, by go_num, HT3, HS3.out.1, HS3.out.2⟩
        case measure => simp [intOf]; omega
    · have q1 : ¬ (k : Int) < (n : Int) := by omega
      have HE := hide_ (show L.take k = L by rw [List.take_of_length_le]; rw [HL.out]; omega)
      go_wp2_with fail
      go_returns
      exact ⟨rfl, v', by rw [HE.out] at HT; simpa using HT.out, HH.out, HD.out⟩

end Go.Proofs.YtcmollfhlillfaaGreatDoor
