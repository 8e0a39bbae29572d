/-
  Texts of this seat in one: FBatch, FPutB.
-/
import Derived.Test.YtcmollfhlillfaaGreatDoorM19
import Derived.Test.YtcmollfhlillfaaGreatDoorM14
import Derived.Test.YtcmollfhlillfaaGreatDoorM15
import Derived.Test.YtcmollfhlillfaaGreatDoorM11
/-
  frame: batch, changes, PutBatch.
-/
namespace Go.Proofs.YtcmollfhlillfaaGreatDoor
open Go.RowKit
set_option linter.unusedVariables false
set_option linter.unusedSimpArgs false
set_option maxHeartbeats 2000000 in
set_option maxRecDepth 100000 in
theorem batch_ok {w : World} {A : Option Addr} {n c prev ver known : Nat} {L : List Chg} (hr : Rd w 3 A n (crow L)) (hl : L.length = n) (hn : n ≤ 4096) (hok : chkAll L = 0) :
    Calls Tryz.prog 106 #[.agg #[.int .i64 prev, .int .i64 ver, .int .i64 known, .slice A n c]] w fun e w' => e = .returned (.bool true) ∧ Later w w' := by
  have hn2 : (n : Int) ≤ 4096 := by omega
  have HC := hide_ (fun W => all_any (w := W) (c := c) (A := A) (L := L) (n := n))
  have HR := hide_ hr; have HL := hide_ hl; have HO := hide_ hok
  have m1 : (0 : Int) ≤ min (min (prev : Int) (ver : Int)) (known : Int) := by omega
  clear hr hl hok
  go_enter Tryz.func106, Tryz.ntmps106
  go_wp2_with fail
  all_goals
    refine (HC.out _ (HR.out.alloc _) HL.out (by omega)).mono ?_; rintro e w1 ⟨rfl, hl1⟩
    rw [HO.out]
    have HB := hide_ (show Later w w1 from (later_alloc w _).trans hl1)
    clear hl1
    go_wp2_with fail
    go_ret
    exact ⟨rfl, HB.out⟩
theorem wr_step {w wr wc w2 : World} {p : Nat} {v v' v2 : Value} (hh0 : Hits (wFp p v) w wr) (hd0 : NS w v v') (hl : Later wr wc) (hh : Hits (wFp p v') wc w2) (hd : NS wc v' v2) : Hits (wFp p v) w w2 ∧ NS w v v2 :=
  ⟨(hh0.thenLater hl).trans hh (fun i hi hG => by
    rcases hG with h | h
    · exact .inl h
    · rcases hd0 with h0 | ⟨g, h0, hg⟩
      · exact .inr (h0 ▸ h)
      · rw [h0] at h; injection h with h; omega), hd0.trans hd (Nat.le_trans hh0.size hl.size)⟩
theorem Rd.fresh1 {w : World} {b : Nat} {u : Value} {t : TypeId} {fz : Nat × Nat} (hb : b = w.heap.size) : Rd (w.alloc (.cells #[u] t fz)) 1 (some ⟨b, 0, none⟩) 1 [u] := Rd.newAt _ #[u] t 1 1 _ fz rfl hb
theorem Rd.fresh2 {w : World} {b : Nat} {u u2 : Value} {t : TypeId} {fz : Nat × Nat} (hb : b = w.heap.size) : Rd (w.alloc (.cells #[u, u2] t fz)) 1 (some ⟨b, 0, none⟩) 2 [u, u2] := Rd.newAt _ #[u, u2] t 2 1 _ fz rfl hb
theorem flat_take {L : List Chg} {k : Nat} {x : Chg} (h : L[k]? = some x) : (L.take (k + 1)).flatMap encCh = (L.take k).flatMap encCh ++ encCh x := by
  rw [List.take_add_one, h, List.flatMap_append]; simp
set_option maxHeartbeats 4000000 in
set_option maxRecDepth 100000 in
theorem changes_any {w : World} {B p : Nat} {v : Value} {s : WS} (h : WrAt w B p v s) {A : Option Addr} {n c : Nat} {L : List Chg} (hr : Rd w 3 A n (crow L)) (hl : L.length = n) (hn : n ≤ 4096) (hok : ∀ c ∈ L, chk c.1 c.2.1 c.2.2 = 0) (hA : ∀ a, A = some a → ¬ wFp p v a.block)
    (hlen : s.1.length ≤ 1000000) (hB : B ≤ w.heap.size) :
    Calls Tryz.prog 104 #[.pointer (some ⟨p, 0, none⟩), .slice A n c] w fun e w' => e = .returned (.tuple #[]) ∧ WrPost B p v (s.1 ++ putN n ++ L.flatMap encCh, s.2) w w' := by
  have HW := hide_ h; have HR := hide_ hr; have HL := hide_ hl; have HO := hide_ hok; have HA := hide_ hA; have HLEN := hide_ hlen
  have hn2 : (n : Int) ≤ 4096 := by omega
  have HN0 := hide_ (show wNums [(n : Int)] s = (s.1 ++ putN n, s.2) by unfold wNums; rw [if_neg (by omega)]; rfl)
  have HNL := hide_ (putN_len3 (n := n) (by omega))
  clear h hr hl hok hA hlen
  go_enter Tryz.func104, Tryz.ntmps104
  go_wp2_with fail
  refine (nums_any (HW.out.later (later_alloc w _)) (A := some ⟨w.heap.size, 0, none⟩) (n := 1) (L := [(n : Int)]) (Rd.newAt _ #[.int .i64 (n : Int)] 3 1 1 _ (0, 0) rfl rfl) rfl (by omega) (by intro x hx; rw [List.mem_singleton] at hx; omega) (by
    intro a ha; injection ha with ha; subst ha; intro hf
    rcases hf with hf | hf
    · have := HW.out.lt; simp at hf; omega
    · have := (HW.out.2.2.lt _ hf).2; simp at this) (by have := HLEN.out; omega) (by simp; omega)).mono ?_; rintro e w1 ⟨rfl, hp1⟩
  rw [HN0.out] at hp1
  obtain ⟨v1, ht1, hh1, hd1⟩ := hp1
  have HT1 := hide_ ht1
  have HH1 := hide_ (show Hits (wFp p v) w w1 from (Hits.later (later_alloc w _)).trans hh1 (fun _ _ h => h))
  have HD1 := hide_ (show NS w v v1 from by
    rcases hd1 with h | ⟨g, h, h2⟩
    · exact .inl h
    · exact .inr ⟨g, h, by simp at h2; omega⟩)
  clear ht1 hh1 hd1
  go_wp2_with fail
  go_loopw [13] (fun s9 wr => ∃ (k : Nat) (v' : Value), k ≤ n ∧ s9 = .int .i64 k ∧ Hid (WrAt wr B p v' (s.1 ++ putN n ++ (L.take k).flatMap encCh, s.2)) ∧ Hid (Hits (wFp p v) w wr) ∧ Hid (NS w v v')) (fun i _ => n - (intOf i).toNat)
  case atStart => exact ⟨0, v1, Nat.zero_le _, rfl, by simpa using HT1, HH1, HD1⟩
  case round =>
    obtain ⟨k, v', hkn, rfl, HT, HH, HD⟩ := hrel
    by_cases hlt : k < n
    · obtain ⟨x, hx⟩ : ∃ x, L[k]? = some x := ⟨_, List.getElem?_eq_getElem (by rw [HL.out]; exact hlt)⟩
      have HR2 := hide_ (HH.out.rd HR.out HA.out)
      obtain ⟨b, o, rfl, l0, l1, l2⟩ := HR2.out.chg hx
      have HX := hide_ (HO.out x (List.mem_of_getElem? hx))
      have HFT := hide_ (flat_take hx)
      have q1 : (k : Int) < (n : Int) := by omega
      have q2 : (0 : Int) ≤ (k : Int) := by omega
      have q3 : (k : Int) ≤ 4096 := by omega
      have HNX := hide_ (show wNums [x.1] (s.1 ++ putN n ++ (L.take k).flatMap encCh, s.2) = (s.1 ++ putN n ++ (L.take k).flatMap encCh ++ putN x.1.toNat, s.2) by
        unfold wNums; rw [if_neg (by have := (chk_ok HX.out).1.k0; omega)]; rfl)
      have HTX := hide_ (show wTexts [x.2.1, x.2.2] (s.1 ++ putN n ++ (L.take k).flatMap encCh ++ putN x.1.toNat, s.2) = (s.1 ++ putN n ++ (L.take (k + 1)).flatMap encCh, s.2) by
        have h := (chk_ok HX.out).1
        unfold wTexts; rw [if_neg (by have := h.a; omega)]; unfold wTexts; rw [if_neg (by have := h.b; omega)]; unfold wTexts
        rw [HFT.out]; unfold encCh; simp [List.append_assoc])
      have HPL := hide_ HT.out.lt
      have HVL := hide_ (show ∀ g, v'.ownBlock = some g → g < wr.heap.size from fun g hg => (HT.out.2.2.lt g hg).2)
      have HSL := hide_ (show (s.1 ++ putN n ++ (L.take k).flatMap encCh).length ≤ 1400000 by
        have h1 := HLEN.out; have h2 := HNL.out
        have h3 := flat_len (L := L.take k) (fun c hc => HO.out c (List.mem_of_mem_take hc))
        rw [List.length_append, List.length_append]; rw [List.length_take] at h3; omega)
      clear hx
      go_wp2_with fail
      obtain ⟨W0, hW0⟩ : ∃ W0, W0 = wr.alloc (Obj.cells #[Value.int IntKind.i64 x.fst, Value.string x.snd.fst, Value.string x.snd.snd] 142) := ⟨_, rfl⟩
      rw [← hW0]
      have HL0 := hide_ (show Later wr W0 by rw [hW0]; exact later_alloc _ _)
      have HZ0 := hide_ (show W0.heap.size = wr.heap.size + 1 by rw [hW0]; simp)
      have hrow := heap_alloc_new wr (Obj.cells #[Value.int IntKind.i64 x.fst, Value.string x.snd.fst, Value.string x.snd.snd] 142)
      rw [← hW0] at hrow
      have e0 := Stands.cell (X := (fun k => k = wr.heap.size)) (cell_of_row _ _ 0 _ _ (0, 0) hrow) rfl
      have e1 := Stands.cell (X := (fun k => k = wr.heap.size)) (cell_of_row _ _ 1 _ _ (0, 0) hrow) rfl
      have e2 := Stands.cell (X := (fun k => k = wr.heap.size)) (cell_of_row _ _ 2 _ _ (0, 0) hrow) rfl
      have HTL := hide_ (fun (W : World) (hl : Later W0 W) => HT.out.later (HL0.out.trans hl))
      clear hW0 hrow
      refine wp_region_z (R := Stands (fun k => k = wr.heap.size)) [] (by kernel_rfl) ?_
      refine wpAnyZ_take0 (Stands.steady (fun k => k = wr.heap.size)) 0 (v := ?_) rfl (by kernel_rfl) (by kernel_rfl) (by kernel_rfl) (fun _ _ _ h => h) (by rfl) (by intro W hSw; go_simp; with_reducible rfl) ?_; try simp only [Act.put, qA, qZ, qS]
      refine wpAnyZ_take0 (Stands.steady (fun k => k = wr.heap.size)) 1 (v := ?_) rfl (by kernel_rfl) (by kernel_rfl) (by kernel_rfl) (fun _ _ _ h => h) (by rfl) (by intro W hSw; go_simp; with_reducible rfl) ?_; try simp only [Act.put, qA, qZ, qS]
      refine wpAnyZ_take0 (Stands.steady (fun k => k = wr.heap.size)) 2 (v := ?_) rfl (by kernel_rfl) (by kernel_rfl) (by kernel_rfl) (fun _ _ _ h => h) (by rfl) (by intro W hSw; have hS0 := Stands.trans (show Stands (fun k => k = wr.heap.size) W0 _ from by repeat first | assumption | exact Stands.refl _ _ | refine Stands.alloc ?_ _ | refine Stands.drew ?_ | refine Stands.trans ?_ (by assumption)) hSw; go_simp; with_reducible rfl) ?_; try simp only [Act.put, qA, qZ, qS]
      refine wpAnyZ_take0 (Stands.steady (fun k => k = wr.heap.size)) 5 (v := ?_) rfl (by kernel_rfl) (by kernel_rfl) (by kernel_rfl) (fun _ _ _ h => h) (by rfl) (by intro W hSw; go_simp; with_reducible rfl) ?_; try simp only [Act.put, qA, qZ, qS]
      refine wpAnyZ_take0 (Stands.steady (fun k => k = wr.heap.size)) 6 (v := ?_) rfl (by kernel_rfl) (by kernel_rfl) (by kernel_rfl) (fun _ _ _ h => h) (by rfl) (by intro W hSw; have hS0 := Stands.trans (show Stands (fun k => k = wr.heap.size) W0 _ from by repeat first | assumption | exact Stands.refl _ _ | refine Stands.alloc ?_ _ | refine Stands.drew ?_ | refine Stands.trans ?_ (by assumption)) hSw; go_simp; with_reducible rfl) ?_; try simp only [Act.put, qA, qZ, qS]
      refine wpAnyZ_take0 (Stands.steady (fun k => k = wr.heap.size)) 7 (v := ?_) rfl (by kernel_rfl) (by kernel_rfl) (by kernel_rfl) (fun _ _ _ h => h) (by rfl) (by intro W hSw; go_simp; with_reducible rfl) ?_; try simp only [Act.put, qA, qZ, qS]
      refine wpAnyZ_take0 (Stands.steady (fun k => k = wr.heap.size)) 8 (v := ?_) rfl (by kernel_rfl) (by kernel_rfl) (by kernel_rfl) (fun _ _ _ h => h) (by rfl) (by intro W hSw; have hS0 := Stands.trans (show Stands (fun k => k = wr.heap.size) W0 _ from by repeat first | assumption | exact Stands.refl _ _ | refine Stands.alloc ?_ _ | refine Stands.drew ?_ | refine Stands.trans ?_ (by assumption)) hSw; go_simp; with_reducible rfl) ?_; try simp only [Act.put, qA, qZ, qS]
      refine wpAnyZ_two 3 9 (by kernel_rfl) rfl rfl (fun K hK => ?_) (fun K hK => ?_)
      rotate_right 1
      focus
        go_simp
        refine hK.out _ _ (.inr (by repeat first | assumption | exact Stands.refl _ _ | refine Stands.alloc ?_ _ | refine Stands.drew ?_ | refine Stands.of_later ?_)) ?_
        clear hK K; try simp only [Act.put, qA, qZ, qS]
        refine wpAnyZ_one 3 (by kernel_rfl) rfl (fun K hK => ?_)
        go_simp
        refine hK.out _ _ (by repeat first | assumption | exact Stands.refl _ _ | refine Stands.alloc ?_ _ | refine Stands.drew ?_ | refine Stands.of_later ?_) ?_
        clear hK K; try simp only [Act.put, qA, qZ, qS]
        refine wpAnyZ_one 4 (by kernel_rfl) rfl (fun K hK => ?_)
        go_simp
        refine (nums_any (HTL.out _ (by repeat first | exact Later.refl _ | refine Later.al ?_ _ | refine Later.dr ?_)) (n := 1) (L := [x.1]) (by first | exact Rd.fresh1 (by simp) | exact (Rd.fresh1 (by simp)).alloc _) rfl (by omega) (by intro y hy; rw [List.mem_singleton] at hy; subst hy; have := (chk_ok HX.out).1.k1; omega) (by intro a ha; injection ha with ha; subst ha; have := HZ0.out; rintro (hf | hf); (have := HPL.out; simp at hf; omega); (have := HVL.out _ hf; simp at this; omega)) (by have := HSL.out; simp only; omega) (by have := HZ0.out; have := HH.out.size; simp; omega)).mono ?_; rintro e w2 ⟨rfl, hp2⟩; rw [HNX.out] at hp2; obtain ⟨v2, ht2, hh2, hd2⟩ := hp2; have HT2 := hide_ ht2; have HH2 := hide_ hh2; have HD2 := hide_ hd2; have hb : Stands (fun k => k = wr.heap.size) _ w2 := hh2.stands (by intro k hk hf hx; subst hx; rcases hf with hf | hf; (have := HPL.out; omega); (have := HVL.out _ hf; omega)); have HS2 := hide_ (wr_step HH.out HD.out (HL0.out.trans (by repeat first | exact Later.refl _ | refine Later.al ?_ _ | refine Later.dr ?_)) hh2 hd2); clear ht2 hh2 hd2
        refine hK.out _ _ (by repeat first | assumption | exact Stands.refl _ _ | refine Stands.alloc ?_ _ | refine Stands.drew ?_ | refine Stands.of_later ?_) ?_
        clear hK K; try simp only [Act.put, qA, qZ, qS]
        refine wpAnyZ_one 10 (by kernel_rfl) rfl (fun K hK => ?_)
        go_simp
        refine (texts_any (HT2.out.later (by repeat first | exact Later.refl _ | refine Later.al ?_ _ | refine Later.dr ?_)) (n := 2) (L := [x.2.1, x.2.2]) (by first | exact Rd.fresh2 (by simp) | exact HH2.out.rd (Rd.fresh2 (by simp)) (by intro a ha; injection ha with ha; subst ha; have hz := HZ0.out; have hp := HPL.out; rintro (hf | hf); (simp at hf; omega); (have := HVL.out _ hf; simp at this; omega)) | exact HH2.out.rd ((Rd.fresh2 (by simp)).alloc _) (by intro a ha; injection ha with ha; subst ha; have hz := HZ0.out; have hp := HPL.out; rintro (hf | hf); (simp at hf; omega); (have := HVL.out _ hf; simp at this; omega))) rfl (by omega) (by intro y hy; have h := (chk_ok HX.out).1; simp only [List.mem_cons, List.not_mem_nil, or_false] at hy; rcases hy with rfl | rfl; exact h.a; exact h.b) (by intro a ha; injection ha with ha; subst ha; have hz := HZ0.out; have hs2 := HH2.out.size; have hp := HPL.out; simp at hs2; rintro (hf | hf); (simp at hf; omega); (first | (have hh := (HT2.out.2.2.lt _ hf).2; simp at hh; done) | (rcases HD2.out with h | ⟨g, h, hg⟩; (rw [h] at hf; have := HVL.out _ hf; simp at this; omega); (rw [h] at hf; injection hf with hf; simp at hf hg; omega)))) (by have h1 := HSL.out; have h2 := putN_len9 (n := x.1.toNat) (by have := (chk_ok HX.out).1.k1; omega); rw [List.length_append]; omega) (by have h1 := HZ0.out; have h2 := HH.out.size; have h3 := HH2.out.size; simp at h3; simp; omega)).mono ?_; rintro e w3 ⟨rfl, hp3⟩; rw [HTX.out] at hp3; obtain ⟨v3, ht3, hh3, hd3⟩ := hp3; have HT3 := hide_ ht3; have hb3 : Stands (fun k => k = wr.heap.size) _ w3 := hh3.stands (by intro k hk hf hx; subst hx; have hz := HZ0.out; rcases hf with hf | hf; (have := HPL.out; omega); (rcases HD2.out with h | ⟨g, h, hg⟩; (rw [h] at hf; have := HVL.out _ hf; omega); (rw [h] at hf; injection hf with hf; simp at hg; omega))); have HS3 := hide_ (wr_step HS2.out.1 HS2.out.2 (by repeat first | exact Later.refl _ | refine Later.al ?_ _ | refine Later.dr ?_) hh3 hd3); clear ht3 hh3 hd3
        refine hK.out _ _ (by repeat first | assumption | exact Stands.refl _ _ | refine Stands.alloc ?_ _ | refine Stands.drew ?_ | refine Stands.of_later ?_) ?_
        clear hK K; try simp only [Act.put, qA, qZ, qS]
        refine wpAnyZ_done (by kernel_rfl) ?_ _
      rotate_right 1
      focus
        go_simp
        refine hK.out _ _ (.inr (by repeat first | assumption | exact Stands.refl _ _ | refine Stands.alloc ?_ _ | refine Stands.drew ?_ | refine Stands.of_later ?_)) ?_
        clear hK K; try simp only [Act.put, qA, qZ, qS]
        refine wpAnyZ_two 4 9 (by kernel_rfl) rfl rfl (fun K hK => ?_) (fun K hK => ?_)
        rotate_right 1
        focus
          go_simp
          refine hK.out _ _ (.inr (by repeat first | assumption | exact Stands.refl _ _ | refine Stands.alloc ?_ _ | refine Stands.drew ?_ | refine Stands.of_later ?_)) ?_
          clear hK K; try simp only [Act.put, qA, qZ, qS]
          refine wpAnyZ_one 4 (by kernel_rfl) rfl (fun K hK => ?_)
          go_simp
          refine (nums_any (HTL.out _ (by repeat first | exact Later.refl _ | refine Later.al ?_ _ | refine Later.dr ?_)) (n := 1) (L := [x.1]) (by first | exact Rd.fresh1 (by simp) | exact (Rd.fresh1 (by simp)).alloc _) rfl (by omega) (by intro y hy; rw [List.mem_singleton] at hy; subst hy; have := (chk_ok HX.out).1.k1; omega) (by intro a ha; injection ha with ha; subst ha; have := HZ0.out; rintro (hf | hf); (have := HPL.out; simp at hf; omega); (have := HVL.out _ hf; simp at this; omega)) (by have := HSL.out; simp only; omega) (by have := HZ0.out; have := HH.out.size; simp; omega)).mono ?_; rintro e w2 ⟨rfl, hp2⟩; rw [HNX.out] at hp2; obtain ⟨v2, ht2, hh2, hd2⟩ := hp2; have HT2 := hide_ ht2; have HH2 := hide_ hh2; have HD2 := hide_ hd2; have hb : Stands (fun k => k = wr.heap.size) _ w2 := hh2.stands (by intro k hk hf hx; subst hx; rcases hf with hf | hf; (have := HPL.out; omega); (have := HVL.out _ hf; omega)); have HS2 := hide_ (wr_step HH.out HD.out (HL0.out.trans (by repeat first | exact Later.refl _ | refine Later.al ?_ _ | refine Later.dr ?_)) hh2 hd2); clear ht2 hh2 hd2
          refine hK.out _ _ (by repeat first | assumption | exact Stands.refl _ _ | refine Stands.alloc ?_ _ | refine Stands.drew ?_ | refine Stands.of_later ?_) ?_
          clear hK K; try simp only [Act.put, qA, qZ, qS]
          refine wpAnyZ_one 10 (by kernel_rfl) rfl (fun K hK => ?_)
          go_simp
          refine (texts_any (HT2.out.later (by repeat first | exact Later.refl _ | refine Later.al ?_ _ | refine Later.dr ?_)) (n := 2) (L := [x.2.1, x.2.2]) (by first | exact Rd.fresh2 (by simp) | exact HH2.out.rd (Rd.fresh2 (by simp)) (by intro a ha; injection ha with ha; subst ha; have hz := HZ0.out; have hp := HPL.out; rintro (hf | hf); (simp at hf; omega); (have := HVL.out _ hf; simp at this; omega)) | exact HH2.out.rd ((Rd.fresh2 (by simp)).alloc _) (by intro a ha; injection ha with ha; subst ha; have hz := HZ0.out; have hp := HPL.out; rintro (hf | hf); (simp at hf; omega); (have := HVL.out _ hf; simp at this; omega))) rfl (by omega) (by intro y hy; have h := (chk_ok HX.out).1; simp only [List.mem_cons, List.not_mem_nil, or_false] at hy; rcases hy with rfl | rfl; exact h.a; exact h.b) (by intro a ha; injection ha with ha; subst ha; have hz := HZ0.out; have hs2 := HH2.out.size; have hp := HPL.out; simp at hs2; rintro (hf | hf); (simp at hf; omega); (first | (have hh := (HT2.out.2.2.lt _ hf).2; simp at hh; done) | (rcases HD2.out with h | ⟨g, h, hg⟩; (rw [h] at hf; have := HVL.out _ hf; simp at this; omega); (rw [h] at hf; injection hf with hf; simp at hf hg; omega)))) (by have h1 := HSL.out; have h2 := putN_len9 (n := x.1.toNat) (by have := (chk_ok HX.out).1.k1; omega); rw [List.length_append]; omega) (by have h1 := HZ0.out; have h2 := HH.out.size; have h3 := HH2.out.size; simp at h3; simp; omega)).mono ?_; rintro e w3 ⟨rfl, hp3⟩; rw [HTX.out] at hp3; obtain ⟨v3, ht3, hh3, hd3⟩ := hp3; have HT3 := hide_ ht3; have hb3 : Stands (fun k => k = wr.heap.size) _ w3 := hh3.stands (by intro k hk hf hx; subst hx; have hz := HZ0.out; rcases hf with hf | hf; (have := HPL.out; omega); (rcases HD2.out with h | ⟨g, h, hg⟩; (rw [h] at hf; have := HVL.out _ hf; omega); (rw [h] at hf; injection hf with hf; simp at hg; omega))); have HS3 := hide_ (wr_step HS2.out.1 HS2.out.2 (by repeat first | exact Later.refl _ | refine Later.al ?_ _ | refine Later.dr ?_) hh3 hd3); clear ht3 hh3 hd3
          refine hK.out _ _ (by repeat first | assumption | exact Stands.refl _ _ | refine Stands.alloc ?_ _ | refine Stands.drew ?_ | refine Stands.of_later ?_) ?_
          clear hK K; try simp only [Act.put, qA, qZ, qS]
          refine wpAnyZ_done (by kernel_rfl) ?_ _
        rotate_right 1
        focus
          go_simp
          refine (nums_any (HTL.out _ (by repeat first | exact Later.refl _ | refine Later.al ?_ _ | refine Later.dr ?_)) (n := 1) (L := [x.1]) (by first | exact Rd.fresh1 (by simp) | exact (Rd.fresh1 (by simp)).alloc _) rfl (by omega) (by intro y hy; rw [List.mem_singleton] at hy; subst hy; have := (chk_ok HX.out).1.k1; omega) (by intro a ha; injection ha with ha; subst ha; have := HZ0.out; rintro (hf | hf); (have := HPL.out; simp at hf; omega); (have := HVL.out _ hf; simp at this; omega)) (by have := HSL.out; simp only; omega) (by have := HZ0.out; have := HH.out.size; simp; omega)).mono ?_; rintro e w2 ⟨rfl, hp2⟩; rw [HNX.out] at hp2; obtain ⟨v2, ht2, hh2, hd2⟩ := hp2; have HT2 := hide_ ht2; have HH2 := hide_ hh2; have HD2 := hide_ hd2; have hb : Stands (fun k => k = wr.heap.size) _ w2 := hh2.stands (by intro k hk hf hx; subst hx; rcases hf with hf | hf; (have := HPL.out; omega); (have := HVL.out _ hf; omega)); have HS2 := hide_ (wr_step HH.out HD.out (HL0.out.trans (by repeat first | exact Later.refl _ | refine Later.al ?_ _ | refine Later.dr ?_)) hh2 hd2); clear ht2 hh2 hd2
          refine hK.out _ _ (.inr (by repeat first | assumption | exact Stands.refl _ _ | refine Stands.alloc ?_ _ | refine Stands.drew ?_ | refine Stands.of_later ?_)) ?_
          clear hK K; try simp only [Act.put, qA, qZ, qS]
          refine wpAnyZ_one 9 (by kernel_rfl) rfl (fun K hK => ?_)
          go_simp
          refine hK.out _ _ (by repeat first | assumption | exact Stands.refl _ _ | refine Stands.alloc ?_ _ | refine Stands.drew ?_ | refine Stands.of_later ?_) ?_
          clear hK K; try simp only [Act.put, qA, qZ, qS]
          refine wpAnyZ_one 10 (by kernel_rfl) rfl (fun K hK => ?_)
          go_simp
          refine (texts_any (HT2.out.later (by repeat first | exact Later.refl _ | refine Later.al ?_ _ | refine Later.dr ?_)) (n := 2) (L := [x.2.1, x.2.2]) (by first | exact Rd.fresh2 (by simp) | exact HH2.out.rd (Rd.fresh2 (by simp)) (by intro a ha; injection ha with ha; subst ha; have hz := HZ0.out; have hp := HPL.out; rintro (hf | hf); (simp at hf; omega); (have := HVL.out _ hf; simp at this; omega)) | exact HH2.out.rd ((Rd.fresh2 (by simp)).alloc _) (by intro a ha; injection ha with ha; subst ha; have hz := HZ0.out; have hp := HPL.out; rintro (hf | hf); (simp at hf; omega); (have := HVL.out _ hf; simp at this; omega))) rfl (by omega) (by intro y hy; have h := (chk_ok HX.out).1; simp only [List.mem_cons, List.not_mem_nil, or_false] at hy; rcases hy with rfl | rfl; exact h.a; exact h.b) (by intro a ha; injection ha with ha; subst ha; have hz := HZ0.out; have hs2 := HH2.out.size; have hp := HPL.out; simp at hs2; rintro (hf | hf); (simp at hf; omega); (first | (have hh := (HT2.out.2.2.lt _ hf).2; simp at hh; done) | (rcases HD2.out with h | ⟨g, h, hg⟩; (rw [h] at hf; have := HVL.out _ hf; simp at this; omega); (rw [h] at hf; injection hf with hf; simp at hf hg; omega)))) (by have h1 := HSL.out; have h2 := putN_len9 (n := x.1.toNat) (by have := (chk_ok HX.out).1.k1; omega); rw [List.length_append]; omega) (by have h1 := HZ0.out; have h2 := HH.out.size; have h3 := HH2.out.size; simp at h3; simp; omega)).mono ?_; rintro e w3 ⟨rfl, hp3⟩; rw [HTX.out] at hp3; obtain ⟨v3, ht3, hh3, hd3⟩ := hp3; have HT3 := hide_ ht3; have hb3 : Stands (fun k => k = wr.heap.size) _ w3 := hh3.stands (by intro k hk hf hx; subst hx; have hz := HZ0.out; rcases hf with hf | hf; (have := HPL.out; omega); (rcases HD2.out with h | ⟨g, h, hg⟩; (rw [h] at hf; have := HVL.out _ hf; omega); (rw [h] at hf; injection hf with hf; simp at hg; omega))); have HS3 := hide_ (wr_step HS2.out.1 HS2.out.2 (by repeat first | exact Later.refl _ | refine Later.al ?_ _ | refine Later.dr ?_) hh3 hd3); clear ht3 hh3 hd3
          refine hK.out _ _ (by repeat first | assumption | exact Stands.refl _ _ | refine Stands.alloc ?_ _ | refine Stands.drew ?_ | refine Stands.of_later ?_) ?_
          clear hK K; try simp only [Act.put, qA, qZ, qS]
          refine wpAnyZ_done (by kernel_rfl) ?_ _
      all_goals
        clear HS2
        go_wp2_with fail
        go_roundw
        case rel => exact ⟨k + 1, v3, by omega, by go_num, HT3, HS3.out.1, HS3.out.2⟩
        case measure => simp [intOf]; omega
    · have q1 : ¬ (k : Int) < (n : Int) := by omega
      have HE := hide_ (show L.take k = L by rw [List.take_of_length_le]; rw [HL.out]; omega)
      go_wp2_with fail
      go_returns
      exact ⟨rfl, v', by rw [HE.out] at HT; simpa using HT.out, HH.out, HD.out⟩

end Go.Proofs.YtcmollfhlillfaaGreatDoor
/-
  frame.PutBatch.
-/
namespace Go.Proofs.YtcmollfhlillfaaGreatDoor
open Go.RowKit
set_option linter.unusedVariables false
set_option linter.unusedSimpArgs false
theorem WrAt.fresh (w : World) {B : Nat} (hB : B ≤ w.heap.size) : WrAt (w.alloc (.cells #[.slice none 0 0, .int .i64 0] 132)) B w.heap.size (.slice none 0 0) ([], 0) :=
  ⟨hB, heap_alloc_new w _, World.ownsRow_nil _ _ _ _⟩
theorem wNums3 (a b c : Nat) (s : WS) : wNums [(a : Int), (b : Int), (c : Int)] s = (s.1 ++ putN a ++ putN b ++ putN c, s.2) := by
  unfold wNums; rw [if_neg (by omega)]; unfold wNums; rw [if_neg (by omega)]; unfold wNums; rw [if_neg (by omega)]; unfold wNums
  simp
theorem Rd.fresh3 {w : World} {b : Nat} {u u2 u3 : Value} {t : TypeId} {fz : Nat × Nat} (hb : b = w.heap.size) : Rd (w.alloc (.cells #[u, u2, u3] t fz)) 1 (some ⟨b, 0, none⟩) 3 [u, u2, u3] := Rd.newAt _ #[u, u2, u3] t 3 1 _ fz rfl hb
set_option maxHeartbeats 4000000 in
set_option maxRecDepth 100000 in
theorem putBatch_any {w : World} {A : Option Addr} {n c prev ver known : Nat} {L : List Chg} (hr : Rd w 3 A n (crow L)) (hl : L.length = n) (hab : ∀ a, A = some a → a.block < w.heap.size) (hok : BP.Ok ⟨prev, ver, known, L⟩) :
    Calls Tryz.prog 71 #[.agg #[.int .i64 prev, .int .i64 ver, .int .i64 known, .slice A n c]] w fun e w' => ∃ v, e = .returned (.tuple #[v, .int .i64 0]) ∧ w'.ownsRow w.heap.size 5 1 v (encB ⟨prev, ver, known, L⟩).length (bvs (encB ⟨prev, ver, known, L⟩)) ∧ Later w w' := by
  have HR := hide_ hr; have HL := hide_ hl; have HO := hide_ hok; have HAB := hide_ hab
  have hn : n ≤ 4096 := by have := hok.len; rw [← hl]; exact this
  obtain ⟨W0, hW0⟩ : ∃ W0, W0 = w.alloc (Obj.cells #[Value.int IntKind.i64 prev, Value.int IntKind.i64 ver, Value.int IntKind.i64 known, Value.slice A n c] 91) := ⟨_, rfl⟩
  have HW := hide_ hW0.symm
  have hrow := heap_alloc_new w (Obj.cells #[Value.int IntKind.i64 prev, Value.int IntKind.i64 ver, Value.int IntKind.i64 known, Value.slice A n c] 91)
  have HL0 := hide_ (show Later w W0 by rw [hW0]; exact later_alloc _ _)
  rw [← hW0] at hrow
  have HROW := hide_ hrow
  have d0 := cell_of_row _ _ 0 _ _ (0, 0) hrow
  have d1 := cell_of_row _ _ 1 _ _ (0, 0) hrow
  have d2 := cell_of_row _ _ 2 _ _ (0, 0) hrow
  have d3 := cell_of_row _ _ 3 _ _ (0, 0) hrow
  have HBK := hide_ (batch_ok (c := c) (prev := prev) (ver := ver) (known := known) (HR.out.below HL0.out) hl hn hok.chg)
  clear hr hl hok hab hW0 hrow
  go_enter Tryz.func71, Tryz.ntmps71
  go_wp2_with (rw [HW.out])
  refine HBK.out.mono ?_; rintro e w1 ⟨rfl, hl1⟩
  have HL1 := hide_ (HL0.out.trans hl1)
  have HROW1 := hide_ (later_row hl1 HROW.out)
  clear hl1 d0 d1 d2 d3
  have HWR := hide_ (WrAt.fresh w1 (B := w.heap.size) HL1.out.size)
  go_wp2_with fail
  obtain ⟨W2, hW2⟩ : ∃ W2, W2 = w1.alloc (Obj.cells #[Value.slice none 0 0, Value.int IntKind.i64 0] 132) := ⟨_, rfl⟩
  rw [← hW2] at HWR ⊢
  have HL2 := hide_ (show Later w1 W2 by rw [hW2]; exact later_alloc _ _)
  have HROW2 := hide_ (later_row HL2.out HROW1.out)
  have HZ2 := hide_ (show W2.heap.size = w1.heap.size + 1 by rw [hW2]; simp)
  have HWLT := hide_ (show w.heap.size < w1.heap.size from theap_lt HROW1.out)
  have e0 := Stands.cell (X := (fun k => k = w.heap.size)) (cell_of_row _ _ 0 _ _ (0, 0) HROW2.out) rfl
  have e1 := Stands.cell (X := (fun k => k = w.heap.size)) (cell_of_row _ _ 1 _ _ (0, 0) HROW2.out) rfl
  have e2 := Stands.cell (X := (fun k => k = w.heap.size)) (cell_of_row _ _ 2 _ _ (0, 0) HROW2.out) rfl
  have e3 := Stands.cell (X := (fun k => k = w.heap.size)) (cell_of_row _ _ 3 _ _ (0, 0) HROW2.out) rfl
  clear hW2
  refine wp_region_z (R := Stands (fun k => k = w.heap.size)) [] (by kernel_rfl) ?_
  refine wpAnyZ_take0 (Stands.steady (fun k => k = w.heap.size)) 0 (v := ?_) rfl (by kernel_rfl) (by kernel_rfl) (by kernel_rfl) (fun _ _ _ h => h) (by rfl) (by intro W hSw; go_simp; with_reducible rfl) ?_; try simp only [Act.put, qA, qZ, qS]
  refine wpAnyZ_take0 (Stands.steady (fun k => k = w.heap.size)) 1 (v := ?_) rfl (by kernel_rfl) (by kernel_rfl) (by kernel_rfl) (fun _ _ _ h => h) (by rfl) (by intro W hSw; go_simp; with_reducible rfl) ?_; try simp only [Act.put, qA, qZ, qS]
  refine wpAnyZ_take0 (Stands.steady (fun k => k = w.heap.size)) 2 (v := ?_) rfl (by kernel_rfl) (by kernel_rfl) (by kernel_rfl) (fun _ _ _ h => h) (by rfl) (by intro W hSw; have hS0 := Stands.trans (show Stands (fun k => k = w.heap.size) W2 _ from by repeat first | assumption | exact Stands.refl _ _ | refine Stands.alloc ?_ _ | refine Stands.drew ?_ | refine Stands.trans ?_ (by assumption)) hSw; go_simp; with_reducible rfl) ?_; try simp only [Act.put, qA, qZ, qS]
  refine wpAnyZ_take0 (Stands.steady (fun k => k = w.heap.size)) 3 (v := ?_) rfl (by kernel_rfl) (by kernel_rfl) (by kernel_rfl) (fun _ _ _ h => h) (by rfl) (by intro W hSw; go_simp; with_reducible rfl) ?_; try simp only [Act.put, qA, qZ, qS]
  refine wpAnyZ_take0 (Stands.steady (fun k => k = w.heap.size)) 4 (v := ?_) rfl (by kernel_rfl) (by kernel_rfl) (by kernel_rfl) (fun _ _ _ h => h) (by rfl) (by intro W hSw; have hS0 := Stands.trans (show Stands (fun k => k = w.heap.size) W2 _ from by repeat first | assumption | exact Stands.refl _ _ | refine Stands.alloc ?_ _ | refine Stands.drew ?_ | refine Stands.trans ?_ (by assumption)) hSw; go_simp; with_reducible rfl) ?_; try simp only [Act.put, qA, qZ, qS]
  refine wpAnyZ_take0 (Stands.steady (fun k => k = w.heap.size)) 5 (v := ?_) rfl (by kernel_rfl) (by kernel_rfl) (by kernel_rfl) (fun _ _ _ h => h) (by rfl) (by intro W hSw; go_simp; with_reducible rfl) ?_; try simp only [Act.put, qA, qZ, qS]
  refine wpAnyZ_take0 (Stands.steady (fun k => k = w.heap.size)) 6 (v := ?_) rfl (by kernel_rfl) (by kernel_rfl) (by kernel_rfl) (fun _ _ _ h => h) (by rfl) (by intro W hSw; have hS0 := Stands.trans (show Stands (fun k => k = w.heap.size) W2 _ from by repeat first | assumption | exact Stands.refl _ _ | refine Stands.alloc ?_ _ | refine Stands.drew ?_ | refine Stands.trans ?_ (by assumption)) hSw; go_simp; with_reducible rfl) ?_; try simp only [Act.put, qA, qZ, qS]
  refine wpAnyZ_take0 (Stands.steady (fun k => k = w.heap.size)) 9 (v := ?_) rfl (by kernel_rfl) (by kernel_rfl) (by kernel_rfl) (fun _ _ _ h => h) (by rfl) (by intro W hSw; go_simp; with_reducible rfl) ?_; try simp only [Act.put, qA, qZ, qS]
  refine wpAnyZ_take0 (Stands.steady (fun k => k = w.heap.size)) 10 (v := ?_) rfl (by kernel_rfl) (by kernel_rfl) (by kernel_rfl) (fun _ _ _ h => h) (by rfl) (by intro W hSw; have hS0 := Stands.trans (show Stands (fun k => k = w.heap.size) W2 _ from by repeat first | assumption | exact Stands.refl _ _ | refine Stands.alloc ?_ _ | refine Stands.drew ?_ | refine Stands.trans ?_ (by assumption)) hSw; go_simp; with_reducible rfl) ?_; try simp only [Act.put, qA, qZ, qS]
  refine wpAnyZ_one 7 (by kernel_rfl) rfl (fun K hK => ?_)
  go_simp
  refine hK.out _ _ (by repeat first | assumption | exact Stands.refl _ _ | refine Stands.alloc ?_ _ | refine Stands.drew ?_ | refine Stands.of_later ?_) ?_
  clear hK K; try simp only [Act.put, qA, qZ, qS]
  refine wpAnyZ_one 8 (by kernel_rfl) rfl (fun K hK => ?_)
  go_simp
  refine (nums_any (HWR.out.later (by repeat first | exact Later.refl _ | refine Later.al ?_ _ | refine Later.dr ?_)) (n := 3) (L := [(prev : Int), (ver : Int), (known : Int)]) (by exact Rd.fresh3 (by simp)) rfl (by omega) (by intro y hy; simp only [List.mem_cons, List.not_mem_nil, or_false] at hy; have h1 := HO.out.prev; have h2 := HO.out.ver; have h3 := HO.out.known; simp only at h1 h2 h3; rcases hy with rfl | rfl | rfl <;> omega) (by intro a ha; injection ha with ha; subst ha; have := HZ2.out; rintro (hf | hf); (simp at hf; omega); (cases hf)) (by simp) (by have := HZ2.out; have := HWLT.out; simp; omega)).mono ?_; rintro e w2 ⟨rfl, hp2⟩; rw [wNums3] at hp2; obtain ⟨v2, ht2, hh2, hd2⟩ := hp2; have HT2 := hide_ ht2; have HH2 := hide_ hh2; have HD2 := hide_ hd2; have hb : Stands (fun k => k = w.heap.size) _ w2 := hh2.stands (by intro k hk hf hx; subst hx; have := HWLT.out; rcases hf with hf | hf; omega; cases hf); clear ht2 hh2 hd2
  refine hK.out _ _ (by repeat first | assumption | exact Stands.refl _ _ | refine Stands.alloc ?_ _ | refine Stands.drew ?_ | refine Stands.of_later ?_) ?_
  clear hK K; try simp only [Act.put, qA, qZ, qS]
  refine wpAnyZ_one 11 (by kernel_rfl) rfl (fun K hK => ?_)
  go_simp
  refine (changes_any HT2.out (A := A) (c := c) (by exact HH2.out.rd (((HR.out.below HL1.out).below HL2.out).alloc _) (by intro a ha; have h1 := HAB.out a ha; have := HWLT.out; rintro (hf | hf); omega; cases hf)) HL.out hn (chkAll_all HO.out.chg) (by intro a ha; have h1 := HAB.out a ha; have hw := HWLT.out; have hz := HZ2.out; rintro (hf | hf); omega; (rcases HD2.out with h | ⟨g, h, hg⟩; (rw [h] at hf; cases hf); (rw [h] at hf; injection hf with hf; simp at hg; omega))) (by have h1 := putN_len9 HO.out.prev; have h2 := putN_len9 HO.out.ver; have h3 := putN_len9 HO.out.known; simp only at h1 h2 h3; simp; omega) (by have h1 := HZ2.out; have h2 := HWLT.out; have h3 := HH2.out.size; simp at h3; omega)).mono ?_; rintro e w3 ⟨rfl, hp3⟩; obtain ⟨v3, ht3, hh3, hd3⟩ := hp3; have HT3 := hide_ ht3; have HH3 := hide_ hh3; have hb3 : Stands (fun k => k = w.heap.size) w2 w3 := hh3.stands (by intro k hk hf hx; subst hx; have hw := HWLT.out; have hz := HZ2.out; rcases hf with hf | hf; omega; (rcases HD2.out with h | ⟨g, h, hg⟩; (rw [h] at hf; cases hf); (rw [h] at hf; injection hf with hf; simp at hg; omega))); clear ht3 hh3 hd3
  refine hK.out _ _ (by repeat first | assumption | exact Stands.refl _ _ | refine Stands.alloc ?_ _ | refine Stands.drew ?_ | refine Stands.of_later ?_) ?_
  clear hK K; try simp only [Act.put, qA, qZ, qS]
  refine wpAnyZ_done (by kernel_rfl) ?_ _
  have HLT := hide_ (show Below w.heap.size w w3 from Below.trans (Below.trans (show Below w.heap.size w _ from ((HL1.out.trans HL2.out).al _).dr) (HH2.out.below (B := w.heap.size) (by have := HZ2.out; have := HWLT.out; simp; omega) (by intro k hk; have := HWLT.out; rcases hk with hk | hk; omega; cases hk))) (HH3.out.below (B := w.heap.size) (by have := HZ2.out; have := HWLT.out; have h3 := HH2.out.size; simp at h3; omega) (by intro k hk; have := HWLT.out; rcases hk with hk | hk; omega; exact (HT2.out.2.2.lt _ hk).1)))
  have HT4 := hide_ (show WrAt w3 w.heap.size w1.heap.size v3 (encB ⟨prev, ver, known, L⟩, 0) by
    have h := HT3.out
    have e : (encB ⟨prev, ver, known, L⟩, 0) = ((([] : List UInt8) ++ putN prev ++ putN ver ++ putN known) ++ putN n ++ L.flatMap encCh, 0) := by unfold encB; simp only [HL.out, List.nil_append]
    rw [e]; exact h)
  clear e0 e1 e2 e3 HT3 HH3 hb hb3 HT2 HH2 HD2 HWR
  go_wp2_with fail
  refine (wbytes_any HT4.out).mono ?_; rintro e w4 ⟨rfl, rfl⟩
  go_wp2_with fail
  go_ret2
  exact ⟨v3, rfl, HT4.out.2.2, HLT.out⟩

end Go.Proofs.YtcmollfhlillfaaGreatDoor
