/-
  frame.PutBatch.
-/
import Derived.Test.YtcmollfhlillfaaGreatDoorFBatch
import Derived.Test.YtcmollfhlillfaaGreatDoorZone
namespace Go.Proofs.YtcmollfhlillfaaGreatDoor
open Go.RowKit
set_option linter.unusedVariables false
set_option linter.unusedSimpArgs false
theorem WrAt.fresh (w : World) {B : Nat} (hB : B ≤ w.heap.size) : WrAt (w.alloc (.cells #[.slice none 0 0, .int .i64 0] 132)) B w.heap.size (.slice none 0 0) ([], 0) :=
  ⟨hB, heap_alloc_new w _, World.ownsRow_nil _ _ _ _⟩
theorem wNums3 (a b c : Nat) (s : WS) : wNums [(a : Int), (b : Int), (c : Int)] s = (s.1 ++ putN a ++ putN b ++ putN c, s.2) := by
  unfold wNums; rw [if_neg (by omega)]; unfold wNums; rw [if_neg (by omega)]; unfold wNums; rw [if_neg (by omega)]; unfold wNums
  simp
theorem Rd.fresh3 {w : World} {b : Nat} {u u2 u3 : Value} {t : TypeId} {fz : Nat × Nat} (hb : b = w.heap.size) : Rd (w.alloc (.cells #[u, u2, u3] t fz)) 1 (some ⟨b, 0, none⟩) 3 [u, u2, u3] := Rd.newAt _ #[u, u2, u3] t 3 1 _ fz rfl hb
set_option maxHeartbeats 4000000 in
set_option maxRecDepth 100000 in
theorem putBatch_any {w : World} {A : Option Addr} {n c prev ver known : Nat} {L : List Chg} (hr : Rd w 3 A n (crow L)) (hl : L.length = n) (hab : ∀ a, A = some a → a.block < w.heap.size) (hok : BP.Ok ⟨prev, ver, known, L⟩) :
    Calls Tryz.prog 71 #[.agg #[.int .i64 prev, .int .i64 ver, .int .i64 known, .slice A n c]] w fun e w' => ∃ v, e = .returned (.tuple #[v, .int .i64 0]) ∧ w'.ownsRow w.heap.size 5 1 v (encB ⟨prev, ver, known, L⟩).length (bvs (encB ⟨prev, ver, known, L⟩)) ∧ Later w w' := by
  have HR := hide_ hr; have HL := hide_ hl; have HO := hide_ hok; have HAB := hide_ hab
  have hn : n ≤ 4096 := by have := hok.len; rw [← hl]; exact this
  obtain ⟨W0, hW0⟩ : ∃ W0, W0 = w.alloc (Obj.cells #[Value.int IntKind.i64 prev, Value.int IntKind.i64 ver, Value.int IntKind.i64 known, Value.slice A n c] 91) := ⟨_, rfl⟩
  have HW := hide_ hW0.symm
  have hrow := heap_alloc_new w (Obj.cells #[Value.int IntKind.i64 prev, Value.int IntKind.i64 ver, Value.int IntKind.i64 known, Value.slice A n c] 91)
  have HL0 := hide_ (show Later w W0 by rw [hW0]; exact later_alloc _ _)
  rw [← hW0] at hrow
  have HROW := hide_ hrow
  have d0 := cell_of_row _ _ 0 _ _ (0, 0) hrow
  have d1 := cell_of_row _ _ 1 _ _ (0, 0) hrow
  have d2 := cell_of_row _ _ 2 _ _ (0, 0) hrow
  have d3 := cell_of_row _ _ 3 _ _ (0, 0) hrow
  have HBK := hide_ (batch_ok (c := c) (prev := prev) (ver := ver) (known := known) (HR.out.below HL0.out) hl hn hok.chg)
  clear hr hl hok hab hW0 hrow
  go_enter Tryz.func71, Tryz.ntmps71
  go_wp2_with (rw [HW.out])
  refine HBK.out.mono ?_; rintro e w1 ⟨rfl, hl1⟩
  have HL1 := hide_ (HL0.out.trans hl1)
  have HROW1 := hide_ (later_row hl1 HROW.out)
  clear hl1 d0 d1 d2 d3
  have HWR := hide_ (WrAt.fresh w1 (B := w.heap.size) HL1.out.size)
  go_wp2_with fail
  obtain ⟨W2, hW2⟩ : ∃ W2, W2 = w1.alloc (Obj.cells #[Value.slice none 0 0, Value.int IntKind.i64 0] 132) := ⟨_, rfl⟩
  rw [← hW2] at HWR ⊢
  have HL2 := hide_ (show Later w1 W2 by rw [hW2]; exact later_alloc _ _)
  have HROW2 := hide_ (later_row HL2.out HROW1.out)
  have HZ2 := hide_ (show W2.heap.size = w1.heap.size + 1 by rw [hW2]; simp)
  have HWLT := hide_ (show w.heap.size < w1.heap.size from theap_lt HROW1.out)
  have e0 := Stands.cell (X := (fun k => k = w.heap.size)) (cell_of_row _ _ 0 _ _ (0, 0) HROW2.out) rfl
  have e1 := Stands.cell (X := (fun k => k = w.heap.size)) (cell_of_row _ _ 1 _ _ (0, 0) HROW2.out) rfl
  have e2 := Stands.cell (X := (fun k => k = w.heap.size)) (cell_of_row _ _ 2 _ _ (0, 0) HROW2.out) rfl
  have e3 := Stands.cell (X := (fun k => k = w.heap.size)) (cell_of_row _ _ 3 _ _ (0, 0) HROW2.out) rfl
  clear hW2
  refine wp_region_z (R := Stands (fun k => k = w.heap.size)) [] (by kernel_rfl) ?_
  refine wpAnyZ_take0 (Stands.steady (fun k => k = w.heap.size)) 0 (v := ?_) rfl (by kernel_rfl) (by kernel_rfl) (by kernel_rfl) (fun _ _ _ h => h) (by rfl) (by intro W hSw; go_simp; with_reducible rfl) ?_; try simp only [Act.put, List.setIfInBounds_toArray, List.set_cons_zero, List.set_cons_succ]
  refine wpAnyZ_take0 (Stands.steady (fun k => k = w.heap.size)) 1 (v := ?_) rfl (by kernel_rfl) (by kernel_rfl) (by kernel_rfl) (fun _ _ _ h => h) (by rfl) (by intro W hSw; go_simp; with_reducible rfl) ?_; try simp only [Act.put, List.setIfInBounds_toArray, List.set_cons_zero, List.set_cons_succ]
  refine wpAnyZ_take0 (Stands.steady (fun k => k = w.heap.size)) 2 (v := ?_) rfl (by kernel_rfl) (by kernel_rfl) (by kernel_rfl) (fun _ _ _ h => h) (by rfl) (by intro W hSw; have hS0 := Stands.trans (show Stands (fun k => k = w.heap.size) W2 _ from by repeat first | assumption | exact Stands.refl _ _ | refine Stands.alloc ?_ _ | refine Stands.drew ?_ | refine Stands.trans ?_ (by assumption)) hSw; go_simp; with_reducible rfl) ?_; try simp only [Act.put, List.setIfInBounds_toArray, List.set_cons_zero, List.set_cons_succ]
  refine wpAnyZ_take0 (Stands.steady (fun k => k = w.heap.size)) 3 (v := ?_) rfl (by kernel_rfl) (by kernel_rfl) (by kernel_rfl) (fun _ _ _ h => h) (by rfl) (by intro W hSw; go_simp; with_reducible rfl) ?_; try simp only [Act.put, List.setIfInBounds_toArray, List.set_cons_zero, List.set_cons_succ]
  refine wpAnyZ_take0 (Stands.steady (fun k => k = w.heap.size)) 4 (v := ?_) rfl (by kernel_rfl) (by kernel_rfl) (by kernel_rfl) (fun _ _ _ h => h) (by rfl) (by intro W hSw; have hS0 := Stands.trans (show Stands (fun k => k = w.heap.size) W2 _ from by repeat first | assumption | exact Stands.refl _ _ | refine Stands.alloc ?_ _ | refine Stands.drew ?_ | refine Stands.trans ?_ (by assumption)) hSw; go_simp; with_reducible rfl) ?_; try simp only [Act.put, List.setIfInBounds_toArray, List.set_cons_zero, List.set_cons_succ]
  refine wpAnyZ_take0 (Stands.steady (fun k => k = w.heap.size)) 5 (v := ?_) rfl (by kernel_rfl) (by kernel_rfl) (by kernel_rfl) (fun _ _ _ h => h) (by rfl) (by intro W hSw; go_simp; with_reducible rfl) ?_; try simp only [Act.put, List.setIfInBounds_toArray, List.set_cons_zero, List.set_cons_succ]
  refine wpAnyZ_take0 (Stands.steady (fun k => k = w.heap.size)) 6 (v := ?_) rfl (by kernel_rfl) (by kernel_rfl) (by kernel_rfl) (fun _ _ _ h => h) (by rfl) (by intro W hSw; have hS0 := Stands.trans (show Stands (fun k => k = w.heap.size) W2 _ from by repeat first | assumption | exact Stands.refl _ _ | refine Stands.alloc ?_ _ | refine Stands.drew ?_ | refine Stands.trans ?_ (by assumption)) hSw; go_simp; with_reducible rfl) ?_; try simp only [Act.put, List.setIfInBounds_toArray, List.set_cons_zero, List.set_cons_succ]
  refine wpAnyZ_take0 (Stands.steady (fun k => k = w.heap.size)) 9 (v := ?_) rfl (by kernel_rfl) (by kernel_rfl) (by kernel_rfl) (fun _ _ _ h => h) (by rfl) (by intro W hSw; go_simp; with_reducible rfl) ?_; try simp only [Act.put, List.setIfInBounds_toArray, List.set_cons_zero, List.set_cons_succ]
  refine wpAnyZ_take0 (Stands.steady (fun k => k = w.heap.size)) 10 (v := ?_) rfl (by kernel_rfl) (by kernel_rfl) (by kernel_rfl) (fun _ _ _ h => h) (by rfl) (by intro W hSw; have hS0 := Stands.trans (show Stands (fun k => k = w.heap.size) W2 _ from by repeat first | assumption | exact Stands.refl _ _ | refine Stands.alloc ?_ _ | refine Stands.drew ?_ | refine Stands.trans ?_ (by assumption)) hSw; go_simp; with_reducible rfl) ?_; try simp only [Act.put, List.setIfInBounds_toArray, List.set_cons_zero, List.set_cons_succ]
  refine wpAnyZ_one 7 (by kernel_rfl) rfl (fun K hK => ?_)
  go_simp
  refine hK.out _ _ (by repeat first | assumption | exact Stands.refl _ _ | refine Stands.alloc ?_ _ | refine Stands.drew ?_ | refine Stands.of_later ?_) ?_
  clear hK K; try simp only [Act.put, List.setIfInBounds_toArray, List.set_cons_zero, List.set_cons_succ]
  refine wpAnyZ_one 8 (by kernel_rfl) rfl (fun K hK => ?_)
  go_simp
  refine (nums_any (HWR.out.later (by repeat first | exact Later.refl _ | refine Later.al ?_ _ | refine Later.dr ?_)) (n := 3) (L := [(prev : Int), (ver : Int), (known : Int)]) (by exact Rd.fresh3 (by simp)) rfl (by omega) (by intro y hy; simp only [List.mem_cons, List.not_mem_nil, or_false] at hy; have h1 := HO.out.prev; have h2 := HO.out.ver; have h3 := HO.out.known; simp only at h1 h2 h3; rcases hy with rfl | rfl | rfl <;> omega) (by intro a ha; injection ha with ha; subst ha; have := HZ2.out; rintro (hf | hf); (simp at hf; omega); (cases hf)) (by simp) (by have := HZ2.out; have := HWLT.out; simp; omega)).mono ?_; rintro e w2 ⟨rfl, hp2⟩; rw [wNums3] at hp2; obtain ⟨v2, ht2, hh2, hd2⟩ := hp2; have HT2 := hide_ ht2; have HH2 := hide_ hh2; have HD2 := hide_ hd2; have hb : Stands (fun k => k = w.heap.size) _ w2 := hh2.stands (by intro k hk hf hx; subst hx; have := HWLT.out; rcases hf with hf | hf; omega; cases hf); clear ht2 hh2 hd2
  refine hK.out _ _ (by repeat first | assumption | exact Stands.refl _ _ | refine Stands.alloc ?_ _ | refine Stands.drew ?_ | refine Stands.of_later ?_) ?_
  clear hK K; try simp only [Act.put, List.setIfInBounds_toArray, List.set_cons_zero, List.set_cons_succ]
  refine wpAnyZ_one 11 (by kernel_rfl) rfl (fun K hK => ?_)
  go_simp
  refine (changes_any HT2.out (A := A) (c := c) (by exact HH2.out.rd (((HR.out.below HL1.out).below HL2.out).alloc _) (by intro a ha; have h1 := HAB.out a ha; have := HWLT.out; rintro (hf | hf); omega; cases hf)) HL.out hn (chkAll_all HO.out.chg) (by intro a ha; have h1 := HAB.out a ha; have hw := HWLT.out; have hz := HZ2.out; rintro (hf | hf); omega; (rcases HD2.out with h | ⟨g, h, hg⟩; (rw [h] at hf; cases hf); (rw [h] at hf; injection hf with hf; simp at hg; omega))) (by have h1 := putN_len9 HO.out.prev; have h2 := putN_len9 HO.out.ver; have h3 := putN_len9 HO.out.known; simp only at h1 h2 h3; simp; omega) (by have h1 := HZ2.out; have h2 := HWLT.out; have h3 := HH2.out.size; simp at h3; omega)).mono ?_; rintro e w3 ⟨rfl, hp3⟩; obtain ⟨v3, ht3, hh3, hd3⟩ := hp3; have HT3 := hide_ ht3; have HH3 := hide_ hh3; have hb3 : Stands (fun k => k = w.heap.size) w2 w3 := hh3.stands (by intro k hk hf hx; subst hx; have hw := HWLT.out; have hz := HZ2.out; rcases hf with hf | hf; omega; (rcases HD2.out with h | ⟨g, h, hg⟩; (rw [h] at hf; cases hf); (rw [h] at hf; injection hf with hf; simp at hg; omega))); clear ht3 hh3 hd3
  refine hK.out _ _ (by repeat first | assumption | exact Stands.refl _ _ | refine Stands.alloc ?_ _ | refine Stands.drew ?_ | refine Stands.of_later ?_) ?_
  clear hK K; try simp only [Act.put, List.setIfInBounds_toArray, List.set_cons_zero, List.set_cons_succ]
  refine wpAnyZ_done (by kernel_rfl) ?_ _
  have HLT := hide_ (show Below w.heap.size w w3 from Below.trans (Below.trans (show Below w.heap.size w _ from ((HL1.out.trans HL2.out).al _).dr) (HH2.out.below (B := w.heap.size) (by have := HZ2.out; have := HWLT.out; simp; omega) (by intro k hk; have := HWLT.out; rcases hk with hk | hk; omega; cases hk))) (HH3.out.below (B := w.heap.size) (by have := HZ2.out; have := HWLT.out; have h3 := HH2.out.size; simp at h3; omega) (by intro k hk; have := HWLT.out; rcases hk with hk | hk; omega; exact (HT2.out.2.2.lt _ hk).1)))
  have HT4 := hide_ (show WrAt w3 w.heap.size w1.heap.size v3 (encB ⟨prev, ver, known, L⟩, 0) by
    have h := HT3.out
    have e : (encB ⟨prev, ver, known, L⟩, 0) = ((([] : List UInt8) ++ putN prev ++ putN ver ++ putN known) ++ putN n ++ L.flatMap encCh, 0) := by unfold encB; simp only [HL.out, List.nil_append]
    rw [e]; exact h)
  clear e0 e1 e2 e3 HT3 HH3 hb hb3 HT2 HH2 HD2 HWR
  go_wp2_with fail
  refine (wbytes_any HT4.out).mono ?_; rintro e w4 ⟨rfl, rfl⟩
  go_wp2_with fail
  go_ret2
  exact ⟨v3, rfl, HT4.out.2.2, HLT.out⟩

end Go.Proofs.YtcmollfhlillfaaGreatDoor
