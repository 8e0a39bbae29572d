/-
  chest: the document's Same of changes, SameBatch, Batches: equal ones are the same.
-/
import Derived.Test.YtlgnnmpfipmjeaaGreatG1
import Derived.Test.YtlgnnmpfipmjeaaGreatZkChk
import Derived.Test.YtlgnnmpfipmjeaaGreatZkZone
import Derived.Laws.StructEq
namespace Go.Proofs.YtlgnnmpfipmjeaaGreat
open Go.RowKit
set_option linter.unusedVariables false
set_option linter.unusedSimpArgs false
theorem neq_chg (x : Chg) (W : World) : (binOp .neq 45 (.agg #[.int .i64 x.1, .string x.2.1, .string x.2.2]) (.agg #[.int .i64 x.1, .string x.2.1, .string x.2.2])).run Tryz.prog W = .ok (.bool false) W := by
  have hS : Tryz.prog.underlying 45 = some (.struct (Tryz.prog.fieldsOf 45)) := by kernel_rfl
  have hp : Tryz.prog.stoodInHeld 45 = false := by kernel_rfl
  rw [run_neq_struct, show (10000 : Nat) = 9999 + 1 from rfl, run_equalIn_agg W 9999 45 _ _ hS hp]
  simp only [Program.fieldsOf, Tryz.underlying45]
  go_simp
theorem guard_chg (op : BinOp) (x y : Operand) (xs ys : Array Value) (W : World) : (eqGuard op 45 x y (.agg xs) (.agg ys)).run Tryz.prog W = .ok () W := run_eqGuard_agg W op 45 x y xs ys (by kernel_rfl)
set_option maxHeartbeats 1000000 in
theorem csame_yes {w : World} {A A' : Option Addr} {n c c' : Nat} {L : List Chg} (hr : Rd w 3 A n (crow L)) (hr' : Rd w 3 A' n (crow L)) (hl : L.length = n) (hn : n ≤ 4398046511104) :
    Calls Tryz.prog 67 #[.slice A n c, .slice A' n c'] w fun e w' => e = .returned (.bool true) ∧ Later w w' := by
  have HR := hide_ hr
  have HR' := hide_ hr'
  have HL := hide_ hl
  have hn2 : (n : Int) ≤ 4398046511104 := by omega
  clear hr hr' hl
  go_enter Tryz.func67, Tryz.ntmps67
  go_wp2_with fail
  go_loopw [5] (fun s5 wr => ∃ k : Nat, k ≤ n ∧ s5 = .int .i64 k ∧ Hid (Later w wr)) (fun i _ => n - (intOf i).toNat)
  case atStart => exact ⟨0, Nat.zero_le _, rfl, Later.refl w⟩
  case round =>
    obtain ⟨k, hk, rfl, HB⟩ := hrel
    by_cases hlt : k < n
    · have q1 : (k : Int) < (n : Int) := by omega
      have q2 : (k : Int) ≤ 4398046511104 := by omega
      obtain ⟨s, hs⟩ : ∃ s, L[k]? = some s := ⟨_, List.getElem?_eq_getElem (by rw [HL.out]; exact hlt)⟩
      obtain ⟨b, o, rfl, c1, c2, c3⟩ := (HR.out.below HB.out).chg hs
      obtain ⟨b', o', rfl, c4, c5, c6⟩ := (HR'.out.below HB.out).chg hs
      have e1 := fun W => neq_chg s W
      have e2 := guard_chg
      clear hs
      go_wp2_with fail
      go_quiet (fail)
      go_wp2_with fail
      go_roundw
      case rel => exact ⟨k + 1, by omega, by go_num, below_drewN HB.out _⟩
      case measure => simp [intOf]; omega
    · go_wp2_with fail
      go_ret
      exact ⟨rfl, HB.out⟩
set_option maxHeartbeats 2000000 in
set_option maxRecDepth 100000 in
theorem sameb_any {w : World} {x y : BV} (h : x.bp = y.bp) (hx : BvOk w x) (hy : BvOk w y) :
    Calls Tryz.prog 35 #[.agg #[.int .i64 x.prev, .int .i64 x.ver, .int .i64 x.known, .slice x.A x.n x.c], .agg #[.int .i64 y.prev, .int .i64 y.ver, .int .i64 y.known, .slice y.A y.n y.c]] w fun e w' => e = .returned (.bool true) ∧ Later w w' := by
  have e1 : x.prev = y.prev := congrArg BP.prev h
  have e2 : x.ver = y.ver := congrArg BP.ver h
  have e3 : x.known = y.known := congrArg BP.known h
  have e4 : x.chg = y.chg := congrArg BP.chg h
  have e5 : x.n = y.n := by rw [← hx.len, ← hy.len, e4]
  have hbig : y.n ≤ 4398046511104 := by have := hy.ok.4; have h2 := hy.len; have h3 : y.bp.chg.length = y.chg.length := rfl; omega
  have hl := show Later w ((w.alloc (.cells #[.int .i64 y.prev, .int .i64 y.ver, .int .i64 y.known, .slice x.A y.n x.c] 38)).alloc (.cells #[.int .i64 y.prev, .int .i64 y.ver, .int .i64 y.known, .slice y.A y.n y.c] 38)) from (later_alloc _ _).al _
  have hrx := hx.rd.below hl
  have hry := hy.rd.below hl
  rw [e5, e4] at hrx
  have HC := hide_ (csame_yes (c := x.c) (c' := y.c) hrx hry hy.len hbig)
  have HL := hide_ hl
  rw [e5, e1, e2, e3]
  clear h hx hy e1 e2 e3 e4 e5 hl hrx hry hbig
  go_enter Tryz.func35, Tryz.ntmps35
  go_wp2_with fail
  refine HC.out.mono ?_; rintro e w2 ⟨rfl, hl2⟩
  have HL2 := hide_ (HL.out.trans hl2)
  clear hl2
  go_wp2_with fail
  go_ret
  exact ⟨rfl, HL2.out⟩
set_option maxHeartbeats 4000000 in
set_option maxRecDepth 100000 in
theorem batches_any {w : World} {A A' : Option Addr} {n c c' : Nat} {L L' : List BV} (hr : Rd w 4 A n (brow L)) (hr' : Rd w 4 A' n (brow L')) (hl : L.length = n) (hn : n ≤ 100) (hm : L.map BV.bp = L'.map BV.bp) (h0 : ∀ x ∈ L, BvOk w x) (h0' : ∀ x ∈ L', BvOk w x) :
    Calls Tryz.prog 16 #[.slice A n c, .slice A' n c'] w fun e w' => e = .returned (.bool true) ∧ Later w w' := by
  have HR := hide_ hr; have HR' := hide_ hr'; have HL := hide_ hl; have HM := hide_ hm; have H0 := hide_ h0; have H0' := hide_ h0'
  have hn2 : (n : Int) ≤ 100 := by omega
  clear hr hr' hl hm h0 h0'
  go_enter Tryz.func16, Tryz.ntmps16
  go_wp2_with fail
  go_loopw [5] (fun s wr => ∃ k : Nat, k ≤ n ∧ s = .int .i64 k ∧ Hid (Later w wr)) (fun s _ => n - (intOf s).toNat)
  case atStart => exact ⟨0, Nat.zero_le _, rfl, Later.refl _⟩
  case round =>
    obtain ⟨k, hkn, rfl, HLR⟩ := hrel
    by_cases hlt : k < n
    · obtain ⟨x, hx⟩ : ∃ x, L[k]? = some x := ⟨_, List.getElem?_eq_getElem (by rw [HL.out]; exact hlt)⟩
      have hxm : (L'.map BV.bp)[k]? = some x.bp := by rw [← HM.out, List.getElem?_map, hx]; rfl
      obtain ⟨y, hy, hyx⟩ : ∃ y, L'[k]? = some y ∧ y.bp = x.bp := by
        rw [List.getElem?_map] at hxm; exact Option.map_eq_some_iff.1 hxm
      obtain ⟨b, o, rfl, l0, l1, l2, l3⟩ := (HR.out.below HLR.out).bat hx
      obtain ⟨b', o', rfl, m0, m1, m2, m3⟩ := (HR'.out.below HLR.out).bat hy
      have hs := fun (W : World) (hW : Later wr W) => sameb_any (w := W) hyx.symm ((H0.out x (List.mem_of_getElem? hx)).later (HLR.out.trans hW)) ((H0'.out y (List.mem_of_getElem? hy)).later (HLR.out.trans hW))
      have HS := hide_ hs
      have r1 : (k : Int) < (n : Int) := by omega
      have r2 : (0 : Int) ≤ (k : Int) := by omega
      have L0 := later_drew_cell l0; have L1 := later_drew_cell l1; have L2 := later_drew_cell l2; have L3 := later_drew_cell l3
      have M0 := later_drew_cell m0; have M1 := later_drew_cell m1; have M2 := later_drew_cell m2; have M3 := later_drew_cell m3
      clear hx hxm hy hyx hs l0 l1 l2 l3 m0 m1 m2 m3
      go_wp2_with fail
      refine wp_region_k (by kernel_rfl) ?_
      refine wpAnyK_take 0 (v := ?_) rfl (by kernel_rfl) (by kernel_rfl) (by kernel_rfl) (fun _ _ _ h => h) (by rfl) (by intro W hSw; go_simp; with_reducible rfl) ?_; try simp only [Act.put, List.setIfInBounds_toArray, List.set_cons_zero, List.set_cons_succ]
      refine wpAnyK_take 1 (v := ?_) rfl (by kernel_rfl) (by kernel_rfl) (by kernel_rfl) (fun _ _ _ h => h) (by rfl) (by intro W hSw; go_simp; with_reducible rfl) ?_; try simp only [Act.put, List.setIfInBounds_toArray, List.set_cons_zero, List.set_cons_succ]
      refine wpAnyK_take 2 (v := ?_) rfl (by kernel_rfl) (by kernel_rfl) (by kernel_rfl) (fun _ _ _ h => h) (by rfl) (by intro W hSw; go_simp; with_reducible rfl) ?_; try simp only [Act.put, List.setIfInBounds_toArray, List.set_cons_zero, List.set_cons_succ]
      refine wpAnyK_take 3 (v := ?_) rfl (by kernel_rfl) (by kernel_rfl) (by kernel_rfl) (fun _ _ _ h => h) (by rfl) (by intro W hSw; go_simp; with_reducible rfl) ?_; try simp only [Act.put, List.setIfInBounds_toArray, List.set_cons_zero, List.set_cons_succ]
      refine wpAnyK_take 4 (v := ?_) rfl (by kernel_rfl) (by kernel_rfl) (by kernel_rfl) (fun _ _ _ h => h) (by rfl) (by intro W hSw; go_simp; with_reducible rfl) ?_; try simp only [Act.put, List.setIfInBounds_toArray, List.set_cons_zero, List.set_cons_succ]
      refine wpAnyK_take 5 (v := ?_) rfl (by kernel_rfl) (by kernel_rfl) (by kernel_rfl) (fun _ _ _ h => h) (by rfl) (by intro W hSw; go_simp; with_reducible rfl) ?_; try simp only [Act.put, List.setIfInBounds_toArray, List.set_cons_zero, List.set_cons_succ]
      refine wpAnyK_take 6 (v := ?_) rfl (by kernel_rfl) (by kernel_rfl) (by kernel_rfl) (fun _ _ _ h => h) (by rfl) (by intro W hSw; go_simp; with_reducible rfl) ?_; try simp only [Act.put, List.setIfInBounds_toArray, List.set_cons_zero, List.set_cons_succ]
      refine wpAnyK_take 7 (v := ?_) rfl (by kernel_rfl) (by kernel_rfl) (by kernel_rfl) (fun _ _ _ h => h) (by rfl) (by intro W hSw; go_simp; with_reducible rfl) ?_; try simp only [Act.put, List.setIfInBounds_toArray, List.set_cons_zero, List.set_cons_succ]
      refine wpAnyK_one 8 (by kernel_rfl) rfl (fun K hK => ?_)
      go_simp
      refine (HS.out _ (Later.refl _).dr).mono ?_; rintro e w3 ⟨rfl, hb3⟩
      refine hK.out _ _ (by assumption) ?_
      clear hK K; try simp only [Act.put, List.setIfInBounds_toArray, List.set_cons_zero, List.set_cons_succ]
      refine wpAnyK_take 9 (v := ?_) rfl (by kernel_rfl) (by kernel_rfl) (by kernel_rfl) (fun _ _ _ h => h) (by rfl) (by intro W hSw; go_simp; with_reducible rfl) ?_; try simp only [Act.put, List.setIfInBounds_toArray, List.set_cons_zero, List.set_cons_succ]
      refine wpAnyK_done (by kernel_rfl) ?_ _
      all_goals
        have HL3 := hide_ ((HLR.out.trans (by repeat first | exact Later.refl _ | refine Later.dr ?_)).trans hb3)
        clear hb3
        go_wp2_with fail
        go_roundw
        case rel => exact ⟨k + 1, by omega, by go_num, HL3⟩
        case measure => simp [intOf]; omega
    · obtain rfl : k = n := by omega
      have r1 : ¬ (k : Int) < (k : Int) := by omega
      go_wp2_with fail
      go_ret
      exact ⟨rfl, HLR.out⟩

end Go.Proofs.YtlgnnmpfipmjeaaGreat
