/-
  Texts of this seat in one: Ch15, Ch16.
-/
import Derived.Test.YtlgnnmpfipmjeaaG3
import Derived.Test.YtlgnnmpfipmjeaaZkZone
/-
  chest: clones of batches.
-/
namespace Go.Proofs.Ytlgnnmpfipmjeaa
open Go.RowKit
set_option linter.unusedVariables false
set_option linter.unusedSimpArgs false
theorem brow_set3 (N R : List BV) (x : BV) (A : Option Addr) (c k : Nat) (hk : N.length = k) : (brow (N ++ x :: R)).set (k * 4 + 3) (.slice A x.n c) = brow (N ++ { x with A := A, c := c } :: R) := by
  have h1 : (brow N).length = k * 4 := by rw [brow_len, hk]
  have e1 : brow (N ++ x :: R) = brow N ++ (encV x ++ brow R) := by unfold brow; rw [List.flatMap_append, List.flatMap_cons]
  have e2 : brow (N ++ { x with A := A, c := c } :: R) = brow N ++ (encV { x with A := A, c := c } ++ brow R) := by unfold brow; rw [List.flatMap_append, List.flatMap_cons]
  rw [e1, e2, List.set_append_right _ _ (by omega), h1, Nat.add_sub_cancel_left, List.set_append_left _ _ (by rw [encV_len]; omega)]
  rfl
set_option maxHeartbeats 8000000 in
set_option maxRecDepth 100000 in
theorem cclone_any {w : World} {A : Option Addr} {n c : Nat} {L : List BV} (hr : Rd w 4 A n (brow L)) (hl : L.length = n) (hn : n ≤ 100) (hok : ∀ x ∈ L, BvOk w x) :
    Calls Try.prog 27 #[.slice A n c] w fun e w' => ∃ A' c' L', e = .returned (.slice A' n c') ∧ w'.ownsRow w.heap.size 34 4 (.slice A' n c') n (brow L') ∧ L'.map BV.bp = L.map BV.bp ∧ (∀ x ∈ L', BvOk w' x) ∧ Later w w' := by
  have HC := hide_ (btClone_any (c := c) hr hl (by omega))
  have HL := hide_ hl; have HOK := hide_ hok
  have hn2 : (n : Int) ≤ 100 := by omega
  clear hr hl hok
  go_enter Try.func27, Try.ntmps27
  go_wp2_with fail
  refine HC.out.mono ?_; rintro e w1 ⟨A1, c1, rfl, ho1, hl1⟩
  have HO1 := hide_ ho1; have HL1 := hide_ hl1
  clear ho1 hl1
  go_wp2_with fail
  go_loopw [9] (fun s9 wr => ∃ (k : Nat) (N : List BV), k ≤ n ∧ s9 = .int .i64 k ∧ Hid (N.length = k) ∧ Hid (N.map BV.bp = (L.take k).map BV.bp) ∧ Hid (∀ x ∈ N, BvOk wr x) ∧ Hid (wr.ownsRow w.heap.size 34 4 (.slice A1 n c1) n (brow (N ++ L.drop k))) ∧ Hid (Later w wr)) (fun i _ => n - (intOf i).toNat)
  case atStart => exact ⟨0, [], Nat.zero_le _, rfl, hide_ rfl, hide_ rfl, hide_ (fun x hx => by cases hx), by simpa using HO1, HL1⟩
  case round =>
    obtain ⟨k, N, hkn, rfl, HK, HM, HN, HO, HLR⟩ := hrel
    by_cases hlt : k < n
    · obtain ⟨x, hx⟩ : ∃ x, L[k]? = some x := ⟨_, List.getElem?_eq_getElem (by rw [HL.out]; exact hlt)⟩
      have hd : L.drop k = x :: L.drop (k + 1) := by
        have e := List.getElem?_eq_some_iff.1 hx
        rw [List.drop_eq_getElem_cons e.1, e.2]
      have HX := hide_ ((HOK.out x (List.mem_of_getElem? hx)).later HLR.out)
      have ho := HO.out
      rw [hd] at ho
      have hg : (N ++ x :: L.drop (k + 1))[k]? = some x := by rw [List.getElem?_append_right (by rw [HK.out]; exact Nat.le_refl _), HK.out, Nat.sub_self]; rfl
      obtain ⟨b, o, hA, l0, l1, l2, l3⟩ := (Rd.of_own ho).bat hg
      subst hA
      obtain ⟨g1, cap1, hv, _, _⟩ := ho.form (by omega)
      have hbo : b = g1 ∧ o = 0 := by injection hv with hv; injection hv with hv; injection hv with h1 h2; exact ⟨h1, h2⟩
      obtain ⟨rfl, rfl⟩ := hbo
      simp only [Nat.zero_add] at l3
      have HTK := hide_ (show L.take (k + 1) = L.take k ++ [x] by rw [List.take_add_one, hx]; rfl)
      have q1 : (k : Int) < (n : Int) := by omega
      have q2 : (0 : Int) ≤ (k : Int) := by omega
      have q3 : (k : Int) ≤ 100 := by omega
      have HCC := hide_ (chClone_any (c := x.c) HX.out.rd HX.out.len (by rw [← HX.out.len]; exact HX.out.ok.len))
      have HO2 := hide_ ho
      clear hx hd ho hg hv l0 l1 l2
      go_wp2_with fail
      refine HCC.out.mono ?_; rintro e w3 ⟨A3, c3, rfl, ho3, hl3⟩
      have ho4 := own_below HO2.out hl3
      obtain ⟨cur, hBg, hg3, hnc3, hcm3, hcs3, htk3⟩ := own_row ho4
      have k3 := later_cell l3 _ hl3
      have f3 := frozen_of_row w3 b (k * 4 + 3) _ _ hg3
      obtain ⟨W4, hW4⟩ : ∃ W4, W4 = w3.setCell ⟨b, k * 4 + 3, none⟩ (.slice A3 x.n c3) := ⟨_, rfl⟩
      have HW4 := hide_ hW4.symm
      have hh4 : Hits (· = b) w3 W4 := by rw [hW4]; exact (Hits.refl (· = b) w3).setCell (g := b) (fun _ => rfl) _ _
      have HO4 := hide_ (show W4.ownsRow w.heap.size 34 4 (.slice (some ⟨b, 0, none⟩) n c1) n (brow ((N ++ [{ x with A := A3, c := c3 }]) ++ L.drop (k + 1))) from by
        have h := own_setCell ho4 (k * 4 + 3) (.slice A3 x.n c3)
        rw [brow_set3 _ _ _ _ _ _ HK.out] at h
        rw [hW4, List.append_assoc]; exact h)
      have hnc : NoChg w3 (· = b) := fun k hk => by subst hk; exact ⟨_, _, _, hg3, by decide⟩
      have HX4 := hide_ (show ∀ y ∈ N ++ [{ x with A := A3, c := c3 }], BvOk W4 y from fun y hy => by
        rcases List.mem_append.1 hy with hy | hy
        · exact ((HN.out y hy).later hl3).hits hh4 hnc
        · rw [List.mem_singleton] at hy; subst hy
          refine BvOk.hits ⟨HX.out.len, Rd.of_own ho3, fun a ha => ?_, HX.out.ok⟩ hh4 hnc
          have ha : A3 = some a := ha
          subst ha
          rcases ho3.2 with ⟨hv, _⟩ | ⟨g, cap, cur, hv, _, hg, _⟩
          · cases hv
          · injection hv with hv; injection hv with hv; subst hv; exact ⟨_, _, hg⟩)
      have HL4 := hide_ (show Later w W4 from Below.trans (HLR.out.trans hl3) (hh4.below (B := w.heap.size) (HLR.out.trans hl3).size (fun k hk => by subst hk; exact hBg)))
      have HM4 := hide_ (show (N ++ [{ x with A := A3, c := c3 }]).map BV.bp = (L.take (k + 1)).map BV.bp from by rw [HTK.out, List.map_append, List.map_append, HM.out]; rfl)
      have HK4 := hide_ (show (N ++ [{ x with A := A3, c := c3 }]).length = k + 1 from by rw [List.length_append, HK.out]; rfl)
      clear ho3 hl3 ho4 hBg hg3 hnc3 hcm3 hcs3 htk3 hW4 hh4 hnc l3 HCC
      go_wp2_with (rw [HW4.out])
      go_roundw
      case rel => exact ⟨k + 1, N ++ [{ x with A := A3, c := c3 }], by omega, by go_num, HK4, HM4, HX4, HO4, HL4⟩
      case measure => simp [intOf]; omega
    · obtain rfl : k = n := by omega
      have q1 : ¬ (k : Int) < (k : Int) := by omega
      go_wp2_with fail
      go_ret
      have h1 := HO.out
      have h2 := HM.out
      rw [List.drop_of_length_le (by rw [HL.out]; exact Nat.le_refl _), List.append_nil] at h1
      rw [List.take_of_length_le (by rw [HL.out]; exact Nat.le_refl _)] at h2
      exact ⟨A1, c1, rfl, N, h1, h2, HN.out, HLR.out⟩

end Go.Proofs.Ytlgnnmpfipmjeaa
/-
  chest: Peek.
-/
namespace Go.Proofs.Ytlgnnmpfipmjeaa
open Go.RowKit
set_option linter.unusedVariables false
set_option linter.unusedSimpArgs false
def peekV (L : List BV) (version most : Nat) : List BV := (L.filter fun x => decide (version < x.ver)).take most
def peekB (L : List BP) (version most : Nat) : List BP := (L.filter fun x => decide (version < x.ver)).take most
theorem peek_abs (L : List BV) (version most : Nat) : (peekV L version most).map BV.bp = peekB (L.map BV.bp) version most := by
  unfold peekV peekB
  rw [List.map_take, List.filter_map]
  rfl
theorem peek_next {L : List BV} {k version most : Nat} {x : BV} (hx : L[k]? = some x) : peekV (L.take (k + 1)) version most = if version < x.ver ∧ (peekV (L.take k) version most).length < most then peekV (L.take k) version most ++ [x] else peekV (L.take k) version most := by
  have e : L.take (k + 1) = L.take k ++ [x] := by rw [List.take_add_one, hx]; rfl
  unfold peekV
  rw [e, List.filter_append, List.take_append]
  by_cases h1 : version < x.ver
  · simp only [List.filter_cons, h1, decide_true, if_true, List.filter_nil, true_and, List.length_take]
    by_cases h2 : ((L.take k).filter fun x => decide (version < x.ver)).length < most
    · rw [if_pos (by omega), List.take_of_length_le (l := [x]) (by simp; omega)]
    · rw [if_neg (by omega), show most - ((L.take k).filter fun x => decide (version < x.ver)).length = 0 by omega]; simp
  · simp [List.filter_cons, h1]
theorem peek_len (L : List BV) (version most : Nat) : (peekV L version most).length ≤ L.length := by
  unfold peekV; rw [List.length_take]; have := List.length_filter_le (fun x : BV => decide (version < x.ver)) L; omega
theorem peek_mem {L : List BV} {version most : Nat} {x : BV} (h : x ∈ peekV L version most) : x ∈ L := (List.mem_filter.1 (List.mem_of_mem_take h)).1
set_option maxHeartbeats 8000000 in
set_option maxRecDepth 100000 in
theorem peek_any {w : World} {F : Nat → Prop} {c used room lock : Nat} {S : LB} (h : ChS w F c used room lock S) (he1 : 1 ≤ S.epoch) (version most : Nat) (hv : S.gone ≤ version) (hv2 : version < 1000000000000000) (hm : most ≤ 1000) :
    Calls Try.prog 9 #[.pointer (some ⟨c, 0, none⟩), .int .i64 S.epoch, .int .i64 version, .int .i64 most] w fun e w' => ∃ A' c' n L', e = .returned (.tuple #[.slice A' n c', .int .i64 S.known, .int .i64 0]) ∧ L'.length = n ∧ w'.ownsRow w.heap.size 34 4 (.slice A' n c') n (brow L') ∧ L'.map BV.bp = peekB S.list version most ∧ (∀ x ∈ L', BvOk w' x) ∧ Later w w' := by
  obtain ⟨B, b, t, v, vr, g, cap, p, v1, v2, L, h1, h2, h3, h4⟩ := h
  subst h4
  obtain ⟨W0, hW0⟩ : ∃ W0, W0 = w.alloc (.cells #[.int .i64 version, .int .i64 most] 3) := ⟨_, rfl⟩
  have HW := hide_ hW0.symm
  have HL0 := hide_ (show Later w W0 by rw [hW0]; exact later_alloc _ _)
  have hch := h1.later HL0.out
  have HR := hide_ (ready_any (cc := 2) hch.b L.epoch he1 (A := some ⟨w.heap.size, 0, none⟩) (n := 2) (L := [version, most]) (by rw [hW0]; exact Rd.fresh2 rfl) rfl (by omega))
  have HF := hide_ (find_1 hch L.epoch)
  rw [if_pos rfl] at HF
  obtain ⟨A2, c2, hv2'⟩ := own_form hch.log.own2
  subst hv2'
  have hlr := hch.log.row
  simp only [logRow] at hlr
  obtain ⟨m, hmm⟩ : ∃ m, m = L.list.length := ⟨_, rfl⟩
  have p2 := cell_of_row _ _ 2 _ _ (0, 0) hlr
  have p4 := cell_of_row _ _ 4 _ _ (0, 0) hlr
  rw [← hmm] at p4
  have HP5 := hide_ (cell_of_row _ _ 5 _ _ (0, 0) hlr)
  have q1 : ¬ (version : Int) < (L.gone : Int) := by have : L.abs.gone = L.gone := rfl; omega
  have q1n : ¬ version < L.gone := by have : L.abs.gone = L.gone := rfl; omega
  have hm24 : m ≤ 24 := by rw [hmm]; exact hch.log.n2
  have hmi : (m : Int) ≤ 24 := by omega
  have HMM := hide_ hmm
  have HRD := hide_ (show Rd W0 4 A2 m (brow L.list) from by rw [hmm]; exact Rd.of_own hch.log.own2)
  have HOK := hide_ hch.log.ok2
  have hvi : (version : Int) < 1000000000000000 := by omega
  have hmo : (most : Int) ≤ 1000 := by omega
  rw [show L.abs.epoch = L.epoch from rfl, show L.abs.known = L.known from rfl]
  rw [show L.abs.list = L.list.map BV.bp from rfl, ← peek_abs]
  clear h1 h2 h3 he1 hv hv2 hm hch hlr hW0 hmm
  go_enter Try.func9, Try.ntmps9
  go_wp2_with (rw [HW.out])
  refine HR.out.mono ?_; rintro e w1 ⟨rfl, rfl⟩
  go_wp2_with fail
  refine HF.out.mono ?_; rintro e w2 ⟨rfl, rfl⟩
  go_wp2_with fail
  go_loopw [8, 42] (fun s8 s42 wr => ∃ (k n8 : Nat) (A8 : Option Addr) (c8 : Nat), k ≤ m ∧ s42 = .int .i64 k ∧ s8 = .slice A8 n8 c8 ∧ n8 ≤ 24 ∧ Hid ((peekV (L.list.take k) version most).length = n8) ∧ Hid (wr.ownsRow w2.heap.size 34 4 (.slice A8 n8 c8) n8 (brow (peekV (L.list.take k) version most))) ∧ Hid (Later w2 wr)) (fun _ s _ => m - (intOf s).toNat)
  case atStart => exact ⟨0, 0, none, 0, Nat.zero_le _, rfl, rfl, by omega, hide_ (by simp [peekV]), hide_ (by simpa [peekV, brow] using World.ownsRow_nil w2 w2.heap.size 34 4), Later.refl _⟩
  case round =>
    obtain ⟨k, n8, A8, c8, hkm, rfl, rfl, hn8, HN8, HO8, HLR⟩ := hrel
    by_cases hlt : k < m
    · obtain ⟨x, hx⟩ : ∃ x, L.list[k]? = some x := ⟨_, List.getElem?_eq_getElem (by rw [← HMM.out]; exact hlt)⟩
      obtain ⟨bb, oo, rfl, l0, l1, l2, l3⟩ := (HRD.out.below HLR.out).bat hx
      have HNX := hide_ (peek_next (version := version) (most := most) hx)
      have HPL := hide_ (peek_len (L.list.take (k + 1)) version most)
      have r1 : (k : Int) < (m : Int) := by omega
      have r2 : (0 : Int) ≤ (k : Int) := by omega
      have hbx := heap_alloc_new wr (.cells #[.int .i64 x.prev, .int .i64 x.ver, .int .i64 x.known, .slice x.A x.n x.c] 34)
      clear hx
      by_cases hc1 : version < x.ver
      · have r3 : (version : Int) < (x.ver : Int) := by omega
        by_cases hc2 : n8 < most
        · have r4 : (n8 : Int) < (most : Int) := by omega
          rw [HN8.out, if_pos ⟨hc1, hc2⟩] at HNX
          have HRX := hide_ (show Rd ((wr.alloc (.cells #[.int .i64 x.prev, .int .i64 x.ver, .int .i64 x.known, .slice x.A x.n x.c] 34)).alloc (.cells #[.int .i64 x.prev, .int .i64 x.ver, .int .i64 x.known, .slice x.A x.n x.c] 34)) 4 (some ⟨wr.heap.size + 1, 0, none⟩) 1 (encV x) from Rd.newAt _ #[.int .i64 x.prev, .int .i64 x.ver, .int .i64 x.known, .slice x.A x.n x.c] 34 1 4 _ (0, 0) rfl (by simp))
          have HLE := hide_ (show n8 + 1 ≤ 24 by
            have h := HPL.out; rw [HNX.out, List.length_append, HN8.out, List.length_take] at h; simp at h; omega)
          clear hbx
          go_wp2_with (at_builtin; refine wpList_append_rd _ rfl (.tmp 56) (.tmp 58) 31 rfl w2.heap.size 34 4 48 batT (.slice A8 n8 c8) n8 (brow (peekV (L.list.take k) version most)) rfl ?c1 (some ⟨wr.heap.size + 1, 0, none⟩) 1 1 (encV x) rfl ?c2 (encV_one _) (by omega) (by unfold maxLen; omega) ?c6 (fun h => by cases h) ?c8)
          case c1 => exact own_below HO8.out ((later_alloc _ _).al _)
          case c2 => exact HRX.out
          case c6 => have h1 := HLR.out.size; simp; omega
          case c8 =>
            intro v9 w9 hown hg hat
            obtain ⟨A9, c9, hv9⟩ := own_form hown
            subst hv9
            have HO9 := hide_ (show w9.ownsRow w2.heap.size 34 4 (.slice A9 (n8 + 1) c9) (n8 + 1) (brow (peekV (L.list.take (k + 1)) version most)) from by rw [HNX.out, brow_snoc]; exact hown)
            have HN9 := hide_ (show (peekV (L.list.take (k + 1)) version most).length = n8 + 1 by rw [HNX.out, List.length_append, HN8.out]; rfl)
            have HL9 := hide_ (show Later w2 w9 from own_grown ((HLR.out.al _).al _) (own_below HO8.out ((later_alloc _ _).al _)) hg (by have h1 := HLR.out.size; simp; omega))
            clear hown hg hat
            go_wp2_with fail
            go_roundw
            case rel => exact ⟨k + 1, n8 + 1, A9, c9, by omega, by go_num, rfl, HLE.out, HN9, HO9, HL9⟩
            case measure => simp [intOf]; omega
        · have r4 : ¬ (n8 : Int) < (most : Int) := by omega
          rw [HN8.out, if_neg (fun h => hc2 h.2)] at HNX
          clear hbx
          go_wp2_with fail
          go_roundw
          case rel => exact ⟨k + 1, n8, A8, c8, by omega, by go_num, rfl, hn8, by rw [HNX.out]; exact HN8, by rw [HNX.out]; exact own_below HO8.out (later_alloc _ _), HLR.out.al _⟩
          case measure => simp [intOf]; omega
      · have r3 : ¬ (version : Int) < (x.ver : Int) := by omega
        rw [HN8.out, if_neg (fun h => hc1 h.1)] at HNX
        clear hbx
        go_wp2_with fail
        go_roundw
        case rel => exact ⟨k + 1, n8, A8, c8, by omega, by go_num, rfl, hn8, by rw [HNX.out]; exact HN8, by rw [HNX.out]; exact own_below HO8.out (later_alloc _ _), HLR.out.al _⟩
        case measure => simp [intOf]; omega
    · obtain rfl : k = m := by omega
      have r1 : ¬ (k : Int) < (k : Int) := by omega
      have htk : L.list.take k = L.list := by rw [List.take_of_length_le]; rw [HMM.out]; exact Nat.le_refl _
      rw [htk] at HN8 HO8
      have HCL := hide_ (fun (W : World) (hW : Later wr W) => cclone_any (c := c8) ((Rd.of_own HO8.out).below hW) HN8.out (by omega) (fun x hx => ((HOK.out x (peek_mem hx)).later HLR.out).later hW))
      have e5 : ∀ W, Later wr.drew W → W.cell? ⟨p, 5, none⟩ = some (.int .i64 L.known) := later_drew_cell (later_cell HP5.out _ HLR.out)
      clear htk
      go_wp2_with fail
      refine wp_region_k (by kernel_rfl) ?_
      refine wpAnyK_take 0 (v := ?_) rfl (by kernel_rfl) (by kernel_rfl) (by kernel_rfl) (fun _ _ _ h => h) (by rfl) (by intro W hSw; go_simp; with_reducible rfl) ?_; try simp only [Act.put, List.setIfInBounds_toArray, List.set_cons_zero, List.set_cons_succ]
      refine wpAnyK_take 2 (v := ?_) rfl (by kernel_rfl) (by kernel_rfl) (by kernel_rfl) (fun _ _ _ h => h) (by rfl) (by intro W hSw; go_simp; with_reducible rfl) ?_; try simp only [Act.put, List.setIfInBounds_toArray, List.set_cons_zero, List.set_cons_succ]
      refine wpAnyK_take 3 (v := ?_) rfl (by kernel_rfl) (by kernel_rfl) (by kernel_rfl) (fun _ _ _ h => h) (by rfl) (by intro W hSw; go_simp; with_reducible rfl) ?_; try simp only [Act.put, List.setIfInBounds_toArray, List.set_cons_zero, List.set_cons_succ]
      refine wpAnyK_take 4 (v := ?_) rfl (by kernel_rfl) (by kernel_rfl) (by kernel_rfl) (fun _ _ _ h => h) (by rfl) (by intro W hSw; go_simp; with_reducible rfl) ?_; try simp only [Act.put, List.setIfInBounds_toArray, List.set_cons_zero, List.set_cons_succ]
      refine wpAnyK_take 5 (v := ?_) rfl (by kernel_rfl) (by kernel_rfl) (by kernel_rfl) (fun _ _ _ h => h) (by rfl) (by intro W hSw; go_simp; with_reducible rfl) ?_; try simp only [Act.put, List.setIfInBounds_toArray, List.set_cons_zero, List.set_cons_succ]
      refine wpAnyK_one 1 (by kernel_rfl) rfl (fun K hK => ?_)
      go_simp
      refine (HCL.out _ (Later.refl _).dr).mono ?_; rintro e w4 ⟨A4, c4, L4, rfl, ho4, hm4, hok4, hb4⟩
      refine hK.out _ _ (by assumption) ?_
      clear hK K; try simp only [Act.put, List.setIfInBounds_toArray, List.set_cons_zero, List.set_cons_succ]
      refine wpAnyK_take 6 (v := ?_) rfl (by kernel_rfl) (by kernel_rfl) (by kernel_rfl) (fun _ _ _ h => h) (by rfl) (by intro W hSw; go_simp; with_reducible rfl) ?_; try simp only [Act.put, List.setIfInBounds_toArray, List.set_cons_zero, List.set_cons_succ]
      refine wpAnyK_take 7 (v := ?_) rfl (by kernel_rfl) (by kernel_rfl) (by kernel_rfl) (fun _ _ _ h => h) (by rfl) (by intro W hSw; go_simp; with_reducible rfl) ?_; try simp only [Act.put, List.setIfInBounds_toArray, List.set_cons_zero, List.set_cons_succ]
      refine wpAnyK_take 8 (v := ?_) rfl (by kernel_rfl) (by kernel_rfl) (by kernel_rfl) (fun _ _ _ h => h) (by rfl) (by intro W hSw; go_simp; with_reducible rfl) ?_; try simp only [Act.put, List.setIfInBounds_toArray, List.set_cons_zero, List.set_cons_succ]
      refine wpAnyK_done (by kernel_rfl) ?_ _
      have HO4 := hide_ (own_base ho4 (show w.heap.size ≤ wr.drew.heap.size from Nat.le_trans HL0.out.size HLR.out.size))
      have HM4 := hide_ hm4; have HK4 := hide_ hok4
      have HL4 := hide_ (show Later w w4 from (HL0.out.trans HLR.out.dr).trans hb4)
      have HN4 := hide_ (show L4.length = n8 by have := congrArg List.length hm4; rw [List.length_map, List.length_map, HN8.out] at this; exact this)
      clear ho4 hm4 hok4 hb4 e5 HCL
      go_wp2_with fail
      go_ret3
      exact ⟨A4, c4, n8, L4, rfl, HN4.out, HO4.out, HM4.out, HK4.out, HL4.out⟩

end Go.Proofs.Ytlgnnmpfipmjeaa
