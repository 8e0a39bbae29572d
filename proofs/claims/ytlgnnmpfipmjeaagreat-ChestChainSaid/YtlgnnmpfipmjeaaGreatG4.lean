/-
  Texts of this seat in one: Ch15, Ch16, Ch17, Ch18.
-/
import Derived.Test.YtlgnnmpfipmjeaaGreatG3
import Derived.Test.YtlgnnmpfipmjeaaGreatZkZone
/-
  chest: clones of batches.
-/
namespace Go.Proofs.YtlgnnmpfipmjeaaGreat
open Go.RowKit
set_option linter.unusedVariables false
set_option linter.unusedSimpArgs false
theorem brow_set3 (N R : List BV) (x : BV) (A : Option Addr) (c k : Nat) (hk : N.length = k) : (brow (N ++ x :: R)).set (k * 4 + 3) (.slice A x.n c) = brow (N ++ { x with A := A, c := c } :: R) := by
  have h1 : (brow N).length = k * 4 := by rw [brow_len, hk]
  have e1 : brow (N ++ x :: R) = brow N ++ (encV x ++ brow R) := by unfold brow; rw [List.flatMap_append, List.flatMap_cons]
  have e2 : brow (N ++ { x with A := A, c := c } :: R) = brow N ++ (encV { x with A := A, c := c } ++ brow R) := by unfold brow; rw [List.flatMap_append, List.flatMap_cons]
  rw [e1, e2, List.set_append_right _ _ (by omega), h1, Nat.add_sub_cancel_left, List.set_append_left _ _ (by rw [encV_len]; omega)]
  rfl
set_option maxHeartbeats 8000000 in
set_option maxRecDepth 100000 in
theorem cclone_new {w : World} {A : Option Addr} {n c : Nat} {L : List BV} (hr : Rd w 4 A n (brow L)) (hl : L.length = n) (hn : n ≤ 100) (hok : ∀ x ∈ L, BvOk w x) :
    Calls Tryz.prog 32 #[.slice A n c] w fun e w' => ∃ A' c' L', e = .returned (.slice A' n c') ∧ w'.ownsRow w.heap.size 38 4 (.slice A' n c') n (brow L') ∧ L'.map BV.bp = L.map BV.bp ∧ (∀ x ∈ L', BvOk w' x) ∧ (∀ x ∈ L', ∀ a : Addr, x.A = some a → w.heap.size ≤ a.block) ∧ Later w w' := by
  have HC := hide_ (btClone_any (c := c) hr hl (by omega))
  have HL := hide_ hl; have HOK := hide_ hok
  have hn2 : (n : Int) ≤ 100 := by omega
  clear hr hl hok
  go_enter Tryz.func32, Tryz.ntmps32
  go_wp2_with fail
  refine HC.out.mono ?_; rintro e w1 ⟨A1, c1, rfl, ho1, hl1⟩
  have HO1 := hide_ ho1; have HL1 := hide_ hl1
  clear ho1 hl1
  go_wp2_with fail
  go_loopw [9] (fun s9 wr => ∃ (k : Nat) (N : List BV), k ≤ n ∧ s9 = .int .i64 k ∧ Hid (N.length = k) ∧ Hid (N.map BV.bp = (L.take k).map BV.bp) ∧ Hid (∀ x ∈ N, BvOk wr x) ∧ Hid (∀ x ∈ N, ∀ a : Addr, x.A = some a → w.heap.size ≤ a.block) ∧ Hid (wr.ownsRow w.heap.size 38 4 (.slice A1 n c1) n (brow (N ++ L.drop k))) ∧ Hid (Later w wr)) (fun i _ => n - (intOf i).toNat)
  case atStart => exact ⟨0, [], Nat.zero_le _, rfl, hide_ rfl, hide_ rfl, hide_ (fun x hx => by cases hx), hide_ (fun x hx => by cases hx), by simpa using HO1, HL1⟩
  case round =>
    obtain ⟨k, N, hkn, rfl, HK, HM, HN, HNA, HO, HLR⟩ := hrel
    by_cases hlt : k < n
    · obtain ⟨x, hx⟩ : ∃ x, L[k]? = some x := ⟨_, List.getElem?_eq_getElem (by rw [HL.out]; exact hlt)⟩
      have hd : L.drop k = x :: L.drop (k + 1) := by
        have e := List.getElem?_eq_some_iff.1 hx
        rw [List.drop_eq_getElem_cons e.1, e.2]
      have HX := hide_ ((HOK.out x (List.mem_of_getElem? hx)).later HLR.out)
      have ho := HO.out
      rw [hd] at ho
      have hg : (N ++ x :: L.drop (k + 1))[k]? = some x := by rw [List.getElem?_append_right (by rw [HK.out]; exact Nat.le_refl _), HK.out, Nat.sub_self]; rfl
      obtain ⟨b, o, hA, l0, l1, l2, l3⟩ := (Rd.of_own ho).bat hg
      subst hA
      obtain ⟨g1, cap1, hv, _, _⟩ := ho.form (by omega)
      have hbo : b = g1 ∧ o = 0 := by injection hv with hv; injection hv with hv; injection hv with h1 h2; exact ⟨h1, h2⟩
      obtain ⟨rfl, rfl⟩ := hbo
      simp only [Nat.zero_add] at l3
      have HTK := hide_ (show L.take (k + 1) = L.take k ++ [x] by rw [List.take_add_one, hx]; rfl)
      have q1 : (k : Int) < (n : Int) := by omega
      have q2 : (0 : Int) ≤ (k : Int) := by omega
      have q3 : (k : Int) ≤ 100 := by omega
      have HCC := hide_ (chClone_any (c := x.c) HX.out.rd HX.out.len (by rw [← HX.out.len]; exact HX.out.ok.len))
      have HO2 := hide_ ho
      clear hx hd ho hg hv l0 l1 l2
      go_wp2_with fail
      refine HCC.out.mono ?_; rintro e w3 ⟨A3, c3, rfl, ho3, hl3⟩
      have ho4 := own_below HO2.out hl3
      obtain ⟨cur, hBg, hg3, hnc3, hcm3, hcs3, htk3⟩ := own_row ho4
      have k3 := later_cell l3 _ hl3
      have f3 := frozen_of_row w3 b (k * 4 + 3) _ _ hg3
      obtain ⟨W4, hW4⟩ : ∃ W4, W4 = w3.setCell ⟨b, k * 4 + 3, none⟩ (.slice A3 x.n c3) := ⟨_, rfl⟩
      have HW4 := hide_ hW4.symm
      have hh4 : Hits (· = b) w3 W4 := by rw [hW4]; exact (Hits.refl (· = b) w3).setCell (g := b) (fun _ => rfl) _ _
      have HO4 := hide_ (show W4.ownsRow w.heap.size 38 4 (.slice (some ⟨b, 0, none⟩) n c1) n (brow ((N ++ [{ x with A := A3, c := c3 }]) ++ L.drop (k + 1))) from by
        have h := own_setCell ho4 (k * 4 + 3) (.slice A3 x.n c3)
        rw [brow_set3 _ _ _ _ _ _ HK.out] at h
        rw [hW4, List.append_assoc]; exact h)
      have hnc : NoChg w3 (· = b) := fun k hk => by subst hk; exact ⟨_, _, _, hg3, by decide⟩
      have HX4 := hide_ (show ∀ y ∈ N ++ [{ x with A := A3, c := c3 }], BvOk W4 y from fun y hy => by
        rcases List.mem_append.1 hy with hy | hy
        · exact ((HN.out y hy).later hl3).hits hh4 hnc
        · rw [List.mem_singleton] at hy; subst hy
          refine BvOk.hits ⟨HX.out.len, Rd.of_own ho3, fun a ha => ?_, HX.out.ok⟩ hh4 hnc
          have ha : A3 = some a := ha
          subst ha
          rcases ho3.2 with ⟨hv, _⟩ | ⟨g, cap, cur, hv, _, hg, _⟩
          · cases hv
          · injection hv with hv; injection hv with hv; subst hv; exact ⟨_, _, hg⟩)
      have HNA4 := hide_ (show ∀ y ∈ N ++ [{ x with A := A3, c := c3 }], ∀ a : Addr, y.A = some a → w.heap.size ≤ a.block from fun y hy a ha => by
        rcases List.mem_append.1 hy with hy | hy
        · exact HNA.out y hy a ha
        · rw [List.mem_singleton] at hy; subst hy
          have ha : A3 = some a := ha
          subst ha
          rcases ho3.2 with ⟨hv, _⟩ | ⟨g, cap, cur, hv, hb3, _, _⟩
          · cases hv
          · injection hv with hv; injection hv with hv; subst hv; exact Nat.le_trans HLR.out.size hb3)
      have HL4 := hide_ (show Later w W4 from Below.trans (HLR.out.trans hl3) (hh4.below (B := w.heap.size) (HLR.out.trans hl3).size (fun k hk => by subst hk; exact hBg)))
      have HM4 := hide_ (show (N ++ [{ x with A := A3, c := c3 }]).map BV.bp = (L.take (k + 1)).map BV.bp from by rw [HTK.out, List.map_append, List.map_append, HM.out]; rfl)
      have HK4 := hide_ (show (N ++ [{ x with A := A3, c := c3 }]).length = k + 1 from by rw [List.length_append, HK.out]; rfl)
      clear ho3 hl3 ho4 hBg hg3 hnc3 hcm3 hcs3 htk3 hW4 hh4 hnc l3 HCC
      go_wp2_with (rw [HW4.out])
      go_roundw
      case rel => exact ⟨k + 1, N ++ [{ x with A := A3, c := c3 }], by omega, by go_num, HK4, HM4, HX4, HNA4, HO4, HL4⟩
      case measure => simp [intOf]; omega
    · obtain rfl : k = n := by omega
      have q1 : ¬ (k : Int) < (k : Int) := by omega
      go_wp2_with fail
      go_ret
      have h1 := HO.out
      have h2 := HM.out
      rw [List.drop_of_length_le (by rw [HL.out]; exact Nat.le_refl _), List.append_nil] at h1
      rw [List.take_of_length_le (by rw [HL.out]; exact Nat.le_refl _)] at h2
      exact ⟨A1, c1, rfl, N, h1, h2, HN.out, HNA.out, HLR.out⟩
theorem cclone_any {w : World} {A : Option Addr} {n c : Nat} {L : List BV} (hr : Rd w 4 A n (brow L)) (hl : L.length = n) (hn : n ≤ 100) (hok : ∀ x ∈ L, BvOk w x) :
    Calls Tryz.prog 32 #[.slice A n c] w fun e w' => ∃ A' c' L', e = .returned (.slice A' n c') ∧ w'.ownsRow w.heap.size 38 4 (.slice A' n c') n (brow L') ∧ L'.map BV.bp = L.map BV.bp ∧ (∀ x ∈ L', BvOk w' x) ∧ Later w w' := by
  refine (cclone_new hr hl hn hok).mono ?_
  rintro e w' ⟨A', c', L', rfl, h1, h2, h3, _, h4⟩
  exact ⟨A', c', L', rfl, h1, h2, h3, h4⟩

end Go.Proofs.YtlgnnmpfipmjeaaGreat
/-
  chest: Peek.
-/
namespace Go.Proofs.YtlgnnmpfipmjeaaGreat
open Go.RowKit
set_option linter.unusedVariables false
set_option linter.unusedSimpArgs false
def peekV (L : List BV) (version most : Nat) : List BV := (L.filter fun x => decide (version < x.ver)).take most
def peekB (L : List BP) (version most : Nat) : List BP := (L.filter fun x => decide (version < x.ver)).take most
theorem peek_abs (L : List BV) (version most : Nat) : (peekV L version most).map BV.bp = peekB (L.map BV.bp) version most := by
  unfold peekV peekB
  rw [List.map_take, List.filter_map]
  rfl
theorem peek_next {L : List BV} {k version most : Nat} {x : BV} (hx : L[k]? = some x) : peekV (L.take (k + 1)) version most = if version < x.ver ∧ (peekV (L.take k) version most).length < most then peekV (L.take k) version most ++ [x] else peekV (L.take k) version most := by
  have e : L.take (k + 1) = L.take k ++ [x] := by rw [List.take_add_one, hx]; rfl
  unfold peekV
  rw [e, List.filter_append, List.take_append]
  by_cases h1 : version < x.ver
  · simp only [List.filter_cons, h1, decide_true, if_true, List.filter_nil, true_and, List.length_take]
    by_cases h2 : ((L.take k).filter fun x => decide (version < x.ver)).length < most
    · rw [if_pos (by omega), List.take_of_length_le (l := [x]) (by simp; omega)]
    · rw [if_neg (by omega), show most - ((L.take k).filter fun x => decide (version < x.ver)).length = 0 by omega]; simp
  · simp [List.filter_cons, h1]
theorem peek_len (L : List BV) (version most : Nat) : (peekV L version most).length ≤ L.length := by
  unfold peekV; rw [List.length_take]; have := List.length_filter_le (fun x : BV => decide (version < x.ver)) L; omega
theorem peek_mem {L : List BV} {version most : Nat} {x : BV} (h : x ∈ peekV L version most) : x ∈ L := (List.mem_filter.1 (List.mem_of_mem_take h)).1
set_option maxHeartbeats 8000000 in
set_option maxRecDepth 100000 in
theorem peek_new {w : World} {F : Nat → Prop} {c used room lock : Nat} {S : LB} (h : ChS w F c used room lock S) (he1 : 1 ≤ S.epoch) (version most : Nat) (hv : S.gone ≤ version) (hv2 : version < 1000000000000000) (hm : most ≤ 1000) :
    Calls Tryz.prog 15 #[.pointer (some ⟨c, 0, none⟩), .int .i64 S.epoch, .int .i64 version, .int .i64 most] w fun e w' => ∃ A' c' n L', e = .returned (.tuple #[.slice A' n c', .int .i64 S.known, .int .i64 0]) ∧ L'.length = n ∧ w'.ownsRow w.heap.size 38 4 (.slice A' n c') n (brow L') ∧ L'.map BV.bp = peekB S.list version most ∧ (∀ x ∈ L', BvOk w' x) ∧ (∀ x ∈ L', ∀ a : Addr, x.A = some a → w.heap.size ≤ a.block) ∧ Later w w' := by
  obtain ⟨B, b, t, v, vr, g, cap, p, v1, v2, L, h1, h2, h3, h4⟩ := h
  subst h4
  obtain ⟨W0, hW0⟩ : ∃ W0, W0 = w.alloc (.cells #[.int .i64 version, .int .i64 most] 3) := ⟨_, rfl⟩
  have HW := hide_ hW0.symm
  have HL0 := hide_ (show Later w W0 by rw [hW0]; exact later_alloc _ _)
  have hch := h1.later HL0.out
  have HR := hide_ (ready_any (cc := 2) hch.b L.epoch he1 (A := some ⟨w.heap.size, 0, none⟩) (n := 2) (L := [version, most]) (by rw [hW0]; exact Rd.fresh2 rfl) rfl (by omega))
  have HF := hide_ (find_1 hch L.epoch)
  rw [if_pos rfl] at HF
  obtain ⟨A2, c2, hv2'⟩ := own_form hch.log.own2
  subst hv2'
  have hlr := hch.log.row
  simp only [logRow] at hlr
  obtain ⟨m, hmm⟩ : ∃ m, m = L.list.length := ⟨_, rfl⟩
  have p2 := cell_of_row _ _ 2 _ _ (0, 0) hlr
  have p4 := cell_of_row _ _ 4 _ _ (0, 0) hlr
  rw [← hmm] at p4
  have HP5 := hide_ (cell_of_row _ _ 5 _ _ (0, 0) hlr)
  have q1 : ¬ (version : Int) < (L.gone : Int) := by have : L.abs.gone = L.gone := rfl; omega
  have q1n : ¬ version < L.gone := by have : L.abs.gone = L.gone := rfl; omega
  have hm24 : m ≤ 24 := by rw [hmm]; exact hch.log.n2
  have hmi : (m : Int) ≤ 24 := by omega
  have HMM := hide_ hmm
  have HRD := hide_ (show Rd W0 4 A2 m (brow L.list) from by rw [hmm]; exact Rd.of_own hch.log.own2)
  have HOK := hide_ hch.log.ok2
  have hvi : (version : Int) < 1000000000000000 := by omega
  have hmo : (most : Int) ≤ 1000 := by omega
  rw [show L.abs.epoch = L.epoch from rfl, show L.abs.known = L.known from rfl]
  rw [show L.abs.list = L.list.map BV.bp from rfl, ← peek_abs]
  clear h1 h2 h3 he1 hv hv2 hm hch hlr hW0 hmm
  go_enter Tryz.func15, Tryz.ntmps15
  go_wp2_with (rw [HW.out])
  refine HR.out.mono ?_; rintro e w1 ⟨rfl, rfl⟩
  go_wp2_with fail
  refine HF.out.mono ?_; rintro e w2 ⟨rfl, rfl⟩
  go_wp2_with fail
  go_loopw [8, 42] (fun s8 s42 wr => ∃ (k n8 : Nat) (A8 : Option Addr) (c8 : Nat), k ≤ m ∧ s42 = .int .i64 k ∧ s8 = .slice A8 n8 c8 ∧ n8 ≤ 24 ∧ Hid ((peekV (L.list.take k) version most).length = n8) ∧ Hid (wr.ownsRow w2.heap.size 38 4 (.slice A8 n8 c8) n8 (brow (peekV (L.list.take k) version most))) ∧ Hid (Later w2 wr)) (fun _ s _ => m - (intOf s).toNat)
  case atStart => exact ⟨0, 0, none, 0, Nat.zero_le _, rfl, rfl, by omega, hide_ (by simp [peekV]), hide_ (by simpa [peekV, brow] using World.ownsRow_nil w2 w2.heap.size 38 4), Later.refl _⟩
  case round =>
    obtain ⟨k, n8, A8, c8, hkm, rfl, rfl, hn8, HN8, HO8, HLR⟩ := hrel
    by_cases hlt : k < m
    · obtain ⟨x, hx⟩ : ∃ x, L.list[k]? = some x := ⟨_, List.getElem?_eq_getElem (by rw [← HMM.out]; exact hlt)⟩
      obtain ⟨bb, oo, rfl, l0, l1, l2, l3⟩ := (HRD.out.below HLR.out).bat hx
      have HNX := hide_ (peek_next (version := version) (most := most) hx)
      have HPL := hide_ (peek_len (L.list.take (k + 1)) version most)
      have r1 : (k : Int) < (m : Int) := by omega
      have r2 : (0 : Int) ≤ (k : Int) := by omega
      have hbx := heap_alloc_new wr (.cells #[.int .i64 x.prev, .int .i64 x.ver, .int .i64 x.known, .slice x.A x.n x.c] 38)
      clear hx
      by_cases hc1 : version < x.ver
      · have r3 : (version : Int) < (x.ver : Int) := by omega
        by_cases hc2 : n8 < most
        · have r4 : (n8 : Int) < (most : Int) := by omega
          rw [HN8.out, if_pos ⟨hc1, hc2⟩] at HNX
          have HRX := hide_ (show Rd ((wr.alloc (.cells #[.int .i64 x.prev, .int .i64 x.ver, .int .i64 x.known, .slice x.A x.n x.c] 38)).alloc (.cells #[.int .i64 x.prev, .int .i64 x.ver, .int .i64 x.known, .slice x.A x.n x.c] 38)) 4 (some ⟨wr.heap.size + 1, 0, none⟩) 1 (encV x) from Rd.newAt _ #[.int .i64 x.prev, .int .i64 x.ver, .int .i64 x.known, .slice x.A x.n x.c] 38 1 4 _ (0, 0) rfl (by simp))
          have HLE := hide_ (show n8 + 1 ≤ 24 by
            have h := HPL.out; rw [HNX.out, List.length_append, HN8.out, List.length_take] at h; simp at h; omega)
          clear hbx
          go_wp2_with (at_builtin; refine wpList_append_rd _ rfl (.tmp 56) (.tmp 58) 31 rfl w2.heap.size 38 4 48 batT (.slice A8 n8 c8) n8 (brow (peekV (L.list.take k) version most)) rfl ?c1 (some ⟨wr.heap.size + 1, 0, none⟩) 1 1 (encV x) rfl ?c2 (encV_one _) (by omega) (by unfold maxLen; omega) ?c6 (fun h => by cases h) ?c8)
          case c1 => exact own_below HO8.out ((later_alloc _ _).al _)
          case c2 => exact HRX.out
          case c6 => have h1 := HLR.out.size; simp; omega
          case c8 =>
            intro v9 w9 hown hg hat
            obtain ⟨A9, c9, hv9⟩ := own_form hown
            subst hv9
            have HO9 := hide_ (show w9.ownsRow w2.heap.size 38 4 (.slice A9 (n8 + 1) c9) (n8 + 1) (brow (peekV (L.list.take (k + 1)) version most)) from by rw [HNX.out, brow_snoc]; exact hown)
            have HN9 := hide_ (show (peekV (L.list.take (k + 1)) version most).length = n8 + 1 by rw [HNX.out, List.length_append, HN8.out]; rfl)
            have HL9 := hide_ (show Later w2 w9 from own_grown ((HLR.out.al _).al _) (own_below HO8.out ((later_alloc _ _).al _)) hg (by have h1 := HLR.out.size; simp; omega))
            clear hown hg hat
            go_wp2_with fail
            go_roundw
            case rel => exact ⟨k + 1, n8 + 1, A9, c9, by omega, by go_num, rfl, HLE.out, HN9, HO9, HL9⟩
            case measure => simp [intOf]; omega
        · have r4 : ¬ (n8 : Int) < (most : Int) := by omega
          rw [HN8.out, if_neg (fun h => hc2 h.2)] at HNX
          clear hbx
          go_wp2_with fail
          go_roundw
          case rel => exact ⟨k + 1, n8, A8, c8, by omega, by go_num, rfl, hn8, by rw [HNX.out]; exact HN8, by rw [HNX.out]; exact own_below HO8.out (later_alloc _ _), HLR.out.al _⟩
          case measure => simp [intOf]; omega
      · have r3 : ¬ (version : Int) < (x.ver : Int) := by omega
        rw [HN8.out, if_neg (fun h => hc1 h.1)] at HNX
        clear hbx
        go_wp2_with fail
        go_roundw
        case rel => exact ⟨k + 1, n8, A8, c8, by omega, by go_num, rfl, hn8, by rw [HNX.out]; exact HN8, by rw [HNX.out]; exact own_below HO8.out (later_alloc _ _), HLR.out.al _⟩
        case measure => simp [intOf]; omega
    · obtain rfl : k = m := by omega
      have r1 : ¬ (k : Int) < (k : Int) := by omega
      have htk : L.list.take k = L.list := by rw [List.take_of_length_le]; rw [HMM.out]; exact Nat.le_refl _
      rw [htk] at HN8 HO8
      have HCL := hide_ (fun (W : World) (hW : Later wr W) => cclone_new (c := c8) ((Rd.of_own HO8.out).below hW) HN8.out (by omega) (fun x hx => ((HOK.out x (peek_mem hx)).later HLR.out).later hW))
      have e5 : ∀ W, Later wr.drew W → W.cell? ⟨p, 5, none⟩ = some (.int .i64 L.known) := later_drew_cell (later_cell HP5.out _ HLR.out)
      clear htk
      go_wp2_with fail
      refine wp_region_k (by kernel_rfl) ?_
      refine wpAnyK_take 0 (v := ?_) rfl (by kernel_rfl) (by kernel_rfl) (by kernel_rfl) (fun _ _ _ h => h) (by rfl) (by intro W hSw; go_simp; with_reducible rfl) ?_; try simp only [Act.put, List.setIfInBounds_toArray, List.set_cons_zero, List.set_cons_succ]
      refine wpAnyK_take 2 (v := ?_) rfl (by kernel_rfl) (by kernel_rfl) (by kernel_rfl) (fun _ _ _ h => h) (by rfl) (by intro W hSw; go_simp; with_reducible rfl) ?_; try simp only [Act.put, List.setIfInBounds_toArray, List.set_cons_zero, List.set_cons_succ]
      refine wpAnyK_take 3 (v := ?_) rfl (by kernel_rfl) (by kernel_rfl) (by kernel_rfl) (fun _ _ _ h => h) (by rfl) (by intro W hSw; go_simp; with_reducible rfl) ?_; try simp only [Act.put, List.setIfInBounds_toArray, List.set_cons_zero, List.set_cons_succ]
      refine wpAnyK_take 4 (v := ?_) rfl (by kernel_rfl) (by kernel_rfl) (by kernel_rfl) (fun _ _ _ h => h) (by rfl) (by intro W hSw; go_simp; with_reducible rfl) ?_; try simp only [Act.put, List.setIfInBounds_toArray, List.set_cons_zero, List.set_cons_succ]
      refine wpAnyK_take 5 (v := ?_) rfl (by kernel_rfl) (by kernel_rfl) (by kernel_rfl) (fun _ _ _ h => h) (by rfl) (by intro W hSw; go_simp; with_reducible rfl) ?_; try simp only [Act.put, List.setIfInBounds_toArray, List.set_cons_zero, List.set_cons_succ]
      refine wpAnyK_one 1 (by kernel_rfl) rfl (fun K hK => ?_)
      go_simp
      refine (HCL.out _ (Later.refl _).dr).mono ?_; rintro e w4 ⟨A4, c4, L4, rfl, ho4, hm4, hok4, hna4, hb4⟩
      refine hK.out _ _ (by assumption) ?_
      clear hK K; try simp only [Act.put, List.setIfInBounds_toArray, List.set_cons_zero, List.set_cons_succ]
      refine wpAnyK_take 6 (v := ?_) rfl (by kernel_rfl) (by kernel_rfl) (by kernel_rfl) (fun _ _ _ h => h) (by rfl) (by intro W hSw; go_simp; with_reducible rfl) ?_; try simp only [Act.put, List.setIfInBounds_toArray, List.set_cons_zero, List.set_cons_succ]
      refine wpAnyK_take 7 (v := ?_) rfl (by kernel_rfl) (by kernel_rfl) (by kernel_rfl) (fun _ _ _ h => h) (by rfl) (by intro W hSw; go_simp; with_reducible rfl) ?_; try simp only [Act.put, List.setIfInBounds_toArray, List.set_cons_zero, List.set_cons_succ]
      refine wpAnyK_take 8 (v := ?_) rfl (by kernel_rfl) (by kernel_rfl) (by kernel_rfl) (fun _ _ _ h => h) (by rfl) (by intro W hSw; go_simp; with_reducible rfl) ?_; try simp only [Act.put, List.setIfInBounds_toArray, List.set_cons_zero, List.set_cons_succ]
      refine wpAnyK_done (by kernel_rfl) ?_ _
      have HO4 := hide_ (own_base ho4 (show w.heap.size ≤ wr.drew.heap.size from Nat.le_trans HL0.out.size HLR.out.size))
      have HM4 := hide_ hm4; have HK4 := hide_ hok4
      have HNA4 := hide_ (show ∀ x ∈ L4, ∀ a : Addr, x.A = some a → w.heap.size ≤ a.block from fun x hx a ha => Nat.le_trans (Nat.le_trans HL0.out.size HLR.out.size) (hna4 x hx a ha))
      have HL4 := hide_ (show Later w w4 from (HL0.out.trans HLR.out.dr).trans hb4)
      have HN4 := hide_ (show L4.length = n8 by have := congrArg List.length hm4; rw [List.length_map, List.length_map, HN8.out] at this; exact this)
      clear ho4 hm4 hok4 hna4 hb4 e5 HCL
      go_wp2_with fail
      go_ret3
      exact ⟨A4, c4, n8, L4, rfl, HN4.out, HO4.out, HM4.out, HK4.out, HNA4.out, HL4.out⟩
theorem peek_any {w : World} {F : Nat → Prop} {c used room lock : Nat} {S : LB} (h : ChS w F c used room lock S) (he1 : 1 ≤ S.epoch) (version most : Nat) (hv : S.gone ≤ version) (hv2 : version < 1000000000000000) (hm : most ≤ 1000) :
    Calls Tryz.prog 15 #[.pointer (some ⟨c, 0, none⟩), .int .i64 S.epoch, .int .i64 version, .int .i64 most] w fun e w' => ∃ A' c' n L', e = .returned (.tuple #[.slice A' n c', .int .i64 S.known, .int .i64 0]) ∧ L'.length = n ∧ w'.ownsRow w.heap.size 38 4 (.slice A' n c') n (brow L') ∧ L'.map BV.bp = peekB S.list version most ∧ (∀ x ∈ L', BvOk w' x) ∧ Later w w' := by
  refine (peek_new h he1 version most hv hv2 hm).mono ?_
  rintro e w' ⟨A', c', n, L', rfl, h1, h2, h3, h4, _, h5⟩
  exact ⟨A', c', n, L', rfl, h1, h2, h3, h4, h5⟩

end Go.Proofs.YtlgnnmpfipmjeaaGreat
/-
  chest: Lock.
-/
namespace Go.Proofs.YtlgnnmpfipmjeaaGreat
open Go.RowKit
set_option linter.unusedVariables false
set_option linter.unusedSimpArgs false
def LockRes (w : World) (S : LB) (e : Ending) (w' : World) : Prop := ∃ A' c' n L', e = .returned (.tuple #[.int .i64 S.gone, .int .i64 S.known, .slice A' n c', .int .i64 0]) ∧ L'.length = n ∧ (∃ base, w.heap.size ≤ base ∧ w'.ownsRow base 38 4 (.slice A' n c') n (brow L')) ∧ L'.map BV.bp = S.list ∧ (∀ x ∈ L', BvOk w' x)
set_option maxHeartbeats 8000000 in
set_option maxRecDepth 100000 in
theorem lock_any {w : World} {F : Nat → Prop} {c used room lock : Nat} {S : LB} (h : ChS w F c used room lock S) (epoch : Nat) (hlk : lock < epoch) (he9 : epoch < 1000000000) (hr : room ≤ 1048576) (hfit : used + 100 ≤ room) :
    Calls Tryz.prog 11 #[.pointer (some ⟨c, 0, none⟩), .int .i64 epoch, .int .i64 S.epoch] w fun e w' => LockRes w S e w' ∧ ∃ F', ChS w' F' c (used + 100) room epoch S ∧ Hits F w w' ∧ Grown w F F' := by
  obtain ⟨B, b, t, v, vr, g, cap, p, v1, v2, L, h1, h2, h3, h4⟩ := h
  have HS4 := hide_ h4
  subst h4
  obtain ⟨W0, hW0⟩ : ∃ W0, W0 = w.alloc (.cells #[.int .i64 L.epoch] 3) := ⟨_, rfl⟩
  have HW := hide_ hW0.symm
  have HL0 := hide_ (show Later w W0 by rw [hW0]; exact later_alloc _ _)
  have HCH0 := hide_ (h1.later HL0.out)
  have HR := hide_ (ready_any (cc := 1) HCH0.out.b epoch (by omega) (A := some ⟨w.heap.size, 0, none⟩) (n := 1) (L := [L.epoch]) (by rw [hW0]; exact Rd.fresh1 rfl) rfl (by omega))
  have c2 := cell_of_row _ _ 2 _ _ (0, 0) HCH0.out.row
  have q1 : ¬ (epoch : Int) < (lock : Int) := by omega
  have q2 : (lock : Int) < (epoch : Int) := by omega
  have q1n : ¬ epoch < lock := by omega
  have q2n : lock < epoch := hlk
  have HRM := hide_ hr; have HFIT := hide_ hfit; have HE9 := hide_ he9; have HH := hide_ h1; have HF2 := hide_ h2; have HB3 := hide_ h3
  rw [show L.abs.epoch = L.epoch from rfl]
  clear h1 h2 h3 hr hfit he9 hW0
  go_enter Tryz.func11, Tryz.ntmps11
  go_wp2_with (rw [HW.out])
  refine HR.out.mono ?_; rintro e w1 ⟨rfl, rfl⟩
  have HRC := hide_ (record_any w1 3 epoch 0 (by omega) (by have := HE9.out; omega) (by omega))
  go_wp2_with fail
  refine HRC.out.mono ?_; rintro e w4 ⟨rfl, ⟨v4, hw4⟩, hl4⟩
  have HW4 := hide_ (show WrAt w4 w1.heap.size w1.heap.size v4 (recH 3 epoch 0, 0) from hw4)
  have HL4 := hide_ (HL0.out.trans hl4)
  have HCH4 := hide_ (HH.out.later HL4.out)
  have HWS := hide_ (show w.heap.size ≤ w1.heap.size from HL0.out.size)
  clear hw4 hl4 c2
  obtain ⟨n, hn⟩ : ∃ n, (recH 3 epoch 0).length = n := ⟨_, rfl⟩
  have hn12 : 0 < n ∧ n ≤ 27 := by rw [← hn]; have := recH_len (k := 3) (e := epoch) (n := 0) (by omega) HE9.out (by omega); omega
  have HPUT := hide_ (cput_any HW4.out hn hn12.1 (by omega) HCH4.out.row HCH4.out.book (by have := HL4.out.size; have := HB3.out; omega) HRM.out (by have := HFIT.out; omega) (fun k hk hf => by
      have h1 := (HW4.out.2.2.lt _ hk).1; have h2 := (HH.out.book.lt k hf).1; have := HWS.out; omega)
    (PutPost B c b t v vr g cap p v1 v2 (used + n + 7) room epoch (fun L' => L' = L) w)
    (fun w2 v' vr' a rc hbk hh hns1 hns2 hrd hrc1 hrc2 hty => by
      have hch := HCH4.out.setBook hh hbk
      refine (do_locked hch HE9.out hrd hn hrc1 hrc2 hty).mono ?_
      rintro e w' ⟨rfl, hch', hhl⟩
      refine ⟨rfl, v', vr', v2, _, rfl, hch', ?_, hns1.up HL4.out.size, hns2.up HL4.out.size, NS.refl _ _⟩
      exact (((Hits.later (F := cFp c b t v vr g p v2) HL4.out).trans hh (fun k _ h => .inr (.inr (.inl h))))).trans hhl (fun k _ h => .inl h)))
  clear hn
  go_wp2_with fail
  refine HPUT.out.mono ?_; rintro e w6 ⟨rfl, hpp⟩
  have hgr := hpp.grown (F := F) HH.out HF2.out HB3.out (S := L.abs) (fun L' e => by subst e; rfl) (fun L' e x hx => by subst e; exact .inl hx)
  obtain ⟨F', hcs6, hh6, hgr6⟩ := hgr
  obtain ⟨v', vr', v2', L', hL', hch', _⟩ := hpp
  subst hL'
  have HCS6 := hide_ hcs6; have HH6 := hide_ hh6; have HG6 := hide_ hgr6
  have HCH6 := hide_ hch'
  have HFD := hide_ (find_1 hch' L'.epoch)
  rw [if_pos rfl] at HFD
  clear hcs6 hh6 hgr6 hch' HPUT
  go_wp2_with fail
  refine HFD.out.mono ?_; rintro e w7 ⟨rfl, rfl⟩
  obtain ⟨A2, c2, hv2⟩ := own_form HCH6.out.log.own2
  subst hv2
  have hlr := HCH6.out.log.row
  simp only [logRow] at hlr
  have e2 : ∀ W, Later w7.drew W → W.cell? ⟨p, 2, none⟩ = some (.int .i64 L'.gone) := later_drew_cell (cell_of_row _ _ 2 _ _ (0, 0) hlr)
  have e4 : ∀ W, Later w7.drew W → W.cell? ⟨p, 4, none⟩ = some (.slice A2 L'.list.length c2) := later_drew_cell (cell_of_row _ _ 4 _ _ (0, 0) hlr)
  have e5 : ∀ W, Later w7.drew W → W.cell? ⟨p, 5, none⟩ = some (.int .i64 L'.known) := later_drew_cell (cell_of_row _ _ 5 _ _ (0, 0) hlr)
  have HCL := hide_ (fun (W : World) (hW : Later w7 W) => cclone_any (c := c2) ((Rd.of_own HCH6.out.log.own2).below hW) rfl (by have := HCH6.out.log.n2; omega) (fun x hx => (HCH6.out.log.ok2 x hx).later hW))
  clear hlr
  go_wp2_with fail
  refine wp_region_k (by kernel_rfl) ?_
  refine wpAnyK_take 0 (v := ?_) rfl (by kernel_rfl) (by kernel_rfl) (by kernel_rfl) (fun _ _ _ h => h) (by rfl) (by intro W hSw; go_simp; with_reducible rfl) ?_; try simp only [Act.put, List.setIfInBounds_toArray, List.set_cons_zero, List.set_cons_succ]
  refine wpAnyK_take 1 (v := ?_) rfl (by kernel_rfl) (by kernel_rfl) (by kernel_rfl) (fun _ _ _ h => h) (by rfl) (by intro W hSw; go_simp; with_reducible rfl) ?_; try simp only [Act.put, List.setIfInBounds_toArray, List.set_cons_zero, List.set_cons_succ]
  refine wpAnyK_take 2 (v := ?_) rfl (by kernel_rfl) (by kernel_rfl) (by kernel_rfl) (fun _ _ _ h => h) (by rfl) (by intro W hSw; go_simp; with_reducible rfl) ?_; try simp only [Act.put, List.setIfInBounds_toArray, List.set_cons_zero, List.set_cons_succ]
  refine wpAnyK_take 3 (v := ?_) rfl (by kernel_rfl) (by kernel_rfl) (by kernel_rfl) (fun _ _ _ h => h) (by rfl) (by intro W hSw; go_simp; with_reducible rfl) ?_; try simp only [Act.put, List.setIfInBounds_toArray, List.set_cons_zero, List.set_cons_succ]
  refine wpAnyK_take 4 (v := ?_) rfl (by kernel_rfl) (by kernel_rfl) (by kernel_rfl) (fun _ _ _ h => h) (by rfl) (by intro W hSw; go_simp; with_reducible rfl) ?_; try simp only [Act.put, List.setIfInBounds_toArray, List.set_cons_zero, List.set_cons_succ]
  refine wpAnyK_take 5 (v := ?_) rfl (by kernel_rfl) (by kernel_rfl) (by kernel_rfl) (fun _ _ _ h => h) (by rfl) (by intro W hSw; go_simp; with_reducible rfl) ?_; try simp only [Act.put, List.setIfInBounds_toArray, List.set_cons_zero, List.set_cons_succ]
  refine wpAnyK_take 6 (v := ?_) rfl (by kernel_rfl) (by kernel_rfl) (by kernel_rfl) (fun _ _ _ h => h) (by rfl) (by intro W hSw; go_simp; with_reducible rfl) ?_; try simp only [Act.put, List.setIfInBounds_toArray, List.set_cons_zero, List.set_cons_succ]
  refine wpAnyK_take 7 (v := ?_) rfl (by kernel_rfl) (by kernel_rfl) (by kernel_rfl) (fun _ _ _ h => h) (by rfl) (by intro W hSw; go_simp; with_reducible rfl) ?_; try simp only [Act.put, List.setIfInBounds_toArray, List.set_cons_zero, List.set_cons_succ]
  refine wpAnyK_take 8 (v := ?_) rfl (by kernel_rfl) (by kernel_rfl) (by kernel_rfl) (fun _ _ _ h => h) (by rfl) (by intro W hSw; go_simp; with_reducible rfl) ?_; try simp only [Act.put, List.setIfInBounds_toArray, List.set_cons_zero, List.set_cons_succ]
  refine wpAnyK_take 9 (v := ?_) rfl (by kernel_rfl) (by kernel_rfl) (by kernel_rfl) (fun _ _ _ h => h) (by rfl) (by intro W hSw; go_simp; with_reducible rfl) ?_; try simp only [Act.put, List.setIfInBounds_toArray, List.set_cons_zero, List.set_cons_succ]
  refine wpAnyK_take 10 (v := ?_) rfl (by kernel_rfl) (by kernel_rfl) (by kernel_rfl) (fun _ _ _ h => h) (by rfl) (by intro W hSw; go_simp; with_reducible rfl) ?_; try simp only [Act.put, List.setIfInBounds_toArray, List.set_cons_zero, List.set_cons_succ]
  refine wpAnyK_take 11 (v := ?_) rfl (by kernel_rfl) (by kernel_rfl) (by kernel_rfl) (fun _ _ _ h => h) (by rfl) (by intro W hSw; go_simp; with_reducible rfl) ?_; try simp only [Act.put, List.setIfInBounds_toArray, List.set_cons_zero, List.set_cons_succ]
  refine wpAnyK_one 12 (by kernel_rfl) rfl (fun K hK => ?_)
  go_simp
  refine (HCL.out _ (Later.refl _).dr).mono ?_; rintro e w8 ⟨A8, c8, L8, rfl, ho8, hm8, hok8, hb8⟩
  refine hK.out _ _ (by assumption) ?_
  clear hK K; try simp only [Act.put, List.setIfInBounds_toArray, List.set_cons_zero, List.set_cons_succ]
  refine wpAnyK_take 13 (v := ?_) rfl (by kernel_rfl) (by kernel_rfl) (by kernel_rfl) (fun _ _ _ h => h) (by rfl) (by intro W hSw; go_simp; with_reducible rfl) ?_; try simp only [Act.put, List.setIfInBounds_toArray, List.set_cons_zero, List.set_cons_succ]
  refine wpAnyK_take 14 (v := ?_) rfl (by kernel_rfl) (by kernel_rfl) (by kernel_rfl) (fun _ _ _ h => h) (by rfl) (by intro W hSw; go_simp; with_reducible rfl) ?_; try simp only [Act.put, List.setIfInBounds_toArray, List.set_cons_zero, List.set_cons_succ]
  refine wpAnyK_take 15 (v := ?_) rfl (by kernel_rfl) (by kernel_rfl) (by kernel_rfl) (fun _ _ _ h => h) (by rfl) (by intro W hSw; go_simp; with_reducible rfl) ?_; try simp only [Act.put, List.setIfInBounds_toArray, List.set_cons_zero, List.set_cons_succ]
  refine wpAnyK_take 16 (v := ?_) rfl (by kernel_rfl) (by kernel_rfl) (by kernel_rfl) (fun _ _ _ h => h) (by rfl) (by intro W hSw; go_simp; with_reducible rfl) ?_; try simp only [Act.put, List.setIfInBounds_toArray, List.set_cons_zero, List.set_cons_succ]
  refine wpAnyK_done (by kernel_rfl) ?_ _
  have HO8 := hide_ (show ∃ base, w.heap.size ≤ base ∧ w8.ownsRow base 38 4 (.slice A8 L'.list.length c8) L'.list.length (brow L8) from ⟨w7.drew.heap.size, HH6.out.size, ho8⟩)
  have HM8 := hide_ hm8; have HK8 := hide_ hok8
  have HL8 := hide_ (show Later w7 w8 from (Later.refl w7).dr.trans hb8)
  have HN8 := hide_ (show L8.length = L'.list.length by have := congrArg List.length hm8; rw [List.length_map, List.length_map] at this; exact this)
  clear ho8 hm8 hok8 hb8 e2 e4 e5 HCL
  go_wp2_with fail
  go_returns
  exact ⟨⟨A8, c8, L'.list.length, L8, rfl, HN8.out, HO8.out, HM8.out, HK8.out⟩, F', (HCS6.out.later HL8.out).mono (fun _ h => h) (by omega), HH6.out.thenLater HL8.out, HG6.out⟩

end Go.Proofs.YtlgnnmpfipmjeaaGreat
/-
  chest: Pop.
-/
namespace Go.Proofs.YtlgnnmpfipmjeaaGreat
open Go.RowKit
set_option linter.unusedVariables false
set_option linter.unusedSimpArgs false
def atF (L : List Nat) (version init : Nat) : Nat := L.foldl (fun a x => if x ≤ version then x else a) init
theorem atF_snoc (L : List Nat) (version init x : Nat) : atF (L ++ [x]) version init = if x ≤ version then x else atF L version init := by unfold atF; rw [List.foldl_append]; rfl
theorem atF_le : ∀ (L : List Nat) (version init : Nat), atF L version init ≤ max version init
  | [], version, init => by unfold atF; simp; omega
  | x :: L, version, init => by
    have := atF_le L version (if x ≤ version then x else init)
    unfold atF at this ⊢
    rw [List.foldl_cons]
    split at this <;> rename_i h
    · rw [if_pos h]; omega
    · rw [if_neg h]; exact this
set_option maxHeartbeats 8000000 in
set_option maxRecDepth 100000 in
theorem pop_none {w : World} {F : Nat → Prop} {c used room lock : Nat} {S : LB} (h : ChS w F c used room lock S) (he1 : 1 ≤ S.epoch) (version : Nat) (hv : version ≤ S.top) {x : BP} (hx : S.list[0]? = some x) (hvx : version < x.ver) :
    Calls Tryz.prog 14 #[.pointer (some ⟨c, 0, none⟩), .int .i64 S.epoch, .int .i64 version] w fun e w' => e = .returned (.int .i64 0) ∧ Later w w' := by
  obtain ⟨B, b, t, v, vr, g, cap, p, v1, v2, L, h1, h2, h3, h4⟩ := h
  subst h4
  obtain ⟨y, hy, hyx⟩ : ∃ y, L.list[0]? = some y ∧ y.bp = x := by
    have h := hx; simp only [LV.abs, List.getElem?_map] at h
    exact Option.map_eq_some_iff.1 h
  subst hyx
  obtain ⟨W0, hW0⟩ : ∃ W0, W0 = w.alloc (.cells #[.int .i64 version] 3) := ⟨_, rfl⟩
  have HW := hide_ hW0.symm
  have HL0 := hide_ (show Later w W0 by rw [hW0]; exact later_alloc _ _)
  have hch := h1.later HL0.out
  have HR := hide_ (ready_any (cc := 1) hch.b L.epoch he1 (A := some ⟨w.heap.size, 0, none⟩) (n := 1) (L := [version]) (by rw [hW0]; exact Rd.fresh1 rfl) rfl (by omega))
  have HF := hide_ (find_1 hch L.epoch)
  rw [if_pos rfl] at HF
  have HT := hide_ (top_any hch.log)
  rw [abs_top] at hv
  obtain ⟨tp, htp⟩ : ∃ tp, tp = L.top := ⟨_, rfl⟩
  rw [← htp] at HT hv
  have q1 : ¬ (tp : Int) < (version : Int) := by omega
  have q1n : ¬ tp < version := by omega
  have q2 : (version : Int) < (y.ver : Int) := by have : y.bp.ver = y.ver := rfl; omega
  have q2n : version < y.ver := hvx
  obtain ⟨A2, c2, hv2'⟩ := own_form hch.log.own2
  subst hv2'
  have hlr := hch.log.row
  simp only [logRow] at hlr
  obtain ⟨bb, oo, rfl, l0, l1, l2, l3⟩ := (Rd.of_own hch.log.own2).bat hy
  simp only [Nat.zero_mul, Nat.add_zero] at l1
  obtain ⟨m, hmm⟩ : ∃ m, L.list.length = m + 1 := ⟨L.list.length - 1, by have := (List.getElem?_eq_some_iff.1 hy).1; omega⟩
  have p4 := cell_of_row _ _ 4 _ _ (0, 0) hlr
  rw [hmm] at p4
  rw [show L.abs.epoch = L.epoch from rfl]
  clear h1 h2 h3 he1 hv hx hvx hch hlr hW0 hmm htp hy l0 l2 l3
  go_enter Tryz.func14, Tryz.ntmps14
  go_wp2_with (rw [HW.out])
  refine HR.out.mono ?_; rintro e w1 ⟨rfl, rfl⟩
  go_wp2_with fail
  refine HF.out.mono ?_; rintro e w2 ⟨rfl, rfl⟩
  go_wp2_with fail
  refine HT.out.mono ?_; rintro e w3 ⟨rfl, rfl⟩
  go_wp2_with fail
  go_ret
  exact ⟨rfl, HL0.out⟩
set_option maxHeartbeats 8000000 in
set_option maxRecDepth 100000 in
theorem pop_some {w : World} {F : Nat → Prop} {c used room lock : Nat} {S : LB} (h : ChS w F c used room lock S) (he1 : 1 ≤ S.epoch) (version : Nat) (hv : version ≤ S.top) (hv9 : version < 1000000000000000) {B1 B2 : List BP} (hl : S.list = B1 ++ B2) (hpos : B1 ≠ []) (hl1 : ∀ x ∈ B1, x.ver ≤ version) (hl2 : ∀ x ∈ B2, version < x.ver) (hat : atF (S.list.map BP.ver) version S.gone = version) (hr : room ≤ 1048576) (hfit : used + 100 ≤ room) :
    Calls Tryz.prog 14 #[.pointer (some ⟨c, 0, none⟩), .int .i64 S.epoch, .int .i64 version] w fun e w' => e = .returned (.int .i64 0) ∧ ∃ F', ChS w' F' c (used + 100) room lock { S with gone := max S.gone version, list := B2 } ∧ Hits F w w' ∧ Grown w F F' := by
  obtain ⟨B, b, t, v, vr, g, cap, p, v1, v2, L, h1, h2, h3, h4⟩ := h
  subst h4
  obtain ⟨L1, L2, hL, hm1, hm2⟩ : ∃ L1 L2, L.list = L1 ++ L2 ∧ L1.map BV.bp = B1 ∧ L2.map BV.bp = B2 := by
    obtain ⟨L1, L2, e1, e2, e3⟩ := List.map_eq_append_iff.1 (show L.list.map BV.bp = B1 ++ B2 from hl)
    exact ⟨L1, L2, e1, e2, e3⟩
  have HLL := hide_ hL
  have HP1 := hide_ (show L1 ≠ [] from fun e => hpos (by rw [← hm1, e]; rfl))
  have HV1 := hide_ (show ∀ x ∈ L1, x.ver ≤ version from fun x hx => hl1 x.bp (by rw [← hm1]; exact List.mem_map_of_mem hx))
  have HV2 := hide_ (show ∀ x ∈ L2, version < x.ver from fun x hx => hl2 x.bp (by rw [← hm2]; exact List.mem_map_of_mem hx))
  have HM2 := hide_ hm2
  obtain ⟨x0, R, hx0⟩ : ∃ x R, L1 = x :: R := by
    cases hh : L1 with
    | nil => exact absurd hh HP1.out
    | cons x R => exact ⟨x, R, rfl⟩
  have hy : L.list[0]? = some x0 := by rw [hL, hx0]; rfl
  have hx0v : x0.ver ≤ version := HV1.out x0 (by rw [hx0]; exact List.mem_cons_self)
  have HAT := hide_ (show atF (L.list.map (·.ver)) version L.gone = version from by
    have h := hat
    simp only [LV.abs, List.map_map] at h
    exact h)
  obtain ⟨W0, hW0⟩ : ∃ W0, W0 = w.alloc (.cells #[.int .i64 version] 3) := ⟨_, rfl⟩
  have HW := hide_ hW0.symm
  have HL0 := hide_ (show Later w W0 by rw [hW0]; exact later_alloc _ _)
  have HH := hide_ h1; have HF2 := hide_ h2; have HB3 := hide_ h3
  have hch := h1.later HL0.out
  have HR := hide_ (ready_any (cc := 1) hch.b L.epoch he1 (A := some ⟨w.heap.size, 0, none⟩) (n := 1) (L := [version]) (by rw [hW0]; exact Rd.fresh1 rfl) rfl (by omega))
  have HF := hide_ (find_1 hch L.epoch)
  rw [if_pos rfl] at HF
  have HT := hide_ (top_any hch.log)
  rw [abs_top] at hv
  obtain ⟨tp, htp⟩ : ∃ tp, tp = L.top := ⟨_, rfl⟩
  rw [← htp] at HT hv
  have q1 : ¬ (tp : Int) < (version : Int) := by omega
  have q1n : ¬ tp < version := by omega
  have q2 : ¬ (version : Int) < (x0.ver : Int) := by omega
  have q2n : ¬ version < x0.ver := by omega
  obtain ⟨A2, c2, hv2'⟩ := own_form hch.log.own2
  subst hv2'
  have hlr := hch.log.row
  simp only [logRow] at hlr
  have HRD := hide_ (Rd.of_own hch.log.own2)
  obtain ⟨bb, oo, rfl, l0, l1, l2, l3⟩ := HRD.out.bat hy
  simp only [Nat.zero_mul, Nat.add_zero] at l1
  obtain ⟨m, hmm⟩ : ∃ m, L.list.length = m + 1 := ⟨L.list.length - 1, by have := (List.getElem?_eq_some_iff.1 hy).1; omega⟩
  have hm24 : m + 1 ≤ 24 := by rw [← hmm]; exact hch.log.n2
  have p2 := cell_of_row _ _ 2 _ _ (0, 0) hlr
  have p4 := cell_of_row _ _ 4 _ _ (0, 0) hlr
  rw [hmm] at p4 HRD
  have HMM := hide_ hmm
  have HRM := hide_ hr; have HFIT := hide_ hfit; have HV9 := hide_ hv9
  have hmi : (m : Int) + 1 ≤ 24 := by omega
  rw [show L.abs.epoch = L.epoch from rfl]
  clear h1 h2 h3 he1 hv hv9 hl hpos hl1 hl2 hat hr hfit hL hm1 hm2 hx0 hy hx0v hch hlr hW0 hmm htp l0 l2 l3
  go_enter Tryz.func14, Tryz.ntmps14
  go_wp2_with (rw [HW.out])
  refine HR.out.mono ?_; rintro e w1 ⟨rfl, rfl⟩
  go_wp2_with fail
  refine HF.out.mono ?_; rintro e w2 ⟨rfl, rfl⟩
  go_wp2_with fail
  refine HT.out.mono ?_; rintro e w3 ⟨rfl, rfl⟩
  go_wp2_with fail
  go_loopw [9, 58] (fun s9 s58 wr => ∃ k at_ : Nat, k ≤ m + 1 ∧ s58 = .int .i64 k ∧ s9 = .int .i64 at_ ∧ Hid (at_ = atF ((L.list.take k).map (·.ver)) version L.gone) ∧ Hid (Later w3 wr)) (fun _ s _ => (m + 1) - (intOf s).toNat)
  case atStart => exact ⟨0, L.gone, Nat.zero_le _, rfl, rfl, hide_ rfl, Later.refl _⟩
  case round =>
    obtain ⟨k, at_, hkm, rfl, rfl, HA, HLR⟩ := hrel
    by_cases hlt : k < m + 1
    · obtain ⟨x, hx⟩ : ∃ x, L.list[k]? = some x := ⟨_, List.getElem?_eq_getElem (by rw [HMM.out]; exact hlt)⟩
      obtain ⟨b', o', hbo, l0, l1', l2, l3⟩ := (HRD.out.below HLR.out).bat hx
      injection hbo with hbo; injection hbo with hb1 hb2
      subst hb1; subst hb2
      have HNX := hide_ (show atF ((L.list.take (k + 1)).map (·.ver)) version L.gone = if x.ver ≤ version then x.ver else at_ by
        rw [List.take_add_one, hx, HA.out]; simp only [Option.toList_some, List.map_append, List.map_cons, List.map_nil]; exact atF_snoc _ _ _ _)
      have r1 : (k : Int) < (m : Int) + 1 := by omega
      have r2 : (0 : Int) ≤ (k : Int) := by omega
      clear hx
      by_cases hc : x.ver ≤ version
      · have r3 : (x.ver : Int) ≤ (version : Int) := by omega
        rw [if_pos hc] at HNX
        go_wp2_with fail
        go_roundw
        case rel => exact ⟨k + 1, x.ver, by omega, by go_num, rfl, hide_ HNX.out.symm, HLR.out.al _⟩
        case measure => simp [intOf]; omega
      · have r3 : ¬ (x.ver : Int) ≤ (version : Int) := by omega
        rw [if_neg hc] at HNX
        go_wp2_with fail
        go_roundw
        case rel => exact ⟨k + 1, at_, by omega, by go_num, rfl, hide_ HNX.out.symm, HLR.out.al _⟩
        case measure => simp [intOf]; omega
    · obtain rfl : k = m + 1 := by omega
      have r1 : ¬ ((m + 1 : Nat) : Int) < (m : Int) + 1 := by omega
      obtain rfl : at_ = version := by
        rw [HA.out, List.take_of_length_le (by rw [HMM.out]; exact Nat.le_refl _)]; exact HAT.out
      have HLW := hide_ (HL0.out.trans HLR.out)
      have HRC := hide_ (record_any wr 4 L.epoch at_ (by omega) (by have := HH.out.log.e; omega) HV9.out)
      go_wp2_with fail
      refine HRC.out.mono ?_; rintro e w4 ⟨rfl, ⟨v4, hw4⟩, hl4⟩
      have HW4 := hide_ (show WrAt w4 wr.heap.size wr.heap.size v4 (recH 4 L.epoch at_, 0) from hw4)
      have HL4 := hide_ (HLW.out.trans hl4)
      have HCH4 := hide_ (HH.out.later HL4.out)
      have HWS := hide_ (show w.heap.size ≤ wr.heap.size from HLW.out.size)
      clear hw4 hl4
      obtain ⟨n, hn⟩ : ∃ n, (recH 4 L.epoch at_).length = n := ⟨_, rfl⟩
      have hn12 : 0 < n ∧ n ≤ 27 := by rw [← hn]; have := recH_len (k := 4) (e := L.epoch) (n := at_) (by omega) HH.out.log.e HV9.out; omega
      have HPUT := hide_ (cput_any HW4.out hn hn12.1 (by omega) HCH4.out.row HCH4.out.book (by have := HL4.out.size; have := HB3.out; omega) HRM.out (by have := HFIT.out; omega) (fun k hk hf => by
          have h1 := (HW4.out.2.2.lt _ hk).1; have h2 := (HH.out.book.lt k hf).1; have := HWS.out; omega)
        (PutPost B c b t v vr g cap p v1 (.slice (some ⟨bb, oo, none⟩) L.list.length c2) (used + n + 7) room lock (fun L' => L' = { L with gone := max L.gone at_, list := L2 }) w)
        (fun w2 v' vr' a rc hbk hh hns1 hns2 hrd hrc1 hrc2 hty => by
          have hch := HCH4.out.setBook hh hbk
          refine (do_popped hch (by have := hh.size; have := HL4.out.size; have := HB3.out; omega) HLL.out HP1.out HV1.out HV2.out HV9.out hrd hn hrc1 hrc2 hty).mono ?_
          rintro e w' ⟨rfl, v2', hch', hhl, hns⟩
          refine ⟨rfl, v', vr', v2', _, rfl, hch', ?_, hns1.up HL4.out.size, hns2.up HL4.out.size, hns.up (Nat.le_trans HL4.out.size hh.size)⟩
          exact (((Hits.later (F := cFp c b t v vr g p (.slice (some ⟨bb, oo, none⟩) L.list.length c2)) HL4.out).trans hh (fun k _ h => .inr (.inr (.inl h))))).trans hhl (fun k _ h => .inr (.inr (.inr h)))))
      clear hn
      go_wp2_with fail
      refine HPUT.out.mono ?_; rintro e w6 ⟨rfl, hpp⟩
      have hgr := hpp.grown (F := F) HH.out HF2.out HB3.out (S := { L.abs with gone := max L.abs.gone at_, list := B2 }) (fun L' e => by subst e; unfold LV.abs; simp only [HM2.out]) (fun L' e x hx => by
        subst e
        rcases hx with hx | hx
        · exact .inl (.inl hx)
        · exact .inl (.inr (by rw [HLL.out]; exact List.mem_append_right _ hx)))
      obtain ⟨F', hcs6, hh6, hgr6⟩ := hgr
      have HFIN := hide_ (show ∃ F', ChS w6 F' c (used + 100) room lock { L.abs with gone := max L.abs.gone at_, list := B2 } ∧ Hits F w w6 ∧ Grown w F F' from ⟨F', hcs6.mono (fun _ h => h) (by omega), hh6, hgr6⟩)
      clear hpp hcs6 hh6 hgr6 HPUT
      go_wp2_with fail
      go_ret
      exact ⟨rfl, HFIN.out⟩

end Go.Proofs.YtlgnnmpfipmjeaaGreat
