/-
  Texts of this seat in one: FrSpl, FrVerA, FrVer.
-/
import Derived.Test.YtcmollfhlillfaaGreatDoorM33
import Derived.Test.YtcmollfhlillfaaGreatDoorM13
import Derived.Test.YtcmollfhlillfaaGreatDoorM24
/-
  code: so many numbers; Split.
-/
namespace Go.Proofs.YtcmollfhlillfaaGreatDoor
open Go.RowKit
set_option linter.unusedVariables false
set_option linter.unusedSimpArgs false
theorem numGo_err : ∀ (l : List UInt8) (i acc : Nat), (numGo i acc l).2.2 ≤ 3 := by
  intro l
  induction l with
  | nil => intro i acc; unfold numGo; split <;> simp
  | cons x l ih =>
    intro i acc
    unfold numGo
    split
    · simp
    · split
      · exact ih _ _
      · split <;> simp
theorem rNum_err {s : RS} (h : s.2 ≤ 1000) : (rNum s).2.2 ≤ 1000 := by
  unfold rNum
  split
  · exact h
  · have := numGo_err s.1 0 0
    show (numF s.1).2.2 ≤ 1000
    unfold numF; omega
def rNums : Nat → RS → List Int × RS
  | 0, s => ([], s)
  | k + 1, s => if s.2 = 0 then (((rNum s).1 : Int) :: (rNums k (rNum s).2).1, (rNums k (rNum s).2).2) else ([], s)
theorem rNums_stop {s : RS} (h : ¬ s.2 = 0) : ∀ k, rNums k s = ([], s)
  | 0 => rfl
  | k + 1 => by unfold rNums; rw [if_neg h]
theorem rNums_len : ∀ (k : Nat) (s : RS), (rNums k s).1.length ≤ k
  | 0, s => Nat.le_refl _
  | k + 1, s => by
    unfold rNums
    split
    · have := rNums_len k (rNum s).2
      simp; omega
    · simp
set_option maxHeartbeats 4000000 in
set_option maxRecDepth 100000 in
theorem rnums_any {w : World} {p n : Nat} {s : RS} (h : RdrAt w p s) (hs2 : s.2 ≤ 1000) (hn : n ≤ 4096) :
    Calls Tryz.prog 97 #[.pointer (some ⟨p, 0, none⟩), .int .i64 n] w fun e w' => ∃ A m c, e = .returned (.slice A m c) ∧ (rNums n s).1.length = m ∧ w'.ownsRow w.heap.size 3 1 (.slice A m c) m (ints (rNums n s).1) ∧ RdrAt w' p (rNums n s).2 ∧ Hits (· = p) w w' := by
  have HPL := hide_ h.lt
  have H := hide_ h; have HS := hide_ hs2
  have hn2 : (n : Int) ≤ 4096 := by omega
  clear h hs2
  go_enter Tryz.func97, Tryz.ntmps97
  go_wp2_with fail
  go_loopw [5, 6] (fun s5 s6 wr => ∃ (k m : Nat) (A : Option Addr) (c : Nat) (L : List Int) (t : RS), k ≤ n ∧ s6 = .int .i64 k ∧ s5 = .slice A m c ∧ m ≤ k ∧ Hid (L.length = m) ∧ Hid (wr.ownsRow w.heap.size 3 1 (.slice A m c) m (ints L)) ∧ Hid (RdrAt wr p t) ∧ Hid (t.2 ≤ 1000) ∧ Hid (Hits (· = p) w wr) ∧ Hid (rNums n s = (L ++ (rNums (n - k) t).1, (rNums (n - k) t).2))) (fun _ i _ => n - (intOf i).toNat)
  case atStart => exact ⟨0, 0, none, 0, [], s, Nat.zero_le _, rfl, rfl, Nat.le_refl _, hide_ rfl, hide_ (World.ownsRow_nil _ _ _ _), H, HS, hide_ (Hits.refl _ _), hide_ (by simp)⟩
  case round =>
    obtain ⟨k, m, A, c, L, t, hk, rfl, rfl, hm, HLL, HO, HR, HT, HH, HE⟩ := hrel
    obtain ⟨te, hte⟩ : ∃ te, te = t.2 := ⟨_, rfl⟩
    have c1 : wr.cell? ⟨p, 1, none⟩ = some (.int .i64 te) := by obtain ⟨A0, c0, h1, _⟩ := HR.out; rw [hte]; exact cell_of_row _ _ 1 _ _ (0, 0) h1
    have HTE := hide_ hte
    clear hte
    by_cases hlt : k < n
    · have q1 : (k : Int) < (n : Int) := by omega
      have q2 : (k : Int) ≤ 4096 := by omega
      by_cases h0 : te = 0
      · subst h0
        have HNU := hide_ (rnum_any HR.out HT.out)
        have HN := hide_ (show rNums (n - k) t = (((rNum t).1 : Int) :: (rNums (n - (k + 1)) (rNum t).2).1, (rNums (n - (k + 1)) (rNum t).2).2) by
          rw [show n - k = (n - (k + 1)) + 1 by omega]; show (if t.2 = 0 then _ else _) = _; rw [if_pos HTE.out.symm])
        obtain ⟨N, hN⟩ : ∃ N, N = (rNum t).1 := ⟨_, rfl⟩
        rw [← hN] at HNU HN
        clear hN
        go_wp2_with fail
        refine HNU.out.mono ?_; rintro e w2 ⟨rfl, hr2, hh2⟩
        have HR2 := hide_ hr2
        have HO2 := hide_ (hh2.own' HO.out HPL.out)
        have HH2 := hide_ (HH.out.trans hh2 fun _ _ h => h)
        clear hr2 hh2 c1
        go_wp2_with (at_builtin; refine wpList_append_rd _ rfl (.tmp 19) (.tmp 22) 35 rfl w.heap.size 3 1 8 intT (.slice A m c) m (ints L) rfl (own_below HO2.out (later_alloc _ _)) (some ⟨w2.heap.size, 0, none⟩) 1 1 [.int .i64 N] rfl (Rd.newAt _ #[.int .i64 N] 3 1 1 _ (0, 0) rfl rfl) (fun u hu => by rw [List.mem_singleton.1 hu]; rfl) (by omega) (by unfold maxLen; omega) (by have := HH2.out.size; simp; omega) (fun h => by cases h) ?c8)
        case c8 =>
          intro v9 w9 hown hg hat
          obtain ⟨A9, c9, rfl⟩ := own_form hown
          have HOF := hide_ (show w9.ownsRow w.heap.size 3 1 (.slice A9 (m + 1) c9) (m + 1) (ints (L ++ [(N : Int)])) by rw [ints_snoc]; exact hown)
          have HHF := hide_ (show Hits (· = p) w w9 from (HH2.out.alloc _).grown hg (fun g hg hlt => by
            have := (HO2.out.lt _ hg).1; omega))
          have HRF := hide_ (show RdrAt w9 p (rNum t).2 from (HR2.out.later (later_alloc _ _)).grown (own_below HO2.out (later_alloc _ _)) (by decide) (by decide) hg)
          clear hown hg hat
          go_wp2_with fail
          go_roundw
          case rel => exact ⟨k + 1, m + 1, A9, c9, L ++ [(N : Int)], (rNum t).2, by omega, by go_num, rfl, by omega, hide_ (by rw [List.length_append, HLL.out]; rfl), HOF, HRF, hide_ (rNum_err HT.out), HHF, hide_ (by rw [HE.out, HN.out]; simp)⟩
          case measure => simp [intOf]; omega
      · have HX := hide_ (show rNums n s = (L, t) by rw [HE.out, rNums_stop (by rw [← HTE.out]; exact h0)]; simp)
        have hb : ((te : Int) == 0) = false := by simp; omega
        clear h0
        go_wp2_with fail
        go_ret
        rw [HX.out]
        exact ⟨A, m, c, rfl, HLL.out, HO.out, HR.out, HH.out⟩
    · obtain rfl : k = n := by omega
      have HX := hide_ (show rNums k s = (L, t) by rw [HE.out, Nat.sub_self]; simp [rNums])
      have q1 : ¬ (k : Int) < (k : Int) := by omega
      go_wp2_with fail
      go_ret
      rw [HX.out]
      exact ⟨A, m, c, rfl, HLL.out, HO.out, HR.out, HH.out⟩
def splitF (l : List UInt8) (n : Nat) : List Int × Nat := if (rNums n (l, 0)).2.2 ≠ 0 then ([], (rNums n (l, 0)).2.2) else if (rNums n (l, 0)).2.1 ≠ [] then ([], 2) else ((rNums n (l, 0)).1, 0)
theorem rNums_err : ∀ (k : Nat) {s : RS}, s.2 ≤ 1000 → (rNums k s).2.2 ≤ 1000
  | 0, s, h => h
  | k + 1, s, h => by
    unfold rNums
    split
    · exact rNums_err k (rNum_err h)
    · exact h
def SplPost (w : World) (l : List UInt8) (n : Nat) (e : Ending) (w' : World) : Prop := ∃ A m c, e = .returned (.tuple #[.slice A m c, .int .i64 (splitF l n).2]) ∧ (splitF l n).1.length = m ∧ w'.ownsRow w.heap.size 3 1 (.slice A m c) m (ints (splitF l n).1) ∧ Later w w'
set_option maxHeartbeats 4000000 in
set_option maxRecDepth 100000 in
theorem split_any {w : World} {A : Option Addr} {c n : Nat} {l : List UInt8} (hr : Rd w 1 A l.length (bvs l)) (hc : l.length ≤ c) (hcc : c ≤ 9223372036854775807) (hll : l.length ≤ 4398046511104) (hA : A = none → l.length = 0) (hb : ∀ a, A = some a → ∃ cs fz, w.heap[a.block]? = some (.cells cs 5 fz)) (hn : n ≤ 4096) :
    Calls Tryz.prog 63 #[.slice A l.length c, .int .i64 n] w (SplPost w l n) := by
  have HNR := hide_ (newReader_any hr hc hcc hll hA hb)
  obtain ⟨nl, hnl⟩ : ∃ nl, nl = l.length := ⟨_, rfl⟩
  rw [← hnl] at HNR ⊢
  have hn2 : ¬ (4096 : Int) < (n : Int) := by omega
  obtain ⟨r, hr2⟩ : ∃ r, r = rNums n (l, 0) := ⟨_, rfl⟩
  have HR := hide_ hr2
  have HSP := hide_ (show splitF l n = if r.2.2 ≠ 0 then ([], r.2.2) else if r.2.1 ≠ [] then ([], 2) else (r.1, 0) by rw [hr2]; rfl)
  have HE := hide_ (show r.2.2 ≤ 1000 by rw [hr2]; exact rNums_err n (by simp))
  clear hr hc hcc hll hA hb hnl hr2
  go_enter Tryz.func63, Tryz.ntmps63
  go_wp2_with fail
  refine HNR.out.mono ?_; rintro e w2 ⟨rfl, hr2, hl2⟩
  have HNU := hide_ (rnums_any hr2 (by simp) hn)
  have HL2 := hide_ hl2
  clear hr2 hl2
  go_wp2_with fail
  refine HNU.out.mono ?_; rintro e w3 ⟨A3, m3, c3, rfl, hm3, ho3, hr3, hh3⟩
  rw [← HR.out] at hm3 ho3 hr3
  have HER := hide_ (rerror_any hr3)
  have HDO := hide_ (rdone_any hr3 HE.out)
  have HL3 := hide_ (show Later w w3 from Below.trans HL2.out (hh3.below (B := w.heap.size) HL2.out.size fun k hk => by omega))
  have HM3 := hide_ hm3; have HO3 := hide_ (own_base ho3 HL2.out.size)
  clear hm3 ho3 hr3 hh3 HNU HNR
  obtain ⟨re, hre⟩ : ∃ re, re = r.2.2 := ⟨_, rfl⟩
  rw [← hre] at HER
  have HRE := hide_ hre
  clear hre
  go_wp2_with fail
  refine HER.out.mono ?_; rintro e w4 ⟨rfl, rfl⟩
  by_cases h0 : re = 0
  · subst h0
    obtain ⟨dn, hdn⟩ : ∃ dn, dn = rDone r.2 := ⟨_, rfl⟩
    rw [← hdn] at HDO
    have HDN := hide_ (show dn = decide (r.2.1 = []) by rw [hdn]; unfold rDone; rw [← HRE.out]; simp)
    clear hdn
    go_wp2_with fail
    refine HDO.out.mono ?_; rintro e w5 ⟨rfl, rfl⟩
    cases dn with
    | true =>
      have HX := hide_ (show splitF l n = (r.1, 0) by rw [HSP.out, if_neg (by rw [← HRE.out]; simp), if_neg (by have := HDN.out; simpa using this)])
      go_wp2_with fail
      go_ret2
      exact ⟨A3, m3, c3, by rw [HX.out]; rfl, by rw [HX.out]; exact HM3.out, by rw [HX.out]; exact HO3.out, HL3.out⟩
    | false =>
      have HX := hide_ (show splitF l n = ([], 2) by rw [HSP.out, if_neg (by rw [← HRE.out]; simp), if_pos (by have := HDN.out; simpa using this)])
      go_wp2_with fail
      go_ret2
      exact ⟨none, 0, 0, by rw [HX.out]; rfl, by rw [HX.out]; rfl, by rw [HX.out]; exact World.ownsRow_nil _ _ _ _, HL3.out⟩
  · have HX := hide_ (show splitF l n = ([], re) by rw [HSP.out, if_pos (by rw [← HRE.out]; exact h0), HRE.out])
    have hb0 : ((re : Int) != 0) = true := by rw [bne_iff_ne]; omega
    clear h0
    go_wp2_with fail
    refine HER.out.mono ?_; rintro e w5 ⟨rfl, rfl⟩
    go_wp2_with fail
    go_ret2
    exact ⟨none, 0, 0, by rw [HX.out]; rfl, by rw [HX.out]; rfl, by rw [HX.out]; exact World.ownsRow_nil _ _ _ _, HL3.out⟩

end Go.Proofs.YtcmollfhlillfaaGreatDoor
/-
  front: the batch that goes on, laid open; what a referee told is noted.
-/
namespace Go.Proofs.YtcmollfhlillfaaGreatDoor
open Go.RowKit
set_option linter.unusedVariables false
set_option linter.unusedSimpArgs false
structure CurAt (w : World) (f : Nat) (s : Fr) (X : List Nat) (cc : FrC) (bb : Nat) (b : Bt) (bc : BtC) (M : MP) (xs : List (List Nat)) : Prop where
  p : FrP w f s cc
  hX : X = cc.blocks f
  nd : X.Nodup
  up : cc.up = .pointer (some ⟨bb, 0, none⟩)
  bt : BtH w bb b bc
  xp : cc.Xp = bb :: bc.blocks
  mm : MapM w bc.m M
  keys : M.map (·.1) = b.told.map (·.1)
  rs : Rows intsR w (M.map fun x => [x.2]) (b.told.map (·.2)) xs
  xm : bc.Xm = xs.flatten
theorem cur_open {w : World} {f : Nat} {s : Fr} {X : List Nat} (h : FrH w f s X) {b : Bt} (hb : s.cur = some b) : ∃ cc bb bc M xs, CurAt w f s X cc bb b bc M xs := by
  obtain ⟨cc, hp, hX, hnd⟩ := h
  have hc := hp.cur
  rw [hb] at hc
  obtain ⟨bb, bc, h1, h2, h3⟩ := hc
  obtain ⟨M, xs, m1, m2, m3, m4⟩ := h2.told
  exact ⟨cc, bb, bc, M, xs, hp, hX, hnd, h1, h2, h3, m1, m2, m3, m4⟩
theorem CurAt.later {w w' : World} {f : Nat} {s : Fr} {X : List Nat} {cc : FrC} {bb : Nat} {b : Bt} {bc : BtC} {M : MP} {xs : List (List Nat)} (h : CurAt w f s X cc bb b bc M xs) (hl : Later w w') : CurAt w' f s X cc bb b bc M xs :=
  ⟨h.p.frame (Hits.later (F := fun _ => False) hl) (fun _ _ hf => hf), h.hX, h.nd, h.up, h.bt.frame (Hits.later (F := fun _ => False) hl) (fun hf => hf) (fun _ _ hf => hf), h.xp, h.mm.later hl, h.keys, h.rs.frame (Hits.later (F := fun _ => False) hl) (fun _ _ hf => hf), h.xm⟩
theorem CurAt.front {w : World} {f : Nat} {s : Fr} {X : List Nat} {cc : FrC} {bb : Nat} {b : Bt} {bc : BtC} {M : MP} {xs : List (List Nat)} (h : CurAt w f s X cc bb b bc M xs) : FrH w f s X := ⟨cc, h.p, h.hX, h.nd⟩
theorem CurAt.cnt {w : World} {f : Nat} {s : Fr} {X : List Nat} {cc : FrC} {bb : Nat} {b : Bt} {bc : BtC} {M : MP} {xs : List (List Nat)} (h : CurAt w f s X cc bb b bc M xs) (a : Nat) :
    (if f = a then 1 else 0) + ((if cc.m = a then 1 else 0) + (cc.Xc.count a + cc.Xr.count a + cc.Xb.count a + cc.Xq.count a + cc.Xw.count a + ((if bb = a then 1 else 0) + ((if bc.m = a then 1 else 0) + (bc.Xc.count a + bc.Xj.count a + xs.flatten.count a + bc.Xv.count a + bc.Xp.count a))))) ≤ 1 := by
  have h1 := cnt_nd h.nd a
  have hx := h.hX
  rw [hx] at h1
  simp only [FrC.blocks, h.xp, BtC.blocks, h.xm, cnt_cons, List.count_append] at h1
  exact h1
theorem CurAt.has {w : World} {f : Nat} {s : Fr} {X : List Nat} {cc : FrC} {bb : Nat} {b : Bt} {bc : BtC} {M : MP} {xs : List (List Nat)} (h : CurAt w f s X cc bb b bc M xs) (r : Int) : (getM M r).isSome = toldHas b.told r := by
  have e1 : (getM M r).isSome = (M.map (·.1)).any (· == r) := by
    unfold getM
    rw [Option.isSome_map, List.any_map, List.isSome_find?]
    rfl
  rw [e1, h.keys, List.any_map]; rfl
/-- The block is of the batch. -/
theorem CurAt.mem {w : World} {f : Nat} {s : Fr} {X : List Nat} {cc : FrC} {bb : Nat} {b : Bt} {bc : BtC} {M : MP} {xs : List (List Nat)} (h : CurAt w f s X cc bb b bc M xs) : f ∈ X ∧ bb ∈ X ∧ bc.m ∈ X ∧ f ≠ bb ∧ f ≠ bc.m ∧ bb ≠ bc.m := by
  have hx := h.hX
  have h1 := h.cnt f
  have h2 := h.cnt bb
  refine ⟨?_, ?_, ?_, fun e => ?_, fun e => ?_, fun e => ?_⟩
  · rw [hx]; simp [FrC.blocks]
  · rw [hx]; simp [FrC.blocks, h.xp]
  · rw [hx]; simp [FrC.blocks, h.xp, BtC.blocks]
  · rw [if_pos rfl, if_pos e.symm] at h1; omega
  · rw [if_pos rfl] at h1; rw [if_pos (show bc.m = f from e.symm)] at h1; omega
  · rw [if_pos rfl] at h2; rw [if_pos (show bc.m = bb from e.symm)] at h2; omega
theorem told_put {w w1 w2 : World} {f : Nat} {s : Fr} {X : List Nat} {cc : FrC} {bb : Nat} {b : Bt} {bc : BtC} {M : MP} {xs : List (List Nat)} (h : CurAt w f s X cc bb b bc M xs) {frm : Int} (hno : toldHas b.told frm = false) {l : List Int} {v : Value} (hl : Later w w1) (ho : w1.ownsRow w.heap.size 3 1 v l.length (ints l)) (hm : MapM w2 bc.m (putM M frm v)) (hh : Hits (· = bc.m) w1 w2) :
    ∃ X', FrH (w2.setCell ⟨f, 15, none⟩ (.int .i64 0)) f { s with cur := some { b with told := b.told ++ [(frm, l)] }, stuck := 0 } X' ∧ Hits (· ∈ X) w (w2.setCell ⟨f, 15, none⟩ (.int .i64 0)) ∧ Fresh w X X' := by
  obtain ⟨hf, hbX, hmX, n1, n2, n3⟩ := h.mem
  have hp := h.p
  have hmp : putM M frm v = M ++ [(frm, v)] := by
    have h1 := h.has frm
    rw [hno] at h1
    unfold putM
    congr 1
    rw [List.filter_eq_self]
    intro x hx
    have h2 : (M.find? fun x => x.1 == frm) = none := by
      unfold getM at h1
      rw [Option.isSome_map] at h1
      cases hf : M.find? (fun x => x.1 == frm) with
      | none => rfl
      | some y => rw [hf] at h1; cases h1
    have := List.find?_eq_none.1 h2 x hx
    simpa using this
  rw [hmp] at hm
  have hcn := h.cnt
  have hlt := hp.lt
  have hh2 : Hits (· = f) w2 (w2.setCell ⟨f, 15, none⟩ (.int .i64 0)) := (Hits.refl (· = f) w2).setCell (g := f) (fun _ => rfl) _ _
  have hh1 : Hits (fun k => k = bc.m) w w2 := (Hits.later (F := fun k => k = bc.m) hl).trans hh fun _ _ h => h
  have hhA : Hits (fun k => k = bc.m ∨ k = f) w (w2.setCell ⟨f, 15, none⟩ (.int .i64 0)) := (hh1.mono fun _ _ h => .inl h).trans hh2 fun _ _ h => .inr h
  have hhX : Hits (· ∈ X) w (w2.setCell ⟨f, 15, none⟩ (.int .i64 0)) := hhA.mono fun k _ hk => by
    rcases hk with rfl | rfl
    · exact hmX
    · exact hf
  have hs1 := hl.size
  have nf : ∀ Y : List Nat, (∀ a, Y.count a + ((if f = a then 1 else 0) + (if bc.m = a then 1 else 0)) ≤ 1) → ∀ k ∈ Y, ¬ (k = bc.m ∨ k = f) := fun Y hY k hk hF => by
    have h1 := hY k
    have h2 := mem_count hk
    rcases hF with e | e
    · rw [if_pos (show bc.m = k from e.symm)] at h1; omega
    · rw [if_pos (show f = k from e.symm)] at h1; omega
  have hr2 := hh1.row hp.row n2
  have hr3 := heap_setCell_same w2 f 15 _ _ (.int .i64 0) hr2
  have hvge : ∀ a ∈ obL v, w.heap.size ≤ a ∧ a < w2.heap.size := fun a ha => by
    have h1 := own_block ho (mem_obL.1 ha)
    have := hh.size
    omega
  have hvc : ∀ a, (obL v).count a ≤ if w.heap.size ≤ a then 1 else 0 := fun a => by
    by_cases ha : w.heap.size ≤ a
    · rw [if_pos ha]; exact cnt_nd (obL_nodup v) a
    · rw [if_neg ha]
      have : (obL v).count a = 0 := List.count_eq_zero.2 fun hm => ha (hvge a hm).1
      omega
  have hmlt : bc.m < w.heap.size := h.mm.lt
  have hflt : f < w.heap.size := theap_lt hp.row
  have ho3 : (w2.setCell ⟨f, 15, none⟩ (.int .i64 0)).ownsRow w.heap.size 3 1 v l.length (ints l) := hh2.own (hh.own ho fun k hk e => by have := (own_block ho hk).1; omega) fun k hk e => by have := (own_block ho hk).1; omega
  have hbt := h.bt
  have hbt3 : BtH (w2.setCell ⟨f, 15, none⟩ (.int .i64 0)) bb { b with told := b.told ++ [(frm, l)] } { bc with Xm := (xs ++ [obL v]).flatten } := by
    refine ⟨hhA.row hbt.row (fun e => by rcases e with e | e; exact n3 e; exact n1 e.symm), ?_, ?_, ⟨M ++ [(frm, v)], xs ++ [obL v], ?_, ?_, ?_, rfl⟩, ?_, ?_⟩
    · exact chgsR.frame hbt.chg hhA (nf bc.Xc fun a => by have := hcn a; omega)
    · exact jobsR.frame hbt.jobs hhA (nf bc.Xj fun a => by have := hcn a; omega)
    · exact hm.hits hh2 (fun e => n2 e.symm)
    · rw [List.map_append, List.map_append, h.keys]; rfl
    · rw [List.map_append, List.map_append]
      exact (h.rs.frame hhA (nf xs.flatten fun a => by have := hcn a; omega)).append ⟨ints_holds.2 ⟨v, rfl, own_base ho3 (Nat.zero_le _), rfl⟩, trivial⟩
    · exact hbt.verd.frame hhA (nf bc.Xv fun a => by have := hcn a; omega)
    · exact intsR.frame hbt.pushed hhA (nf bc.Xp fun a => by have := hcn a; omega)
  refine ⟨FrC.blocks f { cc with Xp := bb :: BtC.blocks { bc with Xm := (xs ++ [obL v]).flatten } }, ⟨{ cc with Xp := bb :: BtC.blocks { bc with Xm := (xs ++ [obL v]).flatten } }, ⟨?_, ?_, ?_, ?_, ?_, ?_, ?_, ⟨bb, _, h.up, hbt3, rfl⟩⟩, rfl, ?_⟩, hhX, ?_⟩
  · exact hr3
  · exact intsR.frame hp.chests hhA (nf cc.Xc fun a => by have := hcn a; omega)
  · exact intsR.frame hp.refs hhA (nf cc.Xr fun a => by have := hcn a; omega)
  · exact strsR.frame hp.bounds hhA (nf cc.Xb fun a => by have := hcn a; omega)
  · exact hp.seen.hits hhA (nf [cc.m] (fun a => by have := hcn a; simp only [cnt_cons, List.count_nil]; omega) _ (by simp))
  · exact jobsR.frame hp.queue hhA (nf cc.Xq fun a => by have := hcn a; omega)
  · exact wishesR.frame hp.wishes hhA (nf cc.Xw fun a => by have := hcn a; omega)
  · refine List.nodup_iff_count.2 fun a => ?_
    have h1 := hcn a
    have h2 := hvc a
    have hfl : (xs ++ [obL v]).flatten.count a = xs.flatten.count a + (obL v).count a := by simp [List.flatten_append, List.count_append]
    simp only [FrC.blocks, BtC.blocks, cnt_cons, List.count_append] at h1 ⊢
    rw [hfl]
    by_cases ha : w.heap.size ≤ a
    · rw [if_pos ha] at h2
      have hz : (FrC.blocks f cc).count a = 0 := List.count_eq_zero.2 fun hm => by have := hlt a hm; omega
      simp only [FrC.blocks, h.xp, BtC.blocks, h.xm, cnt_cons, List.count_append] at hz
      omega
    · rw [if_neg ha] at h2; omega
  · intro k hk
    by_cases hk2 : w.heap.size ≤ k
    · exact .inr hk2
    · left
      rw [h.hX]
      have h3 := mem_count hk
      have h2 := hvc k
      rw [if_neg hk2] at h2
      have hfl : (xs ++ [obL v]).flatten.count k = xs.flatten.count k + (obL v).count k := by simp [List.flatten_append, List.count_append]
      refine List.count_pos_iff.1 ?_
      simp only [FrC.blocks, h.xp, BtC.blocks, h.xm, cnt_cons, List.count_append, hfl] at h3 ⊢
      omega
end Go.Proofs.YtcmollfhlillfaaGreatDoor
/-
  front: verdict.
-/
namespace Go.Proofs.YtcmollfhlillfaaGreatDoor
open Go.RowKit
set_option linter.unusedVariables false
set_option linter.unusedSimpArgs false
theorem step_mapUpdateM {w : World} {ops : Array Oper} {o : Oper} {a : Act} {K : Act → World → Prop} {Q : Exit → Act → World → Prop} {E0 : Prop} (hgd : Region.wanted o (yielded ops a.tmps) = true) (m x v : Operand) (t : TypeId) (hop : o.op = Op.mapUpdate t m x v)
    {b : Nat} {M : MP} {e : TypeId} (h : MapM w b M) (ht : Tryz.prog.underlying t = some (.map 3 e)) (hm : a.eval m = .map (some b)) {k : Int} (hk : I64 k) (hx : a.eval x = .int .i64 k) {val : Value} (hv : a.eval v = val) (hM : M.length < 4611686018427387904)
    (hK : ∀ w', MapM w' b (putM M k val) → Hits (· = b) w w' → K (a.put o.dst undef) w') : if Region.wanted o (yielded ops a.tmps) = true then Oper.wp Tryz.prog o a w K Q else E0 := by
  rw [if_pos hgd]
  obtain ⟨w', hrun, r1, r2⟩ := h.store ht hk val hM
  unfold Oper.wp
  simp [execOp, hop, hm, hx, hv, hrun, Result.andThen]
  exact hK w' r1 r2
theorem own_later {w w' : World} {base size n : Nat} {e : TypeId} {v : Value} {xs : List Value} (h : w.ownsRow base e size v n xs) (hl : Later w w') : w'.ownsRow base e size v n xs := (Hits.later (F := fun _ => False) hl).own h fun _ _ hf => hf
def verdictF (s : Fr) (frm a : Int) (body : List UInt8) : Fr := match s.cur with
  | none => s
  | some b => if b.ver ≠ a ∨ s.refs.contains frm = false then s else
    if (splitF body b.jobs.length).2 ≠ 0 ∨ toldHas b.told frm = true then s else { s with cur := some { b with told := b.told ++ [(frm, (splitF body b.jobs.length).1)] }, stuck := 0 }
/-- A front that was turned, and nothing told. -/
def SetPost (w : World) (f : Nat) (X : List Nat) (s : Fr) (e : Ending) (w' : World) : Prop := ∃ X', e = .returned (.tuple #[]) ∧ FrH w' f s X' ∧ Hits (· ∈ X) w w' ∧ Fresh w X X'
/-- A body that comes. -/
structure BodyAt (w : World) (A : Option Addr) (c : Nat) (l : List UInt8) : Prop where
  rd : Rd w 1 A l.length (bvs l)
  hc : l.length ≤ c
  hcc : c ≤ 9223372036854775807
  hll : l.length ≤ 4398046511104
  hA : A = none → l.length = 0
  hb : ∀ a, A = some a → ∃ cs fz, w.heap[a.block]? = some (.cells cs 5 fz)
theorem BodyAt.later {w w' : World} {A : Option Addr} {c : Nat} {l : List UInt8} (h : BodyAt w A c l) (hl : Later w w') : BodyAt w' A c l := ⟨h.rd.below hl, h.hc, h.hcc, h.hll, h.hA, fun a ha => by
  obtain ⟨cs, fz, h1⟩ := h.hb a ha
  exact ⟨cs, fz, later_row hl h1⟩⟩
structure VerOk (s : Fr) : Prop where
  r : s.refs.length ≤ 1048576
  j : ∀ b, s.cur = some b → b.jobs.length ≤ 4096 ∧ b.told.length ≤ 1048576
set_option maxHeartbeats 8000000 in
set_option maxRecDepth 100000 in
theorem verdict_any {w : World} {f : Nat} {s : Fr} {X : List Nat} (h : FrH w f s X) (hok : VerOk s) (k frm to_ e0 a b0 c0 : Int) (hfr : I64 frm) {Av : Option Addr} {cv : Nat} {l : List UInt8} (hbd : BodyAt w Av cv l) :
    Calls Tryz.prog 31 #[.pointer (some ⟨f, 0, none⟩), .agg #[.int .i64 k, .int .i64 frm, .int .i64 to_, .int .i64 e0, .int .i64 a, .int .i64 b0, .int .i64 c0, .slice Av l.length cv]] w (SetPost w f X (verdictF s frm a l)) := by
  obtain ⟨nl, hnl⟩ : ∃ nl, nl = l.length := ⟨_, rfl⟩
  rw [← hnl]
  obtain ⟨Wm, hW⟩ : ∃ Wm, Wm = w.alloc (.cells #[.int .i64 k, .int .i64 frm, .int .i64 to_, .int .i64 e0, .int .i64 a, .int .i64 b0, .int .i64 c0, .slice Av nl cv] 53) := ⟨_, rfl⟩
  have hl : Later w Wm := by rw [hW]; exact later_alloc _ _
  have hb : Wm.heap[w.heap.size]? = some (.cells #[.int .i64 k, .int .i64 frm, .int .i64 to_, .int .i64 e0, .int .i64 a, .int .i64 b0, .int .i64 c0, .slice Av nl cv] 53 (0, 0)) := by rw [hW]; exact heap_alloc_new _ _
  have hf := h.later hl
  have HF := hide_ hf; have HH := hide_ h; have HOK := hide_ hok; have HB := hide_ hb; have HL := hide_ hl; have HW := hide_ hW; have HBD := hide_ (hbd.later hl); have HNL := hide_ hnl; have HFR := hide_ hfr
  have k1 := later_drew_cell (show Wm.cell? ⟨w.heap.size, 1, none⟩ = some (.int .i64 frm) from cell_of_row _ _ 1 _ _ (0, 0) hb)
  have k4 := later_drew_cell (show Wm.cell? ⟨w.heap.size, 4, none⟩ = some (.int .i64 a) from cell_of_row _ _ 4 _ _ (0, 0) hb)
  cases hcur : s.cur with
  | none =>
    obtain ⟨cc, hp, _⟩ := hf
    have hcu := hp.cur
    rw [hcur] at hcu
    have hrow := hp.row
    unfold frCells at hrow
    rw [hcu.1] at hrow
    have k14 := later_drew_cell (show Wm.cell? ⟨f, 14, none⟩ = some (.pointer none) from cell_of_row _ _ 14 _ _ (0, 0) hrow)
    have HE := hide_ (show verdictF s frm a l = s by unfold verdictF; rw [hcur])
    clear h hok hl hb hW hbd hnl hfr hp hcu hrow hcur
    go_enter Tryz.func31, Tryz.ntmps31
    go_wp2_with fail
    rw [← HW.out]
    refine wp_region_k (by kernel_rfl) ?_
    refine wKt 0 (v := ?_) rfl (by intro W hSw; go_simp; with_reducible rfl) ?_; try simp only [Act.put, qA, qZ, qS]
    refine wKt 1 (v := ?_) rfl (by intro W hSw; go_simp; with_reducible rfl) ?_; try simp only [Act.put, qA, qZ, qS]
    refine wKt 2 (v := ?_) rfl (by intro W hSw; go_simp; with_reducible rfl) ?_; try simp only [Act.put, qA, qZ, qS]
    refine wKt 3 (v := ?_) rfl (by intro W hSw; go_simp; with_reducible rfl) ?_; try simp only [Act.put, qA, qZ, qS]
    refine wKt 4 (v := ?_) rfl (by intro W hSw; go_simp; with_reducible rfl) ?_; try simp only [Act.put, qA, qZ, qS]
    refine wKt 5 (v := ?_) rfl (by intro W hSw; go_simp; with_reducible rfl) ?_; try simp only [Act.put, qA, qZ, qS]
    refine wKs 6 rfl ?_; try simp only [Act.put, qA, qZ, qS]
    refine wKs 7 rfl ?_; try simp only [Act.put, qA, qZ, qS]
    refine wKs 8 rfl ?_; try simp only [Act.put, qA, qZ, qS]
    refine wKs 9 rfl ?_; try simp only [Act.put, qA, qZ, qS]
    refine wKs 10 rfl ?_; try simp only [Act.put, qA, qZ, qS]
    refine wKs 11 rfl ?_; try simp only [Act.put, qA, qZ, qS]
    refine wKs 12 rfl ?_; try simp only [Act.put, qA, qZ, qS]
    refine wKs 13 rfl ?_; try simp only [Act.put, qA, qZ, qS]
    refine wKs 14 rfl ?_; try simp only [Act.put, qA, qZ, qS]
    refine wKs 15 rfl ?_; try simp only [Act.put, qA, qZ, qS]
    refine wKs 16 rfl ?_; try simp only [Act.put, qA, qZ, qS]
    refine wKt 17 (v := ?_) rfl (by intro W hSw; go_simp; with_reducible rfl) ?_; try simp only [Act.put, qA, qZ, qS]
    refine wKt 18 (v := ?_) rfl (by intro W hSw; go_simp; with_reducible rfl) ?_; try simp only [Act.put, qA, qZ, qS]
    refine wKs 19 rfl ?_; try simp only [Act.put, qA, qZ, qS]
    refine wKs 20 rfl ?_; try simp only [Act.put, qA, qZ, qS]
    refine wKs 21 rfl ?_; try simp only [Act.put, qA, qZ, qS]
    refine wKs 22 rfl ?_; try simp only [Act.put, qA, qZ, qS]
    refine wKs 23 rfl ?_; try simp only [Act.put, qA, qZ, qS]
    refine wKs 24 rfl ?_; try simp only [Act.put, qA, qZ, qS]
    refine wKs 25 rfl ?_; try simp only [Act.put, qA, qZ, qS]
    refine wKs 26 rfl ?_; try simp only [Act.put, qA, qZ, qS]
    refine wKt 27 (v := ?_) rfl (by intro W hSw; go_simp; with_reducible rfl) ?_; try simp only [Act.put, qA, qZ, qS]
    refine wpAnyK_done (by kernel_rfl) ?_ _
    go_wp2_with fail
    go_returns
    rw [HE.out]
    exact ⟨X, rfl, HF.out.later (Later.refl Wm).dr, Hits.later (HL.out.dr), Fresh.refl _ _⟩
  | some b =>
    obtain ⟨cc, bb, bc, M, xs, hca⟩ := cur_open hf hcur
    obtain ⟨hjl, htl⟩ := hok.j b hcur
    have hrow := hca.p.row
    unfold frCells at hrow
    rw [hca.up] at hrow
    obtain ⟨vr, er, orf, _⟩ := ints_holds.1 hca.p.refs
    injection er with er
    obtain ⟨Ar, cr, rfl⟩ := own_form orf
    rw [er] at hrow
    have k14 := later_drew_cell (show Wm.cell? ⟨f, 14, none⟩ = some (.pointer (some ⟨bb, 0, none⟩)) from cell_of_row _ _ 14 _ _ (0, 0) hrow)
    obtain ⟨nr, hnr⟩ : ∃ n, n = s.refs.length := ⟨_, rfl⟩
    rw [← hnr] at hrow
    have k5 := later_drew_cell (show Wm.cell? ⟨f, 5, none⟩ = some (.slice Ar nr cr) from cell_of_row _ _ 5 _ _ (0, 0) hrow)
    have d1 := later_drew_cell (show Wm.cell? ⟨bb, 1, none⟩ = some (.int .i64 b.ver) from cell_of_row _ _ 1 _ _ (0, 0) hca.bt.row)
    have HE := hide_ (show verdictF s frm a l = if b.ver ≠ a ∨ s.refs.contains frm = false then s else
      if (splitF l b.jobs.length).2 ≠ 0 ∨ toldHas b.told frm = true then s else { s with cur := some { b with told := b.told ++ [(frm, (splitF l b.jobs.length).1)] }, stuck := 0 } by unfold verdictF; rw [hcur])
    have nr2 : nr ≤ 1048576 := by rw [hnr]; exact hok.r
    have HCA := hide_ hca; have HRW := hide_ hrow; have HRF := hide_ (Rd.of_own orf); have HNR := hide_ hnr
    have HCN := hide_ (fun W' (hl' : Later Wm.drew W') => contains_int (w := W') (c := cr) (n := nr) (L := s.refs) (by rw [hnr]; exact (Rd.of_own orf).below ((Later.refl Wm).dr.trans hl')) hnr.symm (by omega) frm)
    have flt := theap_lt hrow
    have blt := theap_lt hca.bt.row
    clear h hok hl hb hW hbd hnl hfr hf hcur hca hrow er orf hnr
    go_enter Tryz.func31, Tryz.ntmps31
    go_wp2_with fail
    rw [← HW.out]
    by_cases hv : b.ver = a
    · have hvb : (b.ver != a) = false := by simpa using hv
      have HV := hide_ hv
      clear hv
      obtain ⟨b1, hb1⟩ : ∃ b, b = s.refs.contains frm := ⟨_, rfl⟩
      have HB1 := hide_ hb1
      rw [← hb1] at HCN
      clear hb1
      refine wp_region_k (by kernel_rfl) ?_
      refine wKt 0 (v := ?_) rfl (by intro W hSw; go_simp; with_reducible rfl) ?_; try simp only [Act.put, qA, qZ, qS]
      refine wKt 1 (v := ?_) rfl (by intro W hSw; go_simp; with_reducible rfl) ?_; try simp only [Act.put, qA, qZ, qS]
      refine wKt 2 (v := ?_) rfl (by intro W hSw; go_simp; with_reducible rfl) ?_; try simp only [Act.put, qA, qZ, qS]
      refine wKt 3 (v := ?_) rfl (by intro W hSw; go_simp; with_reducible rfl) ?_; try simp only [Act.put, qA, qZ, qS]
      refine wKt 4 (v := ?_) rfl (by intro W hSw; go_simp; with_reducible rfl) ?_; try simp only [Act.put, qA, qZ, qS]
      refine wKt 5 (v := ?_) rfl (by intro W hSw; go_simp; with_reducible rfl) ?_; try simp only [Act.put, qA, qZ, qS]
      refine wKt 6 (v := ?_) rfl (by intro W hSw; go_simp; with_reducible rfl) ?_; try simp only [Act.put, qA, qZ, qS]
      refine wKt 7 (v := ?_) rfl (by intro W hSw; go_simp; with_reducible rfl) ?_; try simp only [Act.put, qA, qZ, qS]
      refine wKt 8 (v := ?_) rfl (by intro W hSw; go_simp; with_reducible rfl) ?_; try simp only [Act.put, qA, qZ, qS]
      refine wKt 9 (v := ?_) rfl (by intro W hSw; go_simp; with_reducible rfl) ?_; try simp only [Act.put, qA, qZ, qS]
      refine wKt 10 (v := ?_) rfl (by intro W hSw; go_simp; with_reducible rfl) ?_; try simp only [Act.put, qA, qZ, qS]
      refine wKt 11 (v := ?_) rfl (by intro W hSw; go_simp; with_reducible rfl) ?_; try simp only [Act.put, qA, qZ, qS]
      refine wKt 12 (v := ?_) rfl (by intro W hSw; go_simp; with_reducible rfl) ?_; try simp only [Act.put, qA, qZ, qS]
      refine wKt 13 (v := ?_) rfl (by intro W hSw; go_simp; with_reducible rfl) ?_; try simp only [Act.put, qA, qZ, qS]
      refine wKt 14 (v := ?_) rfl (by intro W hSw; go_simp; with_reducible rfl) ?_; try simp only [Act.put, qA, qZ, qS]
      refine wKt 15 (v := ?_) rfl (by intro W hSw; go_simp; with_reducible rfl) ?_; try simp only [Act.put, qA, qZ, qS]
      refine wKt 16 (v := ?_) rfl (by intro W hSw; go_simp; with_reducible rfl) ?_; try simp only [Act.put, qA, qZ, qS]
      refine wKt 17 (v := ?_) rfl (by intro W hSw; go_simp; with_reducible rfl) ?_; try simp only [Act.put, qA, qZ, qS]
      refine wKt 18 (v := ?_) rfl (by intro W hSw; go_simp; with_reducible rfl) ?_; try simp only [Act.put, qA, qZ, qS]
      refine wKt 19 (v := ?_) rfl (by intro W hSw; go_simp; with_reducible rfl) ?_; try simp only [Act.put, qA, qZ, qS]
      refine wKt 20 (v := ?_) rfl (by intro W hSw; go_simp; with_reducible rfl) ?_; try simp only [Act.put, qA, qZ, qS]
      refine wKt 21 (v := ?_) rfl (by intro W hSw; go_simp; with_reducible rfl) ?_; try simp only [Act.put, qA, qZ, qS]
      refine wKt 22 (v := ?_) rfl (by intro W hSw; go_simp; with_reducible rfl) ?_; try simp only [Act.put, qA, qZ, qS]
      refine wKt 23 (v := ?_) rfl (by intro W hSw; go_simp; with_reducible rfl) ?_; try simp only [Act.put, qA, qZ, qS]
      refine wKt 24 (v := ?_) rfl (by intro W hSw; go_simp; with_reducible rfl) ?_; try simp only [Act.put, qA, qZ, qS]
      refine wpAnyK_one 25 (by kernel_rfl) rfl (fun K hK => ?_)
      go_simp
      refine (HCN.out _ (Later.refl _)).mono ?_; rintro e w5 ⟨rfl, rfl⟩; have hl5 := Later.refl Wm.drew
      refine hK.out _ _ (by assumption) ?_
      clear hK K; try simp only [Act.put, qA, qZ, qS]
      refine wKt 26 (v := ?_) rfl (by intro W hSw; go_simp; with_reducible rfl) ?_; try simp only [Act.put, qA, qZ, qS]
      refine wKt 27 (v := ?_) rfl (by intro W hSw; go_simp; with_reducible rfl) ?_; try simp only [Act.put, qA, qZ, qS]
      refine wpAnyK_done (by kernel_rfl) ?_ _
      cases b1 with
      | false =>
        go_wp2_with fail
        go_returns
        rw [HE.out, if_pos (.inr HB1.out.symm)]
        exact ⟨X, rfl, HF.out.later (Later.refl Wm).dr, Hits.later (HL.out.dr), Fresh.refl _ _⟩
      | true =>
        clear k1 k4 k14 k5 d1 hvb HCN
        have hm1 := later_row (Later.refl Wm).dr HB.out
        have hrw1 := later_row (Later.refl Wm).dr HRW.out
        have hca1 := HCA.out.later (Later.refl Wm).dr
        obtain ⟨W1, hW1⟩ : ∃ W, W = Wm.drew := ⟨_, rfl⟩
        rw [← hW1] at hm1 hrw1 hca1 ⊢
        have HL1 := hide_ (show Later Wm W1 by rw [hW1]; exact (Later.refl Wm).dr)
        clear hW1
        have k7 := later_drew_cell (show W1.cell? ⟨w.heap.size, 7, none⟩ = some (.slice Av nl cv) from cell_of_row _ _ 7 _ _ (0, 0) hm1)
        have k14 := later_drew_cell (show W1.cell? ⟨f, 14, none⟩ = some (.pointer (some ⟨bb, 0, none⟩)) from cell_of_row _ _ 14 _ _ (0, 0) hrw1)
        obtain ⟨Aj, cj, ej⟩ := slice_len hca1.bt.jobs
        injection ej with ej
        obtain ⟨nj, hnj⟩ : ∃ n, n = b.jobs.length := ⟨_, rfl⟩
        have d4 := later_drew_cell (show W1.cell? ⟨bb, 4, none⟩ = some (.slice Aj nj cj) from by rw [hnj, ← ej]; exact cell_of_row _ _ 4 _ _ (0, 0) hca1.bt.row)
        rw [← hnj] at HE hjl
        have HNJ := hide_ hnj; have HCB := hide_ hca1; have HM1 := hide_ hm1; have HRW1 := hide_ hrw1
        have HSP := hide_ (fun W' (hl' : Later W1.drew W') => split_any (w := W') (n := nj) (HBD.out.later (HL1.out.trans ((Later.refl W1).dr.trans hl'))).rd HBD.out.hc HBD.out.hcc HBD.out.hll HBD.out.hA (HBD.out.later (HL1.out.trans ((Later.refl W1).dr.trans hl'))).hb hjl)
        rw [← HNL.out] at HSP
        clear hm1 hrw1 hca1 ej hnj
        go_wp2_with fail
        refine wp_region_k (by kernel_rfl) ?_
        refine wKt 0 (v := ?_) rfl (by intro W hSw; go_simp; with_reducible rfl) ?_; try simp only [Act.put, qA, qZ, qS]
        refine wKt 1 (v := ?_) rfl (by intro W hSw; go_simp; with_reducible rfl) ?_; try simp only [Act.put, qA, qZ, qS]
        refine wKt 2 (v := ?_) rfl (by intro W hSw; go_simp; with_reducible rfl) ?_; try simp only [Act.put, qA, qZ, qS]
        refine wKt 3 (v := ?_) rfl (by intro W hSw; go_simp; with_reducible rfl) ?_; try simp only [Act.put, qA, qZ, qS]
        refine wKt 4 (v := ?_) rfl (by intro W hSw; go_simp; with_reducible rfl) ?_; try simp only [Act.put, qA, qZ, qS]
        refine wKt 5 (v := ?_) rfl (by intro W hSw; go_simp; with_reducible rfl) ?_; try simp only [Act.put, qA, qZ, qS]
        refine wKt 6 (v := ?_) rfl (by intro W hSw; go_simp; with_reducible rfl) ?_; try simp only [Act.put, qA, qZ, qS]
        refine wKt 7 (v := ?_) rfl (by intro W hSw; go_simp; with_reducible rfl) ?_; try simp only [Act.put, qA, qZ, qS]
        refine wKt 8 (v := ?_) rfl (by intro W hSw; go_simp; with_reducible rfl) ?_; try simp only [Act.put, qA, qZ, qS]
        refine wKt 9 (v := ?_) rfl (by intro W hSw; go_simp; with_reducible rfl) ?_; try simp only [Act.put, qA, qZ, qS]
        refine wpAnyK_one 10 (by kernel_rfl) rfl (fun K hK => ?_)
        go_simp
        refine (HSP.out _ (Later.refl _)).mono ?_; rintro e w5 ⟨A5, m5, c5, rfl, hm5, ho5, hl5⟩
        refine hK.out _ _ (by assumption) ?_
        clear hK K; try simp only [Act.put, qA, qZ, qS]
        refine wKt 11 (v := ?_) rfl (by intro W hSw; go_simp; with_reducible rfl) ?_; try simp only [Act.put, qA, qZ, qS]
        refine wKt 12 (v := ?_) rfl (by intro W hSw; go_simp; with_reducible rfl) ?_; try simp only [Act.put, qA, qZ, qS]
        refine wKt 13 (v := ?_) rfl (by intro W hSw; go_simp; with_reducible rfl) ?_; try simp only [Act.put, qA, qZ, qS]
        refine wKt 14 (v := ?_) rfl (by intro W hSw; go_simp; with_reducible rfl) ?_; try simp only [Act.put, qA, qZ, qS]
        refine wKt 15 (v := ?_) rfl (by intro W hSw; go_simp; with_reducible rfl) ?_; try simp only [Act.put, qA, qZ, qS]
        refine wpAnyK_done (by kernel_rfl) ?_ _
        have HO5 := hide_ ho5; have HM5 := hide_ hm5; have HL5 := hide_ ((Later.refl W1).dr.trans hl5)
        clear hm5 ho5 hl5 HSP k7 k14 d4
        have hca5 := HCB.out.later HL5.out
        have k1 := later_drew_cell (show w5.cell? ⟨w.heap.size, 1, none⟩ = some (.int .i64 frm) from cell_of_row _ _ 1 _ _ (0, 0) (later_row HL5.out HM1.out))
        have k14 := later_drew_cell (show w5.cell? ⟨f, 14, none⟩ = some (.pointer (some ⟨bb, 0, none⟩)) from cell_of_row _ _ 14 _ _ (0, 0) (later_row HL5.out HRW1.out))
        have d5 := later_drew_cell (show w5.cell? ⟨bb, 5, none⟩ = some (.map (some bc.m)) from cell_of_row _ _ 5 _ _ (0, 0) hca5.bt.row)
        have HLK := hide_ (show ∀ W, Later w5.drew W → (Instr.lookup 92 (.map (some bc.m)) (.int .i64 frm) true).run Tryz.prog W = .ok (.tuple #[(getM M frm).getD (.slice none 0 0), .bool (getM M frm).isSome]) W from fun W hW => (hca5.mm.later ((Later.refl w5).dr.trans hW)).look_ok Tryz.underlying92 (zeroSl W) HFR.out)
        have hlk := HLK.out
        rw [hca5.has frm] at hlk
        obtain ⟨tv, htv⟩ : ∃ v, v = (getM M frm).getD (.slice none 0 0) := ⟨_, rfl⟩
        rw [← htv] at hlk
        obtain ⟨tb, htb⟩ : ∃ v, v = toldHas b.told frm := ⟨_, rfl⟩
        rw [← htb] at hlk
        have HTB := hide_ htb; have HCC := hide_ hca5
        obtain ⟨er, her⟩ : ∃ er, er = (splitF l nj).2 := ⟨_, rfl⟩
        have HER := hide_ her
        rw [← her]
        clear htv htb hca5 her HLK
        go_wp2_with fail
        refine wp_region_k (by kernel_rfl) ?_
        refine wKt 0 (v := ?_) rfl (by intro W hSw; go_simp; with_reducible rfl) ?_; try simp only [Act.put, qA, qZ, qS]
        refine wKt 1 (v := ?_) rfl (by intro W hSw; go_simp; with_reducible rfl) ?_; try simp only [Act.put, qA, qZ, qS]
        refine wKt 2 (v := ?_) rfl (by intro W hSw; go_simp; with_reducible rfl) ?_; try simp only [Act.put, qA, qZ, qS]
        refine wKt 3 (v := ?_) rfl (by intro W hSw; go_simp; with_reducible rfl) ?_; try simp only [Act.put, qA, qZ, qS]
        refine wKt 4 (v := ?_) rfl (by intro W hSw; go_simp; with_reducible rfl) ?_; try simp only [Act.put, qA, qZ, qS]
        refine wKt 5 (v := ?_) rfl (by intro W hSw; go_simp; with_reducible rfl) ?_; try simp only [Act.put, qA, qZ, qS]
        refine wKt 6 (v := ?_) rfl (by intro W hSw; go_simp; with_reducible rfl) ?_; try simp only [Act.put, qA, qZ, qS]
        refine wKt 7 (v := ?_) rfl (by intro W hSw; go_simp; with_reducible rfl) ?_; try simp only [Act.put, qA, qZ, qS]
        refine wKt 8 (v := ?_) rfl (by intro W hSw; go_simp; with_reducible rfl) ?_; try simp only [Act.put, qA, qZ, qS]
        refine wKt 9 (v := ?_) rfl (by intro W hSw; go_simp; with_reducible rfl) ?_; try simp only [Act.put, qA, qZ, qS]
        refine wKt 10 (v := ?_) rfl (by intro W hSw; go_simp; with_reducible rfl) ?_; try simp only [Act.put, qA, qZ, qS]
        refine wKt 11 (v := ?_) rfl (by intro W hSw; go_simp; with_reducible rfl) ?_; try simp only [Act.put, qA, qZ, qS]
        refine wKt 12 (v := ?_) rfl (by intro W hSw; go_simp; with_reducible rfl) ?_; try simp only [Act.put, qA, qZ, qS]
        refine wKt 13 (v := ?_) rfl (by intro W hSw; go_simp; with_reducible rfl) ?_; try simp only [Act.put, qA, qZ, qS]
        refine wKt 14 (v := ?_) rfl (by intro W hSw; go_simp; with_reducible rfl) ?_; try simp only [Act.put, qA, qZ, qS]
        refine wpAnyK_done (by kernel_rfl) ?_ _
        have HE2 := hide_ (HE.out.trans (if_neg (show ¬ (b.ver ≠ a ∨ s.refs.contains frm = false) by rw [← HB1.out]; intro h; rcases h with h | h; exact h HV.out; cases h)))
        by_cases h0 : er = 0
        · subst h0
          cases tb with
          | true =>
            go_wp2_with fail
            go_returns
            rw [HE2.out, if_pos (.inr HTB.out.symm)]
            exact ⟨X, rfl, HH.out.later ((HL.out.trans (HL1.out.trans HL5.out)).dr), Hits.later ((HL.out.trans (HL1.out.trans HL5.out)).dr), Fresh.refl _ _⟩
          | false =>
            clear k1 k14 d5 hlk
            have hca6 := HCC.out.later (Later.refl w5).dr
            obtain ⟨W6, hW6⟩ : ∃ W, W = w5.drew := ⟨_, rfl⟩
            have HL6 := hide_ (show Later w5 W6 by rw [hW6]; exact (Later.refl w5).dr)
            rw [← hW6] at hca6 ⊢
            clear hW6
            have HLA := hide_ (HL1.out.trans (HL5.out.trans HL6.out))
            have k1 := Stands.cell (X := fun g => g = w.heap.size ∨ g = f ∨ g = bb) (show W6.cell? ⟨w.heap.size, 1, none⟩ = some (.int .i64 frm) from cell_of_row _ _ 1 _ _ (0, 0) (later_row HLA.out HB.out)) (.inl rfl)
            have k14 := Stands.cell (X := fun g => g = w.heap.size ∨ g = f ∨ g = bb) (show W6.cell? ⟨f, 14, none⟩ = some (.pointer (some ⟨bb, 0, none⟩)) from cell_of_row _ _ 14 _ _ (0, 0) (later_row HLA.out HRW.out)) (.inr (.inl rfl))
            have d5 := Stands.cell (X := fun g => g = w.heap.size ∨ g = f ∨ g = bb) (show W6.cell? ⟨bb, 5, none⟩ = some (.map (some bc.m)) from cell_of_row _ _ 5 _ _ (0, 0) hca6.bt.row) (.inr (.inr rfl))
            have HMB := hide_ (show M.length < 4611686018427387904 by have h1 := congrArg List.length hca6.keys; simp only [List.length_map] at h1; omega)
            have HMM := hide_ hca6.mm
            have HRW6 := hide_ (later_row HLA.out HRW.out)
            have HNE := hide_ (show f ≠ bc.m from hca6.mem.2.2.2.2.1)
            have HHL := hide_ HH.out.lt
            have HMX := hide_ hca6.mem.2.2.1
            clear hca6
            go_wp2_with fail
            refine wp_region_z (R := Stands (fun g => g = w.heap.size ∨ g = f ∨ g = bb)) [10] (by kernel_rfl) ?_
            refine wpAnyZ_pure (Stands.steady (fun g => g = w.heap.size ∨ g = f ∨ g = bb)) 0 (v := ?_) rfl (by kernel_rfl) (by kernel_rfl) (by kernel_rfl) (fun _ _ _ h => h) (by rfl) (by intro W; go_simp; with_reducible rfl) ?_; try simp only [Act.put, qA, qZ, qS]
            refine wpAnyZ_pure (Stands.steady (fun g => g = w.heap.size ∨ g = f ∨ g = bb)) 1 (v := ?_) rfl (by kernel_rfl) (by kernel_rfl) (by kernel_rfl) (fun _ _ _ h => h) (by rfl) (by intro W; go_simp; with_reducible rfl) ?_; try simp only [Act.put, qA, qZ, qS]
            refine wpAnyZ_pure (Stands.steady (fun g => g = w.heap.size ∨ g = f ∨ g = bb)) 2 (v := ?_) rfl (by kernel_rfl) (by kernel_rfl) (by kernel_rfl) (fun _ _ _ h => h) (by rfl) (by intro W; go_simp; with_reducible rfl) ?_; try simp only [Act.put, qA, qZ, qS]
            refine wpAnyZ_take (Stands.steady (fun g => g = w.heap.size ∨ g = f ∨ g = bb)) 3 (v := ?_) rfl (by kernel_rfl) (by kernel_rfl) (by kernel_rfl) (by kernel_rfl) (fun _ _ _ h => h) (by rfl) (by intro W hSw; have hS0 := Stands.trans (show Stands (fun g => g = w.heap.size ∨ g = f ∨ g = bb) W6 _ from by repeat first | with_reducible assumption | with_reducible exact Stands.refl _ _ | with_reducible refine Stands.alloc ?_ _ | with_reducible refine Stands.drew ?_ | with_reducible refine Stands.drewL ?_ | with_reducible refine Stands.setCell ?_ (by assumption) _ _ | assumption | refine Stands.trans ?_ (by assumption)) hSw; go_simp; with_reducible rfl) ?_; try simp only [Act.put, qA, qZ, qS]
            refine wpAnyZ_pure (Stands.steady (fun g => g = w.heap.size ∨ g = f ∨ g = bb)) 4 (v := ?_) rfl (by kernel_rfl) (by kernel_rfl) (by kernel_rfl) (fun _ _ _ h => h) (by rfl) (by intro W; go_simp; with_reducible rfl) ?_; try simp only [Act.put, qA, qZ, qS]
            refine wpAnyZ_pure (Stands.steady (fun g => g = w.heap.size ∨ g = f ∨ g = bb)) 5 (v := ?_) rfl (by kernel_rfl) (by kernel_rfl) (by kernel_rfl) (fun _ _ _ h => h) (by rfl) (by intro W; go_simp; with_reducible rfl) ?_; try simp only [Act.put, qA, qZ, qS]
            refine wpAnyZ_take (Stands.steady (fun g => g = w.heap.size ∨ g = f ∨ g = bb)) 6 (v := ?_) rfl (by kernel_rfl) (by kernel_rfl) (by kernel_rfl) (by kernel_rfl) (fun _ _ _ h => h) (by rfl) (by intro W hSw; have hS0 := Stands.trans (show Stands (fun g => g = w.heap.size ∨ g = f ∨ g = bb) W6 _ from by repeat first | with_reducible assumption | with_reducible exact Stands.refl _ _ | with_reducible refine Stands.alloc ?_ _ | with_reducible refine Stands.drew ?_ | with_reducible refine Stands.drewL ?_ | with_reducible refine Stands.setCell ?_ (by assumption) _ _ | assumption | refine Stands.trans ?_ (by assumption)) hSw; go_simp; with_reducible rfl) ?_; try simp only [Act.put, qA, qZ, qS]
            refine wpAnyZ_pure (Stands.steady (fun g => g = w.heap.size ∨ g = f ∨ g = bb)) 7 (v := ?_) rfl (by kernel_rfl) (by kernel_rfl) (by kernel_rfl) (fun _ _ _ h => h) (by rfl) (by intro W; go_simp; with_reducible rfl) ?_; try simp only [Act.put, qA, qZ, qS]
            refine wpAnyZ_take (Stands.steady (fun g => g = w.heap.size ∨ g = f ∨ g = bb)) 8 (v := ?_) rfl (by kernel_rfl) (by kernel_rfl) (by kernel_rfl) (by kernel_rfl) (fun _ _ _ h => h) (by rfl) (by intro W hSw; have hS0 := Stands.trans (show Stands (fun g => g = w.heap.size ∨ g = f ∨ g = bb) W6 _ from by repeat first | with_reducible assumption | with_reducible exact Stands.refl _ _ | with_reducible refine Stands.alloc ?_ _ | with_reducible refine Stands.drew ?_ | with_reducible refine Stands.drewL ?_ | with_reducible refine Stands.setCell ?_ (by assumption) _ _ | assumption | refine Stands.trans ?_ (by assumption)) hSw; go_simp; with_reducible rfl) ?_; try simp only [Act.put, qA, qZ, qS]
            refine wpAnyZ_pure (Stands.steady (fun g => g = w.heap.size ∨ g = f ∨ g = bb)) 9 (v := ?_) rfl (by kernel_rfl) (by kernel_rfl) (by kernel_rfl) (fun _ _ _ h => h) (by rfl) (by intro W; go_simp; with_reducible rfl) ?_; try simp only [Act.put, qA, qZ, qS]
            refine wpAnyZ_loud 10 (by kernel_rfl) (by rfl) rfl (fun K hK => ?_)
            refine step_mapUpdateM (by rfl) (.tmp 74) (.tmp 76) (.tmp 77) 92 rfl (HMM.out.later (Later.refl W6).dr) Tryz.underlying92 rfl HFR.out rfl rfl HMB.out ?_; intro w7 hm7 hh7
            refine hK.out _ _ ?_
            clear hK K; try simp only [Act.put, qA, qZ, qS]
            refine wpAnyZ_done (by kernel_rfl) ?_ _
            have hr7 := hh7.row (later_row (Later.refl W6).dr HRW6.out) HNE.out
            have y15 : w7.cell? ⟨f, 15, none⟩ = some (.int .i64 s.stuck) := cell_of_row _ _ 15 _ _ (0, 0) hr7
            have yf15 := frozen_of_row _ _ 15 _ _ hr7
            have hl16 := HL5.out.trans (HL6.out.trans (Later.refl W6).dr)
            have hput := told_put HCB.out HTB.out.symm (l := (splitF l nj).1) (v := .slice A5 m5 c5) hl16 (by rw [HM5.out]; exact own_base (own_later HO5.out (HL6.out.trans (Later.refl W6).dr)) (Nat.le_refl _)) hm7 hh7
            have HPT := hide_ hput
            clear hput hr7 hm7 hh7 k1 k14 d5 hl16
            go_wp2_with fail
            go_returns
            obtain ⟨X', g1, g2, g3⟩ := HPT.out
            rw [HE2.out, if_neg (by rw [← HER.out, ← HTB.out]; intro h; rcases h with h | h; exact h rfl; cases h)]
            have hl01 := HL.out.trans HL1.out
            exact ⟨X', rfl, g1, (Hits.later hl01).trans g2 fun _ _ h => h, fun q hq => (g3 q hq).imp id fun h => Nat.le_trans hl01.size h⟩
        · have hb0 : ((er : Int) != 0) = true := by rw [bne_iff_ne]; omega
          have HZ := hide_ (show (splitF l nj).2 ≠ 0 by rw [← HER.out]; exact h0)
          clear h0
          go_wp2_with fail
          go_returns
          rw [HE2.out, if_pos (.inl HZ.out)]
          exact ⟨X, rfl, HH.out.later ((HL.out.trans (HL1.out.trans HL5.out)).dr), Hits.later ((HL.out.trans (HL1.out.trans HL5.out)).dr), Fresh.refl _ _⟩
    · have hvb : (b.ver != a) = true := by simpa using hv
      have HV := hide_ hv
      clear hv
      refine wp_region_k (by kernel_rfl) ?_
      refine wKt 0 (v := ?_) rfl (by intro W hSw; go_simp; with_reducible rfl) ?_; try simp only [Act.put, qA, qZ, qS]
      refine wKt 1 (v := ?_) rfl (by intro W hSw; go_simp; with_reducible rfl) ?_; try simp only [Act.put, qA, qZ, qS]
      refine wKt 2 (v := ?_) rfl (by intro W hSw; go_simp; with_reducible rfl) ?_; try simp only [Act.put, qA, qZ, qS]
      refine wKt 3 (v := ?_) rfl (by intro W hSw; go_simp; with_reducible rfl) ?_; try simp only [Act.put, qA, qZ, qS]
      refine wKt 4 (v := ?_) rfl (by intro W hSw; go_simp; with_reducible rfl) ?_; try simp only [Act.put, qA, qZ, qS]
      refine wKt 5 (v := ?_) rfl (by intro W hSw; go_simp; with_reducible rfl) ?_; try simp only [Act.put, qA, qZ, qS]
      refine wKt 6 (v := ?_) rfl (by intro W hSw; go_simp; with_reducible rfl) ?_; try simp only [Act.put, qA, qZ, qS]
      refine wKt 7 (v := ?_) rfl (by intro W hSw; go_simp; with_reducible rfl) ?_; try simp only [Act.put, qA, qZ, qS]
      refine wKt 8 (v := ?_) rfl (by intro W hSw; go_simp; with_reducible rfl) ?_; try simp only [Act.put, qA, qZ, qS]
      refine wKt 9 (v := ?_) rfl (by intro W hSw; go_simp; with_reducible rfl) ?_; try simp only [Act.put, qA, qZ, qS]
      refine wKt 10 (v := ?_) rfl (by intro W hSw; go_simp; with_reducible rfl) ?_; try simp only [Act.put, qA, qZ, qS]
      refine wKt 11 (v := ?_) rfl (by intro W hSw; go_simp; with_reducible rfl) ?_; try simp only [Act.put, qA, qZ, qS]
      refine wKt 12 (v := ?_) rfl (by intro W hSw; go_simp; with_reducible rfl) ?_; try simp only [Act.put, qA, qZ, qS]
      refine wKt 13 (v := ?_) rfl (by intro W hSw; go_simp; with_reducible rfl) ?_; try simp only [Act.put, qA, qZ, qS]
      refine wKt 14 (v := ?_) rfl (by intro W hSw; go_simp; with_reducible rfl) ?_; try simp only [Act.put, qA, qZ, qS]
      refine wKt 15 (v := ?_) rfl (by intro W hSw; go_simp; with_reducible rfl) ?_; try simp only [Act.put, qA, qZ, qS]
      refine wKt 16 (v := ?_) rfl (by intro W hSw; go_simp; with_reducible rfl) ?_; try simp only [Act.put, qA, qZ, qS]
      refine wKt 17 (v := ?_) rfl (by intro W hSw; go_simp; with_reducible rfl) ?_; try simp only [Act.put, qA, qZ, qS]
      refine wKt 18 (v := ?_) rfl (by intro W hSw; go_simp; with_reducible rfl) ?_; try simp only [Act.put, qA, qZ, qS]
      refine wKs 19 rfl ?_; try simp only [Act.put, qA, qZ, qS]
      refine wKs 20 rfl ?_; try simp only [Act.put, qA, qZ, qS]
      refine wKs 21 rfl ?_; try simp only [Act.put, qA, qZ, qS]
      refine wKs 22 rfl ?_; try simp only [Act.put, qA, qZ, qS]
      refine wKs 23 rfl ?_; try simp only [Act.put, qA, qZ, qS]
      refine wKs 24 rfl ?_; try simp only [Act.put, qA, qZ, qS]
      refine wKs 25 rfl ?_; try simp only [Act.put, qA, qZ, qS]
      refine wKs 26 rfl ?_; try simp only [Act.put, qA, qZ, qS]
      refine wKt 27 (v := ?_) rfl (by intro W hSw; go_simp; with_reducible rfl) ?_; try simp only [Act.put, qA, qZ, qS]
      refine wpAnyK_done (by kernel_rfl) ?_ _
      go_wp2_with fail
      go_returns
      rw [HE.out, if_pos (.inl HV.out)]
      exact ⟨X, rfl, HF.out.later (Later.refl Wm).dr, Hits.later (HL.out.dr), Fresh.refl _ _⟩

end Go.Proofs.YtcmollfhlillfaaGreatDoor
