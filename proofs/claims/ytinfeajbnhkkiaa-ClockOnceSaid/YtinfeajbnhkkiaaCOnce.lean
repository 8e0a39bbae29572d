/-
  ClockOnce: for any times and steps each bell that is set rings once, at its time or behind it, none ahead; it writes nothing that was there.
  Conditions: none.
-/
import Derived.Test.YtinfeajbnhkkiaaCOnceMath
import Derived.Test.YtinfeajbnhkkiaaCAwake
import Derived.Test.YtinfeajbnhkkiaaShape
namespace Go.Proofs.Ytinfeajbnhkkiaa
open Go.ChangeShapes Go.WideShapes Go.ChangeAt Go.RowKit
set_option linter.unusedVariables false
set_option linter.unusedSimpArgs false
section
variable {H : Type} {enc : TypeId × Value → H} {W : World} {b base : Nat} {held : Bool} {r : Reach}
theorem copens_u16 : Opens enc Try.prog 22 (SliceSh 1 (IntSh .u16)) (sumM fun _ => 0) :=
  opens_slice (size := 1) Try.underlying22 (by kernel_rfl) (by omega) (opens_int Try.underlying28)
/-- Numbers of 16 bits lie here. -/
def U16Row (w : World) (A : Option Addr) (n : Nat) (T : List Int) : Prop := T.length = n ∧ ∀ (i : Nat) (x : Int), T[i]? = some x → ∃ (b o : Nat), A = some ⟨b, o, none⟩ ∧ w.cell? ⟨b, o + i * 1, none⟩ = some (.int .u16 x) ∧ 0 ≤ x ∧ x ≤ 65535
theorem copen_u16 {v : Value} {d : DataW H} {p : List MemPlace} (hv : Value.okWide Try.prog W r base 22 v) (h : DataW.Trod enc Try.prog W b (fun _ => true) held 22 v d p) :
    ∃ (A : Option Addr) (c : Nat) (T : List Int), v = .slice A T.length c ∧ T.length ≤ maxLen ∧ U16Row W A T.length T := by
  obtain ⟨T, hL, hbl⟩ := open_sh copens_u16 Try.underlying22 hv h
  obtain ⟨A, c, hv', hlc, hcm, hA, hx⟩ := hL
  injection hv' with hv'
  subst hv'
  refine ⟨A, c, T, rfl, by omega, rfl, fun i x hi => ?_⟩
  have hi2 := (List.getElem?_eq_some_iff.1 hi).1
  obtain ⟨b, o, rfl, he⟩ := hx (by omega)
  obtain ⟨us, hul, huc, hr⟩ := he i x hi
  obtain ⟨e0, w0⟩ := hr
  subst e0
  have hw : 0 ≤ x ∧ x ≤ 65535 := by simpa [Lit.wf, IntKind.min, IntKind.max, IntKind.signed, IntKind.bits] using w0
  exact ⟨b, o, rfl, huc 0 _ rfl, hw.1, hw.2⟩
end
theorem U16Row.later {w w' : World} {A : Option Addr} {n : Nat} {T : List Int} (h : U16Row w A n T) (hb : Later w w') : U16Row w' A n T :=
  ⟨h.1, fun i x hi => by obtain ⟨b, o, e, hc, h2⟩ := h.2 i x hi; exact ⟨b, o, e, later_cell hc _ hb, h2⟩⟩
def bools (P : List Bool) : List Value := P.map Value.bool
/-- The time of the last one that rang. -/
def LastT (L : List Bel) (d : Nat) (v : Int) : Prop := v = -1 ∧ d = 0 ∨ ∃ e x, d = e + 1 ∧ L[e]? = some x ∧ v = x.2
theorem bools_get {P : List Bool} {i : Nat} {b : Bool} (h : P[i]? = some b) : (bools P)[i]? = some (.bool b) := by simp [bools, h]
theorem bools_set (P : List Bool) (i : Nat) (b : Bool) : (bools P).set i (.bool b) = bools (P.set i b) := by simp [bools, List.map_set]
/-- The clock's blocks lie ahead of this one. -/
def CUo (top : Nat) (w : World) (C : Nat) : Prop := C < top ∧ ∀ B t, CkAt w C B t → B < top
/-- The clock, which have rung, and the last one's time. -/
structure OnceAt (base G C n k : Nat) (T : List Int) (t v : Int) (d : Nat) (R : List Bel) (w : World) : Prop where
  ck : CK w C n t R
  cb : CB base w C
  cu : CUo G w C
  row : w.heap[G]? = some (.cells (bools (rungL k ((setsB T k).take d))).toArray 4 (0, 0))
  last : LastT (setsB T k) d v
theorem OnceAt.later {base G C n k d : Nat} {T : List Int} {t v : Int} {R : List Bel} {w w' : World} (h : OnceAt base G C n k T t v d R w) (hb : Later w w') : OnceAt base G C n k T t v d R w' :=
  ⟨h.ck.later hb, h.cb.later h.ck.lt hb, ⟨h.cu.1, fun B s hk => h.cu.2 B s ((hb.block C h.ck.lt).symm.trans hk)⟩, (hb.block G (theap_lt h.row)).trans h.row, h.last⟩
theorem OnceAt.pass {base G C n k d : Nat} {T : List Int} {t t' v : Int} {R R' : List Bel} {w w' : World} (h : OnceAt base G C n k T t v d R w) (hk : CK w' C n t' R') (ht : CTurn C w w') : OnceAt base G C n k T t' v d R' w' := by
  refine ⟨hk, h.cb.turn ht, ?_, ?_, h.last⟩
  · obtain ⟨B, t1, t2, h1, h2, _⟩ := ht
    exact ⟨h.cu.1, fun B' s hk => by rw [← ckAt_uniq h2 hk]; exact h.cu.2 B t1 h1⟩
  · obtain ⟨B, t1, t2, k1, k2, k3, k4, k5, k6, k7⟩ := ht
    have := h.cu.1
    have := h.cu.2 B t1 k1
    exact (k7 G (theap_lt h.row) (by omega) (by omega)).trans h.row
theorem OnceAt.ring {base G C n k d i : Nat} {T : List Int} {t v : Int} {x : Int} {R : List Bel} {w : World} (h : OnceAt base G C n k T t v d R w) (hx : (setsB T k)[d]? = some ((i : Int), x)) (hi : i < k) :
    OnceAt base G C n k T t x (d + 1) R (w.setCell ⟨G, i, none⟩ (.bool true)) := by
  have hg := h.cu.1
  have hne : ∀ k, k ≠ G → (w.setCell ⟨G, i, none⟩ (.bool true)).heap[k]? = w.heap[k]? := fun k hk => Below.heap_setCell _ _ _ _ hk
  have hck : CK (w.setCell ⟨G, i, none⟩ (.bool true)) C n t R := by
    obtain ⟨B, h1, ⟨D, h2, h3⟩, h4⟩ := h.ck
    have hB := h.cu.2 B t h1
    exact ⟨B, (hne C (by omega)).trans h1, ⟨D, h2.kept (grown_setCell (World.grownBy.refl _ (some G)) (.inl rfl) _) (fun e => by have := Option.some.inj e; omega), h3⟩, h4⟩
  refine ⟨hck, ⟨h.cb.1, fun B s hk => h.cb.2 B s ((hne C (by omega)).symm.trans hk)⟩, ⟨h.cu.1, fun B s hk => h.cu.2 B s ((hne C (by omega)).symm.trans hk)⟩, ?_, .inr ⟨d, _, rfl, hx, rfl⟩⟩
  rw [heap_setCell_same w G i _ _ _ h.row, List.setIfInBounds_toArray, bools_set, rungL_set (x := ((i : Int), x)) hi rfl, take_snoc hx]
theorem once_next {T : List Int} {k d q m : Nat} {t : Int} (hk : k ≤ 4096) (hd : (dueB t ((setsB T k).drop d)).length = m) (hq : q < m) (hn : k ≤ T.length) : ∃ (i : Nat) (x : Int), i < k ∧ (setsB T k)[d + q]? = some ((i : Int), x) ∧ T[i]? = some x ∧ x ≤ t ∧ ((dueB t ((setsB T k).drop d)).map (·.1))[q]? = some (i : Int) ∧
    (rungL k ((setsB T k).take (d + q)))[i]? = some false := by
  have hB := bells_setsB T hk
  obtain ⟨y, hy⟩ : ∃ y, (dueB t ((setsB T k).drop d))[q]? = some y := ⟨_, List.getElem?_eq_getElem (by omega)⟩
  have h1 : (setsB T k)[d + q]? = some y := by have := due_at hy; rwa [List.getElem?_drop] at this
  obtain ⟨i, hi, rfl⟩ := mem_setsB.1 (List.mem_of_getElem? h1)
  have h2 := (due_mem (hB.sorted.sublist (List.drop_sublist d _))).1 (List.mem_of_getElem? hy)
  refine ⟨i, _, hi, h1, ?_, h2.2, by rw [List.getElem?_map, hy]; rfl, ?_⟩
  · rw [List.getD_eq_getElem?_getD, List.getElem?_eq_getElem (by omega)]; rfl
  · rw [rungL_get hi]; exact congrArg some (not_rung hB h1)
theorem LastT.le {T : List Int} {k d : Nat} {v x : Int} {i : Nat} (h : LastT (setsB T k) d v) (hk : k ≤ 4096) (hx : (setsB T k)[d]? = some ((i : Int), x)) (h0 : 0 ≤ x) : v ≤ x := by
  rcases h with ⟨rfl, _⟩ | ⟨e, y, rfl, hy, rfl⟩
  · omega
  · exact rising_at (bells_setsB T hk) hy hx
theorem once_end {T : List Int} {k d : Nat} {t : Int} (hT : ∀ (i : Nat) (x : Int), T[i]? = some x → x ≤ 65535) (hk : k ≤ 4096) (ht : 70000 ≤ t) : restB t ((setsB T k).drop d) = [] := by
  apply List.eq_nil_iff_forall_not_mem.2
  intro x hx
  have hB := (bells_setsB T hk).sub (List.drop_sublist d _)
  obtain ⟨h1, h2⟩ := (rest_mem hB).1 hx
  obtain ⟨i, hi, rfl⟩ := mem_setsB.1 (List.mem_of_mem_drop h1)
  have h3 : T.getD i 0 ≤ 65535 := by
    rw [List.getD_eq_getElem?_getD]
    cases hc : T[i]? with
    | none => simp
    | some y => exact hT i y hc
  have h2 : t < T.getD i 0 := h2
  omega
theorem once_all {T : List Int} {k d i : Nat} (h : (setsB T k).drop d = []) (hi : i < k) : (rungL k ((setsB T k).take d))[i]? = some true := by
  rw [rungL_get hi, List.take_of_length_le (List.drop_eq_nil_iff.1 h)]
  exact congrArg some (all_rung hi)
theorem once_take {T : List Int} {k d m : Nat} {t : Int} (hm : (dueB t ((setsB T k).drop d)).length = m) : restB t ((setsB T k).drop d) = (setsB T k).drop (d + m) := by
  rw [← due_drop, hm, List.drop_drop]
set_option maxRecDepth 100000 in
set_option maxHeartbeats 16000000 in
theorem clockOnce_walk {w : World} (A : Option Addr) (n c : Nat) (T : List Int) (hT : U16Row w A n T) (hn : n ≤ maxLen) (A2 : Option Addr) (m c2 : Nat) (S : List Int) (hS : U16Row w A2 m S) (hm : m ≤ maxLen) :
    Calls Try.prog 3 #[.slice A n c, .slice A2 m c2] w fun e w' => e = .returned (.bool true) ∧ Below w.heap.size w w' := by
  have HT := hide_ hT; have HS := hide_ hS
  unfold maxLen at hn hm
  have hn2 : (n : Int) ≤ 9223372036854775807 := by omega
  have hm2 : (m : Int) ≤ 9223372036854775807 := by omega
  clear hT hS
  go_enter Try.func3, Try.ntmps3
  go_wp2_with fail
  refine (cknew_any _).mono ?_; rintro e w1 ⟨rfl, hck, hcb, hb1⟩
  have HCK1 := hide_ hck; have HCB1 := hide_ hcb; have HB1 := hide_ hb1
  clear hck hcb hb1
  go_wp2_with fail
  refine (cawake_yes _).mono ?_; rintro e w2 ⟨rfl, hb2⟩
  have HCB2 := hide_ (HCB1.out.later HCK1.out.lt hb2); have HCK2 := hide_ (show CK w2 (w.heap.size + 1) 0 0 (setsB T 0) from HCK1.out.later hb2); have HB2 := hide_ (HB1.out.trans hb2)
  clear hb2
  go_wp2_with fail
  go_loopw [6, 7] (fun s6 s7 wr => ∃ (k : Nat), k ≤ n ∧ k ≤ 100 ∧ s6 = .int .i64 k ∧ s7 = .int .i64 k ∧ Hid (CK wr (w.heap.size + 1) k 0 (setsB T k)) ∧ Hid (CB w.heap.size wr (w.heap.size + 1)) ∧ Hid (Later w wr)) (fun _ s7 _ => 100 - (intOf s7).toNat)
  case atStart => exact ⟨0, by omega, by omega, rfl, rfl, HCK2, HCB2, HB2⟩
  case round =>
    obtain ⟨k, hk, hk1, rfl, rfl, HCK, HCB, HB⟩ := hrel
    have r2 : (k : Int) ≤ 100 := by omega
    have r3 : (0 : Int) ≤ (k : Int) := by omega
    by_cases hlt : k < n ∧ k < 100
    · have r1 : (k : Int) < (n : Int) := by omega
      have r4 : (k : Int) < 100 := by omega
      obtain ⟨x, hx⟩ : ∃ x, T[k]? = some x := ⟨_, List.getElem?_eq_getElem (by rw [HT.out.1]; omega)⟩
      obtain ⟨b, o, rfl, hc, x0, x1⟩ := HT.out.2 k x hx
      have l0 : wr.cell? ⟨b, o + k, none⟩ = some (.int .u16 x) := by have := later_cell hc _ HB.out; rwa [Nat.mul_one] at this
      have HTK := hide_ (show T.getD k 0 = x by rw [List.getD_eq_getElem?_getD, hx]; rfl)
      clear hc hx
      go_wp2_with fail
      refine (ckset_any k x HCK.out (by omega)).mono ?_; rintro e w4 h
      obtain ⟨rfl, hck, ht⟩ := set_good h (by omega) (by omega) (by omega) (by omega)
      have HCK4 := hide_ (show CK w4 (w.heap.size + 1) (k + 1) 0 (setsB T (k + 1)) by unfold setsB; rw [HTK.out]; exact hck)
      have HB4 := hide_ (ht.later HB.out HCB.out); have HCB4 := hide_ (HCB.out.turn ht)
      clear h hck ht l0
      go_wp2_with fail
      go_roundw
      case rel => exact ⟨k + 1, by omega, by omega, by go_num, by go_num, HCK4, HCB4, HB4⟩
      case measure => simp [intOf]; omega
    · have hlt' : ¬ (k : Int) < (n : Int) ∨ ((k : Int) < (n : Int) ∧ ¬ (k : Int) < 100) := by omega
      obtain ⟨cs, hcs, hcl, hmk⟩ := make_one (P := Try.prog) (t := 29) (e := 4) (z := .bool false) (bytes := 1) Try.underlying29 (by kernel_rfl) rfl k (by omega) (by unfold maxLen; omega)
      clear hlt
      obtain ⟨wo, rfl⟩ : ∃ wo : World, wo = wr := ⟨_, rfl⟩
      have hwo := HCK.out.lt
      have hcs2 : cs = (bools (rungL k ((setsB T k).take 0))).toArray := by
        rw [List.take_zero, rungL_nil]
        apply Array.ext'
        rw [hcl]; simp [bools]
      obtain ⟨W5, hW5⟩ : ∃ W5, W5 = wo.alloc (.cells cs 4) := ⟨_, rfl⟩
      have hl5 : Later wo W5 := by rw [hW5]; exact later_alloc _ _
      obtain ⟨G, hG⟩ : ∃ G, G = wo.heap.size := ⟨_, rfl⟩
      have hwG : w.heap.size ≤ G := by rw [hG]; exact HB.out.size
      have HO5 := hide_ (show OnceAt w.heap.size G (w.heap.size + 1) k k T 0 (-1) 0 (setsB T k) W5 from
        ⟨HCK.out.later hl5, HCB.out.later hwo hl5, ⟨by omega, fun B t hk => by
          obtain ⟨B2, g1, ⟨D, g2, _⟩, _⟩ := HCK.out
          have := ckAt_uniq ((hl5.block _ g1.lt).trans g1) hk
          subst this; rw [hG]; exact g2.lt⟩, by rw [hW5, hG, ← hcs2]; exact heap_alloc_new wo _, .inl ⟨rfl, rfl⟩⟩)
      have HB5 := hide_ (HB.out.trans hl5)
      have hmk2 : (Instr.makeSlice 29 (.int .i64 (k : Int)) (.int .i64 (k : Int))).run Try.prog wo = .ok (.slice (some ⟨G, 0, none⟩) k k) W5 := by rw [hmk, hW5, hG]
      have hk100 : k ≤ 4096 := by omega
      have HTB := hide_ (show ∀ (i : Nat) (x : Int), T[i]? = some x → x ≤ 65535 from fun i x hx => by obtain ⟨_, _, _, _, _, h⟩ := HT.out.2 i x hx; exact h)
      have hkT : k ≤ T.length := by have := HT.out.1; omega
      clear hmk hcs hcl hcs2 hW5 hl5 HCK HCB HB hG hwo HCK1 HCB1 HB1 HCK2 HCB2 HB2
      rcases hlt' with q1 | ⟨q1, q2⟩
      all_goals
        go_wp2_with fail
        go_loopw [9, 10] (fun s9 s10 wi => ∃ (j d : Nat) (t v : Int), j ≤ m + 1 ∧ j ≤ 101 ∧ s10 = .int .i64 j ∧ s9 = .int .i64 v ∧ 0 ≤ t ∧ t ≤ 70000 * (j : Int) ∧ Hid (OnceAt w.heap.size G (w.heap.size + 1) k k T t v d ((setsB T k).drop d) wi) ∧ Hid (¬ (j ≤ m ∧ j ≤ 100) → (setsB T k).drop d = []) ∧ Hid (Later w wi)) (fun _ s10 _ => 101 - (intOf s10).toNat)
        case atStart => exact ⟨0, 0, 0, -1, by omega, by omega, rfl, rfl, by omega, by omega, hide_ (by rw [List.drop_zero]; exact HO5.out), hide_ (fun h => absurd ⟨Nat.zero_le _, Nat.zero_le _⟩ h), HB5⟩
        case round =>
          obtain ⟨j, d, t, v, hj, hj2, rfl, rfl, ht0, ht1, HO, HF, HB⟩ := hrel
          obtain ⟨wi, rfl⟩ : ∃ wi : World, wi = wr := ⟨_, rfl⟩
          have r3 : (0 : Int) ≤ (j : Int) := by omega
          by_cases hlt : j ≤ m ∧ j ≤ 100
          · have r1 : (j : Int) ≤ (m : Int) := by omega
            have r2 : (j : Int) ≤ 100 := by omega
            have h3 : ((j : Int) < (m : Int) ∧ (j : Int) < 100) ∨ ¬ (j : Int) < (m : Int) ∨ ((j : Int) < (m : Int) ∧ ¬ (j : Int) < 100) := by omega
            have hx : (j : Int) < (m : Int) → ∃ x b o, S[j]? = some x ∧ A2 = some ⟨b, o, none⟩ ∧ wi.cell? ⟨b, o + j, none⟩ = some (.int .u16 x) ∧ 0 ≤ x ∧ x ≤ 65535 := fun h => by
              obtain ⟨x, hx⟩ : ∃ x, S[j]? = some x := ⟨_, List.getElem?_eq_getElem (by rw [HS.out.1]; omega)⟩
              obtain ⟨b, o, e, hc, x0, x1⟩ := HS.out.2 j x hx
              exact ⟨x, b, o, hx, e, by have := later_cell hc _ HB.out; rwa [Nat.mul_one] at this, x0, x1⟩
            have HX := hide_ hx
            clear hx hlt
            have HPA := hide_ (fun (K : Int) (h0 : 0 ≤ K) (h1 : K ≤ 70000) => (ckpass_any K HO.out.ck (by omega)).mono fun e w' h => pass_good h h0 (by omega))
            rcases h3 with ⟨q3, q4⟩ | q3 | ⟨q3, q4⟩
            · obtain ⟨K, b, o, hx, rfl, l0, x0, x1⟩ := HX.out q3
              have HK := hide_ (show ¬ (j + 1 ≤ m ∧ j + 1 ≤ 100) → 70000 ≤ t + K from fun h => absurd ⟨by omega, by omega⟩ h)
              have k1 : K ≤ 70000 := by omega
              clear hx
              go_wp2_with fail
              refine (HPA.out K x0 k1).mono ?_; rintro e w6 ⟨A6, m1, c1, rfl, hm1, ho6, hck6, ht6⟩
              obtain ⟨t', ht'⟩ : ∃ t', t' = t + K := ⟨_, rfl⟩
              rw [← ht'] at hm1 ho6 hck6 HK
              have ht2 : t ≤ t' := by omega
              have ht3 : t' ≤ 70000 * ((j : Int) + 1) := by omega
              have HP6 := hide_ (HO.out.pass hck6 ht6); have HB6 := hide_ (ht6.later HB.out HO.out.cb); have HOW6 := hide_ ho6; have HM1 := hide_ hm1
              have hs6 : w.heap.size ≤ wi.heap.size := HB.out.size
              have hG6 : G < wi.heap.size := theap_lt HO.out.row
              have hm6 : (m1 : Int) ≤ 4096 := by have := ((bells_setsB T hk100).sub (List.drop_sublist d _)).due t' |>.length; have := HM1.out; omega
              clear hm1 ho6 hck6 ht6 ht' x0 x1 k1 l0
              go_wp2_with fail
              go_loopw [9, 14] (fun s9 s14 wx => ∃ (q : Nat) (u : Int), q ≤ m1 ∧ s14 = .int .i64 q ∧ s9 = .int .i64 u ∧ Hid (OnceAt w.heap.size G (w.heap.size + 1) k k T t' u (d + q) (restB t' ((setsB T k).drop d)) wx) ∧ Hid (wx.ownsRow wi.heap.size 3 1 (.slice A6 m1 c1) m1 (ints ((dueB t' ((setsB T k).drop d)).map (·.1)))) ∧ Hid (Later w wx)) (fun _ s14 _ => m1 - (intOf s14).toNat)
              case atStart => exact ⟨0, v, by omega, rfl, rfl, HP6, HOW6, HB6⟩
              case round =>
                obtain ⟨q, u, hq, rfl, rfl, HI, HW, HBX⟩ := hrel
                have y3 : (0 : Int) ≤ (q : Int) := by omega
                by_cases hlq : q < m1
                · have y1 : (q : Int) < (m1 : Int) := by omega
                  have y2 : (q : Int) ≤ 4096 := by omega
                  obtain ⟨i, x, hi, hxi, hTi, hxt, hli, hri⟩ := once_next hk100 HM1.out hlq hkT
                  obtain ⟨bt, ot, rfl, hct, x0, x1⟩ := HT.out.2 i x hTi
                  have hux := HI.out.last.le hk100 hxi x0
                  obtain ⟨bl, ol, rfl, hcl⟩ := ints_cells HW.out (by rw [List.length_map]; exact HM1.out) (by omega)
                  have hbl : wi.heap.size ≤ bl := by
                    rcases HW.out.2 with ⟨h, _⟩ | ⟨g, _, _, h, hg, _⟩
                    · cases h
                    · injection h with h _ _; injection h with h; injection h with h; omega
                  have hbt : bt < w.heap.size := cell_lt hct
                  have c0 : wr.cell? ⟨bl, ol + q, none⟩ = some (.int .i64 (i : Int)) := hcl q _ hli
                  have c1 : wr.cell? ⟨bt, ot + i, none⟩ = some (.int .u16 x) := by have := later_cell hct _ HBX.out; rwa [Nat.mul_one] at this
                  have c2 : wr.cell? ⟨G, i, none⟩ = some (.bool false) := by
                    rw [cell_of_row _ _ i _ _ (0, 0) HI.out.row, List.getElem?_toArray]; exact bools_get hri
                  have c3 : wr.frozen? ⟨G, i, none⟩ = false := frozen_of_row _ _ i _ _ HI.out.row
                  have g0 := later_drew_cell c0; have g1 := later_drew_cell c1; have g2 := later_drew_cell c2
                  have z1 : (i : Int) < (k : Int) := by omega
                  have z2 : (0 : Int) ≤ (i : Int) := by omega
                  have z3 : (i : Int) < (n : Int) := by omega
                  have z4 : (i : Int) ≤ 4096 := by omega
                  have ew : IntKind.i64.wrap x = x := IntWalk.i64_in _ (by omega)
                  have e0 : decide ((i : Int) < 0) = false := decide_eq_false (by omega)
                  have e1 : decide (k ≤ i) = false := decide_eq_false (by omega)
                  have e2 : decide (t' < x) = false := decide_eq_false (by omega)
                  have e3 : decide (x < u) = false := decide_eq_false (by omega)
                  have hnow := hide_ (fun (Wx : World) (hx : Later wr.drew Wx) => cnow_any (HI.out.ck.later ((below_drewN (Later.refl wr) 1).trans hx)))
                  have HXI := hide_ hxi; have HHI := hide_ hi
                  clear hTi hct hcl hli hri hxi
                  go_wp2_with fail
                  refine wp_region_k (by kernel_rfl) ?_
                  refine wpAnyK_take 0 (v := ?_) rfl (by kernel_rfl) (by kernel_rfl) (by kernel_rfl) (fun _ _ _ h => h) (by rfl) (by intro W hSw; go_simp; with_reducible rfl) ?_; try simp only [Act.put, List.setIfInBounds_toArray, List.set_cons_zero, List.set_cons_succ]
                  refine wpAnyK_take 1 (v := ?_) rfl (by kernel_rfl) (by kernel_rfl) (by kernel_rfl) (fun _ _ _ h => h) (by rfl) (by intro W hSw; go_simp; with_reducible rfl) ?_; try simp only [Act.put, List.setIfInBounds_toArray, List.set_cons_zero, List.set_cons_succ]
                  refine wpAnyK_take 2 (v := ?_) rfl (by kernel_rfl) (by kernel_rfl) (by kernel_rfl) (fun _ _ _ h => h) (by rfl) (by intro W hSw; go_simp; with_reducible rfl) ?_; try simp only [Act.put, List.setIfInBounds_toArray, List.set_cons_zero, List.set_cons_succ]
                  refine wpAnyK_take 3 (v := ?_) rfl (by kernel_rfl) (by kernel_rfl) (by kernel_rfl) (fun _ _ _ h => h) (by rfl) (by intro W hSw; go_simp; with_reducible rfl) ?_; try simp only [Act.put, List.setIfInBounds_toArray, List.set_cons_zero, List.set_cons_succ]
                  refine wpAnyK_take 4 (v := ?_) rfl (by kernel_rfl) (by kernel_rfl) (by kernel_rfl) (fun _ _ _ h => h) (by rfl) (by intro W hSw; go_simp; with_reducible rfl) ?_; try simp only [Act.put, List.setIfInBounds_toArray, List.set_cons_zero, List.set_cons_succ]
                  refine wpAnyK_take 5 (v := ?_) rfl (by kernel_rfl) (by kernel_rfl) (by kernel_rfl) (fun _ _ _ h => h) (by rfl) (by intro W hSw; go_simp; with_reducible rfl) ?_; try simp only [Act.put, List.setIfInBounds_toArray, List.set_cons_zero, List.set_cons_succ]
                  refine wpAnyK_take 6 (v := ?_) rfl (by kernel_rfl) (by kernel_rfl) (by kernel_rfl) (fun _ _ _ h => h) (by rfl) (by intro W hSw; go_simp; with_reducible rfl) ?_; try simp only [Act.put, List.setIfInBounds_toArray, List.set_cons_zero, List.set_cons_succ]
                  refine wpAnyK_take 7 (v := ?_) rfl (by kernel_rfl) (by kernel_rfl) (by kernel_rfl) (fun _ _ _ h => h) (by rfl) (by intro W hSw; go_simp; with_reducible rfl) ?_; try simp only [Act.put, List.setIfInBounds_toArray, List.set_cons_zero, List.set_cons_succ]
                  refine wpAnyK_take 8 (v := ?_) rfl (by kernel_rfl) (by kernel_rfl) (by kernel_rfl) (fun _ _ _ h => h) (by rfl) (by intro W hSw; go_simp; with_reducible rfl) ?_; try simp only [Act.put, List.setIfInBounds_toArray, List.set_cons_zero, List.set_cons_succ]
                  refine wpAnyK_take 9 (v := ?_) rfl (by kernel_rfl) (by kernel_rfl) (by kernel_rfl) (fun _ _ _ h => h) (by rfl) (by intro W hSw; go_simp; with_reducible rfl) ?_; try simp only [Act.put, List.setIfInBounds_toArray, List.set_cons_zero, List.set_cons_succ]
                  refine wpAnyK_take 10 (v := ?_) rfl (by kernel_rfl) (by kernel_rfl) (by kernel_rfl) (fun _ _ _ h => h) (by rfl) (by intro W hSw; go_simp; with_reducible rfl) ?_; try simp only [Act.put, List.setIfInBounds_toArray, List.set_cons_zero, List.set_cons_succ]
                  refine wpAnyK_take 11 (v := ?_) rfl (by kernel_rfl) (by kernel_rfl) (by kernel_rfl) (fun _ _ _ h => h) (by rfl) (by intro W hSw; go_simp; with_reducible rfl) ?_; try simp only [Act.put, List.setIfInBounds_toArray, List.set_cons_zero, List.set_cons_succ]
                  refine wpAnyK_take 12 (v := ?_) rfl (by kernel_rfl) (by kernel_rfl) (by kernel_rfl) (fun _ _ _ h => h) (by rfl) (by intro W hSw; go_simp; with_reducible rfl) ?_; try simp only [Act.put, List.setIfInBounds_toArray, List.set_cons_zero, List.set_cons_succ]
                  refine wpAnyK_take 13 (v := ?_) rfl (by kernel_rfl) (by kernel_rfl) (by kernel_rfl) (fun _ _ _ h => h) (by rfl) (by intro W hSw; go_simp; with_reducible rfl) ?_; try simp only [Act.put, List.setIfInBounds_toArray, List.set_cons_zero, List.set_cons_succ]
                  refine wpAnyK_take 14 (v := ?_) rfl (by kernel_rfl) (by kernel_rfl) (by kernel_rfl) (fun _ _ _ h => h) (by rfl) (by intro W hSw; go_simp; with_reducible rfl) ?_; try simp only [Act.put, List.setIfInBounds_toArray, List.set_cons_zero, List.set_cons_succ]
                  refine wpAnyK_take 15 (v := ?_) rfl (by kernel_rfl) (by kernel_rfl) (by kernel_rfl) (fun _ _ _ h => h) (by rfl) (by intro W hSw; go_simp; with_reducible rfl) ?_; try simp only [Act.put, List.setIfInBounds_toArray, List.set_cons_zero, List.set_cons_succ]
                  refine wpAnyK_take 16 (v := ?_) rfl (by kernel_rfl) (by kernel_rfl) (by kernel_rfl) (fun _ _ _ h => h) (by rfl) (by intro W hSw; go_simp; with_reducible rfl) ?_; try simp only [Act.put, List.setIfInBounds_toArray, List.set_cons_zero, List.set_cons_succ]
                  refine wpAnyK_take 17 (v := ?_) rfl (by kernel_rfl) (by kernel_rfl) (by kernel_rfl) (fun _ _ _ h => h) (by rfl) (by intro W hSw; go_simp; with_reducible rfl) ?_; try simp only [Act.put, List.setIfInBounds_toArray, List.set_cons_zero, List.set_cons_succ]
                  refine wpAnyK_take 18 (v := ?_) rfl (by kernel_rfl) (by kernel_rfl) (by kernel_rfl) (fun _ _ _ h => h) (by rfl) (by intro W hSw; go_simp; with_reducible rfl) ?_; try simp only [Act.put, List.setIfInBounds_toArray, List.set_cons_zero, List.set_cons_succ]
                  refine wpAnyK_take 19 (v := ?_) rfl (by kernel_rfl) (by kernel_rfl) (by kernel_rfl) (fun _ _ _ h => h) (by rfl) (by intro W hSw; go_simp; with_reducible rfl) ?_; try simp only [Act.put, List.setIfInBounds_toArray, List.set_cons_zero, List.set_cons_succ]
                  refine wpAnyK_take 20 (v := ?_) rfl (by kernel_rfl) (by kernel_rfl) (by kernel_rfl) (fun _ _ _ h => h) (by rfl) (by intro W hSw; go_simp; with_reducible rfl) ?_; try simp only [Act.put, List.setIfInBounds_toArray, List.set_cons_zero, List.set_cons_succ]
                  refine wpAnyK_take 21 (v := ?_) rfl (by kernel_rfl) (by kernel_rfl) (by kernel_rfl) (fun _ _ _ h => h) (by rfl) (by intro W hSw; go_simp; with_reducible rfl) ?_; try simp only [Act.put, List.setIfInBounds_toArray, List.set_cons_zero, List.set_cons_succ]
                  refine wpAnyK_take 22 (v := ?_) rfl (by kernel_rfl) (by kernel_rfl) (by kernel_rfl) (fun _ _ _ h => h) (by rfl) (by intro W hSw; go_simp; with_reducible rfl) ?_; try simp only [Act.put, List.setIfInBounds_toArray, List.set_cons_zero, List.set_cons_succ]
                  refine wpAnyK_take 23 (v := ?_) rfl (by kernel_rfl) (by kernel_rfl) (by kernel_rfl) (fun _ _ _ h => h) (by rfl) (by intro W hSw; go_simp; with_reducible rfl) ?_; try simp only [Act.put, List.setIfInBounds_toArray, List.set_cons_zero, List.set_cons_succ]
                  refine wpAnyK_take 24 (v := ?_) rfl (by kernel_rfl) (by kernel_rfl) (by kernel_rfl) (fun _ _ _ h => h) (by rfl) (by intro W hSw; go_simp; with_reducible rfl) ?_; try simp only [Act.put, List.setIfInBounds_toArray, List.set_cons_zero, List.set_cons_succ]
                  refine wpAnyK_take 25 (v := ?_) rfl (by kernel_rfl) (by kernel_rfl) (by kernel_rfl) (fun _ _ _ h => h) (by rfl) (by intro W hSw; go_simp; with_reducible rfl) ?_; try simp only [Act.put, List.setIfInBounds_toArray, List.set_cons_zero, List.set_cons_succ]
                  refine wpAnyK_take 26 (v := ?_) rfl (by kernel_rfl) (by kernel_rfl) (by kernel_rfl) (fun _ _ _ h => h) (by rfl) (by intro W hSw; go_simp; with_reducible rfl) ?_; try simp only [Act.put, List.setIfInBounds_toArray, List.set_cons_zero, List.set_cons_succ]
                  refine wpAnyK_take 27 (v := ?_) rfl (by kernel_rfl) (by kernel_rfl) (by kernel_rfl) (fun _ _ _ h => h) (by rfl) (by intro W hSw; go_simp; with_reducible rfl) ?_; try simp only [Act.put, List.setIfInBounds_toArray, List.set_cons_zero, List.set_cons_succ]
                  refine wpAnyK_take 28 (v := ?_) rfl (by kernel_rfl) (by kernel_rfl) (by kernel_rfl) (fun _ _ _ h => h) (by rfl) (by intro W hSw; go_simp; with_reducible rfl) ?_; try simp only [Act.put, List.setIfInBounds_toArray, List.set_cons_zero, List.set_cons_succ]
                  refine wpAnyK_take 29 (v := ?_) rfl (by kernel_rfl) (by kernel_rfl) (by kernel_rfl) (fun _ _ _ h => h) (by rfl) (by intro W hSw; go_simp; with_reducible rfl) ?_; try simp only [Act.put, List.setIfInBounds_toArray, List.set_cons_zero, List.set_cons_succ]
                  refine wpAnyK_take 30 (v := ?_) rfl (by kernel_rfl) (by kernel_rfl) (by kernel_rfl) (fun _ _ _ h => h) (by rfl) (by intro W hSw; go_simp; with_reducible rfl) ?_; try simp only [Act.put, List.setIfInBounds_toArray, List.set_cons_zero, List.set_cons_succ]
                  refine wpAnyK_take 31 (v := ?_) rfl (by kernel_rfl) (by kernel_rfl) (by kernel_rfl) (fun _ _ _ h => h) (by rfl) (by intro W hSw; go_simp; with_reducible rfl) ?_; try simp only [Act.put, List.setIfInBounds_toArray, List.set_cons_zero, List.set_cons_succ]
                  refine wpAnyK_one 32 (by kernel_rfl) rfl (fun K hK => ?_)
                  go_simp
                  refine (hnow.out _ (Later.refl _)).mono ?_; rintro e w21 ⟨rfl, rfl⟩; have hlr := Later.refl wr.drew
                  refine hK.out _ _ (by assumption) ?_
                  clear hK K; try simp only [Act.put, List.setIfInBounds_toArray, List.set_cons_zero, List.set_cons_succ]
                  refine wpAnyK_take 33 (v := ?_) rfl (by kernel_rfl) (by kernel_rfl) (by kernel_rfl) (fun _ _ _ h => h) (by rfl) (by intro W hSw; go_simp; with_reducible rfl) ?_; try simp only [Act.put, List.setIfInBounds_toArray, List.set_cons_zero, List.set_cons_succ]
                  refine wpAnyK_take 34 (v := ?_) rfl (by kernel_rfl) (by kernel_rfl) (by kernel_rfl) (fun _ _ _ h => h) (by rfl) (by intro W hSw; go_simp; with_reducible rfl) ?_; try simp only [Act.put, List.setIfInBounds_toArray, List.set_cons_zero, List.set_cons_succ]
                  refine wpAnyK_take 35 (v := ?_) rfl (by kernel_rfl) (by kernel_rfl) (by kernel_rfl) (fun _ _ _ h => h) (by rfl) (by intro W hSw; go_simp; with_reducible rfl) ?_; try simp only [Act.put, List.setIfInBounds_toArray, List.set_cons_zero, List.set_cons_succ]
                  refine wpAnyK_take 36 (v := ?_) rfl (by kernel_rfl) (by kernel_rfl) (by kernel_rfl) (fun _ _ _ h => h) (by rfl) (by intro W hSw; go_simp; with_reducible rfl) ?_; try simp only [Act.put, List.setIfInBounds_toArray, List.set_cons_zero, List.set_cons_succ]
                  refine wpAnyK_take 37 (v := ?_) rfl (by kernel_rfl) (by kernel_rfl) (by kernel_rfl) (fun _ _ _ h => h) (by rfl) (by intro W hSw; go_simp; with_reducible rfl) ?_; try simp only [Act.put, List.setIfInBounds_toArray, List.set_cons_zero, List.set_cons_succ]
                  refine wpAnyK_take 38 (v := ?_) rfl (by kernel_rfl) (by kernel_rfl) (by kernel_rfl) (fun _ _ _ h => h) (by rfl) (by intro W hSw; go_simp; with_reducible rfl) ?_; try simp only [Act.put, List.setIfInBounds_toArray, List.set_cons_zero, List.set_cons_succ]
                  refine wpAnyK_take 39 (v := ?_) rfl (by kernel_rfl) (by kernel_rfl) (by kernel_rfl) (fun _ _ _ h => h) (by rfl) (by intro W hSw; go_simp; with_reducible rfl) ?_; try simp only [Act.put, List.setIfInBounds_toArray, List.set_cons_zero, List.set_cons_succ]
                  refine wpAnyK_take 40 (v := ?_) rfl (by kernel_rfl) (by kernel_rfl) (by kernel_rfl) (fun _ _ _ h => h) (by rfl) (by intro W hSw; go_simp; with_reducible rfl) ?_; try simp only [Act.put, List.setIfInBounds_toArray, List.set_cons_zero, List.set_cons_succ]
                  refine wpAnyK_take 41 (v := ?_) rfl (by kernel_rfl) (by kernel_rfl) (by kernel_rfl) (fun _ _ _ h => h) (by rfl) (by intro W hSw; go_simp; with_reducible rfl) ?_; try simp only [Act.put, List.setIfInBounds_toArray, List.set_cons_zero, List.set_cons_succ]
                  refine wpAnyK_take 42 (v := ?_) rfl (by kernel_rfl) (by kernel_rfl) (by kernel_rfl) (fun _ _ _ h => h) (by rfl) (by intro W hSw; go_simp; with_reducible rfl) ?_; try simp only [Act.put, List.setIfInBounds_toArray, List.set_cons_zero, List.set_cons_succ]
                  refine wpAnyK_take 43 (v := ?_) rfl (by kernel_rfl) (by kernel_rfl) (by kernel_rfl) (fun _ _ _ h => h) (by rfl) (by intro W hSw; go_simp; with_reducible rfl) ?_; try simp only [Act.put, List.setIfInBounds_toArray, List.set_cons_zero, List.set_cons_succ]
                  refine wpAnyK_take 44 (v := ?_) rfl (by kernel_rfl) (by kernel_rfl) (by kernel_rfl) (fun _ _ _ h => h) (by rfl) (by intro W hSw; go_simp; with_reducible rfl) ?_; try simp only [Act.put, List.setIfInBounds_toArray, List.set_cons_zero, List.set_cons_succ]
                  refine wpAnyK_take 45 (v := ?_) rfl (by kernel_rfl) (by kernel_rfl) (by kernel_rfl) (fun _ _ _ h => h) (by rfl) (by intro W hSw; go_simp; with_reducible rfl) ?_; try simp only [Act.put, List.setIfInBounds_toArray, List.set_cons_zero, List.set_cons_succ]
                  refine wpAnyK_take 46 (v := ?_) rfl (by kernel_rfl) (by kernel_rfl) (by kernel_rfl) (fun _ _ _ h => h) (by rfl) (by intro W hSw; go_simp; with_reducible rfl) ?_; try simp only [Act.put, List.setIfInBounds_toArray, List.set_cons_zero, List.set_cons_succ]
                  refine wpAnyK_done (by kernel_rfl) ?_ _
                  clear ew
                  go_wp2_with fail
                  have HR8 := hide_ ((HI.out.ring HXI.out HHI.out).later (below_drewN (Later.refl _) 1))
                  have HW8 := hide_ (own_put HW.out (show G < wi.heap.size by omega) (j := i) (u := .bool true))
                  have HB8 := hide_ (below_drewN (Below.setCell HBX.out (show w.heap.size ≤ (⟨G, i, none⟩ : Addr).block from hwG) (.bool true)) 1)
                  go_roundw
                  case rel => exact ⟨q + 1, x, by omega, by go_num, rfl, HR8, HW8, HB8⟩
                  case measure => simp [intOf]; omega
                · have y1 : ¬ (q : Int) < (m1 : Int) := by omega
                  obtain rfl : q = m1 := by omega
                  have HF8 := hide_ (show ¬ (j + 1 ≤ m ∧ j + 1 ≤ 100) → (setsB T k).drop (d + q) = [] from fun h => by rw [← once_take HM1.out]; exact once_end HTB.out hk100 (HK.out h))
                  have HO8 := hide_ (show OnceAt w.heap.size G (w.heap.size + 1) k k T t' u (d + q) ((setsB T k).drop (d + q)) wr by rw [← once_take HM1.out]; exact HI.out)
                  go_wp2_with fail
                  go_roundw
                  case rel => exact ⟨j + 1, d + q, t', u, by omega, by omega, by go_num, rfl, by omega, by omega, HO8, HF8, HBX⟩
                  case measure => simp [intOf]; omega
            · have HK := hide_ (show ¬ (j + 1 ≤ m ∧ j + 1 ≤ 100) → 70000 ≤ t + 70000 from fun _ => by omega)
              go_wp2_with fail
              refine (HPA.out 70000 (by omega) (by omega)).mono ?_; rintro e w6 ⟨A6, m1, c1, rfl, hm1, ho6, hck6, ht6⟩
              obtain ⟨t', ht'⟩ : ∃ t', t' = t + 70000 := ⟨_, rfl⟩
              rw [← ht'] at hm1 ho6 hck6 HK
              have ht2 : t ≤ t' := by omega
              have ht3 : t' ≤ 70000 * ((j : Int) + 1) := by omega
              have HP6 := hide_ (HO.out.pass hck6 ht6); have HB6 := hide_ (ht6.later HB.out HO.out.cb); have HOW6 := hide_ ho6; have HM1 := hide_ hm1
              have hs6 : w.heap.size ≤ wi.heap.size := HB.out.size
              have hG6 : G < wi.heap.size := theap_lt HO.out.row
              have hm6 : (m1 : Int) ≤ 4096 := by have := ((bells_setsB T hk100).sub (List.drop_sublist d _)).due t' |>.length; have := HM1.out; omega
              clear hm1 ho6 hck6 ht6 ht'
              go_wp2_with fail
              go_loopw [9, 14] (fun s9 s14 wx => ∃ (q : Nat) (u : Int), q ≤ m1 ∧ s14 = .int .i64 q ∧ s9 = .int .i64 u ∧ Hid (OnceAt w.heap.size G (w.heap.size + 1) k k T t' u (d + q) (restB t' ((setsB T k).drop d)) wx) ∧ Hid (wx.ownsRow wi.heap.size 3 1 (.slice A6 m1 c1) m1 (ints ((dueB t' ((setsB T k).drop d)).map (·.1)))) ∧ Hid (Later w wx)) (fun _ s14 _ => m1 - (intOf s14).toNat)
              case atStart => exact ⟨0, v, by omega, rfl, rfl, HP6, HOW6, HB6⟩
              case round =>
                obtain ⟨q, u, hq, rfl, rfl, HI, HW, HBX⟩ := hrel
                have y3 : (0 : Int) ≤ (q : Int) := by omega
                by_cases hlq : q < m1
                · have y1 : (q : Int) < (m1 : Int) := by omega
                  have y2 : (q : Int) ≤ 4096 := by omega
                  obtain ⟨i, x, hi, hxi, hTi, hxt, hli, hri⟩ := once_next hk100 HM1.out hlq hkT
                  obtain ⟨bt, ot, rfl, hct, x0, x1⟩ := HT.out.2 i x hTi
                  have hux := HI.out.last.le hk100 hxi x0
                  obtain ⟨bl, ol, rfl, hcl⟩ := ints_cells HW.out (by rw [List.length_map]; exact HM1.out) (by omega)
                  have hbl : wi.heap.size ≤ bl := by
                    rcases HW.out.2 with ⟨h, _⟩ | ⟨g, _, _, h, hg, _⟩
                    · cases h
                    · injection h with h _ _; injection h with h; injection h with h; omega
                  have hbt : bt < w.heap.size := cell_lt hct
                  have c0 : wr.cell? ⟨bl, ol + q, none⟩ = some (.int .i64 (i : Int)) := hcl q _ hli
                  have c1 : wr.cell? ⟨bt, ot + i, none⟩ = some (.int .u16 x) := by have := later_cell hct _ HBX.out; rwa [Nat.mul_one] at this
                  have c2 : wr.cell? ⟨G, i, none⟩ = some (.bool false) := by
                    rw [cell_of_row _ _ i _ _ (0, 0) HI.out.row, List.getElem?_toArray]; exact bools_get hri
                  have c3 : wr.frozen? ⟨G, i, none⟩ = false := frozen_of_row _ _ i _ _ HI.out.row
                  have g0 := later_drew_cell c0; have g1 := later_drew_cell c1; have g2 := later_drew_cell c2
                  have z1 : (i : Int) < (k : Int) := by omega
                  have z2 : (0 : Int) ≤ (i : Int) := by omega
                  have z3 : (i : Int) < (n : Int) := by omega
                  have z4 : (i : Int) ≤ 4096 := by omega
                  have ew : IntKind.i64.wrap x = x := IntWalk.i64_in _ (by omega)
                  have e0 : decide ((i : Int) < 0) = false := decide_eq_false (by omega)
                  have e1 : decide (k ≤ i) = false := decide_eq_false (by omega)
                  have e2 : decide (t' < x) = false := decide_eq_false (by omega)
                  have e3 : decide (x < u) = false := decide_eq_false (by omega)
                  have hnow := hide_ (fun (Wx : World) (hx : Later wr.drew Wx) => cnow_any (HI.out.ck.later ((below_drewN (Later.refl wr) 1).trans hx)))
                  have HXI := hide_ hxi; have HHI := hide_ hi
                  clear hTi hct hcl hli hri hxi
                  go_wp2_with fail
                  refine wp_region_k (by kernel_rfl) ?_
                  refine wpAnyK_take 0 (v := ?_) rfl (by kernel_rfl) (by kernel_rfl) (by kernel_rfl) (fun _ _ _ h => h) (by rfl) (by intro W hSw; go_simp; with_reducible rfl) ?_; try simp only [Act.put, List.setIfInBounds_toArray, List.set_cons_zero, List.set_cons_succ]
                  refine wpAnyK_take 1 (v := ?_) rfl (by kernel_rfl) (by kernel_rfl) (by kernel_rfl) (fun _ _ _ h => h) (by rfl) (by intro W hSw; go_simp; with_reducible rfl) ?_; try simp only [Act.put, List.setIfInBounds_toArray, List.set_cons_zero, List.set_cons_succ]
                  refine wpAnyK_take 2 (v := ?_) rfl (by kernel_rfl) (by kernel_rfl) (by kernel_rfl) (fun _ _ _ h => h) (by rfl) (by intro W hSw; go_simp; with_reducible rfl) ?_; try simp only [Act.put, List.setIfInBounds_toArray, List.set_cons_zero, List.set_cons_succ]
                  refine wpAnyK_take 3 (v := ?_) rfl (by kernel_rfl) (by kernel_rfl) (by kernel_rfl) (fun _ _ _ h => h) (by rfl) (by intro W hSw; go_simp; with_reducible rfl) ?_; try simp only [Act.put, List.setIfInBounds_toArray, List.set_cons_zero, List.set_cons_succ]
                  refine wpAnyK_take 4 (v := ?_) rfl (by kernel_rfl) (by kernel_rfl) (by kernel_rfl) (fun _ _ _ h => h) (by rfl) (by intro W hSw; go_simp; with_reducible rfl) ?_; try simp only [Act.put, List.setIfInBounds_toArray, List.set_cons_zero, List.set_cons_succ]
                  refine wpAnyK_take 5 (v := ?_) rfl (by kernel_rfl) (by kernel_rfl) (by kernel_rfl) (fun _ _ _ h => h) (by rfl) (by intro W hSw; go_simp; with_reducible rfl) ?_; try simp only [Act.put, List.setIfInBounds_toArray, List.set_cons_zero, List.set_cons_succ]
                  refine wpAnyK_take 6 (v := ?_) rfl (by kernel_rfl) (by kernel_rfl) (by kernel_rfl) (fun _ _ _ h => h) (by rfl) (by intro W hSw; go_simp; with_reducible rfl) ?_; try simp only [Act.put, List.setIfInBounds_toArray, List.set_cons_zero, List.set_cons_succ]
                  refine wpAnyK_take 7 (v := ?_) rfl (by kernel_rfl) (by kernel_rfl) (by kernel_rfl) (fun _ _ _ h => h) (by rfl) (by intro W hSw; go_simp; with_reducible rfl) ?_; try simp only [Act.put, List.setIfInBounds_toArray, List.set_cons_zero, List.set_cons_succ]
                  refine wpAnyK_take 8 (v := ?_) rfl (by kernel_rfl) (by kernel_rfl) (by kernel_rfl) (fun _ _ _ h => h) (by rfl) (by intro W hSw; go_simp; with_reducible rfl) ?_; try simp only [Act.put, List.setIfInBounds_toArray, List.set_cons_zero, List.set_cons_succ]
                  refine wpAnyK_take 9 (v := ?_) rfl (by kernel_rfl) (by kernel_rfl) (by kernel_rfl) (fun _ _ _ h => h) (by rfl) (by intro W hSw; go_simp; with_reducible rfl) ?_; try simp only [Act.put, List.setIfInBounds_toArray, List.set_cons_zero, List.set_cons_succ]
                  refine wpAnyK_take 10 (v := ?_) rfl (by kernel_rfl) (by kernel_rfl) (by kernel_rfl) (fun _ _ _ h => h) (by rfl) (by intro W hSw; go_simp; with_reducible rfl) ?_; try simp only [Act.put, List.setIfInBounds_toArray, List.set_cons_zero, List.set_cons_succ]
                  refine wpAnyK_take 11 (v := ?_) rfl (by kernel_rfl) (by kernel_rfl) (by kernel_rfl) (fun _ _ _ h => h) (by rfl) (by intro W hSw; go_simp; with_reducible rfl) ?_; try simp only [Act.put, List.setIfInBounds_toArray, List.set_cons_zero, List.set_cons_succ]
                  refine wpAnyK_take 12 (v := ?_) rfl (by kernel_rfl) (by kernel_rfl) (by kernel_rfl) (fun _ _ _ h => h) (by rfl) (by intro W hSw; go_simp; with_reducible rfl) ?_; try simp only [Act.put, List.setIfInBounds_toArray, List.set_cons_zero, List.set_cons_succ]
                  refine wpAnyK_take 13 (v := ?_) rfl (by kernel_rfl) (by kernel_rfl) (by kernel_rfl) (fun _ _ _ h => h) (by rfl) (by intro W hSw; go_simp; with_reducible rfl) ?_; try simp only [Act.put, List.setIfInBounds_toArray, List.set_cons_zero, List.set_cons_succ]
                  refine wpAnyK_take 14 (v := ?_) rfl (by kernel_rfl) (by kernel_rfl) (by kernel_rfl) (fun _ _ _ h => h) (by rfl) (by intro W hSw; go_simp; with_reducible rfl) ?_; try simp only [Act.put, List.setIfInBounds_toArray, List.set_cons_zero, List.set_cons_succ]
                  refine wpAnyK_take 15 (v := ?_) rfl (by kernel_rfl) (by kernel_rfl) (by kernel_rfl) (fun _ _ _ h => h) (by rfl) (by intro W hSw; go_simp; with_reducible rfl) ?_; try simp only [Act.put, List.setIfInBounds_toArray, List.set_cons_zero, List.set_cons_succ]
                  refine wpAnyK_take 16 (v := ?_) rfl (by kernel_rfl) (by kernel_rfl) (by kernel_rfl) (fun _ _ _ h => h) (by rfl) (by intro W hSw; go_simp; with_reducible rfl) ?_; try simp only [Act.put, List.setIfInBounds_toArray, List.set_cons_zero, List.set_cons_succ]
                  refine wpAnyK_take 17 (v := ?_) rfl (by kernel_rfl) (by kernel_rfl) (by kernel_rfl) (fun _ _ _ h => h) (by rfl) (by intro W hSw; go_simp; with_reducible rfl) ?_; try simp only [Act.put, List.setIfInBounds_toArray, List.set_cons_zero, List.set_cons_succ]
                  refine wpAnyK_take 18 (v := ?_) rfl (by kernel_rfl) (by kernel_rfl) (by kernel_rfl) (fun _ _ _ h => h) (by rfl) (by intro W hSw; go_simp; with_reducible rfl) ?_; try simp only [Act.put, List.setIfInBounds_toArray, List.set_cons_zero, List.set_cons_succ]
                  refine wpAnyK_take 19 (v := ?_) rfl (by kernel_rfl) (by kernel_rfl) (by kernel_rfl) (fun _ _ _ h => h) (by rfl) (by intro W hSw; go_simp; with_reducible rfl) ?_; try simp only [Act.put, List.setIfInBounds_toArray, List.set_cons_zero, List.set_cons_succ]
                  refine wpAnyK_take 20 (v := ?_) rfl (by kernel_rfl) (by kernel_rfl) (by kernel_rfl) (fun _ _ _ h => h) (by rfl) (by intro W hSw; go_simp; with_reducible rfl) ?_; try simp only [Act.put, List.setIfInBounds_toArray, List.set_cons_zero, List.set_cons_succ]
                  refine wpAnyK_take 21 (v := ?_) rfl (by kernel_rfl) (by kernel_rfl) (by kernel_rfl) (fun _ _ _ h => h) (by rfl) (by intro W hSw; go_simp; with_reducible rfl) ?_; try simp only [Act.put, List.setIfInBounds_toArray, List.set_cons_zero, List.set_cons_succ]
                  refine wpAnyK_take 22 (v := ?_) rfl (by kernel_rfl) (by kernel_rfl) (by kernel_rfl) (fun _ _ _ h => h) (by rfl) (by intro W hSw; go_simp; with_reducible rfl) ?_; try simp only [Act.put, List.setIfInBounds_toArray, List.set_cons_zero, List.set_cons_succ]
                  refine wpAnyK_take 23 (v := ?_) rfl (by kernel_rfl) (by kernel_rfl) (by kernel_rfl) (fun _ _ _ h => h) (by rfl) (by intro W hSw; go_simp; with_reducible rfl) ?_; try simp only [Act.put, List.setIfInBounds_toArray, List.set_cons_zero, List.set_cons_succ]
                  refine wpAnyK_take 24 (v := ?_) rfl (by kernel_rfl) (by kernel_rfl) (by kernel_rfl) (fun _ _ _ h => h) (by rfl) (by intro W hSw; go_simp; with_reducible rfl) ?_; try simp only [Act.put, List.setIfInBounds_toArray, List.set_cons_zero, List.set_cons_succ]
                  refine wpAnyK_take 25 (v := ?_) rfl (by kernel_rfl) (by kernel_rfl) (by kernel_rfl) (fun _ _ _ h => h) (by rfl) (by intro W hSw; go_simp; with_reducible rfl) ?_; try simp only [Act.put, List.setIfInBounds_toArray, List.set_cons_zero, List.set_cons_succ]
                  refine wpAnyK_take 26 (v := ?_) rfl (by kernel_rfl) (by kernel_rfl) (by kernel_rfl) (fun _ _ _ h => h) (by rfl) (by intro W hSw; go_simp; with_reducible rfl) ?_; try simp only [Act.put, List.setIfInBounds_toArray, List.set_cons_zero, List.set_cons_succ]
                  refine wpAnyK_take 27 (v := ?_) rfl (by kernel_rfl) (by kernel_rfl) (by kernel_rfl) (fun _ _ _ h => h) (by rfl) (by intro W hSw; go_simp; with_reducible rfl) ?_; try simp only [Act.put, List.setIfInBounds_toArray, List.set_cons_zero, List.set_cons_succ]
                  refine wpAnyK_take 28 (v := ?_) rfl (by kernel_rfl) (by kernel_rfl) (by kernel_rfl) (fun _ _ _ h => h) (by rfl) (by intro W hSw; go_simp; with_reducible rfl) ?_; try simp only [Act.put, List.setIfInBounds_toArray, List.set_cons_zero, List.set_cons_succ]
                  refine wpAnyK_take 29 (v := ?_) rfl (by kernel_rfl) (by kernel_rfl) (by kernel_rfl) (fun _ _ _ h => h) (by rfl) (by intro W hSw; go_simp; with_reducible rfl) ?_; try simp only [Act.put, List.setIfInBounds_toArray, List.set_cons_zero, List.set_cons_succ]
                  refine wpAnyK_take 30 (v := ?_) rfl (by kernel_rfl) (by kernel_rfl) (by kernel_rfl) (fun _ _ _ h => h) (by rfl) (by intro W hSw; go_simp; with_reducible rfl) ?_; try simp only [Act.put, List.setIfInBounds_toArray, List.set_cons_zero, List.set_cons_succ]
                  refine wpAnyK_take 31 (v := ?_) rfl (by kernel_rfl) (by kernel_rfl) (by kernel_rfl) (fun _ _ _ h => h) (by rfl) (by intro W hSw; go_simp; with_reducible rfl) ?_; try simp only [Act.put, List.setIfInBounds_toArray, List.set_cons_zero, List.set_cons_succ]
                  refine wpAnyK_one 32 (by kernel_rfl) rfl (fun K hK => ?_)
                  go_simp
                  refine (hnow.out _ (Later.refl _)).mono ?_; rintro e w21 ⟨rfl, rfl⟩; have hlr := Later.refl wr.drew
                  refine hK.out _ _ (by assumption) ?_
                  clear hK K; try simp only [Act.put, List.setIfInBounds_toArray, List.set_cons_zero, List.set_cons_succ]
                  refine wpAnyK_take 33 (v := ?_) rfl (by kernel_rfl) (by kernel_rfl) (by kernel_rfl) (fun _ _ _ h => h) (by rfl) (by intro W hSw; go_simp; with_reducible rfl) ?_; try simp only [Act.put, List.setIfInBounds_toArray, List.set_cons_zero, List.set_cons_succ]
                  refine wpAnyK_take 34 (v := ?_) rfl (by kernel_rfl) (by kernel_rfl) (by kernel_rfl) (fun _ _ _ h => h) (by rfl) (by intro W hSw; go_simp; with_reducible rfl) ?_; try simp only [Act.put, List.setIfInBounds_toArray, List.set_cons_zero, List.set_cons_succ]
                  refine wpAnyK_take 35 (v := ?_) rfl (by kernel_rfl) (by kernel_rfl) (by kernel_rfl) (fun _ _ _ h => h) (by rfl) (by intro W hSw; go_simp; with_reducible rfl) ?_; try simp only [Act.put, List.setIfInBounds_toArray, List.set_cons_zero, List.set_cons_succ]
                  refine wpAnyK_take 36 (v := ?_) rfl (by kernel_rfl) (by kernel_rfl) (by kernel_rfl) (fun _ _ _ h => h) (by rfl) (by intro W hSw; go_simp; with_reducible rfl) ?_; try simp only [Act.put, List.setIfInBounds_toArray, List.set_cons_zero, List.set_cons_succ]
                  refine wpAnyK_take 37 (v := ?_) rfl (by kernel_rfl) (by kernel_rfl) (by kernel_rfl) (fun _ _ _ h => h) (by rfl) (by intro W hSw; go_simp; with_reducible rfl) ?_; try simp only [Act.put, List.setIfInBounds_toArray, List.set_cons_zero, List.set_cons_succ]
                  refine wpAnyK_take 38 (v := ?_) rfl (by kernel_rfl) (by kernel_rfl) (by kernel_rfl) (fun _ _ _ h => h) (by rfl) (by intro W hSw; go_simp; with_reducible rfl) ?_; try simp only [Act.put, List.setIfInBounds_toArray, List.set_cons_zero, List.set_cons_succ]
                  refine wpAnyK_take 39 (v := ?_) rfl (by kernel_rfl) (by kernel_rfl) (by kernel_rfl) (fun _ _ _ h => h) (by rfl) (by intro W hSw; go_simp; with_reducible rfl) ?_; try simp only [Act.put, List.setIfInBounds_toArray, List.set_cons_zero, List.set_cons_succ]
                  refine wpAnyK_take 40 (v := ?_) rfl (by kernel_rfl) (by kernel_rfl) (by kernel_rfl) (fun _ _ _ h => h) (by rfl) (by intro W hSw; go_simp; with_reducible rfl) ?_; try simp only [Act.put, List.setIfInBounds_toArray, List.set_cons_zero, List.set_cons_succ]
                  refine wpAnyK_take 41 (v := ?_) rfl (by kernel_rfl) (by kernel_rfl) (by kernel_rfl) (fun _ _ _ h => h) (by rfl) (by intro W hSw; go_simp; with_reducible rfl) ?_; try simp only [Act.put, List.setIfInBounds_toArray, List.set_cons_zero, List.set_cons_succ]
                  refine wpAnyK_take 42 (v := ?_) rfl (by kernel_rfl) (by kernel_rfl) (by kernel_rfl) (fun _ _ _ h => h) (by rfl) (by intro W hSw; go_simp; with_reducible rfl) ?_; try simp only [Act.put, List.setIfInBounds_toArray, List.set_cons_zero, List.set_cons_succ]
                  refine wpAnyK_take 43 (v := ?_) rfl (by kernel_rfl) (by kernel_rfl) (by kernel_rfl) (fun _ _ _ h => h) (by rfl) (by intro W hSw; go_simp; with_reducible rfl) ?_; try simp only [Act.put, List.setIfInBounds_toArray, List.set_cons_zero, List.set_cons_succ]
                  refine wpAnyK_take 44 (v := ?_) rfl (by kernel_rfl) (by kernel_rfl) (by kernel_rfl) (fun _ _ _ h => h) (by rfl) (by intro W hSw; go_simp; with_reducible rfl) ?_; try simp only [Act.put, List.setIfInBounds_toArray, List.set_cons_zero, List.set_cons_succ]
                  refine wpAnyK_take 45 (v := ?_) rfl (by kernel_rfl) (by kernel_rfl) (by kernel_rfl) (fun _ _ _ h => h) (by rfl) (by intro W hSw; go_simp; with_reducible rfl) ?_; try simp only [Act.put, List.setIfInBounds_toArray, List.set_cons_zero, List.set_cons_succ]
                  refine wpAnyK_take 46 (v := ?_) rfl (by kernel_rfl) (by kernel_rfl) (by kernel_rfl) (fun _ _ _ h => h) (by rfl) (by intro W hSw; go_simp; with_reducible rfl) ?_; try simp only [Act.put, List.setIfInBounds_toArray, List.set_cons_zero, List.set_cons_succ]
                  refine wpAnyK_done (by kernel_rfl) ?_ _
                  clear ew
                  go_wp2_with fail
                  have HR8 := hide_ ((HI.out.ring HXI.out HHI.out).later (below_drewN (Later.refl _) 1))
                  have HW8 := hide_ (own_put HW.out (show G < wi.heap.size by omega) (j := i) (u := .bool true))
                  have HB8 := hide_ (below_drewN (Below.setCell HBX.out (show w.heap.size ≤ (⟨G, i, none⟩ : Addr).block from hwG) (.bool true)) 1)
                  go_roundw
                  case rel => exact ⟨q + 1, x, by omega, by go_num, rfl, HR8, HW8, HB8⟩
                  case measure => simp [intOf]; omega
                · have y1 : ¬ (q : Int) < (m1 : Int) := by omega
                  obtain rfl : q = m1 := by omega
                  have HF8 := hide_ (show ¬ (j + 1 ≤ m ∧ j + 1 ≤ 100) → (setsB T k).drop (d + q) = [] from fun h => by rw [← once_take HM1.out]; exact once_end HTB.out hk100 (HK.out h))
                  have HO8 := hide_ (show OnceAt w.heap.size G (w.heap.size + 1) k k T t' u (d + q) ((setsB T k).drop (d + q)) wr by rw [← once_take HM1.out]; exact HI.out)
                  go_wp2_with fail
                  go_roundw
                  case rel => exact ⟨j + 1, d + q, t', u, by omega, by omega, by go_num, rfl, by omega, by omega, HO8, HF8, HBX⟩
                  case measure => simp [intOf]; omega
            · have HK := hide_ (show ¬ (j + 1 ≤ m ∧ j + 1 ≤ 100) → 70000 ≤ t + 70000 from fun _ => by omega)
              go_wp2_with fail
              refine (HPA.out 70000 (by omega) (by omega)).mono ?_; rintro e w6 ⟨A6, m1, c1, rfl, hm1, ho6, hck6, ht6⟩
              obtain ⟨t', ht'⟩ : ∃ t', t' = t + 70000 := ⟨_, rfl⟩
              rw [← ht'] at hm1 ho6 hck6 HK
              have ht2 : t ≤ t' := by omega
              have ht3 : t' ≤ 70000 * ((j : Int) + 1) := by omega
              have HP6 := hide_ (HO.out.pass hck6 ht6); have HB6 := hide_ (ht6.later HB.out HO.out.cb); have HOW6 := hide_ ho6; have HM1 := hide_ hm1
              have hs6 : w.heap.size ≤ wi.heap.size := HB.out.size
              have hG6 : G < wi.heap.size := theap_lt HO.out.row
              have hm6 : (m1 : Int) ≤ 4096 := by have := ((bells_setsB T hk100).sub (List.drop_sublist d _)).due t' |>.length; have := HM1.out; omega
              clear hm1 ho6 hck6 ht6 ht'
              go_wp2_with fail
              go_loopw [9, 14] (fun s9 s14 wx => ∃ (q : Nat) (u : Int), q ≤ m1 ∧ s14 = .int .i64 q ∧ s9 = .int .i64 u ∧ Hid (OnceAt w.heap.size G (w.heap.size + 1) k k T t' u (d + q) (restB t' ((setsB T k).drop d)) wx) ∧ Hid (wx.ownsRow wi.heap.size 3 1 (.slice A6 m1 c1) m1 (ints ((dueB t' ((setsB T k).drop d)).map (·.1)))) ∧ Hid (Later w wx)) (fun _ s14 _ => m1 - (intOf s14).toNat)
              case atStart => exact ⟨0, v, by omega, rfl, rfl, HP6, HOW6, HB6⟩
              case round =>
                obtain ⟨q, u, hq, rfl, rfl, HI, HW, HBX⟩ := hrel
                have y3 : (0 : Int) ≤ (q : Int) := by omega
                by_cases hlq : q < m1
                · have y1 : (q : Int) < (m1 : Int) := by omega
                  have y2 : (q : Int) ≤ 4096 := by omega
                  obtain ⟨i, x, hi, hxi, hTi, hxt, hli, hri⟩ := once_next hk100 HM1.out hlq hkT
                  obtain ⟨bt, ot, rfl, hct, x0, x1⟩ := HT.out.2 i x hTi
                  have hux := HI.out.last.le hk100 hxi x0
                  obtain ⟨bl, ol, rfl, hcl⟩ := ints_cells HW.out (by rw [List.length_map]; exact HM1.out) (by omega)
                  have hbl : wi.heap.size ≤ bl := by
                    rcases HW.out.2 with ⟨h, _⟩ | ⟨g, _, _, h, hg, _⟩
                    · cases h
                    · injection h with h _ _; injection h with h; injection h with h; omega
                  have hbt : bt < w.heap.size := cell_lt hct
                  have c0 : wr.cell? ⟨bl, ol + q, none⟩ = some (.int .i64 (i : Int)) := hcl q _ hli
                  have c1 : wr.cell? ⟨bt, ot + i, none⟩ = some (.int .u16 x) := by have := later_cell hct _ HBX.out; rwa [Nat.mul_one] at this
                  have c2 : wr.cell? ⟨G, i, none⟩ = some (.bool false) := by
                    rw [cell_of_row _ _ i _ _ (0, 0) HI.out.row, List.getElem?_toArray]; exact bools_get hri
                  have c3 : wr.frozen? ⟨G, i, none⟩ = false := frozen_of_row _ _ i _ _ HI.out.row
                  have g0 := later_drew_cell c0; have g1 := later_drew_cell c1; have g2 := later_drew_cell c2
                  have z1 : (i : Int) < (k : Int) := by omega
                  have z2 : (0 : Int) ≤ (i : Int) := by omega
                  have z3 : (i : Int) < (n : Int) := by omega
                  have z4 : (i : Int) ≤ 4096 := by omega
                  have ew : IntKind.i64.wrap x = x := IntWalk.i64_in _ (by omega)
                  have e0 : decide ((i : Int) < 0) = false := decide_eq_false (by omega)
                  have e1 : decide (k ≤ i) = false := decide_eq_false (by omega)
                  have e2 : decide (t' < x) = false := decide_eq_false (by omega)
                  have e3 : decide (x < u) = false := decide_eq_false (by omega)
                  have hnow := hide_ (fun (Wx : World) (hx : Later wr.drew Wx) => cnow_any (HI.out.ck.later ((below_drewN (Later.refl wr) 1).trans hx)))
                  have HXI := hide_ hxi; have HHI := hide_ hi
                  clear hTi hct hcl hli hri hxi
                  go_wp2_with fail
                  refine wp_region_k (by kernel_rfl) ?_
                  refine wpAnyK_take 0 (v := ?_) rfl (by kernel_rfl) (by kernel_rfl) (by kernel_rfl) (fun _ _ _ h => h) (by rfl) (by intro W hSw; go_simp; with_reducible rfl) ?_; try simp only [Act.put, List.setIfInBounds_toArray, List.set_cons_zero, List.set_cons_succ]
                  refine wpAnyK_take 1 (v := ?_) rfl (by kernel_rfl) (by kernel_rfl) (by kernel_rfl) (fun _ _ _ h => h) (by rfl) (by intro W hSw; go_simp; with_reducible rfl) ?_; try simp only [Act.put, List.setIfInBounds_toArray, List.set_cons_zero, List.set_cons_succ]
                  refine wpAnyK_take 2 (v := ?_) rfl (by kernel_rfl) (by kernel_rfl) (by kernel_rfl) (fun _ _ _ h => h) (by rfl) (by intro W hSw; go_simp; with_reducible rfl) ?_; try simp only [Act.put, List.setIfInBounds_toArray, List.set_cons_zero, List.set_cons_succ]
                  refine wpAnyK_take 3 (v := ?_) rfl (by kernel_rfl) (by kernel_rfl) (by kernel_rfl) (fun _ _ _ h => h) (by rfl) (by intro W hSw; go_simp; with_reducible rfl) ?_; try simp only [Act.put, List.setIfInBounds_toArray, List.set_cons_zero, List.set_cons_succ]
                  refine wpAnyK_take 4 (v := ?_) rfl (by kernel_rfl) (by kernel_rfl) (by kernel_rfl) (fun _ _ _ h => h) (by rfl) (by intro W hSw; go_simp; with_reducible rfl) ?_; try simp only [Act.put, List.setIfInBounds_toArray, List.set_cons_zero, List.set_cons_succ]
                  refine wpAnyK_take 5 (v := ?_) rfl (by kernel_rfl) (by kernel_rfl) (by kernel_rfl) (fun _ _ _ h => h) (by rfl) (by intro W hSw; go_simp; with_reducible rfl) ?_; try simp only [Act.put, List.setIfInBounds_toArray, List.set_cons_zero, List.set_cons_succ]
                  refine wpAnyK_take 6 (v := ?_) rfl (by kernel_rfl) (by kernel_rfl) (by kernel_rfl) (fun _ _ _ h => h) (by rfl) (by intro W hSw; go_simp; with_reducible rfl) ?_; try simp only [Act.put, List.setIfInBounds_toArray, List.set_cons_zero, List.set_cons_succ]
                  refine wpAnyK_take 7 (v := ?_) rfl (by kernel_rfl) (by kernel_rfl) (by kernel_rfl) (fun _ _ _ h => h) (by rfl) (by intro W hSw; go_simp; with_reducible rfl) ?_; try simp only [Act.put, List.setIfInBounds_toArray, List.set_cons_zero, List.set_cons_succ]
                  refine wpAnyK_take 8 (v := ?_) rfl (by kernel_rfl) (by kernel_rfl) (by kernel_rfl) (fun _ _ _ h => h) (by rfl) (by intro W hSw; go_simp; with_reducible rfl) ?_; try simp only [Act.put, List.setIfInBounds_toArray, List.set_cons_zero, List.set_cons_succ]
                  refine wpAnyK_take 9 (v := ?_) rfl (by kernel_rfl) (by kernel_rfl) (by kernel_rfl) (fun _ _ _ h => h) (by rfl) (by intro W hSw; go_simp; with_reducible rfl) ?_; try simp only [Act.put, List.setIfInBounds_toArray, List.set_cons_zero, List.set_cons_succ]
                  refine wpAnyK_take 10 (v := ?_) rfl (by kernel_rfl) (by kernel_rfl) (by kernel_rfl) (fun _ _ _ h => h) (by rfl) (by intro W hSw; go_simp; with_reducible rfl) ?_; try simp only [Act.put, List.setIfInBounds_toArray, List.set_cons_zero, List.set_cons_succ]
                  refine wpAnyK_take 11 (v := ?_) rfl (by kernel_rfl) (by kernel_rfl) (by kernel_rfl) (fun _ _ _ h => h) (by rfl) (by intro W hSw; go_simp; with_reducible rfl) ?_; try simp only [Act.put, List.setIfInBounds_toArray, List.set_cons_zero, List.set_cons_succ]
                  refine wpAnyK_take 12 (v := ?_) rfl (by kernel_rfl) (by kernel_rfl) (by kernel_rfl) (fun _ _ _ h => h) (by rfl) (by intro W hSw; go_simp; with_reducible rfl) ?_; try simp only [Act.put, List.setIfInBounds_toArray, List.set_cons_zero, List.set_cons_succ]
                  refine wpAnyK_take 13 (v := ?_) rfl (by kernel_rfl) (by kernel_rfl) (by kernel_rfl) (fun _ _ _ h => h) (by rfl) (by intro W hSw; go_simp; with_reducible rfl) ?_; try simp only [Act.put, List.setIfInBounds_toArray, List.set_cons_zero, List.set_cons_succ]
                  refine wpAnyK_take 14 (v := ?_) rfl (by kernel_rfl) (by kernel_rfl) (by kernel_rfl) (fun _ _ _ h => h) (by rfl) (by intro W hSw; go_simp; with_reducible rfl) ?_; try simp only [Act.put, List.setIfInBounds_toArray, List.set_cons_zero, List.set_cons_succ]
                  refine wpAnyK_take 15 (v := ?_) rfl (by kernel_rfl) (by kernel_rfl) (by kernel_rfl) (fun _ _ _ h => h) (by rfl) (by intro W hSw; go_simp; with_reducible rfl) ?_; try simp only [Act.put, List.setIfInBounds_toArray, List.set_cons_zero, List.set_cons_succ]
                  refine wpAnyK_take 16 (v := ?_) rfl (by kernel_rfl) (by kernel_rfl) (by kernel_rfl) (fun _ _ _ h => h) (by rfl) (by intro W hSw; go_simp; with_reducible rfl) ?_; try simp only [Act.put, List.setIfInBounds_toArray, List.set_cons_zero, List.set_cons_succ]
                  refine wpAnyK_take 17 (v := ?_) rfl (by kernel_rfl) (by kernel_rfl) (by kernel_rfl) (fun _ _ _ h => h) (by rfl) (by intro W hSw; go_simp; with_reducible rfl) ?_; try simp only [Act.put, List.setIfInBounds_toArray, List.set_cons_zero, List.set_cons_succ]
                  refine wpAnyK_take 18 (v := ?_) rfl (by kernel_rfl) (by kernel_rfl) (by kernel_rfl) (fun _ _ _ h => h) (by rfl) (by intro W hSw; go_simp; with_reducible rfl) ?_; try simp only [Act.put, List.setIfInBounds_toArray, List.set_cons_zero, List.set_cons_succ]
                  refine wpAnyK_take 19 (v := ?_) rfl (by kernel_rfl) (by kernel_rfl) (by kernel_rfl) (fun _ _ _ h => h) (by rfl) (by intro W hSw; go_simp; with_reducible rfl) ?_; try simp only [Act.put, List.setIfInBounds_toArray, List.set_cons_zero, List.set_cons_succ]
                  refine wpAnyK_take 20 (v := ?_) rfl (by kernel_rfl) (by kernel_rfl) (by kernel_rfl) (fun _ _ _ h => h) (by rfl) (by intro W hSw; go_simp; with_reducible rfl) ?_; try simp only [Act.put, List.setIfInBounds_toArray, List.set_cons_zero, List.set_cons_succ]
                  refine wpAnyK_take 21 (v := ?_) rfl (by kernel_rfl) (by kernel_rfl) (by kernel_rfl) (fun _ _ _ h => h) (by rfl) (by intro W hSw; go_simp; with_reducible rfl) ?_; try simp only [Act.put, List.setIfInBounds_toArray, List.set_cons_zero, List.set_cons_succ]
                  refine wpAnyK_take 22 (v := ?_) rfl (by kernel_rfl) (by kernel_rfl) (by kernel_rfl) (fun _ _ _ h => h) (by rfl) (by intro W hSw; go_simp; with_reducible rfl) ?_; try simp only [Act.put, List.setIfInBounds_toArray, List.set_cons_zero, List.set_cons_succ]
                  refine wpAnyK_take 23 (v := ?_) rfl (by kernel_rfl) (by kernel_rfl) (by kernel_rfl) (fun _ _ _ h => h) (by rfl) (by intro W hSw; go_simp; with_reducible rfl) ?_; try simp only [Act.put, List.setIfInBounds_toArray, List.set_cons_zero, List.set_cons_succ]
                  refine wpAnyK_take 24 (v := ?_) rfl (by kernel_rfl) (by kernel_rfl) (by kernel_rfl) (fun _ _ _ h => h) (by rfl) (by intro W hSw; go_simp; with_reducible rfl) ?_; try simp only [Act.put, List.setIfInBounds_toArray, List.set_cons_zero, List.set_cons_succ]
                  refine wpAnyK_take 25 (v := ?_) rfl (by kernel_rfl) (by kernel_rfl) (by kernel_rfl) (fun _ _ _ h => h) (by rfl) (by intro W hSw; go_simp; with_reducible rfl) ?_; try simp only [Act.put, List.setIfInBounds_toArray, List.set_cons_zero, List.set_cons_succ]
                  refine wpAnyK_take 26 (v := ?_) rfl (by kernel_rfl) (by kernel_rfl) (by kernel_rfl) (fun _ _ _ h => h) (by rfl) (by intro W hSw; go_simp; with_reducible rfl) ?_; try simp only [Act.put, List.setIfInBounds_toArray, List.set_cons_zero, List.set_cons_succ]
                  refine wpAnyK_take 27 (v := ?_) rfl (by kernel_rfl) (by kernel_rfl) (by kernel_rfl) (fun _ _ _ h => h) (by rfl) (by intro W hSw; go_simp; with_reducible rfl) ?_; try simp only [Act.put, List.setIfInBounds_toArray, List.set_cons_zero, List.set_cons_succ]
                  refine wpAnyK_take 28 (v := ?_) rfl (by kernel_rfl) (by kernel_rfl) (by kernel_rfl) (fun _ _ _ h => h) (by rfl) (by intro W hSw; go_simp; with_reducible rfl) ?_; try simp only [Act.put, List.setIfInBounds_toArray, List.set_cons_zero, List.set_cons_succ]
                  refine wpAnyK_take 29 (v := ?_) rfl (by kernel_rfl) (by kernel_rfl) (by kernel_rfl) (fun _ _ _ h => h) (by rfl) (by intro W hSw; go_simp; with_reducible rfl) ?_; try simp only [Act.put, List.setIfInBounds_toArray, List.set_cons_zero, List.set_cons_succ]
                  refine wpAnyK_take 30 (v := ?_) rfl (by kernel_rfl) (by kernel_rfl) (by kernel_rfl) (fun _ _ _ h => h) (by rfl) (by intro W hSw; go_simp; with_reducible rfl) ?_; try simp only [Act.put, List.setIfInBounds_toArray, List.set_cons_zero, List.set_cons_succ]
                  refine wpAnyK_take 31 (v := ?_) rfl (by kernel_rfl) (by kernel_rfl) (by kernel_rfl) (fun _ _ _ h => h) (by rfl) (by intro W hSw; go_simp; with_reducible rfl) ?_; try simp only [Act.put, List.setIfInBounds_toArray, List.set_cons_zero, List.set_cons_succ]
                  refine wpAnyK_one 32 (by kernel_rfl) rfl (fun K hK => ?_)
                  go_simp
                  refine (hnow.out _ (Later.refl _)).mono ?_; rintro e w21 ⟨rfl, rfl⟩; have hlr := Later.refl wr.drew
                  refine hK.out _ _ (by assumption) ?_
                  clear hK K; try simp only [Act.put, List.setIfInBounds_toArray, List.set_cons_zero, List.set_cons_succ]
                  refine wpAnyK_take 33 (v := ?_) rfl (by kernel_rfl) (by kernel_rfl) (by kernel_rfl) (fun _ _ _ h => h) (by rfl) (by intro W hSw; go_simp; with_reducible rfl) ?_; try simp only [Act.put, List.setIfInBounds_toArray, List.set_cons_zero, List.set_cons_succ]
                  refine wpAnyK_take 34 (v := ?_) rfl (by kernel_rfl) (by kernel_rfl) (by kernel_rfl) (fun _ _ _ h => h) (by rfl) (by intro W hSw; go_simp; with_reducible rfl) ?_; try simp only [Act.put, List.setIfInBounds_toArray, List.set_cons_zero, List.set_cons_succ]
                  refine wpAnyK_take 35 (v := ?_) rfl (by kernel_rfl) (by kernel_rfl) (by kernel_rfl) (fun _ _ _ h => h) (by rfl) (by intro W hSw; go_simp; with_reducible rfl) ?_; try simp only [Act.put, List.setIfInBounds_toArray, List.set_cons_zero, List.set_cons_succ]
                  refine wpAnyK_take 36 (v := ?_) rfl (by kernel_rfl) (by kernel_rfl) (by kernel_rfl) (fun _ _ _ h => h) (by rfl) (by intro W hSw; go_simp; with_reducible rfl) ?_; try simp only [Act.put, List.setIfInBounds_toArray, List.set_cons_zero, List.set_cons_succ]
                  refine wpAnyK_take 37 (v := ?_) rfl (by kernel_rfl) (by kernel_rfl) (by kernel_rfl) (fun _ _ _ h => h) (by rfl) (by intro W hSw; go_simp; with_reducible rfl) ?_; try simp only [Act.put, List.setIfInBounds_toArray, List.set_cons_zero, List.set_cons_succ]
                  refine wpAnyK_take 38 (v := ?_) rfl (by kernel_rfl) (by kernel_rfl) (by kernel_rfl) (fun _ _ _ h => h) (by rfl) (by intro W hSw; go_simp; with_reducible rfl) ?_; try simp only [Act.put, List.setIfInBounds_toArray, List.set_cons_zero, List.set_cons_succ]
                  refine wpAnyK_take 39 (v := ?_) rfl (by kernel_rfl) (by kernel_rfl) (by kernel_rfl) (fun _ _ _ h => h) (by rfl) (by intro W hSw; go_simp; with_reducible rfl) ?_; try simp only [Act.put, List.setIfInBounds_toArray, List.set_cons_zero, List.set_cons_succ]
                  refine wpAnyK_take 40 (v := ?_) rfl (by kernel_rfl) (by kernel_rfl) (by kernel_rfl) (fun _ _ _ h => h) (by rfl) (by intro W hSw; go_simp; with_reducible rfl) ?_; try simp only [Act.put, List.setIfInBounds_toArray, List.set_cons_zero, List.set_cons_succ]
                  refine wpAnyK_take 41 (v := ?_) rfl (by kernel_rfl) (by kernel_rfl) (by kernel_rfl) (fun _ _ _ h => h) (by rfl) (by intro W hSw; go_simp; with_reducible rfl) ?_; try simp only [Act.put, List.setIfInBounds_toArray, List.set_cons_zero, List.set_cons_succ]
                  refine wpAnyK_take 42 (v := ?_) rfl (by kernel_rfl) (by kernel_rfl) (by kernel_rfl) (fun _ _ _ h => h) (by rfl) (by intro W hSw; go_simp; with_reducible rfl) ?_; try simp only [Act.put, List.setIfInBounds_toArray, List.set_cons_zero, List.set_cons_succ]
                  refine wpAnyK_take 43 (v := ?_) rfl (by kernel_rfl) (by kernel_rfl) (by kernel_rfl) (fun _ _ _ h => h) (by rfl) (by intro W hSw; go_simp; with_reducible rfl) ?_; try simp only [Act.put, List.setIfInBounds_toArray, List.set_cons_zero, List.set_cons_succ]
                  refine wpAnyK_take 44 (v := ?_) rfl (by kernel_rfl) (by kernel_rfl) (by kernel_rfl) (fun _ _ _ h => h) (by rfl) (by intro W hSw; go_simp; with_reducible rfl) ?_; try simp only [Act.put, List.setIfInBounds_toArray, List.set_cons_zero, List.set_cons_succ]
                  refine wpAnyK_take 45 (v := ?_) rfl (by kernel_rfl) (by kernel_rfl) (by kernel_rfl) (fun _ _ _ h => h) (by rfl) (by intro W hSw; go_simp; with_reducible rfl) ?_; try simp only [Act.put, List.setIfInBounds_toArray, List.set_cons_zero, List.set_cons_succ]
                  refine wpAnyK_take 46 (v := ?_) rfl (by kernel_rfl) (by kernel_rfl) (by kernel_rfl) (fun _ _ _ h => h) (by rfl) (by intro W hSw; go_simp; with_reducible rfl) ?_; try simp only [Act.put, List.setIfInBounds_toArray, List.set_cons_zero, List.set_cons_succ]
                  refine wpAnyK_done (by kernel_rfl) ?_ _
                  clear ew
                  go_wp2_with fail
                  have HR8 := hide_ ((HI.out.ring HXI.out HHI.out).later (below_drewN (Later.refl _) 1))
                  have HW8 := hide_ (own_put HW.out (show G < wi.heap.size by omega) (j := i) (u := .bool true))
                  have HB8 := hide_ (below_drewN (Below.setCell HBX.out (show w.heap.size ≤ (⟨G, i, none⟩ : Addr).block from hwG) (.bool true)) 1)
                  go_roundw
                  case rel => exact ⟨q + 1, x, by omega, by go_num, rfl, HR8, HW8, HB8⟩
                  case measure => simp [intOf]; omega
                · have y1 : ¬ (q : Int) < (m1 : Int) := by omega
                  obtain rfl : q = m1 := by omega
                  have HF8 := hide_ (show ¬ (j + 1 ≤ m ∧ j + 1 ≤ 100) → (setsB T k).drop (d + q) = [] from fun h => by rw [← once_take HM1.out]; exact once_end HTB.out hk100 (HK.out h))
                  have HO8 := hide_ (show OnceAt w.heap.size G (w.heap.size + 1) k k T t' u (d + q) ((setsB T k).drop (d + q)) wr by rw [← once_take HM1.out]; exact HI.out)
                  go_wp2_with fail
                  go_roundw
                  case rel => exact ⟨j + 1, d + q, t', u, by omega, by omega, by go_num, rfl, by omega, by omega, HO8, HF8, HBX⟩
                  case measure => simp [intOf]; omega
          · have HFE := hide_ (HF.out hlt)
            have h3 : ¬ (j : Int) ≤ (m : Int) ∨ ((j : Int) ≤ (m : Int) ∧ ¬ (j : Int) ≤ 100) := by omega
            have HRW := hide_ HO.out.row
            clear hlt
            rcases h3 with q3 | ⟨q3, q4⟩
            all_goals
              go_wp2_with fail
              go_loop [15] (fun s15 => ∃ (i : Nat), i ≤ k ∧ s15 = .int .i64 i) (fun s15 => k - (intOf s15).toNat)
              case atStart => exact ⟨0, by omega, rfl⟩
              case round =>
                obtain ⟨i, hi, rfl⟩ := hrel
                have y3 : (0 : Int) ≤ (i : Int) := by omega
                by_cases hlq : i < k
                · have y1 : (i : Int) < (k : Int) := by omega
                  have y2 : (i : Int) ≤ 100 := by omega
                  have c0 : wi.cell? ⟨G, i, none⟩ = some (.bool true) := by
                    rw [cell_of_row _ _ i _ _ (0, 0) HRW.out, List.getElem?_toArray]; exact bools_get (once_all HFE.out hlq)
                  go_wp2_with fail
                  go_round
                  case rel => exact ⟨i + 1, by omega, by go_num⟩
                  case measure => simp [intOf]; omega
                · have y1 : ¬ (i : Int) < (k : Int) := by omega
                  go_wp2_with fail
                  go_ret
                  exact ⟨rfl, HB.out⟩
set_option maxRecDepth 20000 in
theorem clockOnce_contract (H : Type) (enc : TypeId × Value → H) (W : World) (base : Nat) (args : Array Value) (ds : List (DataW H)) (before : List MemPlace)
    (hval : ∀ (j : Nat) t v, Try.f3.params[j]? = some t → args[j]? = some v → Value.okWide Try.prog W .any base t v)
    (hA : DataW.TrodAll enc Try.prog W 0 (fun _ => true) true Try.f3.params.toList args.toList ds before)
    (_hsz : (DataW.weightsEach Try.prog (Try.f3.params.toList ++ Rows.clockOnceSpec.plain.varTypes Try.prog) (ds ++ [])).all (· ≤ reachBytes) = true) :
    Calls Try.prog 3 args W fun e W' => e = .returned (.bool true) ∧ Below W.heap.size W W' := by
  rw [Try.params3] at hA hval
  obtain ⟨v0, vs0, d0, ds0, p0, q0, hargs, rfl, rfl, h0, r0⟩ := trodAll_cons hA
  obtain ⟨v1, vs1, d1, ds1, p1, q1, rfl, rfl, rfl, h1, r1⟩ := trodAll_cons r0
  obtain ⟨rfl, rfl, rfl⟩ := trodAll_nil r1
  obtain rfl : args = #[v0, v1] := by cases args; simp_all
  obtain ⟨A, c, X, rfl, hcm, hX⟩ := copen_u16 (hval 0 22 v0 rfl rfl) h0
  obtain ⟨A2, c2, Y, rfl, hcm2, hY⟩ := copen_u16 (hval 1 22 v1 rfl rfl) h1
  exact clockOnce_walk A _ c X hX hcm A2 _ c2 Y hY hcm2

set_option maxRecDepth 100000 in
theorem clockOnce_lifted (os : Os) (started : os.Started) (H : Type) (enc : TypeId × Value → H) :
    ReturnsInHanded {} Try.checked os 3 .any (Rows.clockOnceSpec.pre6 enc Try.prog Try.f3 Rows.clockOnceRow.domain false) (Rows.clockOnceSpec.post enc Try.prog Try.f3 false true false false) := by
  refine returnsInHanded_of_change_sized (C := Try.checked) own started (by kernel_rfl) Try.func3
    (ChangeSpec.witness6 (enc := enc) (C := Try.checked) false ⟨#[], #[.slice none 0 0, .slice none 0 0], []⟩ 8 (by kernel_rfl) (by kernel_rfl) (by kernel_rfl) (by kernel_rfl)) ?_
  intro W base args ds gs before hval hW _ hsz _
  have hW' := hW
  obtain ⟨p, q, hA0, hV, rfl, hfz, hnd⟩ := hW
  obtain ⟨rfl, rfl⟩ := trodVars_none hV
  have hA : DataW.TrodAll enc Try.prog W 0 (fun _ => true) true Try.f3.params.toList args.toList ds p := hA0
  refine (clockOnce_contract H enc W base args ds p hval hA hsz).mono fun e W' ⟨he, hb⟩ => ?_
  subst he
  have hds : ds.length = 2 := by
    rw [Try.params3] at hA
    obtain ⟨v0, vs0, d0, ds0, p0, q0, _, rfl, rfl, _, r0⟩ := trodAll_cons hA
    obtain ⟨v1, vs1, d1, ds1, p1, q1, _, rfl, rfl, _, r1⟩ := trodAll_cons r0
    obtain ⟨_, rfl, rfl⟩ := trodAll_nil r1
    rfl
  have hsh : ∃ d0 d1 : DataW H, ds = [d0, d1] := by
    match ds, hds with
    | [d0, d1], _ => exact ⟨d0, d1, rfl⟩
  obtain ⟨d0, d1, rfl⟩ := hsh
  exact ⟨_, rfl, post_law (s := Rows.clockOnceSpec) laidOut (by kernel_rfl) Try.underlying4 rfl (by kernel_rfl) hW' rfl rfl rfl hb⟩
theorem clockOnce_over : Rows.clockOnceRow.holds Try.pinned (OpenSpec.ofChange Rows.clockOnceSpec) :=
  OpenClaim.holds_of_wide 3 Try.f3 rfl rfl rfl rfl rfl rfl rfl ⟨rfl, rfl, rfl, rfl, rfl⟩ rfl rfl rfl rfl rfl (by kernel_rfl) Try.func3 (by kernel_rfl)
    (of_decide_eq_true (by kernel_rfl)) (by unfold Func.isWrapper; first | (rw [if_pos (by decide +kernel)]; kernel_rfl) | (rw [if_neg (by decide +kernel)]; exact ⟨rfl, rfl⟩))
    (fun os started H enc _ => clockOnce_lifted os started H enc)
/-- The statement. -/
theorem clockOnce_holds : Rows.ClockOnceSaid := clockOnce_over
end Go.Proofs.Ytinfeajbnhkkiaa
