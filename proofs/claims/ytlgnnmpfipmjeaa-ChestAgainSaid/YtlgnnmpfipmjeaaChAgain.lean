/-
  ChestAgain: what is pushed or laid again is there once.
  Conditions: none but the row's own.
-/
import Derived.Test.YtlgnnmpfipmjeaaZkChAgM
import Derived.Test.YtlgnnmpfipmjeaaZkFrame
namespace Go.Proofs.Ytlgnnmpfipmjeaa
open Go.ChangeShapes Go.WideShapes Go.ChangeAt Go.RowKit
set_option linter.unusedVariables false
set_option linter.unusedSimpArgs false
/-- The chest, when the next one was not pushed yet, and later. -/
def agS (base at_ : Nat) (bl : List UInt8) : LB := ⟨4, base, base, max (kmax ((bvc base bl).map BV.bp)) 0, (bvc base bl).map BV.bp, (bvc base bl).map BV.bp ++ [(bv0 at_ (at_ + 1) 0).bp]⟩
theorem agS_top (base at_ : Nat) (bl : List UInt8) : (agS base at_ bl).top = at_ + 1 := next_top _ _ _ _ _ _ _ _
def AgI (w : World) (X : Nat → Prop) (w8 : World) (c base at_ i : Nat) (bl : List UInt8) (j : Nat) : Prop :=
  (j = 0 ∧ KX w X w8 c (0 + (i * 2403 + 60)) 524288 0 ⟨4, base, base, kmax ((bvc base bl).map BV.bp), (bvc base bl).map BV.bp, (bvc base bl).map BV.bp⟩) ∨
  (0 < j ∧ KX w X w8 c (0 + (i * 2403 + 60) + 2500) 524288 0 (agS base at_ bl))
theorem AgI.push {w w8 : World} {X : Nat → Prop} {c base at_ i : Nat} {bl : List UInt8} {j : Nat} (h : AgI w X w8 c base at_ i bl j) (ht : LB.top ⟨4, base, base, kmax ((bvc base bl).map BV.bp), (bvc base bl).map BV.bp, (bvc base bl).map BV.bp⟩ = at_) (ha : at_ ≤ 5000) (hi : bl.length = i ∧ i ≤ 10) :
    Calls Try.prog 8 #[.pointer (some ⟨c, 0, none⟩), .int .i64 4, .agg #[.int .i64 at_, .int .i64 (at_ + 1 : Nat), .int .i64 0, .slice none 0 0]] w8 fun e w' => e = .returned (.tuple #[.int .i64 (at_ + 1 : Nat), .int .i64 0]) ∧ KX w X w' c (0 + (i * 2403 + 60) + 2500) 524288 0 (agS base at_ bl) ∧ Stands X w8 w' := by
  rcases h with ⟨_, h⟩ | ⟨_, h⟩
  · exact push_newK (x := bv0 at_ (at_ + 1) 0) h (by show 1 ≤ 4; omega) (Nat.not_lt_zero _) (bv0_ok _ (by omega) (by omega) (by omega)) (bv0_b (by omega) (by omega) (by omega)) ht.symm (by rw [ht]; exact Nat.lt_succ_self _) (by show ((bvc base bl).map BV.bp).length < 24; rw [List.length_map, bvc_len]; omega) (by omega) (by omega)
  · have hp := push_oldK (x := bv0 at_ (at_ + 1) 0) h (by show 1 ≤ 4; omega) (Nat.not_lt_zero _) (bv0_ok _ (by omega) (by omega) (by omega)) (bv0_b (by omega) (by omega) (by omega)) (by unfold agS; rw [next_top]; exact Nat.le_refl _)
    refine hp.mono ?_
    rintro e w' ⟨rfl, hl⟩
    refine ⟨?_, h.later hl, Stands.of_later hl⟩
    unfold agS; rw [next_top]
set_option maxHeartbeats 8000000 in
set_option maxRecDepth 100000 in
theorem chestAgain_walk {w : World} (base : Nat) (hb : base ≤ 255) (Al : Option Addr) (nl cl : Nat) (l : List UInt8) (hr : Rd w 1 Al nl (bvs l)) (hl : l.length = nl) (hc : nl ≤ maxLen) (ag : Nat) (ha : ag ≤ 255) :
    Calls Try.prog 3 #[.int .u8 base, .slice Al nl cl, .int .u8 ag] w fun e w' => e = .returned (.bool true) ∧ Below w.heap.size w w' := by
  have HT := hide_ (newK (w0 := w) (w := w) (Later.refl _) 524288 (by omega))
  have HR := hide_ hr; have HL := hide_ hl
  unfold maxLen at hc
  clear hr hl
  go_enter Try.func3, Try.ntmps3
  go_wp2_with fail
  refine HT.out.mono ?_; rintro e w1 ⟨rfl, ht1, hl1⟩
  have HO := hide_ (openK (w0 := w) hl1 (Nat.le_refl _) ht1)
  clear ht1 hl1
  go_wp2_with fail
  refine HO.out.mono ?_; rintro e w2 ⟨c, rfl, hk2⟩
  have HK2 := hide_ hk2
  clear hk2
  go_wp2_with fail
  refine (awake_any _).mono ?_; rintro e w3 ⟨rfl, hl3⟩
  have HK3 := hide_ (HK2.out.later hl3)
  have HL3 := hide_ HK3.out.below
  clear hl3 HO HT HK2
  go_wp2_with fail
  go_loopw [11, 12, 13] (fun s11 s12 s13 wr => ∃ i A c1, i ≤ nl ∧ i ≤ 10 ∧ s11 = .int .i64 (tp base (l.take i) : Nat) ∧ s12 = .slice A i c1 ∧ s13 = .int .i64 (i : Nat) ∧ Hid (wr.ownsRow w3.heap.size 34 4 (.slice A i c1) i (brow (bvc base (l.take i)))) ∧ Hid (Later w3 wr)) (fun _ _ s13 _ => 10 - (intOf s13).toNat)
  case atStart => exact ⟨0, some ⟨w3.heap.size, 0, none⟩, 0, by omega, by omega, rfl, rfl, rfl, hide_ (own_new w3 #[] 34 4 0 w3.heap.size rfl (by unfold maxLen; omega) (Nat.le_refl _)), hide_ (later_alloc _ _)⟩
  case round =>
    obtain ⟨i, A, c1, hi, hi10, rfl, rfl, rfl, HO, HLR⟩ := hrel
    have r1 : (0 : Int) ≤ (i : Int) := by omega
    obtain ⟨at_, hat⟩ : ∃ a, a = tp base (l.take i) := ⟨_, rfl⟩
    rw [← hat]
    have HTP := hide_ (tp_le base (l.take i))
    rw [← hat] at HTP
    have HAT := hide_ hat
    clear hat
    by_cases hlt : i < nl ∧ i < 10
    · obtain ⟨h1, h2⟩ := hlt
      obtain ⟨s, hs⟩ : ∃ s, l[i]? = some s := ⟨_, List.getElem?_eq_getElem (by rw [HL.out]; exact h1)⟩
      have HTK := hide_ (show l.take (i + 1) = l.take i ++ [s] by rw [List.take_add_one, hs]; rfl)
      have hcell : ∃ b o, Al = some ⟨b, o, none⟩ ∧ wr.cell? ⟨b, o + i, none⟩ = some (.int .u8 (s.toNat : Int)) := by
        have hw : Later w wr := HL3.out.trans HLR.out
        obtain ⟨b, o, e, hcc⟩ := (HR.out.below hw).2 (by simp [bvs]; rw [HL.out]; omega)
        exact ⟨b, o, e, hcc i _ (by simp [bvs, bv, hs])⟩
      obtain ⟨b, o, rfl, q0⟩ := hcell
      have r2 : (i : Int) < (nl : Int) := by omega
      have r3 : (i : Int) < 10 := by omega
      have r4 := s.toNat_lt
      have htb : at_ ≤ 255 + 256 * 10 := by have := HTP.out.2; rw [List.length_take] at this; omega
      clear hs
      go_wp2_with (at_builtin; refine wpList_append_rd _ rfl (.tmp 73) (.tmp 75) 31 rfl w3.heap.size 34 4 48 batT (.slice A i c1) i (brow (bvc base (l.take i))) rfl ?c1 (some ⟨wr.heap.size + 1, 0, none⟩) 1 1 (encV (bv0 at_ (at_ + s.toNat + 1) 0)) rfl ?c2 (encV_one _) (by omega) (by unfold maxLen; omega) ?c6 (fun h => by cases h) ?c8)
      case c1 => exact own_below HO.out ((later_alloc _ _).al _)
      case c2 => exact Rd.newAt _ #[.int .i64 at_, .int .i64 (at_ + s.toNat + 1 : Nat), .int .i64 0, .slice none 0 0] 34 1 4 _ (0, 0) rfl (by simp)
      case c6 => have h1 := HLR.out.size; simp; omega
      case c8 =>
        intro v9 w9 hown hg hat9
        obtain ⟨A9, c9, hv9⟩ := own_form hown
        subst hv9
        have HO9 := hide_ (show w9.ownsRow w3.heap.size 34 4 (.slice A9 (i + 1) c9) (i + 1) (brow (bvc base (l.take (i + 1)))) from by rw [HTK.out, bvc_snoc, brow_snoc, ← HAT.out]; exact hown)
        have HL9 := hide_ (show Later w3 w9 from own_grown ((HLR.out.al _).al _) (own_below HO.out ((later_alloc _ _).al _)) hg (by have h1 := HLR.out.size; simp; omega))
        have HTN := hide_ (show tp base (l.take (i + 1)) = at_ + s.toNat + 1 by rw [HTK.out, tp_snoc, ← HAT.out])
        clear hown hg hat9
        go_wp2_with fail
        go_roundw
        case rel => exact ⟨i + 1, A9, c9, by omega, by omega, by rw [HTN.out]; rfl, rfl, by go_num, HO9, HL9⟩
        case measure => simp [intOf]; omega
    · have HEQ := hide_ (show (l.take i).length = i by rw [List.length_take]; have := HL.out; omega)
      have htb : at_ ≤ 255 + 256 * 10 := by have := HTP.out.2; rw [HEQ.out] at this; omega
      obtain ⟨bl, hbl⟩ : ∃ bl, bl = l.take i := ⟨_, rfl⟩
      rw [← hbl] at HO HAT HTP HEQ
      clear hbl
      have HK := hide_ (HK3.out.more HLR.out (fun k => w3.heap.size ≤ k ∧ k < wr.heap.size) (fun k hk => .inr hk))
      have HRF := hide_ (Rd.of_own HO.out)
      have HLEN := hide_ (show (bvc base bl).length = i by rw [bvc_len]; exact HEQ.out)
      have HAX := hide_ (show ∀ a : Addr, A = some a → w3.heap.size ≤ a.block ∧ a.block < wr.heap.size from fun a ha => by
        subst ha
        obtain ⟨h1, h2, _⟩ := own_block (g := a.block) HO.out (by
          rcases HO.out.2 with ⟨hv, _⟩ | ⟨g, cap, cur, hv, _⟩
          · cases hv
          · injection hv with hv; injection hv with hv; subst hv; rfl)
        exact ⟨h1, h2⟩)
      have HOK := hide_ (fun (W : World) => bvc_ok W (a := base) (l := bl) (by omega) (by have := HEQ.out; omega))
      have HCH := hide_ (bvc_chain base bl)
      have HF := hide_ (lay_firstK HK.out (by omega) (epoch := 4) (base := base) (cc := c1) (by omega) (by omega) (by omega) HRF.out HLEN.out (by omega) (HOK.out wr) HCH.out (by omega))
      have hcond : ¬ ((i : Int) < (nl : Int) ∧ (i : Int) < 10) := by omega
      clear HK3 HR
      by_cases hlt1 : (i : Int) < (nl : Int)
      all_goals (
        first
          | (have hge : ¬ (i : Int) < 10 := by omega)
          | skip
        go_wp2_with fail
        refine HF.out.mono ?_; rintro e w5 ⟨rfl, hk5, hs5⟩
        have HST5 := hide_ hs5
        have HK5 := hide_ hk5
        have HRF5 := hide_ (HRF.out.stands hs5 HAX.out)
        clear hk5 hs5
        have HS5 := hide_ (lay_sameK (cc := c1) HK5.out (base := base) (by show 1 ≤ 4; omega) (by omega) (Nat.not_lt_zero _) HRF5.out HLEN.out (by omega) (HOK.out w5) HCH.out rfl rfl (fun x hx => by obtain ⟨y, hy, rfl⟩ := List.mem_map.1 hx; obtain ⟨p, u, rfl, _⟩ := bvc_mem hy; rfl) (fun x hx => by obtain ⟨p, u, rfl, _⟩ := bvc_mem hx; rfl))
        go_wp2_with fail
        refine HS5.out.mono ?_; rintro e w6 ⟨rfl, hl6⟩
        have HK6 := hide_ (HK5.out.later hl6)
        have HRF6 := hide_ (HRF5.out.below hl6)
        clear hl6 HS5 HK5 HRF5 HF
        have HNR := hide_ (heap_alloc_new w6 (.cells #[.int .i64 at_, .int .i64 (at_ + 1 : Nat), .int .i64 0, .slice none 0 0] 34))
        have HK7 := hide_ (HK6.out.more (later_alloc w6 (.cells #[.int .i64 at_, .int .i64 (at_ + 1 : Nat), .int .i64 0, .slice none 0 0] 34)) (fun k => (w3.heap.size ≤ k ∧ k < wr.heap.size) ∨ k = w6.heap.size) (fun k hk => by
          rcases hk with hk | rfl
          · exact .inl hk
          · exact .inr ⟨Nat.le_refl _, by simp⟩))
        have HRF7 := hide_ (HRF6.out.alloc (.cells #[.int .i64 at_, .int .i64 (at_ + 1 : Nat), .int .i64 0, .slice none 0 0] 34))
        clear HK6 HRF6 HK
        obtain ⟨r, hr, hr4⟩ : ∃ r : Nat, r = ag % 4 ∧ r < 4 := ⟨_, rfl, by omega⟩
        have htm : (ag : Int).tmod 4 = (r : Int) := by rw [hr]; exact Int.ofNat_tmod _ _ |>.symm
        clear hr
        have HT0 := hide_ (bvc_top 4 base base (kmax ((bvc base bl).map BV.bp)) ((bvc base bl).map BV.bp) bl)
        rw [← HAT.out] at HT0
        go_wp2_with fail
        go_loopw [16] (fun s16 w8 => ∃ j : Nat, j ≤ r + 1 ∧ s16 = .int .i64 j ∧ Hid (AgI w (fun k => (w3.heap.size ≤ k ∧ k < wr.heap.size) ∨ k = w6.heap.size) w8 c base at_ i bl j) ∧ Hid (Rd w8 4 A i (brow (bvc base bl))) ∧ Hid (w8.heap[w6.heap.size]? = some (.cells #[.int .i64 at_, .int .i64 (at_ + 1 : Nat), .int .i64 0, .slice none 0 0] 34 (0, 0)))) (fun s _ => 4 - (intOf s).toNat)
        case atStart => exact ⟨0, by omega, rfl, hide_ (.inl ⟨rfl, HK7.out⟩), HRF7, HNR⟩
        case round =>
          obtain ⟨j, hj, rfl, HI, HR8, HN8⟩ := hrel
          by_cases hjr : j ≤ r
          · have r5 : (j : Int) ≤ (r : Int) := by omega
            have n0 := cell_of_row _ _ 0 _ _ (0, 0) HN8.out
            have n1 := cell_of_row _ _ 1 _ _ (0, 0) HN8.out
            have n2 := cell_of_row _ _ 2 _ _ (0, 0) HN8.out
            have n3 := cell_of_row _ _ 3 _ _ (0, 0) HN8.out
            have HP := hide_ (AgI.push HI.out HT0.out (by omega) ⟨HEQ.out, hi10⟩)
            go_wp2_with fail
            refine HP.out.mono ?_; rintro e w9 ⟨rfl, hk9, hs9⟩
            have HK9 := hide_ hk9
            have HR9 := hide_ (HR8.out.stands hs9 (fun a ha => .inl (HAX.out a ha)))
            have HN9 := hide_ (hs9.2 _ _ (.inr rfl) HN8.out)
            clear hk9 hs9 n0 n1 n2 n3 HP HI HR8 HN8
            have q3 : ((at_ : Int) + 1 != (at_ : Int) + 1) = false := by simp
            go_wp2_with fail
            go_loopw [19] (fun s19 wx => ∃ k : Nat, k ≤ i ∧ s19 = .int .i64 k ∧ Hid (Later w9 wx)) (fun s _ => i - (intOf s).toNat)
            case atStart => exact ⟨0, by omega, rfl, hide_ (Later.refl _)⟩
            case round =>
              obtain ⟨k, hk, rfl, HLX⟩ := hrel
              by_cases hki : k < i
              · obtain ⟨x, p, u, hx, rfl, hpu, hu⟩ := bvc_at (a := base) (l := bl) (k := k) (by rw [HEQ.out]; exact hki)
                rw [← HAT.out] at hu
                obtain ⟨bb, oo, rfl, l0, l1, l2, l3⟩ := (HR9.out.below HLX.out).bat hx
                have r6 : (k : Int) < (i : Int) := by omega
                have r7 : (0 : Int) ≤ (k : Int) := by omega
                have HQ := hide_ (push_oldK (x := bv0 p u 0) (HK9.out.later HLX.out) (by show 1 ≤ 4; omega) (Nat.not_lt_zero _) (bv0_ok _ (by omega) (by omega) (by omega)) (bv0_b (by omega) (by omega) (by omega)) (by rw [agS_top]; show u ≤ at_ + 1; omega))
                rw [agS_top] at HQ
                clear hx
                go_wp2_with fail
                refine HQ.out.mono ?_; rintro e wy ⟨rfl, hly⟩
                have HLY := hide_ (HLX.out.trans hly)
                clear hly
                go_wp2_with fail
                go_roundw
                case rel => exact ⟨k + 1, by omega, by go_num, HLY⟩
                case measure => simp [intOf]; omega
              · obtain rfl : k = i := by omega
                go_wp2_with fail
                go_roundw
                case rel => exact ⟨j + 1, by omega, by go_num, hide_ (.inr ⟨Nat.succ_pos j, HK9.out.later HLX.out⟩), hide_ (HR9.out.below HLX.out), hide_ (later_row HLX.out HN9.out)⟩
                case measure => simp [intOf]; omega
          · obtain rfl : j = r + 1 := by omega
            have r5 : ¬ ((r : Int) + 1 ≤ (r : Int)) := by omega
            have HK8 := hide_ (And.right (Or.resolve_left HI.out (fun h => absurd h.1 (Nat.succ_ne_zero r))))
            have HPK := hide_ (peekK HK8.out (by show 1 ≤ 4; omega) base 100 (Nat.le_refl _) (by omega) (by omega))
            go_wp2_with fail
            refine HPK.out.mono ?_; rintro e w10 ⟨A5, c5, n5, L5, rfl, hn5, ho5, hm5, hk5, hl5⟩
            have hn : n5 = i + 1 := by
              rw [← hn5]
              have := congrArg List.length hm5
              rw [List.length_map] at this
              rw [this]
              show (peekB ((bvc base bl).map BV.bp ++ [(bv0 at_ (at_ + 1) 0).bp]) base 100).length = _
              rw [HAT.out, bvc_peek _ _ _ (Nat.lt_succ_self _) (by have := HEQ.out; omega), HEQ.out]
            subst hn
            have HK10 := hide_ (HK8.out.later hl5)
            have HS := hide_ (lay_sameK (cc := c1) HK10.out (base := base) (by show 1 ≤ 4; omega) (by omega) (Nat.not_lt_zero _) (HR8.out.below hl5) HLEN.out (by omega) (HOK.out w10) HCH.out rfl rfl (fun x hx => by obtain ⟨y, hy, rfl⟩ := List.mem_map.1 hx; obtain ⟨p, u, rfl, _⟩ := bvc_mem hy; rfl) (fun x hx => by obtain ⟨p, u, rfl, _⟩ := bvc_mem hx; rfl))
            clear hn5 ho5 hm5 hk5 hl5
            go_wp2_with fail
            refine HS.out.mono ?_; rintro e w11 ⟨rfl, hl11⟩
            have HK11 := hide_ (HK10.out.later hl11)
            have HC := hide_ (lay_clashK (base := base + 1) HK11.out (by show 1 ≤ 4; omega) (by omega) (Nat.not_lt_zero _) 0 (by show base ≠ base + 1; omega))
            clear hl11
            go_wp2_with fail
            refine HC.out.mono ?_; rintro e w12 ⟨rfl, hl12⟩
            have HB := hide_ (HK11.out.below.trans hl12)
            clear hl12
            go_wp2_with fail
            go_ret
            exact ⟨rfl, HB.out⟩)
set_option maxRecDepth 20000 in
theorem chestAgain_contract (H : Type) (enc : TypeId × Value → H) (W : World) (base : Nat) (args : Array Value) (ds : List (DataW H)) (before : List MemPlace)
    (hval : ∀ (j : Nat) t v, Try.f3.params[j]? = some t → args[j]? = some v → Value.okWide Try.prog W .any base t v)
    (hA : DataW.TrodAll enc Try.prog W 0 (fun _ => true) true Try.f3.params.toList args.toList ds before)
    (_hsz : (DataW.weightsEach Try.prog (Try.f3.params.toList ++ Rows.chestAgainSpec.plain.varTypes Try.prog) (ds ++ [])).all (· ≤ reachBytes) = true) :
    Calls Try.prog 3 args W fun e W' => e = .returned (.bool true) ∧ Below W.heap.size W W' := by
  rw [Try.params3] at hA hval
  obtain ⟨v0, vs0, d0, ds0, p0, q0, hargs, rfl, rfl, h0, r0⟩ := trodAll_cons hA
  obtain ⟨v1, vs1, d1, ds1, p1, q1, rfl, rfl, rfl, h1, r1⟩ := trodAll_cons r0
  obtain ⟨v2, vs2, d2, ds2, p2, q2, rfl, rfl, rfl, h2, r2⟩ := trodAll_cons r1
  obtain ⟨rfl, rfl, rfl⟩ := trodAll_nil r2
  obtain rfl : args = #[v0, v1, v2] := by cases args; simp_all
  obtain ⟨b, rfl, rfl, rfl, w0⟩ := open_int Try.underlying5 (hval 0 5 v0 rfl rfl) h0
  have hb : 0 ≤ b ∧ b ≤ 255 := by simpa [Lit.wf, IntKind.min, IntKind.max, IntKind.signed, IntKind.bits] using w0
  obtain ⟨b', rfl⟩ : ∃ m : Nat, b = m := ⟨b.toNat, by omega⟩
  obtain ⟨Al, cl, Ll, rfl, hlcl, hcml, _, hrl, _⟩ := open_bytes Try.underlying22 Try.underlying5 (by kernel_rfl) (hval 1 22 v1 rfl rfl) h1
  obtain ⟨a, rfl, rfl, rfl, w2⟩ := open_int Try.underlying5 (hval 2 5 v2 rfl rfl) h2
  have ha : 0 ≤ a ∧ a ≤ 255 := by simpa [Lit.wf, IntKind.min, IntKind.max, IntKind.signed, IntKind.bits] using w2
  obtain ⟨a', rfl⟩ : ∃ m : Nat, a = m := ⟨a.toNat, by omega⟩
  exact chestAgain_walk b' (by omega) Al _ cl Ll hrl rfl (by omega) a' (by omega)

set_option maxRecDepth 100000 in
theorem chestAgain_lifted (os : Os) (started : os.Started) (H : Type) (enc : TypeId × Value → H) :
    ReturnsInHanded {} Try.checked os 3 .any (Rows.chestAgainSpec.pre6 enc Try.prog Try.f3 Rows.chestAgainRow.domain false) (Rows.chestAgainSpec.post enc Try.prog Try.f3 false true false false) := by
  refine returnsInHanded_of_change_sized (C := Try.checked) own started (by kernel_rfl) Try.func3
    (ChangeSpec.witness6 (enc := enc) (C := Try.checked) false ⟨#[], #[.int .u8 0, .slice none 0 0, .int .u8 0], []⟩ 8 (by kernel_rfl) (by kernel_rfl) (by kernel_rfl) (by kernel_rfl)) ?_
  intro W base args ds gs before hval hW _ hsz _
  have hW' := hW
  obtain ⟨p, q, hA0, hV, rfl, hfz, hnd⟩ := hW
  obtain ⟨rfl, rfl⟩ := trodVars_none hV
  have hA : DataW.TrodAll enc Try.prog W 0 (fun _ => true) true Try.f3.params.toList args.toList ds p := hA0
  refine (chestAgain_contract H enc W base args ds p hval hA hsz).mono fun e W' ⟨he, hb⟩ => ?_
  subst he
  have hds : ds.length = 3 := by
    rw [Try.params3] at hA
    obtain ⟨v0, vs0, d0, ds0, p0, q0, _, rfl, rfl, _, r0⟩ := trodAll_cons hA
    obtain ⟨v1, vs1, d1, ds1, p1, q1, _, rfl, rfl, _, r1⟩ := trodAll_cons r0
    obtain ⟨v2, vs2, d2, ds2, p2, q2, _, rfl, rfl, _, r2⟩ := trodAll_cons r1
    obtain ⟨_, rfl, rfl⟩ := trodAll_nil r2
    rfl
  have hsh : ∃ d0 d1 d2 : DataW H, ds = [d0, d1, d2] := by
    match ds, hds with
    | [d0, d1, d2], _ => exact ⟨d0, d1, d2, rfl⟩
  obtain ⟨d0, d1, d2, rfl⟩ := hsh
  exact ⟨_, rfl, post_law (s := Rows.chestAgainSpec) laidOut (by kernel_rfl) Try.underlying4 rfl (by kernel_rfl) hW' rfl rfl rfl hb⟩
theorem chestAgain_over : Rows.chestAgainRow.holds Try.pinned (OpenSpec.ofChange Rows.chestAgainSpec) :=
  OpenClaim.holds_of_wide 3 Try.f3 rfl rfl rfl rfl rfl rfl rfl ⟨rfl, rfl, rfl, rfl, rfl⟩ rfl rfl rfl rfl rfl (by kernel_rfl) Try.func3 (by kernel_rfl)
    (of_decide_eq_true (by kernel_rfl)) (by unfold Func.isWrapper; first | (rw [if_pos (by decide +kernel)]; kernel_rfl) | (rw [if_neg (by decide +kernel)]; exact ⟨rfl, rfl⟩))
    (fun os started H enc _ => chestAgain_lifted os started H enc)
/-- The statement. -/
theorem chestAgain_holds : Rows.ChestAgainSaid := chestAgain_over
end Go.Proofs.Ytlgnnmpfipmjeaa
