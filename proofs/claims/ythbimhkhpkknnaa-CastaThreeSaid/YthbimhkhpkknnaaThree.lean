/-
  CastaThree: of three texts of one length, added bit by bit, the sum is the three sums, added. For any three slices of bytes.
  Conditions: none but the row's own.
-/
import Derived.Test.YthbimhkhpkknnaaAwake
import Derived.Test.YthbimhkhpkknnaaFrame
import Derived.Test.YthbimhkhpkknnaaMath2
import Derived.Deep.DeepCutAuto
import Derived.Deep.LoopGhost
import Derived.BigRegion
import Derived.Deep.RegionHeld3
namespace Go.Proofs.Ythbimhkhpkknnaa
open Go.ChangeShapes Go.WideShapes Go.ChangeAt Go.RowKit
set_option linter.unusedVariables false
theorem mix_val (x y z : UInt8) : Value.int .u8 (bits .xor .u8 (bits .xor .u8 (x.toNat : Int) (y.toNat : Int)) (z.toNat : Int)) = bv (x ^^^ y ^^^ z) := by
  unfold bv
  rw [u8_xor_nat _ _ (byte_lt x) (byte_lt y), ← toNat_xor8, u8_xor_nat _ _ (byte_lt _) (byte_lt z), ← toNat_xor8]
theorem byte_info : (Try.prog.info? 5).map (fun i => (i.zero, i.size, i.bytes)) = some (some (.int .u8 0), 1, 1) := by kernel_rfl
theorem sum_n (A : Option Addr) (n c : Nat) (l : List UInt8) (w w0 : World) (hn : l.length = n) (hl : n ≤ 140737488351232) (hR : Rd w0 1 A n (bvs l)) (hb : Below w0.heap.size w0 w) :
    Calls Try.prog 9 #[.slice A n c] w fun e w' => e = .returned (.int .u32 (crc l)) ∧ w = w' := by
  subst hn
  exact sum_any A c l w (by unfold maxLen; omega) (hR.below hb)
/-- The first k added, the others not yet. -/
def mix (l1 l2 l3 : List UInt8) (n k : Nat) : List UInt8 := (List.zipWith (· ^^^ ·) (List.zipWith (· ^^^ ·) l1 l2) l3).take k ++ List.replicate (n - k) 0
theorem mix_set (l1 l2 l3 : List UInt8) (n k : Nat) (h : k < n) (h1 : n ≤ l1.length) (h2 : n ≤ l2.length) (h3 : n ≤ l3.length) :
    (bvs (mix l1 l2 l3 n k)).set k (bv ((l1[k]'(by omega)) ^^^ (l2[k]'(by omega)) ^^^ (l3[k]'(by omega)))) = bvs (mix l1 l2 l3 n (k + 1)) := by
  have e : (bvs (mix l1 l2 l3 n k)).set k (bv ((l1[k]'(by omega)) ^^^ (l2[k]'(by omega)) ^^^ (l3[k]'(by omega)))) = bvs ((mix l1 l2 l3 n k).set k ((l1[k]'(by omega)) ^^^ (l2[k]'(by omega)) ^^^ (l3[k]'(by omega)))) := by
    unfold bvs; rw [List.map_set]
  rw [e]
  congr 1
  unfold mix
  have hz : (List.zipWith (· ^^^ ·) (List.zipWith (· ^^^ ·) l1 l2) l3).length = min (min l1.length l2.length) l3.length := by simp
  apply List.ext_getElem?
  intro i
  rw [List.getElem?_set]
  have hl : (List.take k (List.zipWith (· ^^^ ·) (List.zipWith (· ^^^ ·) l1 l2) l3)).length = k := by rw [List.length_take, hz]; omega
  by_cases hi : k = i
  · subst hi
    rw [if_pos rfl, if_pos (by rw [List.length_append, hl]; simp; omega), List.getElem?_append_left (by rw [List.length_take, hz]; omega), List.getElem?_take, if_pos (by omega), List.getElem?_zipWith, List.getElem?_zipWith]
    simp [List.getElem?_eq_getElem (show k < l1.length by omega), List.getElem?_eq_getElem (show k < l2.length by omega), List.getElem?_eq_getElem (show k < l3.length by omega)]
  · rw [if_neg hi]
    by_cases hik : i < k
    · rw [List.getElem?_append_left (by omega), List.getElem?_append_left (by rw [List.length_take, hz]; omega), List.getElem?_take, List.getElem?_take, if_pos hik, if_pos (by omega)]
    · rw [List.getElem?_append_right (by omega), List.getElem?_append_right (by rw [List.length_take, hz]; omega), hl, List.getElem?_replicate, List.getElem?_replicate, List.length_take, hz]
      by_cases hin : i < n
      · rw [if_pos (by omega), if_pos (by omega)]
      · rw [if_neg (by omega), if_neg (by omega)]
theorem mix_all (l1 l2 l3 : List UInt8) (n k : Nat) (h : k = n) (h1 : n ≤ l1.length) (h2 : n ≤ l2.length) (h3 : n ≤ l3.length) :
    mix l1 l2 l3 n k = List.zipWith (· ^^^ ·) (List.zipWith (· ^^^ ·) (l1.take n) (l2.take n)) (l3.take n) := by
  subst h
  simp [mix, List.take_zipWith]
set_option maxHeartbeats 1000000 in
theorem castaThree_walk (A1 A2 A3 : Option Addr) (c1 c2 c3 : Nat) (l1 l2 l3 : List UInt8) (w : World) (hl1 : l1.length ≤ 140737488351232) (hl2 : l2.length ≤ 140737488351232) (hl3 : l3.length ≤ 140737488351232)
    (hc1 : l1.length ≤ c1) (hc2 : l2.length ≤ c2) (hc3 : l3.length ≤ c3)
    (hR1 : Rd w 1 A1 l1.length (bvs l1)) (hR2 : Rd w 1 A2 l2.length (bvs l2)) (hR3 : Rd w 1 A3 l3.length (bvs l3)) :
    Calls Try.prog 7 #[.slice A1 l1.length c1, .slice A2 l2.length c2, .slice A3 l3.length c3] w fun e w' => e = .returned (.bool true) ∧ Below w.heap.size w w' := by
  go_enter Try.func7, Try.ntmps7
  go_upto_if 15 with (fail)
  go_cut [7] (fun s7 wx => w = wx ∧ ∃ n : Nat, s7 = .int .i64 (n : Int) ∧ n ≤ l1.length ∧ n ≤ l2.length)
  case first =>
    go_wp2_with fail
    all_goals go_meet
    all_goals first | exact ⟨rfl, _, rfl, by omega, by omega⟩
  case rest =>
    obtain ⟨rfl, n, rfl, hn1, hn2⟩ := hcut
    go_upto_if 21 with (fail)
    go_cut [7] (fun s7 wx => w = wx ∧ ∃ n : Nat, s7 = .int .i64 (n : Int) ∧ n ≤ l1.length ∧ n ≤ l2.length ∧ n ≤ l3.length)
    case first =>
      go_wp2_with fail
      all_goals go_meet
      all_goals first | exact ⟨rfl, _, rfl, by omega, by omega, by omega⟩
    case rest =>
      obtain ⟨rfl, n, rfl, hn1, hn2, hn3⟩ := hcut
      obtain ⟨cs, hcs, hcz, hmk⟩ := make_one Try.underlying23 byte_info rfl n (by omega) (by unfold maxLen; omega)
      go_wp2_with fail
      go_loopw [9] (fun i wr => ∃ k : Nat, k ≤ n ∧ i = .int .i64 k ∧ wr.ownsRow w.heap.size 5 1 (.slice (some ⟨w.heap.size, 0, none⟩) n n) n (bvs (mix l1 l2 l3 n k)) ∧ Below w.heap.size w wr) (fun i _ => n - (intOf i).toNat)
      case atStart =>
        refine ⟨0, Nat.zero_le _, rfl, ?_, (Below.refl _ _).alloc (Nat.le_refl _) _⟩
        have := own_new w cs 5 1 n w.heap.size (by omega) (by unfold maxLen; omega) (Nat.le_refl _)
        rw [hcz] at this
        simpa [mix, bvs, bv] using this
      case round =>
        obtain ⟨k, hk, rfl, ho, hb⟩ := hrel
        clear hmk
        by_cases hlt : k < n
        · obtain ⟨b1, o1, rfl, x1⟩ := hR1.byte (k := k) (by omega)
          obtain ⟨b2, o2, rfl, x2⟩ := hR2.byte (k := k) (by omega)
          obtain ⟨b3, o3, rfl, x3⟩ := hR3.byte (k := k) (by omega)
          have y1 := (hb.cell (cell_lt x1)).trans x1
          have y2 := (hb.cell (cell_lt x2)).trans x2
          have y3 := (hb.cell (cell_lt x3)).trans x3
          have yf := ho.frozenAt k
          obtain ⟨u, yu⟩ : ∃ u, wr.cell? ⟨w.heap.size, k, none⟩ = some u := by
            have hl : k < (bvs (mix l1 l2 l3 n k)).length := by rw [ho.1]; omega
            exact ⟨_, (ho.cellAt k (by omega)).trans (List.getElem?_eq_getElem hl)⟩
          have q1 : (k : Int) < (l1.length : Int) := by omega
          have q2 : (k : Int) < (l2.length : Int) := by omega
          have q3 : (k : Int) < (l3.length : Int) := by omega
          have q4 : (k : Int) < (n : Int) := by omega
          have z1 := byte_lt (l1[k]'(by omega))
          have z2 := byte_lt (l2[k]'(by omega))
          have z3 := byte_lt (l3[k]'(by omega))
          have ev := mix_val (l1[k]'(by omega)) (l2[k]'(by omega)) (l3[k]'(by omega))
          have hmix := mix_set l1 l2 l3 n k hlt hn1 hn2 hn3
          have EV := Lib.hid ev; have HM := Lib.hid hmix; clear ev hmix
          have HO := Lib.hid ho; have HB := Lib.hid hb
          clear x1 x2 x3 ho hb hR1 hR2 hR3
          go_wp2_with fail
          go_region
          have HO1 := Lib.hid (HO.out.stored k (bv ((l1[k]'(by omega)) ^^^ (l2[k]'(by omega)) ^^^ (l3[k]'(by omega))))).1
          go_wp2_with fail
          go_roundw
          case rel =>
            refine ⟨k + 1, by omega, by go_num, ?_, ?_⟩
            · have h2 := HO1.out
              rw [HM.out, ← EV.out] at h2
              exact h2
            · exact (HB.out.setCell (Nat.le_refl _) _).drew
          case measure => simp [intOf]; omega
        · have hkn : k = n := by omega
          have R1 : Rd wr 1 A1 n (bvs (l1.take n)) := by have := (hR1.take hn1).below hb; simpa [bvs, List.map_take] using this
          have R2 : Rd wr 1 A2 n (bvs (l2.take n)) := by have := (hR2.take hn2).below hb; simpa [bvs, List.map_take] using this
          have R3 : Rd wr 1 A3 n (bvs (l3.take n)) := by have := (hR3.take hn3).below hb; simpa [bvs, List.map_take] using this
          have RO := Rd.of_own ho
          rw [mix_all l1 l2 l3 n k hkn hn1 hn2 hn3] at RO
          have g1 : (l1.take n).length = n := by rw [List.length_take]; omega
          have g2 : (l2.take n).length = n := by rw [List.length_take]; omega
          have g3 : (l3.take n).length = n := by rw [List.length_take]; omega
          have g4 : (List.zipWith (· ^^^ ·) (List.zipWith (· ^^^ ·) (l1.take n) (l2.take n)) (l3.take n)).length = n := by simp; omega
          have hcrc := crc_three (l1.take n) (l2.take n) (l3.take n) (by omega) (by omega)
          have b1 := crc_lt (l1.take n)
          have b2 := crc_lt (l2.take n)
          have b3 := crc_lt (l3.take n)
          generalize List.zipWith (· ^^^ ·) (List.zipWith (· ^^^ ·) (l1.take n) (l2.take n)) (l3.take n) = m0 at RO g4 hcrc
          generalize l1.take n = m1 at R1 g1 hcrc b1
          generalize l2.take n = m2 at R2 g2 hcrc b2
          generalize l3.take n = m3 at R3 g3 hcrc b3
          have G1 := Lib.hid g1; have G2 := Lib.hid g2; have G3 := Lib.hid g3; have G4 := Lib.hid g4; have HC := Lib.hid hcrc
          have hx : ((crc m0 : Int) == bits .xor .u32 (bits .xor .u32 (crc m1 : Int) (crc m2 : Int)) (crc m3 : Int)) = true := by
            rw [u32_xor_nat _ _ b1 b2, u32_xor_nat _ _ (Nat.xor_lt_two_pow (n := 32) b1 b2) b3, hcrc]; simp
          have HB := Lib.hid hb
          have qn1 : (n : Int) ≤ (c1 : Int) := by omega
          have qn2 : (n : Int) ≤ (c2 : Int) := by omega
          have qn3 : (n : Int) ≤ (c3 : Int) := by omega
          have qn0 : (0 : Int) ≤ (n : Int) := by omega
          have hn4 : n ≤ 140737488351232 := by omega
          clear hR1 hR2 hR3 ho hb g1 g2 g3 g4 hcrc hcs hcz hn1 hn2 hn3 hl1 hl2 hl3 hc1 hc2 hc3 hkn b1 b2 b3
          go_wp2_with fail
          go_region_held3 (fun w' => Below wr.heap.size wr w') (first | exact (Below.refl _ _).drew | assumption) (first
            | (go_at_call 8; refine (awake_any _).mono ?_; rintro e w' ⟨rfl, hbw⟩; have hbb : Below wr.heap.size wr w' := Below.trans (by assumption) (hbw.mono (Below.size (by assumption))))
            | (go_at_call_of 9 (Value.slice (some ⟨w.heap.size, 0, none⟩) n n); refine (sum_n _ _ _ m0 _ _ G4.out hn4 RO (by assumption)).mono ?_; rintro e w' ⟨rfl, rfl⟩)
            | (go_at_call_of 9 (Value.slice A1 n c1); refine (sum_n _ _ _ m1 _ _ G1.out hn4 R1 (by assumption)).mono ?_; rintro e w' ⟨rfl, rfl⟩)
            | (go_at_call_of 9 (Value.slice A2 n c2); refine (sum_n _ _ _ m2 _ _ G2.out hn4 R2 (by assumption)).mono ?_; rintro e w' ⟨rfl, rfl⟩)
            | (go_at_call_of 9 (Value.slice A3 n c3); refine (sum_n _ _ _ m3 _ _ G3.out hn4 R3 (by assumption)).mono ?_; rintro e w' ⟨rfl, rfl⟩))
          go_wp2
          go_ret
          exact ⟨rfl, HB.out.trans (hbb.mono HB.out.size)⟩
theorem castaThree_contract (H : Type) (enc : TypeId × Value → H) (W : World) (base : Nat) (args : Array Value) (ds : List (DataW H)) (before : List MemPlace)
    (hval : ∀ (j : Nat) t v, Try.f7.params[j]? = some t → args[j]? = some v → Value.okWide Try.prog W .any base t v)
    (hA : DataW.TrodAll enc Try.prog W 0 (fun _ => true) true Try.f7.params.toList args.toList ds before)
    (hsz : (DataW.weightsEach Try.prog (Try.f7.params.toList ++ Rows.castaThreeSpec.plain.varTypes Try.prog) (ds ++ [])).all (· ≤ reachBytes) = true) :
    Calls Try.prog 7 args W fun e W' => e = .returned (.bool true) ∧ Below W.heap.size W W' := by
  rw [Try.params7] at hA hval hsz
  obtain ⟨v0, vs0, d0, ds0, p0, q0, hargs, rfl, rfl, h0, r0⟩ := trodAll_cons hA
  obtain ⟨v1, vs1, d1, ds1, p1, q1, rfl, rfl, rfl, h1, r1⟩ := trodAll_cons r0
  obtain ⟨v2, vs2, d2, ds2, p2, q2, rfl, rfl, rfl, h2, r2⟩ := trodAll_cons r1
  obtain ⟨rfl, rfl, rfl⟩ := trodAll_nil r2
  obtain rfl : args = #[v0, v1, v2] := by cases args; simp_all
  obtain ⟨A1, c1, l1, rfl, hc1, _, _, hR1, hd1⟩ := open_bytes Try.underlying23 Try.underlying5 (by kernel_rfl) (hval 0 23 v0 rfl rfl) h0
  obtain ⟨A2, c2, l2, rfl, hc2, _, _, hR2, hd2⟩ := open_bytes Try.underlying23 Try.underlying5 (by kernel_rfl) (hval 1 23 v1 rfl rfl) h1
  obtain ⟨A3, c3, l3, rfl, hc3, _, _, hR3, hd3⟩ := open_bytes Try.underlying23 Try.underlying5 (by kernel_rfl) (hval 2 23 v2 rfl rfl) h2
  have s1 := bytes_reach (j := 0) hsz rfl rfl Try.underlying23 (by kernel_rfl) hd1
  have s2 := bytes_reach (j := 1) hsz rfl rfl Try.underlying23 (by kernel_rfl) hd2
  have s3 := bytes_reach (j := 2) hsz rfl rfl Try.underlying23 (by kernel_rfl) hd3
  exact castaThree_walk A1 A2 A3 c1 c2 c3 l1 l2 l3 W (by omega) (by omega) (by omega) hc1 hc2 hc3 hR1 hR2 hR3
set_option maxRecDepth 100000 in
theorem castaThree_lifted (os : Os) (started : os.Started) (H : Type) (enc : TypeId × Value → H) :
    ReturnsInHanded {} Try.checked os 7 .any (Rows.castaThreeSpec.pre6 enc Try.prog Try.f7 Rows.castaThreeRow.domain false) (Rows.castaThreeSpec.post enc Try.prog Try.f7 false true false false) := by
  refine returnsInHanded_of_change_sized (C := Try.checked) own started (by kernel_rfl) Try.func7
    (ChangeSpec.witness6 (enc := enc) (C := Try.checked) false ⟨#[], #[.slice none 0 0, .slice none 0 0, .slice none 0 0], []⟩ 8 (by kernel_rfl) (by kernel_rfl) (by kernel_rfl) (by kernel_rfl)) ?_
  intro W base args ds gs before hval hW _ hsz _
  have hW' := hW
  obtain ⟨p, q, hA0, hV, rfl, hfz, hnd⟩ := hW
  obtain ⟨rfl, rfl⟩ := trodVars_none hV
  have hA : DataW.TrodAll enc Try.prog W 0 (fun _ => true) true Try.f7.params.toList args.toList ds p := hA0
  refine (castaThree_contract H enc W base args ds p hval hA hsz).mono fun e W' ⟨he, hb⟩ => ?_
  subst he
  have hds : ds.length = 3 := by
    rw [Try.params7] at hA
    obtain ⟨v0, vs0, d0, ds0, p0, q0, _, rfl, rfl, _, r0⟩ := trodAll_cons hA
    obtain ⟨v1, vs1, d1, ds1, p1, q1, _, rfl, rfl, _, r1⟩ := trodAll_cons r0
    obtain ⟨v2, vs2, d2, ds2, p2, q2, _, rfl, rfl, _, r2⟩ := trodAll_cons r1
    obtain ⟨_, rfl, rfl⟩ := trodAll_nil r2
    rfl
  have hsh : ∃ d0 d1 d2 : DataW H, ds = [d0, d1, d2] := by
    match ds, hds with
    | [d0, d1, d2], _ => exact ⟨d0, d1, d2, rfl⟩
  obtain ⟨d0, d1, d2, rfl⟩ := hsh
  exact ⟨_, rfl, post_law (s := Rows.castaThreeSpec) laidOut (by kernel_rfl) Try.underlying4 rfl (by kernel_rfl) hW' rfl rfl rfl hb⟩
theorem castaThree_over : Rows.castaThreeRow.holds Try.pinned (OpenSpec.ofChange Rows.castaThreeSpec) :=
  OpenClaim.holds_of_wide 7 Try.f7 rfl rfl rfl rfl rfl rfl rfl ⟨rfl, rfl, rfl, rfl, rfl⟩ rfl rfl rfl rfl rfl (by kernel_rfl) Try.func7 (by kernel_rfl)
    (of_decide_eq_true (by kernel_rfl)) (by unfold Func.isWrapper; first | (rw [if_pos (by decide +kernel)]; kernel_rfl) | (rw [if_neg (by decide +kernel)]; exact ⟨rfl, rfl⟩))
    (fun os started H enc _ => castaThree_lifted os started H enc)
/-- The statement. -/
theorem castaThree_holds : Rows.CastaThreeSaid := castaThree_over
end Go.Proofs.Ythbimhkhpkknnaa
