/-
  CastaFinds: sealed bytes of which one burst of up to 32 bits of the text is turned are none. For any bytes, any place and any turn.
  Conditions: none but the row's own.
-/
import Derived.Test.YthbimhkhpkknnaaAwake
import Derived.Test.YthbimhkhpkknnaaFrame
import Derived.Test.YthbimhkhpkknnaaMath2
import Derived.BigRegion
namespace Go.Proofs.Ythbimhkhpkknnaa
open Go.ChangeShapes Go.WideShapes Go.ChangeAt Go.RowKit
set_option linter.unusedVariables false
set_option maxHeartbeats 400000 in
theorem castaFinds_small (A : Option Addr) (c : Nat) (l : List UInt8) (at_ t : Nat) (w : World) (h : l.length < 4 ∨ (4 ≤ l.length ∧ t = 0)) :
    Calls Try.prog 6 #[.slice A l.length c, .int .u16 at_, .int .u32 t] w fun e w' => e = .returned (.bool true) ∧ Below w.heap.size w w' := by
  rcases h with h | ⟨h, rfl⟩
  · go_enter Try.func6, Try.ntmps6
    go_wp2_with (go_at_call 8; refine (awake_any _).mono ?_; rintro e w' ⟨rfl, hbw⟩)
    go_ret
    exact ⟨rfl, hbw⟩
  · go_enter Try.func6, Try.ntmps6
    go_wp2_with (go_at_call 8; refine (awake_any _).mono ?_; rintro e w' ⟨rfl, hbw⟩)
    go_ret
    exact ⟨rfl, hbw⟩
theorem seal_n (A : Option Addr) (n c : Nat) (l : List UInt8) (w : World) (hn : l.length = n) (hl : n ≤ 140737488351232) (hA : A = none → n = 0) (hR : Rd w 1 A n (bvs l)) :
    Calls Try.prog 15 #[.slice A n c] w fun e w' => ∃ v, e = .returned v ∧ w'.ownsRow w.heap.size 5 1 v (4 + n) (bvs (sealed l)) ∧ Below w.heap.size w w' := by
  subst hn
  exact seal_any A c l w hl hA hR
/-- The first k of the burst turned. -/
def turned (a t : List UInt8) (k : Nat) : List UInt8 := (List.zipWith (· ^^^ ·) a t).take k ++ a.drop k
theorem le4_length (s : Nat) : (le4 s).length = 4 := rfl
theorem turned_length (a t : List UInt8) (k : Nat) (h : a.length = t.length) : (turned a t k).length = a.length := by
  unfold turned; simp; omega
theorem turned_at (p q : List UInt8) (a0 a1 a2 a3 t0 t1 t2 t3 : UInt8) (m k s : Nat) (hp : p.length = m) (hk : k < 4) :
    (bvs (le4 s ++ p ++ turned [a0, a1, a2, a3] [t0, t1, t2, t3] k ++ q))[4 + m + k]? = some (bv ([a0, a1, a2, a3].getD k 0)) := by
  have hl := turned_length [a0, a1, a2, a3] [t0, t1, t2, t3] k rfl
  unfold bvs
  rw [List.getElem?_map, List.getElem?_append_left (by simp [le4_length, hl, hp]; omega), List.getElem?_append_right (by simp [le4_length, hp])]
  have e : 4 + m + k - (le4 s ++ p).length = k := by simp [le4_length, hp]
  rw [e]
  match k, hk with
  | 0, _ => rfl
  | 1, _ => rfl
  | 2, _ => rfl
  | 3, _ => rfl
theorem turned_set (p q : List UInt8) (a0 a1 a2 a3 t0 t1 t2 t3 : UInt8) (m k s : Nat) (hp : p.length = m) (hk : k < 4) :
    (bvs (le4 s ++ p ++ turned [a0, a1, a2, a3] [t0, t1, t2, t3] k ++ q)).set (4 + m + k) (bv ([a0, a1, a2, a3].getD k 0 ^^^ [t0, t1, t2, t3].getD k 0)) = bvs (le4 s ++ p ++ turned [a0, a1, a2, a3] [t0, t1, t2, t3] (k + 1) ++ q) := by
  have hl := turned_length [a0, a1, a2, a3] [t0, t1, t2, t3] k rfl
  unfold bvs
  rw [← List.map_set]
  congr 1
  rw [List.set_append_left _ _ (by simp [le4_length, hl, hp]; omega), List.set_append_right _ _ (by simp [le4_length, hp])]
  have e : 4 + m + k - (le4 s ++ p).length = k := by simp [le4_length, hp]
  rw [e]
  congr 2
  match k, hk with
  | 0, _ => rfl
  | 1, _ => rfl
  | 2, _ => rfl
  | 3, _ => rfl
theorem turned_val (x : UInt8) (t k : Nat) : Value.int .u8 (bits .xor .u8 (x.toNat : Int) ((t : Int) / 2 ^ (8 * k) % 256)) = bv (x ^^^ tb t k) := by
  have e : (t : Int) / 2 ^ (8 * k) % 256 = ((tb t k).toNat : Int) := by
    unfold tb
    rw [UInt8.toNat_ofNat', Nat.shiftRight_eq_div_pow]
    simp
  rw [e, u8_xor_nat _ _ (byte_lt x) (byte_lt _), ← toNat_xor8]
  rfl
theorem tb_at (t k : Nat) (h : k < 4) : tb t k = [tb t 0, tb t 1, tb t 2, tb t 3].getD k 0 := by
  match k, h with
  | 0, _ => rfl
  | 1, _ => rfl
  | 2, _ => rfl
  | 3, _ => rfl
theorem leV_le4 (s : Nat) (h : s < 4294967296) : leV (UInt8.ofNat s) (UInt8.ofNat (s / 256)) (UInt8.ofNat (s / 65536)) (UInt8.ofNat (s / 16777216)) = s := by
  unfold leV
  simp only [UInt8.toNat_ofNat']
  omega
theorem open_bad_n (b o c n : Nat) (x0 x1 x2 x3 : UInt8) (l : List UInt8) (w : World) (hl : n ≤ 140737488351232) (hn : l.length = n) (hc : 4 + n ≤ c)
    (hR : Rd w 1 (some ⟨b, o, none⟩) (4 + n) (bvs (x0 :: x1 :: x2 :: x3 :: l))) (hne : crc l ≠ leV x0 x1 x2 x3) :
    Calls Try.prog 13 #[.slice (some ⟨b, o, none⟩) (4 + n) c] w fun e w' => e = .returned (.tuple #[.slice none 0 0, .int .i64 2]) ∧ Below w.heap.size w w' := by
  subst hn
  rw [Nat.add_comm 4 l.length] at hR ⊢
  exact open_bad b o c x0 x1 x2 x3 l w hl hc hR hne
theorem parted (l : List UInt8) (m : Nat) (h : m + 4 ≤ l.length) : ∃ p a0 a1 a2 a3 q, l = p ++ a0 :: a1 :: a2 :: a3 :: q ∧ p.length = m := by
  have e : l = l.take m ++ l.drop m := (List.take_append_drop m l).symm
  have hd : 4 ≤ (l.drop m).length := by rw [List.length_drop]; omega
  match hx : l.drop m, hd with
  | a0 :: a1 :: a2 :: a3 :: q, _ => exact ⟨l.take m, a0, a1, a2, a3, q, by rw [← hx]; exact e, by rw [List.length_take]; omega⟩
set_option maxHeartbeats 1000000 in
theorem castaFinds_walk (A : Option Addr) (c n m : Nat) (p q : List UInt8) (a0 a1 a2 a3 : UInt8) (at_ t : Nat) (w : World) (hn4 : 4 ≤ n) (hl : n ≤ 140737488351232) (hn : Hid (p.length + q.length + 4 = n))
    (hA : A = none → n = 0) (hat : at_ < 65536) (ht : t < 4294967296) (ht0 : t ≠ 0) (hm : m < n - 3) (hp : Hid (p.length = m)) (hmm : Hid (((at_ : Int)) % ((n : Int) - 3) = (m : Int)))
    (hR : Rd w 1 A n (bvs (p ++ a0 :: a1 :: a2 :: a3 :: q))) :
    Calls Try.prog 6 #[.slice A n c, .int .u16 at_, .int .u32 t] w fun e w' => e = .returned (.bool true) ∧ Below w.heap.size w w' := by
  have hz : ((t : Int) == 0) = false := by rw [beq_eq_false_iff_ne]; omega
  have hs := seal_n A n c (p ++ a0 :: a1 :: a2 :: a3 :: q) w (by rw [← hn.out]; simp; omega) hl hA hR
  have HS := hide_ hs
  clear hs
  go_enter Try.func6, Try.ntmps6
  go_wp2_with fail
  refine (HS.out).mono ?_
  rintro e w1 ⟨v1, rfl, ho1, hb1⟩
  obtain ⟨g, cap, rfl, hg, _⟩ := ho1.form (by omega)
  have HO := Lib.hid ho1; have HB := Lib.hid hb1
  clear ho1 hb1 HS
  have hne : (((4 + n : Nat) : Int) != (n : Int) + 4) = false := by rw [bne_eq_false_iff_eq]; omega
  go_wp2_with fail
  refine (awake_any _).mono ?_
  rintro e w2 ⟨rfl, hb2⟩
  have HO2 := Lib.hid (own_below HO.out hb2)
  have HB2 := Lib.hid (HB.out.trans (hb2.mono HB.out.size))
  clear hb2 HO HB
  have hq3 : (0 : Int) ≤ (n : Int) - 3 := by omega
  have hq4 : (1 : Int) ≤ (n : Int) - 3 := by omega
  have hq5 : (0 : Int) ≤ (at_ : Int) % ((n : Int) - 3) := by rw [hmm.out]; omega
  have hq6 : (at_ : Int) % ((n : Int) - 3) ≤ (n : Int) - 4 := by rw [hmm.out]; omega
  go_wp2_with fail
  clear hq5 hq6 hR hA
  rw [hmm.out]
  go_loopw [9] (fun i wr => ∃ k : Nat, k ≤ 4 ∧ i = .int .i64 k ∧ wr.ownsRow w.heap.size 5 1 (.slice (some ⟨g, 0, none⟩) (4 + n) cap) (4 + n)
      (bvs (le4 (crc (p ++ a0 :: a1 :: a2 :: a3 :: q)) ++ p ++ turned [a0, a1, a2, a3] [tb t 0, tb t 1, tb t 2, tb t 3] k ++ q)) ∧ Below w.heap.size w wr) (fun i _ => 4 - (intOf i).toNat)
  case atStart => exact ⟨0, by omega, rfl, by simpa [sealed, turned] using HO2.out, HB2.out⟩
  case round =>
    clear HO2 HB2
    obtain ⟨k, hk, rfl, ho, hb⟩ := hrel
    by_cases hlt : k < 4
    · have HO := Lib.hid ho; have HB := Lib.hid hb
      have yf := ho.frozenAt (4 + m + k)
      have yc := ho.cellAt (4 + m + k) (by omega)
      have ya := turned_at p q a0 a1 a2 a3 (tb t 0) (tb t 1) (tb t 2) (tb t 3) m k (crc (p ++ a0 :: a1 :: a2 :: a3 :: q)) hp.out hlt
      rw [ya] at yc
      obtain ⟨x, hx⟩ : ∃ x, x = [a0, a1, a2, a3].getD k 0 := ⟨_, rfl⟩
      rw [← hx] at yc
      have HX := Lib.hid hx
      clear ho hb ya hx
      have hcap : 4 + n ≤ cap := own_cap HO.out
      have q1 : (4 : Int) + m + k < ((4 + n : Nat) : Int) := by omega
      have z1 := byte_lt x
      unfold bv at yc
      have HZ := Lib.hid (turned_val x t k)
      go_wp2_with fail
      go_region
      go_wp2_with fail
      go_roundw
      case rel =>
        refine ⟨k + 1, by omega, by go_num, ?_, ((HB.out).setCell hg _).drew⟩
        have h2 := (HO.out.stored (4 + m + k) (bv (x ^^^ tb t k))).1
        rw [HX.out, show tb t k = [tb t 0, tb t 1, tb t 2, tb t 3].getD k 0 from tb_at t k hlt, turned_set p q a0 a1 a2 a3 _ _ _ _ m k _ hp.out hlt, ← tb_at t k hlt, ← HX.out, ← HZ.out] at h2
        exact h2
      case measure => simp [intOf]; omega
    · have hk4 : k = 4 := by omega
      have ho4 := ho
      rw [hk4] at ho4
      have hR4 := Rd.of_own ho4
      have hcap : 4 + n ≤ cap := own_cap ho
      have HK := Lib.hid hk4
      have HB := Lib.hid hb
      clear hk4 ho hb ho4
      have hlen : ((p ++ (a0 ^^^ tb t 0) :: (a1 ^^^ tb t 1) :: (a2 ^^^ tb t 2) :: (a3 ^^^ tb t 3) :: q)).length = n := by rw [← hn.out]; simp; omega
      have hbad := open_bad_n g 0 cap n _ _ _ _ (p ++ (a0 ^^^ tb t 0) :: (a1 ^^^ tb t 1) :: (a2 ^^^ tb t 2) :: (a3 ^^^ tb t 3) :: q) wr hl hlen hcap (by simpa [turned, le4] using hR4)
        (by rw [leV_le4 _ (crc_lt _)]; exact crc_burst p q a0 a1 a2 a3 _ _ _ _ (by rw [num4_of t ht]; exact ht0) (by rw [num4_of t ht]; exact ht))
      have HBAD := hide_ hbad
      clear hbad hR4
      go_wp2_with fail
      refine HBAD.out.mono ?_
      rintro e w3 ⟨rfl, hb3⟩
      go_wp2
      go_ret
      exact ⟨rfl, HB.out.trans (hb3.mono HB.out.size)⟩
theorem castaFinds_contract (H : Type) (enc : TypeId × Value → H) (W : World) (base : Nat) (args : Array Value) (ds : List (DataW H)) (before : List MemPlace)
    (hval : ∀ (j : Nat) t v, Try.f6.params[j]? = some t → args[j]? = some v → Value.okWide Try.prog W .any base t v)
    (hA : DataW.TrodAll enc Try.prog W 0 (fun _ => true) true Try.f6.params.toList args.toList ds before)
    (hsz : (DataW.weightsEach Try.prog (Try.f6.params.toList ++ Rows.castaFindsSpec.plain.varTypes Try.prog) (ds ++ [])).all (· ≤ reachBytes) = true) :
    Calls Try.prog 6 args W fun e W' => e = .returned (.bool true) ∧ Below W.heap.size W W' := by
  rw [Try.params6] at hA hval hsz
  obtain ⟨v0, vs0, d0, ds0, p0, q0, hargs, rfl, rfl, h0, r0⟩ := trodAll_cons hA
  obtain ⟨v1, vs1, d1, ds1, p1, q1, rfl, rfl, rfl, h1, r1⟩ := trodAll_cons r0
  obtain ⟨v2, vs2, d2, ds2, p2, q2, rfl, rfl, rfl, h2, r2⟩ := trodAll_cons r1
  obtain ⟨rfl, rfl, rfl⟩ := trodAll_nil r2
  obtain rfl : args = #[v0, v1, v2] := by cases args; simp_all
  obtain ⟨A, c, l, rfl, hc, _, hA1, hR, hd⟩ := open_bytes Try.underlying23 Try.underlying5 (by kernel_rfl) (hval 0 23 v0 rfl rfl) h0
  obtain ⟨a1, rfl, rfl, rfl, w1⟩ := open_int Try.underlying34 (hval 1 34 v1 rfl rfl) h1
  obtain ⟨a2, rfl, rfl, rfl, w2⟩ := open_int Try.underlying22 (hval 2 22 v2 rfl rfl) h2
  have s1 := bytes_reach (j := 0) hsz rfl rfl Try.underlying23 (by kernel_rfl) hd
  have b1 : 0 ≤ a1 ∧ a1 ≤ 65535 := by simpa [Lit.wf, IntKind.min, IntKind.max, IntKind.signed, IntKind.bits] using w1
  have b2 := bounds_u32 w2
  obtain ⟨at_, rfl⟩ := Int.eq_ofNat_of_zero_le b1.1
  obtain ⟨t, rfl⟩ := Int.eq_ofNat_of_zero_le b2.1
  by_cases hsm : l.length < 4 ∨ (4 ≤ l.length ∧ t = 0)
  · exact castaFinds_small A c l at_ t W hsm
  · have h4 : 4 ≤ l.length := by omega
    have ht0 : t ≠ 0 := by omega
    have hm : at_ % (l.length - 3) < l.length - 3 := Nat.mod_lt _ (by omega)
    obtain ⟨p, a0, a1, a2, a3, q, hl, hp⟩ := parted l (at_ % (l.length - 3)) (by omega)
    refine castaFinds_walk A c l.length (at_ % (l.length - 3)) p q a0 a1 a2 a3 at_ t W h4 (by omega) (hide_ ?_) hA1 (by omega) (by omega) ht0 hm (hide_ hp) (hide_ ?_) ?_
    · have := congrArg List.length hl
      simp at this; omega
    · rw [Int.natCast_emod, Int.ofNat_sub (by omega)]; rfl
    · rw [← hl]; exact hR
set_option maxRecDepth 100000 in
theorem castaFinds_lifted (os : Os) (started : os.Started) (H : Type) (enc : TypeId × Value → H) :
    ReturnsInHanded {} Try.checked os 6 .any (Rows.castaFindsSpec.pre6 enc Try.prog Try.f6 Rows.castaFindsRow.domain false) (Rows.castaFindsSpec.post enc Try.prog Try.f6 false true false false) := by
  refine returnsInHanded_of_change_sized (C := Try.checked) own started (by kernel_rfl) Try.func6
    (ChangeSpec.witness6 (enc := enc) (C := Try.checked) false ⟨#[], #[.slice none 0 0, .int .u16 0, .int .u32 0], []⟩ 8 (by kernel_rfl) (by kernel_rfl) (by kernel_rfl) (by kernel_rfl)) ?_
  intro W base args ds gs before hval hW _ hsz _
  have hW' := hW
  obtain ⟨p, q, hA0, hV, rfl, hfz, hnd⟩ := hW
  obtain ⟨rfl, rfl⟩ := trodVars_none hV
  have hA : DataW.TrodAll enc Try.prog W 0 (fun _ => true) true Try.f6.params.toList args.toList ds p := hA0
  refine (castaFinds_contract H enc W base args ds p hval hA hsz).mono fun e W' ⟨he, hb⟩ => ?_
  subst he
  have hds : ds.length = 3 := by
    rw [Try.params6] at hA
    obtain ⟨v0, vs0, d0, ds0, p0, q0, _, rfl, rfl, _, r0⟩ := trodAll_cons hA
    obtain ⟨v1, vs1, d1, ds1, p1, q1, _, rfl, rfl, _, r1⟩ := trodAll_cons r0
    obtain ⟨v2, vs2, d2, ds2, p2, q2, _, rfl, rfl, _, r2⟩ := trodAll_cons r1
    obtain ⟨_, rfl, rfl⟩ := trodAll_nil r2
    rfl
  have hsh : ∃ d0 d1 d2 : DataW H, ds = [d0, d1, d2] := by
    match ds, hds with
    | [d0, d1, d2], _ => exact ⟨d0, d1, d2, rfl⟩
  obtain ⟨d0, d1, d2, rfl⟩ := hsh
  exact ⟨_, rfl, post_law (s := Rows.castaFindsSpec) laidOut (by kernel_rfl) Try.underlying4 rfl (by kernel_rfl) hW' rfl rfl rfl hb⟩
theorem castaFinds_over : Rows.castaFindsRow.holds Try.pinned (OpenSpec.ofChange Rows.castaFindsSpec) :=
  OpenClaim.holds_of_wide 6 Try.f6 rfl rfl rfl rfl rfl rfl rfl ⟨rfl, rfl, rfl, rfl, rfl⟩ rfl rfl rfl rfl rfl (by kernel_rfl) Try.func6 (by kernel_rfl)
    (of_decide_eq_true (by kernel_rfl)) (by unfold Func.isWrapper; first | (rw [if_pos (by decide +kernel)]; kernel_rfl) | (rw [if_neg (by decide +kernel)]; exact ⟨rfl, rfl⟩))
    (fun os started H enc _ => castaFinds_lifted os started H enc)
/-- The statement. -/
theorem castaFinds_holds : Rows.CastaFindsSaid := castaFinds_over
end Go.Proofs.Ythbimhkhpkknnaa
