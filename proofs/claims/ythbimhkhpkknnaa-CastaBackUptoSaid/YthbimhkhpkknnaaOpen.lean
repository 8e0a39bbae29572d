/-
  The walk of Open, of the program.
-/
import Derived.Test.YthbimhkhpkknnaaSeal
namespace Go.Proofs.Ythbimhkhpkknnaa
open Go.RowKit
set_option maxHeartbeats 400000 in
theorem open_short (A : Option Addr) (c : Nat) (l : List UInt8) (w : World) (hl : l.length < 4) :
    Calls Try.prog 13 #[.slice A l.length c] w fun e w' => e = .returned (.tuple #[.slice none 0 0, .int .i64 3]) ∧ w = w' := by
  go_enter Try.func13, Try.ntmps13
  go_wp2
  go_ret2
  exact ⟨rfl, rfl⟩
/-- The number that four bytes tell, the lowest first. -/
def leV (x0 x1 x2 x3 : UInt8) : Nat := x0.toNat + x1.toNat * 256 + x2.toNat * 65536 + x3.toNat * 16777216
theorem nat_or_add (i x y : Nat) (hx : x < 2 ^ i) : x ||| y * 2 ^ i = x + y * 2 ^ i := by
  rw [Nat.or_comm, Nat.add_comm, Nat.mul_comm]
  exact (Nat.two_pow_add_eq_or_of_lt hx y).symm
theorem or4 (x0 x1 x2 x3 : UInt8) : bits BinOp.or IntKind.u32 (bits BinOp.or IntKind.u32 (bits BinOp.or IntKind.u32 (↑x0.toNat) (↑x1.toNat * 256)) (↑x2.toNat * 65536)) (↑x3.toNat * 16777216)
    = ((leV x0 x1 x2 x3 : Nat) : Int) := by
  have i0 := byte_lt x0
  have i1 := byte_lt x1
  have i2 := byte_lt x2
  have i3 := byte_lt x3
  have e1 : bits BinOp.or IntKind.u32 (↑x0.toNat) (↑x1.toNat * 256) = ((x0.toNat + x1.toNat * 256 : Nat) : Int) := by
    rw [show ((x1.toNat : Int) * 256) = ((x1.toNat * 256 : Nat) : Int) from by simp, u32_or_nat _ _ (by omega) (by omega), show x1.toNat * 256 = x1.toNat * 2 ^ 8 from by omega, nat_or_add 8 _ _ (by omega)]
  have e2 : bits BinOp.or IntKind.u32 ((x0.toNat + x1.toNat * 256 : Nat) : Int) (↑x2.toNat * 65536) = ((x0.toNat + x1.toNat * 256 + x2.toNat * 65536 : Nat) : Int) := by
    rw [show ((x2.toNat : Int) * 65536) = ((x2.toNat * 65536 : Nat) : Int) from by simp, u32_or_nat _ _ (by omega) (by omega), show x2.toNat * 65536 = x2.toNat * 2 ^ 16 from by omega, nat_or_add 16 _ _ (by omega)]
  have e3 : bits BinOp.or IntKind.u32 ((x0.toNat + x1.toNat * 256 + x2.toNat * 65536 : Nat) : Int) (↑x3.toNat * 16777216) = ((x0.toNat + x1.toNat * 256 + x2.toNat * 65536 + x3.toNat * 16777216 : Nat) : Int) := by
    rw [show ((x3.toNat : Int) * 16777216) = ((x3.toNat * 16777216 : Nat) : Int) from by simp, u32_or_nat _ _ (by omega) (by omega), show x3.toNat * 16777216 = x3.toNat * 2 ^ 24 from by omega, nat_or_add 24 _ _ (by omega)]
  rw [e1, e2, e3]; rfl
theorem tail4 {w : World} {b o : Nat} {x0 x1 x2 x3 : UInt8} {l : List UInt8} {c : Nat} (hc : 4 + l.length ≤ c) (hR : Rd w 1 (some ⟨b, o, none⟩) (l.length + 4) (bvs (x0 :: x1 :: x2 :: x3 :: l))) :
    Rd w 1 (if c = 4 then some ⟨b, o, none⟩ else some ⟨b, o + 4, none⟩) l.length (bvs l) := by
  have h := hR.cut (k := 4) (cap := c) (by omega) (by omega)
  simpa [add_plain, bvs] using h
set_option maxHeartbeats 400000 in
theorem open_bad (b o : Nat) (c : Nat) (x0 x1 x2 x3 : UInt8) (l : List UInt8) (w : World) (hl : l.length ≤ 140737488351232) (hc : 4 + l.length ≤ c)
    (hR : Rd w 1 (some ⟨b, o, none⟩) (l.length + 4) (bvs (x0 :: x1 :: x2 :: x3 :: l))) (hne : crc l ≠ leV x0 x1 x2 x3) :
    Calls Try.prog 13 #[.slice (some ⟨b, o, none⟩) (l.length + 4) c] w fun e w' => e = .returned (.tuple #[.slice none 0 0, .int .i64 2]) ∧ Below w.heap.size w w' := by
  have cell : ∀ k u, (bvs (x0 :: x1 :: x2 :: x3 :: l))[k]? = some u → w.cell? ⟨b, o + k, none⟩ = some u := by
    obtain ⟨b', o', e, h⟩ := hR.2 (by simp [bvs])
    injection e with e
    injection e with e1 e2
    subst e1; subst e2
    exact h
  have c0 : w.cell? ⟨b, o, none⟩ = some (.int .u8 (x0.toNat : Int)) := cell 0 _ rfl
  have c1 : w.cell? ⟨b, o + 1, none⟩ = some (.int .u8 (x1.toNat : Int)) := cell 1 _ rfl
  have c2 : w.cell? ⟨b, o + 2, none⟩ = some (.int .u8 (x2.toNat : Int)) := cell 2 _ rfl
  have c3 : w.cell? ⟨b, o + 3, none⟩ = some (.int .u8 (x3.toNat : Int)) := cell 3 _ rfl
  clear cell
  have i0 := byte_lt x0
  have i1 := byte_lt x1
  have i2 := byte_lt x2
  have i3 := byte_lt x3
  have hT := tail4 hc hR
  have h4 := or4 x0 x1 x2 x3
  obtain ⟨v, hv⟩ : ∃ v, v = leV x0 x1 x2 x3 := ⟨_, rfl⟩
  rw [← hv] at h4 hne
  have hn : ((crc l : Int) != (v : Int)) = true := by rw [bne_iff_ne]; omega
  have H4 := Lib.hid h4
  clear h4 hv hne
  by_cases hc4 : c = 4
  all_goals
    simp only [hc4, if_true, if_false] at hT
    go_enter Try.func13, Try.ntmps13
    go_wp2
    go_quiet (fail)
    rw [H4.out]
    go_wp2_with (go_at_call 9; refine (sum_any _ _ _ _ (by unfold maxLen; omega) (hT.drewN _)).mono ?_; rintro e w2 ⟨rfl, rfl⟩)
    go_ret2
    exact ⟨rfl, below_drewN (Below.refl _ _) _⟩
set_option maxHeartbeats 400000 in
theorem open_good (b o : Nat) (c : Nat) (x0 x1 x2 x3 : UInt8) (l : List UInt8) (w : World) (hl : l.length ≤ 140737488351232) (hc : 4 + l.length ≤ c)
    (hR : Rd w 1 (some ⟨b, o, none⟩) (l.length + 4) (bvs (x0 :: x1 :: x2 :: x3 :: l))) (hne : crc l = leV x0 x1 x2 x3) :
    Calls Try.prog 13 #[.slice (some ⟨b, o, none⟩) (l.length + 4) c] w fun e w' =>
      ∃ v, e = .returned (.tuple #[v, .int .i64 0]) ∧ w'.ownsRow w.heap.size 5 1 v l.length (bvs l) ∧ Below w.heap.size w w' := by
  have cell : ∀ k u, (bvs (x0 :: x1 :: x2 :: x3 :: l))[k]? = some u → w.cell? ⟨b, o + k, none⟩ = some u := by
    obtain ⟨b', o', e, h⟩ := hR.2 (by simp [bvs])
    injection e with e
    injection e with e1 e2
    subst e1; subst e2
    exact h
  have c0 : w.cell? ⟨b, o, none⟩ = some (.int .u8 (x0.toNat : Int)) := cell 0 _ rfl
  have c1 : w.cell? ⟨b, o + 1, none⟩ = some (.int .u8 (x1.toNat : Int)) := cell 1 _ rfl
  have c2 : w.cell? ⟨b, o + 2, none⟩ = some (.int .u8 (x2.toNat : Int)) := cell 2 _ rfl
  have c3 : w.cell? ⟨b, o + 3, none⟩ = some (.int .u8 (x3.toNat : Int)) := cell 3 _ rfl
  clear cell
  have i0 := byte_lt x0
  have i1 := byte_lt x1
  have i2 := byte_lt x2
  have i3 := byte_lt x3
  have hT := tail4 hc hR
  have h4 := or4 x0 x1 x2 x3
  obtain ⟨v, hv⟩ : ∃ v, v = leV x0 x1 x2 x3 := ⟨_, rfl⟩
  rw [← hv] at h4 hne
  have hn : ((crc l : Int) != (v : Int)) = false := by rw [bne_eq_false_iff_eq]; omega
  have H4 := Lib.hid h4
  clear h4 hv hne
  by_cases hc4 : c = 4
  all_goals
    simp only [hc4, if_true, if_false] at hT
    go_enter Try.func13, Try.ntmps13
    go_wp2
    go_quiet (fail)
    rw [H4.out]
    go_wp2_with (first
      | (go_at_call 9; refine (sum_any _ _ _ _ (by unfold maxLen; omega) (hT.drewN _)).mono ?_; rintro e w2 ⟨rfl, rfl⟩)
      | (at_builtin
         refine wpList_append_rd _ rfl (.const (.slice none 0 0)) (.tmp 36) 23 rfl w.heap.size 5 1 1 byteT _ 0 [] rfl (World.ownsRow_nil _ _ _ _) _ l.length _ (bvs l) rfl (hT.drewN _) (bvs_one l)
           (by omega) (by unfold maxLen; omega) (Nat.le_refl _) (by simp) ?_
         intro v1 w1 hown1 hg1 hat1
         have hb1 : Hid (Below w.heap.size w w1) := hide_ (own_grown (below_drewN (Below.refl w.heap.size w) _) (World.ownsRow_nil _ _ 5 1) hg1 (Nat.le_refl _))
         have ho1 := Lib.hid hown1
         clear hown1 hg1 hat1))
    go_ret2
    refine ⟨v1, rfl, ?_, hb1.out⟩
    have := ho1.out
    simpa using this
end Go.Proofs.Ythbimhkhpkknnaa
