/-
  Texts of this seat in one: CWords, KPut, KNum.
-/
import Derived.Test.YtcmollfhlillfaaGreatDoorProg
import Derived.Test.YtcmollfhlillfaaGreatDoorM10
import Derived.Test.YtcmollfhlillfaaGreatDoorM6
import Derived.Test.YtcmollfhlillfaaGreatDoorM3
import Derived.Test.YtcmollfhlillfaaGreatDoorM5
/-
  Words for memory that a seat needs that has no texts of spans: rows that stay, new blocks, rows of numbers.
-/
namespace Go.Proofs.YtcmollfhlillfaaGreatDoor
open Go.RowKit
set_option linter.unusedVariables false
theorem heap_lt0 {w : World} {k : Nat} {o : Obj} (h : w.heap[k]? = some o) : k < w.heap.size := by
  rcases Nat.lt_or_ge k w.heap.size with hlt | hge
  · exact hlt
  · rw [Array.getElem?_eq_none hge] at h; cases h
theorem own_cap2 {w : World} {base n size c : Nat} {e : TypeId} {A : Option Addr} {xs : List Value} (h : w.ownsRow base e size (.slice A n c) n xs) : (A = none → n = 0) ∧ n ≤ c := by
  rcases h.2 with ⟨h1, h2, _⟩ | ⟨g, cap, cur, h1, _, _, h2, _⟩
  · injection h1 with h1 h3 h4; subst h1
    exact ⟨fun _ => by omega, by omega⟩
  · injection h1 with h1 h3 h4; subst h1 h4
    exact ⟨fun h => (by cases h), h2⟩
theorem row_al {w : World} {k : Nat} {o : Obj} (h : w.heap[k]? = some o) (ob : Obj) : (w.alloc ob).heap[k]? = some o := by
  rw [← h]; exact Below.heap_alloc w ob k (heap_lt0 h)
theorem later_alloc (w : World) (ob : Obj) : Later w (w.alloc ob) := (Below.refl _ _).alloc (Nat.le_refl _) _
theorem row_al_later {W W' : World} {Z : Obj} (h : Later (W.alloc Z) W') : W'.heap[W.heap.size]? = some Z := (h.block _ (by simp)).trans (heap_alloc_new W _)
theorem row_new2 (w : World) (o1 o2 : Obj) : ((w.alloc o1).alloc o2).heap[w.heap.size + 1]? = some o2 := by
  have h := heap_alloc_new (w.alloc o1) o2
  rwa [show (w.alloc o1).heap.size = w.heap.size + 1 by simp] at h
theorem take_snoc {α : Type} {L : List α} {k : Nat} {x : α} (h : L[k]? = some x) : L.take (k + 1) = L.take k ++ [x] := by
  have e := List.getElem?_eq_some_iff.1 h
  rw [← List.take_append_getElem e.1, e.2]
theorem own_base {w : World} {base base' : Nat} {e : TypeId} {size n : Nat} {v : Value} {xs : List Value} (h : w.ownsRow base e size v n xs) (hb : base' ≤ base) : w.ownsRow base' e size v n xs := by
  refine ⟨h.1, ?_⟩
  rcases h.2 with h0 | ⟨g, cap, cur, hv, hbb, hh, hr⟩
  · exact .inl h0
  · exact .inr ⟨g, cap, cur, hv, by omega, hh, hr⟩
theorem alloc2_at (w : World) (o1 o2 : Obj) : ((w.alloc o1).alloc o2).heap[w.heap.size]? = some o1 ∧ ((w.alloc o1).alloc o2).heap[w.heap.size + 1]? = some o2 ∧ Later w ((w.alloc o1).alloc o2) :=
  ⟨row_al (heap_alloc_new w o1) o2, row_new2 w o1 o2, (later_alloc _ _).trans (later_alloc _ _)⟩
theorem alloc3_at (w : World) (o1 o2 o3 : Obj) : (((w.alloc o1).alloc o2).alloc o3).heap[w.heap.size]? = some o1 ∧ (((w.alloc o1).alloc o2).alloc o3).heap[w.heap.size + 1]? = some o2 ∧ (((w.alloc o1).alloc o2).alloc o3).heap[w.heap.size + 1 + 1]? = some o3 ∧ Later w (((w.alloc o1).alloc o2).alloc o3) := by
  obtain ⟨h1, h2, h3⟩ := alloc2_at w o1 o2
  refine ⟨row_al h1 o3, row_al h2 o3, ?_, h3.trans (later_alloc _ _)⟩
  have h := heap_alloc_new ((w.alloc o1).alloc o2) o3
  rwa [show ((w.alloc o1).alloc o2).heap.size = w.heap.size + 1 + 1 by simp] at h
theorem later_row {w w' : World} {k : Nat} {o : Obj} (h : Later w w') (hk : w.heap[k]? = some o) : w'.heap[k]? = some o := (h.block k (heap_lt0 hk)).trans hk
def ints (V : List Int) : List Value := V.map (Value.int .i64)
theorem ints_one (V : List Int) : ∀ u ∈ ints V, u.oneCell' = true := by
  intro u hu
  obtain ⟨x, _, rfl⟩ := List.mem_map.1 hu
  rfl
theorem intT : ElemT Tryz.prog 35 3 1 8 := elem_mk (z := .int .i64 0) Tryz.underlying35 (by kernel_rfl) rfl (by decide)
theorem ints_snoc (V : List Int) (j : Int) : ints (V ++ [j]) = ints V ++ [.int .i64 j] := by simp [ints]
/-- A row of numbers, told by its cells. -/
theorem ints_cells {w : World} {base n c : Nat} {A : Option Addr} {V : List Int} (h : w.ownsRow base 3 1 (.slice A n c) n (ints V)) (hV : V.length = n) (hn : 0 < n) : ∃ b o, A = some ⟨b, o, none⟩ ∧ ∀ (i : Nat) (v : Int), V[i]? = some v → w.cell? ⟨b, o + i, none⟩ = some (.int .i64 v) := by
  obtain ⟨b, o, e, hc⟩ := (Rd.of_own h).2 (by simp [ints]; omega)
  exact ⟨b, o, e, fun i v hi => hc i _ (by simp [ints, hi])⟩
theorem own_put {w : World} {B j base size n : Nat} {e : TypeId} {v u : Value} {xs : List Value} (ho : w.ownsRow base e size v n xs) (hB : B < base) : (w.setCell ⟨B, j, none⟩ u).ownsRow base e size v n xs := by
  refine ⟨ho.1, ?_⟩
  rcases ho.2 with h0 | ⟨g, cap, cur, hv, hb, hh, hr⟩
  · exact .inl h0
  · exact .inr ⟨g, cap, cur, hv, hb, (Below.heap_setCell _ _ _ _ (fun e => by have e : g = B := e; omega)).trans hh, hr⟩
/-- A row that grows: its block is of the sort, or new. -/
theorem Turns.grew {B base size n : Nat} {S : TypeId → Prop} {w w1 w2 : World} {e : TypeId} {v : Value} {xs : List Value} (h : Turns B S w w1) (ho : w1.ownsRow base e size v n xs) (hg : w1.grownBy w2 v.ownBlock) (hB : B ≤ base) (hBs : B ≤ w.heap.size) (hs : S e ∨ w.heap.size ≤ base) : Turns B S w w2 := by
  have hk : ∀ g, v.ownBlock = some g → B ≤ g ∧ OfSort S w g := fun g hgb => by
    have h1 := (ho.lt g hgb).1
    refine ⟨by omega, ?_⟩
    rcases hs with hs | hs
    · rcases ho.2 with ⟨rfl, _⟩ | ⟨g', cap, cur, rfl, _, hh, _⟩
      · cases hgb
      · obtain rfl : g' = g := by injection hgb
        intro o hoo
        by_cases hn : ∃ cs t fz, o = .cells cs t fz ∧ S t
        · exact hn
        · have h2 := h.kept g' o hoo (fun cs t fz e2 h2 => hn ⟨cs, t, fz, e2, h2⟩)
          rw [hh] at h2
          exact ⟨_, _, _, (Option.some.inj h2).symm, hs⟩
    · exact OfSort.new (by omega)
  refine ⟨hg.os.trans h.os, hg.tape.trans h.tape, hg.output.trans h.output, Nat.le_trans h.size hg.size, fun k hk2 => ?_, fun k o hk2 hn => ?_⟩
  · exact (hg.block k (by have := h.size; omega) (fun e2 => by have := (hk k e2.symm).1; omega)).trans (h.block k hk2)
  · have h1 := h.kept k o hk2 hn
    exact (hg.block k (theap_lt h1) (fun e2 => by
      obtain ⟨cs, t, fz, e3, h3⟩ := (hk k e2.symm).2 o hk2
      exact hn cs t fz e3 h3)).trans h1
end Go.Proofs.YtcmollfhlillfaaGreatDoor
/-
  code.put: a number's bytes behind others.
-/
namespace Go.Proofs.YtcmollfhlillfaaGreatDoor
open Go.RowKit
set_option linter.unusedVariables false
set_option linter.unusedSimpArgs false
theorem kbyteT : ElemT Tryz.prog 51 5 1 1 := elem_mk (z := .int .u8 0) Tryz.underlying51 (by kernel_rfl) rfl (by decide)
theorem or128 (n : Nat) : bits .or .u8 ((n : Int) % 256) 128 = (((n % 128 + 128 : Nat)) : Int) := by
  have key : ∀ x : Fin 256, bits .or .u8 (x.val : Int) 128 = (((x.val % 128 + 128 : Nat)) : Int) := by decide +kernel
  have h := key ⟨n % 256, Nat.mod_lt _ (by omega)⟩
  simp only at h
  have e1 : ((n % 256 : Nat) : Int) = (n : Int) % 256 := by omega
  have e2 : n % 256 % 128 = n % 128 := by omega
  rw [e1, e2] at h
  exact h
/-- What stands behind the bytes of a number of which k rounds are done. -/
def PutAt (n : Nat) (pre : List UInt8) (m : Nat) : Prop := putN n = pre ++ putN m
theorem PutAt.next {n m : Nat} {pre : List UInt8} (h : PutAt n pre m) (hm : ¬ m < 128) : PutAt n (pre ++ [UInt8.ofNat (m % 128 + 128)]) (m / 128) := by
  unfold PutAt at h ⊢
  rw [h, putN_big hm]; simp
set_option maxHeartbeats 2000000 in
set_option maxRecDepth 100000 in
theorem put_any {w : World} {B k : Nat} {v : Value} {l : List UInt8} (n : Nat) (hn : n < 9223372036854775808) (ho : w.ownsRow B 5 1 v k (bvs l)) (hk : l.length = k) (hlen : k ≤ 1099511627776) (hB : B ≤ w.heap.size) :
    Calls Tryz.prog 105 #[v, .int .i64 n] w fun e w' => ∃ v', e = .returned v' ∧ w'.ownsRow B 5 1 v' (k + (putN n).length) (bvs (l ++ putN n)) ∧ w.grownBy w' v.ownBlock ∧ (v'.ownBlock = v.ownBlock ∨ ∃ g, v'.ownBlock = some g ∧ w.heap.size ≤ g) := by
  have HO := hide_ ho; have HK := hide_ hk
  have HP9 := hide_ (putN_len9 hn)
  clear ho hk
  go_enter Tryz.func105, Tryz.ntmps105
  go_wp2_with fail
  go_loopw [0, 1] (fun s0 s1 wr => ∃ (m : Nat) (pre : List UInt8) (v' : Value), m ≤ n ∧ s1 = .int .i64 m ∧ s0 = v' ∧ Hid (PutAt n pre m) ∧ Hid (wr.ownsRow B 5 1 v' (k + pre.length) (bvs (l ++ pre))) ∧ Hid (w.grownBy wr v.ownBlock) ∧ Hid (v'.ownBlock = v.ownBlock ∨ ∃ g, v'.ownBlock = some g ∧ w.heap.size ≤ g)) (fun _ i _ => (intOf i).toNat)
  case atStart => exact ⟨n, [], v, Nat.le_refl _, rfl, rfl, hide_ (by simp [PutAt]), hide_ (by simpa using HO.out), World.grownBy.refl w _, .inl rfl⟩
  case round =>
    obtain ⟨m, pre, v', hmn, rfl, rfl, HP, HO', HG, HD⟩ := hrel
    obtain ⟨Av, cv, hv⟩ := own_form HO'.out
    subst hv
    have hsz : B ≤ wr.heap.size := Nat.le_trans hB HG.out.size
    have hpre : pre.length + 1 ≤ 9 := by
      have h1 := HP9.out; have h2 := HP.out; unfold PutAt at h2
      rw [h2, List.length_append] at h1
      have := putN_pos m; omega
    by_cases hlt : m < 128
    · have a1 : ¬ (128 : Int) ≤ (m : Int) := by omega
      have a2 : IntKind.u8.wrap (m : Int) = (m : Int) := by rw [IntKind.wrap_u8]; omega
      have HE := hide_ (show putN n = pre ++ [UInt8.ofNat m] by rw [HP.out, putN_small hlt])
      have hbv : bvs [UInt8.ofNat m] = [.int .u8 (m : Int)] := by simp [bvs, bv]; omega
      have HBV := hide_ hbv
      clear hbv
      go_wp2_with (at_builtin; refine wpList_append_rd _ rfl (.tmp 15) (.tmp 18) 51 rfl B 5 1 1 kbyteT (.slice Av (k + pre.length) cv) (k + pre.length) (bvs (l ++ pre)) rfl ?c1 (some ⟨wr.heap.size, 0, none⟩) 1 1 [.int .u8 (m : Int)] rfl ?c2 ?c3 ?c4 ?c5 ?c6 ?c7 ?c8)
      case c1 => exact HO'.out.alloc _
      case c2 => exact Rd.newAt _ #[.int .u8 (m : Int)] 5 1 1 _ (0, 0) rfl rfl
      case c3 => rfl
      case c4 => omega
      case c5 => unfold maxLen; omega
      case c6 => omega
      case c8 =>
        intro v9 w9 hown hg hat
        have HF := hide_ (show w9.ownsRow B 5 1 v9 (k + (putN n).length) (bvs (l ++ putN n)) by
          have e : bvs (l ++ putN n) = bvs (l ++ pre) ++ [.int .u8 (m : Int)] := by rw [HE.out, ← HBV.out]; simp [bvs]
          have e2 : k + (putN n).length = k + pre.length + 1 := by rw [HE.out]; simp; omega
          rw [e, e2]; exact hown)
        have HGF := hide_ (show w.grownBy w9 v.ownBlock from grown_trans HG.out (grown_trans (World.grownBy_alloc wr _ (Value.slice Av (k + pre.length) cv).ownBlock) hg (.inl rfl)) (by
          rcases HD.out with h | ⟨g, h1, h2⟩
          · exact .inl h
          · exact .inr fun b hb => by rw [h1] at hb; injection hb with hb; omega))
        have HDF := hide_ (show v9.ownBlock = v.ownBlock ∨ ∃ g, v9.ownBlock = some g ∧ w.heap.size ≤ g by
          rcases hat with h | h
          · rcases HD.out with h' | ⟨g, h1, h2⟩
            · exact .inl (h.trans h')
            · exact .inr ⟨g, h.trans h1, h2⟩
          · exact .inr ⟨_, h, by have := HG.out.size; simp; omega⟩)
        clear hown hg hat
        go_wp2_with fail
        go_ret
        exact ⟨v9, rfl, HF.out, HGF.out, HDF.out⟩
    · have a1 : (128 : Int) ≤ (m : Int) := by omega
      have HOR := hide_ (or128 m)
      have hbv : bvs [UInt8.ofNat (m % 128 + 128)] = [.int .u8 (((m % 128 + 128 : Nat)) : Int)] := by simp [bvs, bv]; omega
      have HBV := hide_ hbv
      have HPN := hide_ (HP.out.next hlt)
      clear hbv
      go_wp2_with (at_builtin; refine wpList_append_rd _ rfl (.tmp 9) (.tmp 13) 51 rfl B 5 1 1 kbyteT (.slice Av (k + pre.length) cv) (k + pre.length) (bvs (l ++ pre)) rfl ?c1 (some ⟨wr.heap.size, 0, none⟩) 1 1 [.int .u8 (bits .or .u8 ((m : Int) % 256) 128)] rfl ?c2 ?c3 ?c4 ?c5 ?c6 ?c7 ?c8)
      case c1 => exact HO'.out.alloc _
      case c2 => exact Rd.newAt _ #[.int .u8 (bits .or .u8 ((m : Int) % 256) 128)] 5 1 1 _ (0, 0) rfl rfl
      case c3 => intro u hu; rw [List.mem_singleton] at hu; subst hu; rfl
      case c4 => omega
      case c5 => unfold maxLen; omega
      case c6 => simp; omega
      case c8 =>
        intro v9 w9 hown hg hat
        have HF := hide_ (show w9.ownsRow B 5 1 v9 (k + (pre ++ [UInt8.ofNat (m % 128 + 128)]).length) (bvs (l ++ (pre ++ [UInt8.ofNat (m % 128 + 128)]))) by
          have e : bvs (l ++ (pre ++ [UInt8.ofNat (m % 128 + 128)])) = bvs (l ++ pre) ++ [.int .u8 (bits .or .u8 ((m : Int) % 256) 128)] := by rw [HOR.out, ← HBV.out]; simp [bvs]
          have e2 : k + (pre ++ [UInt8.ofNat (m % 128 + 128)]).length = k + pre.length + 1 := by simp; omega
          rw [e, e2]; exact hown)
        have HGF := hide_ (show w.grownBy w9 v.ownBlock from grown_trans HG.out (grown_trans (World.grownBy_alloc wr _ (Value.slice Av (k + pre.length) cv).ownBlock) hg (.inl rfl)) (by
          rcases HD.out with h | ⟨g, h1, h2⟩
          · exact .inl h
          · exact .inr fun b hb => by rw [h1] at hb; injection hb with hb; omega))
        have HDF := hide_ (show v9.ownBlock = v.ownBlock ∨ ∃ g, v9.ownBlock = some g ∧ w.heap.size ≤ g by
          rcases hat with h | h
          · rcases HD.out with h' | ⟨g, h1, h2⟩
            · exact .inl (h.trans h')
            · exact .inr ⟨g, h.trans h1, h2⟩
          · exact .inr ⟨_, h, by have := HG.out.size; simp; omega⟩)
        have a3 : ((m / 128 : Nat) : Int) = (m : Int) / 128 := by omega
        have HMD := hide_ a3
        clear hown hg hat a3
        go_wp2_with fail
        go_roundw
        case rel => exact ⟨m / 128, _, v9, by omega, by rw [HMD.out], rfl, HPN, HF, HGF, HDF⟩
        case measure => simp [intOf]; omega

end Go.Proofs.YtcmollfhlillfaaGreatDoor
/-
  code.Num: the number that bytes begin with.
-/
namespace Go.Proofs.YtcmollfhlillfaaGreatDoor
open Go.RowKit
set_option linter.unusedVariables false
set_option linter.unusedSimpArgs false
theorem and127 (x : UInt8) : bits .and .u8 (x.toNat : Int) 127 = ((x.toNat % 128 : Nat) : Int) := by
  have key : ∀ x : BitVec 8, bits .and .u8 (((⟨x⟩ : UInt8).toNat : Nat) : Int) 127 = (((⟨x⟩ : UInt8).toNat % 128 : Nat) : Int) := by decide +kernel
  exact key x.toBitVec
theorem i64_or_nat (a b : Nat) (ha : a < 9223372036854775808) (hb : b < 9223372036854775808) : bits .or .i64 (a : Int) (b : Int) = ((a ||| b : Nat) : Int) := by
  have hx : a ||| b < 2 ^ 63 := Nat.or_lt_two_pow (by omega) (by omega)
  show IntKind.i64.wrap ((BitVec.ofInt 64 (a : Int) ||| BitVec.ofInt 64 (b : Int)).toNat : Int) = _
  have e : ∀ z : Nat, z < 9223372036854775808 → (BitVec.ofInt 64 (z : Int)).toNat = z := fun z hz => by rw [BitVec.toNat_ofInt]; omega
  rw [BitVec.toNat_or, e a ha, e b hb, IntWalk.i64_in] <;> omega
theorem wrap64_nat (z : Nat) (h : z < 9223372036854775808) : wrap64 (z : Int) = (z : Int) := by unfold wrap64; omega
theorem pow128 (k : Nat) : (128 : Nat) ^ k = 2 ^ (7 * k) := by rw [Nat.pow_mul]
theorem or_step {k acc y : Nat} (hk : k ≤ 8) (hacc : acc < 128 ^ k) (hy : y < 128) : bits .or .i64 (acc : Int) (wrap64 ((y : Int) * 2 ^ (7 * k))) = ((acc + y * 128 ^ k : Nat) : Int) := by
  have h1 : 128 ^ k ≤ 128 ^ 8 := Nat.pow_le_pow_right (by omega) hk
  have h2 : (128 : Nat) ^ 8 = 72057594037927936 := by decide
  have h3 : y * 128 ^ k ≤ 127 * 128 ^ k := Nat.mul_le_mul_right _ (by omega)
  have e1 : (y : Int) * 2 ^ (7 * k) = ((y * 128 ^ k : Nat) : Int) := by rw [pow128]; simp
  have e2 : wrap64 ((y * 128 ^ k : Nat) : Int) = ((y * 128 ^ k : Nat) : Int) := wrap64_nat _ (by omega)
  rw [e1, e2, i64_or_nat _ _ (by omega) (by omega)]
  have h4 := Nat.two_pow_add_eq_or_of_lt (i := 7 * k) (b := acc) (by rw [← pow128]; exact hacc) y
  rw [← pow128, Nat.mul_comm (128 ^ k) y] at h4
  rw [Nat.or_comm, ← h4, Nat.add_comm]
theorem num_next (l : List UInt8) {i acc : Nat} {x : UInt8} (h : l[i]? = some x) : numGo i acc (l.drop i) = if i = 9 then (0, 0, 2) else if 128 ≤ x.toNat then numGo (i + 1) (acc + x.toNat % 128 * 128 ^ i) (l.drop (i + 1)) else if x.toNat = 0 ∧ 0 < i then (0, 0, 2) else (acc + x.toNat * 128 ^ i, i + 1, 0) := by
  have e := List.getElem?_eq_some_iff.1 h
  rw [List.drop_eq_getElem_cons e.1, e.2]; rfl
theorem num_end {l : List UInt8} {acc : Nat} : numGo l.length acc (l.drop l.length) = if 9 ≤ l.length then (0, 0, 2) else (0, 0, 3) := by rw [List.drop_length]; rfl
set_option maxHeartbeats 4000000 in
set_option maxRecDepth 100000 in
theorem num_any {w : World} {A : Option Addr} {n c : Nat} {l : List UInt8} (hr : Rd w 1 A n (bvs l)) (hl : l.length = n) (hn : n ≤ 4398046511104) :
    Calls Tryz.prog 118 #[.slice A n c] w fun e w' => e = .returned (.tuple #[.int .i64 (numF l).1, .int .i64 (numF l).2.1, .int .i64 (numF l).2.2]) ∧ Later w w' := by
  have HR := hide_ hr
  subst hl
  have hn2 : (l.length : Int) ≤ 4398046511104 := by omega
  clear hr
  go_enter Tryz.func118, Tryz.ntmps118
  go_wp2_with fail
  go_loopw [2, 9] (fun s2 s9 wr => ∃ (k acc : Nat), k ≤ l.length ∧ k ≤ 9 ∧ s9 = .int .i64 k ∧ s2 = .int .i64 acc ∧ Hid (numF l = numGo k acc (l.drop k)) ∧ acc < 128 ^ k ∧ Hid (Later w wr)) (fun _ i _ => l.length - (intOf i).toNat)
  case atStart => exact ⟨0, 0, Nat.zero_le _, by omega, rfl, rfl, hide_ rfl, by decide, Later.refl w⟩
  case round =>
    obtain ⟨k, acc, hkn, hk9, rfl, rfl, HC, hacc, HB⟩ := hrel
    have HACC := hide_ hacc
    clear hacc
    by_cases hlt : k < l.length
    · obtain ⟨b, o, rfl, hcell⟩ := (HR.out.below HB.out).byte hlt
      have hx1 : l[k]? = some l[k] := List.getElem?_eq_getElem hlt
      obtain ⟨x, hxx⟩ : ∃ x, x = l[k] := ⟨_, rfl⟩
      rw [← hxx] at hcell hx1
      have HN := hide_ (num_next l (acc := acc) hx1)
      have q1 : (k : Int) < (l.length : Int) := by omega
      have q2 : (0 : Int) ≤ (k : Int) := by omega
      have hxb : x.toNat < 256 := x.toNat_lt
      have hx0 : (0 : Int) ≤ (x.toNat : Int) := by omega
      clear hxx hx1
      by_cases h9 : k = 9
      · rw [if_pos h9] at HN
        subst h9
        go_wp2_with fail
        go_ret3
        exact ⟨by rw [HC.out, HN.out]; rfl, HB.out⟩
      · have q3 : ¬ (k : Int) = 9 := by omega
        rw [if_neg h9] at HN
        by_cases h128 : 128 ≤ x.toNat
        · have q4 : (128 : Int) ≤ (x.toNat : Int) := by omega
          have q5 := and127 x
          rw [if_pos h128] at HN
          have HOS := hide_ (or_step (k := k) (y := x.toNat % 128) (by omega) HACC.out (by omega))
          have HAC2 := hide_ (show acc + x.toNat % 128 * 128 ^ k < 128 ^ (k + 1) by
            rw [Nat.pow_succ]
            have h1 := HACC.out
            have h2 : x.toNat % 128 * 128 ^ k ≤ 127 * 128 ^ k := Nat.mul_le_mul_right _ (by omega)
            omega)
          go_wp2_with fail
          go_roundw
          case rel => exact ⟨k + 1, acc + x.toNat % 128 * 128 ^ k, by omega, by omega, by go_num, by rw [← HOS.out]; rfl, hide_ (by rw [HC.out, HN.out]), HAC2.out, HB.out⟩
          case measure => simp [intOf]; omega
        · have q4 : ¬ (128 : Int) ≤ (x.toNat : Int) := by omega
          rw [if_neg h128] at HN
          have HOS := hide_ (or_step (k := k) (y := x.toNat) (by omega) HACC.out (by omega))
          by_cases h0 : x.toNat = 0 ∧ 0 < k
          · have q6 : (x.toNat : Int) = 0 := by omega
            have q7 : (0 : Int) < (k : Int) := by omega
            rw [if_pos h0] at HN
            go_wp2_with fail
            go_ret3
            exact ⟨by rw [HC.out, HN.out]; rfl, HB.out⟩
          · rw [if_neg h0] at HN
            by_cases hx : x.toNat = 0
            · have q6 : (x.toNat : Int) = 0 := by omega
              have q7 : ¬ (0 : Int) < (k : Int) := by omega
              go_wp2_with fail
              go_ret3
              have hk0 : k = 0 := by
                rcases Nat.eq_zero_or_pos k with h | h
                · exact h
                · exact absurd ⟨hx, h⟩ h0
              have hacc0 : acc = 0 := by have h := HACC.out; rw [hk0] at h; simpa using h
              have hb0 : bits .or .i64 (acc : Int) 0 = 0 := by rw [hacc0]; decide +kernel
              refine ⟨?_, HB.out⟩
              rw [HC.out, HN.out]
              show Ending.returned (.tuple #[.int .i64 (bits .or .i64 (acc : Int) 0), .int .i64 ((k : Int) + 1), .int .i64 0]) = _
              rw [hb0, hk0, hacc0, hx]
              rfl
            · have q6 : ¬ (x.toNat : Int) = 0 := by omega
              go_wp2_with fail
              go_ret3
              refine ⟨?_, HB.out⟩
              simp only [HC.out, HN.out]
              rw [← HOS.out]
              rfl
    · have hkl : k = l.length := by omega
      have q1 : ¬ (k : Int) < (l.length : Int) := by omega
      have HN := hide_ (show numF l = if 9 ≤ l.length then (0, 0, 2) else (0, 0, 3) by rw [HC.out, hkl]; exact num_end)
      by_cases h9 : 9 ≤ l.length
      · have q2 : (9 : Int) ≤ (l.length : Int) := by omega
        rw [if_pos h9] at HN
        clear hkl
        go_wp2_with fail
        go_ret3
        exact ⟨by rw [HN.out]; rfl, HB.out⟩
      · have q2 : ¬ (9 : Int) ≤ (l.length : Int) := by omega
        rw [if_neg h9] at HN
        clear hkl
        go_wp2_with fail
        go_ret3
        exact ⟨by rw [HN.out]; rfl, HB.out⟩

end Go.Proofs.YtcmollfhlillfaaGreatDoor
