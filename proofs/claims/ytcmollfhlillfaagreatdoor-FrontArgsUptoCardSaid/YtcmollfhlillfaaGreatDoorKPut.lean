/-
  code.put: a number's bytes behind others.
-/
import Derived.Test.YtcmollfhlillfaaGreatDoorProg
import Derived.Test.YtcmollfhlillfaaGreatDoorKMath
import Derived.Test.YtcmollfhlillfaaGreatDoorHits
import Derived.Test.YtcmollfhlillfaaGreatDoorSplit
namespace Go.Proofs.YtcmollfhlillfaaGreatDoor
open Go.RowKit
set_option linter.unusedVariables false
set_option linter.unusedSimpArgs false
theorem kbyteT : ElemT Tryz.prog 51 5 1 1 := elem_mk (z := .int .u8 0) Tryz.underlying51 (by kernel_rfl) rfl (by decide)
theorem or128 (n : Nat) : bits .or .u8 ((n : Int) % 256) 128 = (((n % 128 + 128 : Nat)) : Int) := by
  have key : ∀ x : Fin 256, bits .or .u8 (x.val : Int) 128 = (((x.val % 128 + 128 : Nat)) : Int) := by decide +kernel
  have h := key ⟨n % 256, Nat.mod_lt _ (by omega)⟩
  simp only at h
  have e1 : ((n % 256 : Nat) : Int) = (n : Int) % 256 := by omega
  have e2 : n % 256 % 128 = n % 128 := by omega
  rw [e1, e2] at h
  exact h
/-- What stands behind the bytes of a number of which k rounds are done. -/
def PutAt (n : Nat) (pre : List UInt8) (m : Nat) : Prop := putN n = pre ++ putN m
theorem PutAt.next {n m : Nat} {pre : List UInt8} (h : PutAt n pre m) (hm : ¬ m < 128) : PutAt n (pre ++ [UInt8.ofNat (m % 128 + 128)]) (m / 128) := by
  unfold PutAt at h ⊢
  rw [h, putN_big hm]; simp
set_option maxHeartbeats 2000000 in
set_option maxRecDepth 100000 in
theorem put_any {w : World} {B k : Nat} {v : Value} {l : List UInt8} (n : Nat) (hn : n < 9223372036854775808) (ho : w.ownsRow B 5 1 v k (bvs l)) (hk : l.length = k) (hlen : k ≤ 1099511627776) (hB : B ≤ w.heap.size) :
    Calls Tryz.prog 105 #[v, .int .i64 n] w fun e w' => ∃ v', e = .returned v' ∧ w'.ownsRow B 5 1 v' (k + (putN n).length) (bvs (l ++ putN n)) ∧ w.grownBy w' v.ownBlock ∧ (v'.ownBlock = v.ownBlock ∨ ∃ g, v'.ownBlock = some g ∧ w.heap.size ≤ g) := by
  have HO := hide_ ho; have HK := hide_ hk
  have HP9 := hide_ (putN_len9 hn)
  clear ho hk
  go_enter Tryz.func105, Tryz.ntmps105
  go_wp2_with fail
  go_loopw [0, 1] (fun s0 s1 wr => ∃ (m : Nat) (pre : List UInt8) (v' : Value), m ≤ n ∧ s1 = .int .i64 m ∧ s0 = v' ∧ Hid (PutAt n pre m) ∧ Hid (wr.ownsRow B 5 1 v' (k + pre.length) (bvs (l ++ pre))) ∧ Hid (w.grownBy wr v.ownBlock) ∧ Hid (v'.ownBlock = v.ownBlock ∨ ∃ g, v'.ownBlock = some g ∧ w.heap.size ≤ g)) (fun _ i _ => (intOf i).toNat)
  case atStart => exact ⟨n, [], v, Nat.le_refl _, rfl, rfl, hide_ (by simp [PutAt]), hide_ (by simpa using HO.out), World.grownBy.refl w _, .inl rfl⟩
  case round =>
    obtain ⟨m, pre, v', hmn, rfl, rfl, HP, HO', HG, HD⟩ := hrel
    obtain ⟨Av, cv, hv⟩ := own_form HO'.out
    subst hv
    have hsz : B ≤ wr.heap.size := Nat.le_trans hB HG.out.size
    have hpre : pre.length + 1 ≤ 9 := by
      have h1 := HP9.out; have h2 := HP.out; unfold PutAt at h2
      rw [h2, List.length_append] at h1
      have := putN_pos m; omega
    by_cases hlt : m < 128
    · have a1 : ¬ (128 : Int) ≤ (m : Int) := by omega
      have a2 : IntKind.u8.wrap (m : Int) = (m : Int) := by rw [IntKind.wrap_u8]; omega
      have HE := hide_ (show putN n = pre ++ [UInt8.ofNat m] by rw [HP.out, putN_small hlt])
      have hbv : bvs [UInt8.ofNat m] = [.int .u8 (m : Int)] := by simp [bvs, bv]; omega
      have HBV := hide_ hbv
      clear hbv
      go_wp2_with (at_builtin; refine wpList_append_rd _ rfl (.tmp 15) (.tmp 18) 51 rfl B 5 1 1 kbyteT (.slice Av (k + pre.length) cv) (k + pre.length) (bvs (l ++ pre)) rfl ?c1 (some ⟨wr.heap.size, 0, none⟩) 1 1 [.int .u8 (m : Int)] rfl ?c2 ?c3 ?c4 ?c5 ?c6 ?c7 ?c8)
      case c1 => exact HO'.out.alloc _
      case c2 => exact Rd.newAt _ #[.int .u8 (m : Int)] 5 1 1 _ (0, 0) rfl rfl
      case c3 => rfl
      case c4 => omega
      case c5 => unfold maxLen; omega
      case c6 => omega
      case c8 =>
        intro v9 w9 hown hg hat
        have HF := hide_ (show w9.ownsRow B 5 1 v9 (k + (putN n).length) (bvs (l ++ putN n)) by
          have e : bvs (l ++ putN n) = bvs (l ++ pre) ++ [.int .u8 (m : Int)] := by rw [HE.out, ← HBV.out]; simp [bvs]
          have e2 : k + (putN n).length = k + pre.length + 1 := by rw [HE.out]; simp; omega
          rw [e, e2]; exact hown)
        have HGF := hide_ (show w.grownBy w9 v.ownBlock from grown_trans HG.out (grown_trans (World.grownBy_alloc wr _ (Value.slice Av (k + pre.length) cv).ownBlock) hg (.inl rfl)) (by
          rcases HD.out with h | ⟨g, h1, h2⟩
          · exact .inl h
          · exact .inr fun b hb => by rw [h1] at hb; injection hb with hb; omega))
        have HDF := hide_ (show v9.ownBlock = v.ownBlock ∨ ∃ g, v9.ownBlock = some g ∧ w.heap.size ≤ g by
          rcases hat with h | h
          · rcases HD.out with h' | ⟨g, h1, h2⟩
            · exact .inl (h.trans h')
            · exact .inr ⟨g, h.trans h1, h2⟩
          · exact .inr ⟨_, h, by have := HG.out.size; simp; omega⟩)
        clear hown hg hat
        go_wp2_with fail
        go_ret
        exact ⟨v9, rfl, HF.out, HGF.out, HDF.out⟩
    · have a1 : (128 : Int) ≤ (m : Int) := by omega
      have HOR := hide_ (or128 m)
      have hbv : bvs [UInt8.ofNat (m % 128 + 128)] = [.int .u8 (((m % 128 + 128 : Nat)) : Int)] := by simp [bvs, bv]; omega
      have HBV := hide_ hbv
      have HPN := hide_ (HP.out.next hlt)
      clear hbv
      go_wp2_with (at_builtin; refine wpList_append_rd _ rfl (.tmp 9) (.tmp 13) 51 rfl B 5 1 1 kbyteT (.slice Av (k + pre.length) cv) (k + pre.length) (bvs (l ++ pre)) rfl ?c1 (some ⟨wr.heap.size, 0, none⟩) 1 1 [.int .u8 (bits .or .u8 ((m : Int) % 256) 128)] rfl ?c2 ?c3 ?c4 ?c5 ?c6 ?c7 ?c8)
      case c1 => exact HO'.out.alloc _
      case c2 => exact Rd.newAt _ #[.int .u8 (bits .or .u8 ((m : Int) % 256) 128)] 5 1 1 _ (0, 0) rfl rfl
      case c3 => intro u hu; rw [List.mem_singleton] at hu; subst hu; rfl
      case c4 => omega
      case c5 => unfold maxLen; omega
      case c6 => simp; omega
      case c8 =>
        intro v9 w9 hown hg hat
        have HF := hide_ (show w9.ownsRow B 5 1 v9 (k + (pre ++ [UInt8.ofNat (m % 128 + 128)]).length) (bvs (l ++ (pre ++ [UInt8.ofNat (m % 128 + 128)]))) by
          have e : bvs (l ++ (pre ++ [UInt8.ofNat (m % 128 + 128)])) = bvs (l ++ pre) ++ [.int .u8 (bits .or .u8 ((m : Int) % 256) 128)] := by rw [HOR.out, ← HBV.out]; simp [bvs]
          have e2 : k + (pre ++ [UInt8.ofNat (m % 128 + 128)]).length = k + pre.length + 1 := by simp; omega
          rw [e, e2]; exact hown)
        have HGF := hide_ (show w.grownBy w9 v.ownBlock from grown_trans HG.out (grown_trans (World.grownBy_alloc wr _ (Value.slice Av (k + pre.length) cv).ownBlock) hg (.inl rfl)) (by
          rcases HD.out with h | ⟨g, h1, h2⟩
          · exact .inl h
          · exact .inr fun b hb => by rw [h1] at hb; injection hb with hb; omega))
        have HDF := hide_ (show v9.ownBlock = v.ownBlock ∨ ∃ g, v9.ownBlock = some g ∧ w.heap.size ≤ g by
          rcases hat with h | h
          · rcases HD.out with h' | ⟨g, h1, h2⟩
            · exact .inl (h.trans h')
            · exact .inr ⟨g, h.trans h1, h2⟩
          · exact .inr ⟨_, h, by have := HG.out.size; simp; omega⟩)
        have a3 : ((m / 128 : Nat) : Int) = (m : Int) / 128 := by omega
        have HMD := hide_ a3
        clear hown hg hat a3
        go_wp2_with fail
        go_roundw
        case rel => exact ⟨m / 128, _, v9, by omega, by rw [HMD.out], rfl, HPN, HF, HGF, HDF⟩
        case measure => simp [intOf]; omega

end Go.Proofs.YtcmollfhlillfaaGreatDoor
