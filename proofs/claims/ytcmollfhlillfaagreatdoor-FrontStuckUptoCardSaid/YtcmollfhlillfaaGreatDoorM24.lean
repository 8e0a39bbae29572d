/-
  Texts of this seat in one: FGetC, LNum, LRd.
-/
import Derived.Test.YtcmollfhlillfaaGreatDoorM23
import Derived.Test.YtcmollfhlillfaaGreatDoorM13
import Derived.Test.YtcmollfhlillfaaGreatDoorM11
import Derived.Laws.ResultCell
import Derived.Laws.Rows
/-
  frame: getChanges, GetBatch, of what was written.
-/
namespace Go.Proofs.YtcmollfhlillfaaGreatDoor
open Go.RowKit
set_option linter.unusedVariables false
set_option linter.unusedSimpArgs false
theorem chgT : ElemT Tryz.prog 28 142 3 40 := elem_mk (z := .agg #[.int .i64 0, .string ByteArray.empty, .string ByteArray.empty]) Tryz.underlying28 (by kernel_rfl) rfl (by decide)
theorem rCount_put {n m : Nat} (hn : n < 9223372036854775808) (hm : n ≤ m) (r : List UInt8) : rCount m (putN n ++ r, 0) = (n, (r, 0)) := by
  unfold rCount; rw [rNum_put hn]; simp only; rw [if_neg (by omega)]
theorem Hits.own' {w w' : World} {p : Nat} (h : Hits (· = p) w w') {B n c size : Nat} {e : TypeId} {A : Option Addr} {xs : List Value} (ho : w.ownsRow B e size (.slice A n c) n xs) (hp : p < B) : w'.ownsRow B e size (.slice A n c) n xs :=
  h.own ho fun k hk e => by subst e; have := (ho.lt _ hk).1; omega
theorem RdrAt.grown {w w' : World} {p : Nat} {s : RS} (h : RdrAt w p s) {B size n : Nat} {e : TypeId} {v : Value} {xs : List Value} (ho : w.ownsRow B e size v n xs) (h1 : e ≠ 5) (h2 : e ≠ 191) (hg : w.grownBy w' v.ownBlock) : RdrAt w' p s := by
  obtain ⟨A, c, g1, g2, g3, g4, g5, g6⟩ := h
  have hh : Hits (fun k => v.ownBlock = some k) w w' := (Hits.refl _ w).grown hg fun g hg _ => hg
  have hn1 : ¬ v.ownBlock = some p := fun hb => by
    obtain ⟨_, _, cs, hc⟩ := own_block ho hb
    rw [hc] at g1; injection g1 with g1; injection g1 with _ g1; exact h2 g1
  have hn2 : ∀ a, A = some a → ¬ v.ownBlock = some a.block := fun a ha hb => by
    obtain ⟨_, cs, fz, h⟩ := g6 a ha
    obtain ⟨_, _, cs2, hc⟩ := own_block ho hb
    rw [hc] at h; injection h with h; injection h with _ h; exact h1 h
  exact ⟨A, c, hh.row g1 hn1, hh.rd g2 hn2, g3, g4, g5, fun a ha => (g6 a ha).hits hh (hn2 a ha)⟩
theorem crow_snoc (L : List Chg) (x : Chg) : crow (L ++ [x]) = crow L ++ [.int .i64 x.1, .string x.2.1, .string x.2.2] := by unfold crow; rw [List.flatMap_append]; simp [encC]
theorem ba_of (s : ByteArray) : (⟨s.data.toList.toArray⟩ : ByteArray) = s := by cases s; simp
set_option maxHeartbeats 4000000 in
set_option maxRecDepth 100000 in
theorem getChanges_any {w : World} {p : Nat} {L : List Chg} {n : Nat} {rest : List UInt8} (hl : L.length = n) (hn : n ≤ 4096) (hok : ∀ c ∈ L, ChOk c) (h : RdrAt w p (putN n ++ (L.flatMap encCh ++ rest), 0)) :
    Calls Tryz.prog 88 #[.pointer (some ⟨p, 0, none⟩), .int .i64 4096] w fun e w' => ∃ A c, e = .returned (.slice A n c) ∧ w'.ownsRow w.heap.size 142 3 (.slice A n c) n (crow L) ∧ RdrAt w' p (rest, 0) ∧ Hits (· = p) w w' := by
  have HL := hide_ hl; have HO := hide_ hok
  have hn2 : (n : Int) ≤ 4096 := by omega
  have HPL := hide_ h.lt
  have HCN := hide_ (rcount_any h (by simp) 4096 (by omega))
  rw [rCount_put (by omega) (by omega)] at HCN
  clear h hl hok
  go_enter Tryz.func88, Tryz.ntmps88
  go_wp2_with fail
  refine HCN.out.mono ?_; rintro e w1 ⟨rfl, hr1, hh1⟩
  have HR1 := hide_ hr1; have HH1 := hide_ hh1
  clear hr1 hh1
  go_wp2_with fail
  go_loopw [5, 6] (fun s5 s6 wr => ∃ (k : Nat) (A5 : Option Addr) (c5 : Nat), k ≤ n ∧ s5 = .slice A5 k c5 ∧ s6 = .int .i64 ((n : Int) - (k : Int)) ∧ Hid (wr.ownsRow w.heap.size 142 3 (.slice A5 k c5) k (crow (L.take k))) ∧ Hid (RdrAt wr p ((L.drop k).flatMap encCh ++ rest, 0)) ∧ Hid (Hits (· = p) w wr)) (fun _ i _ => (intOf i).toNat)
  case atStart => exact ⟨0, none, 0, Nat.zero_le _, rfl, by simp, hide_ (by rw [List.take_zero]; exact World.ownsRow_nil w1 w.heap.size 142 3), HR1, HH1⟩
  case round =>
    obtain ⟨k, A5, c5, hkn, rfl, rfl, HOW, HRD, HH⟩ := hrel
    have HER := hide_ (rerror_any HRD.out)
    by_cases hlt : k < n
    · obtain ⟨x, hx⟩ : ∃ x, L[k]? = some x := ⟨_, List.getElem?_eq_getElem (by rw [HL.out]; exact hlt)⟩
      have q1 : (0 : Int) < (n : Int) - (k : Int) := by omega
      have HX := hide_ (HO.out x (List.mem_of_getElem? hx))
      have hd : L.drop k = x :: L.drop (k + 1) := by
        have e := List.getElem?_eq_some_iff.1 hx
        rw [List.drop_eq_getElem_cons e.1, e.2]
      have HTK := hide_ (show L.take (k + 1) = L.take k ++ [x] by rw [List.take_add_one, hx]; rfl)
      have hrd : RdrAt wr p (putN x.1.toNat ++ (putT x.2.1.data.toList ++ (putT x.2.2.data.toList ++ ((L.drop (k + 1)).flatMap encCh ++ rest))), 0) := by
        have h := HRD.out
        rw [hd, List.flatMap_cons] at h
        unfold encCh at h ⊢
        simpa [List.append_assoc] using h
      have HN1 := hide_ (rnum_any hrd (by simp))
      have hk0 : ((x.1.toNat : Nat) : Int) = x.1 := by have := HX.out.k0; omega
      rw [rNum_put (by have := HX.out.k1; omega)] at HN1
      simp only [hk0] at HN1
      clear hx hd hrd hk0
      go_wp2_with fail
      refine HER.out.mono ?_; rintro e w2 ⟨rfl, rfl⟩
      go_wp2_with fail
      refine HN1.out.mono ?_; rintro e w3 ⟨rfl, hr3, hh3⟩
      have HN2 := hide_ (rtext_any hr3 (by simp))
      rw [rText_put (by have := HX.out.a; rw [Array.length_toList]; exact this)] at HN2
      simp only [ba_of] at HN2
      have HH3 := hide_ hh3
      clear hr3 hh3
      go_wp2_with fail
      refine HN2.out.mono ?_; rintro e w4 ⟨rfl, hr4, hh4⟩
      have HN3 := hide_ (rtext_any hr4 (by simp))
      rw [rText_put (by have := HX.out.b; rw [Array.length_toList]; exact this)] at HN3
      simp only [ba_of] at HN3
      have HH4 := hide_ hh4
      clear hr4 hh4
      go_wp2_with fail
      refine HN3.out.mono ?_; rintro e w5 ⟨rfl, hr5, hh5⟩
      have HR5 := hide_ hr5
      have HH5 := hide_ hh5
      clear hr5 hh5
      have HH6 := hide_ (show Hits (· = p) w w5 from ((HH.out.trans HH3.out (fun _ _ h => h)).trans HH4.out (fun _ _ h => h)).trans HH5.out (fun _ _ h => h))
      have HOW5 := hide_ (show w5.ownsRow w.heap.size 142 3 (.slice A5 k c5) k (crow (L.take k)) from HH5.out.own' (HH4.out.own' (HH3.out.own' HOW.out HPL.out) HPL.out) HPL.out)
      have q6 : IntKind.i64.wrap ((n : Int) - (k : Int) - 1) = (n : Int) - ((k + 1 : Nat) : Int) := by rw [IntWalk.i64_in] <;> omega
      clear HN1 HN2 HN3 HH3 HH4 HH5 HER HRD
      go_wp2_with (at_builtin; refine wpList_append_rd _ rfl (.tmp 19) (.tmp 27) 28 rfl w.heap.size 142 3 40 chgT (.slice A5 k c5) k (crow (L.take k)) rfl ?c1 (some ⟨w5.heap.size, 0, none⟩) 1 1 [.int .i64 x.1, .string x.2.1, .string x.2.2] rfl ?c2 ?c3 ?c4 ?c5 ?c6 ?c7 ?c8)
      case c1 => exact own_below HOW5.out (later_alloc _ _)
      case c2 => exact Rd.newAt _ #[.int .i64 x.1, .string x.2.1, .string x.2.2] 142 1 3 _ (0, 0) rfl rfl
      case c3 => intro u hu; simp only [List.mem_cons, List.not_mem_nil, or_false] at hu; rcases hu with rfl | rfl | rfl <;> rfl
      case c4 => omega
      case c5 => unfold maxLen; omega
      case c6 => have := HH6.out.size; simp; omega
      case c7 => intro h; cases h
      case c8 =>
        intro v9 w9 hown hg hat
        obtain ⟨A9, c9, hv9⟩ := own_form hown
        subst hv9
        have HOF := hide_ (show w9.ownsRow w.heap.size 142 3 (.slice A9 (k + 1) c9) (k + 1) (crow (L.take (k + 1))) by rw [HTK.out, crow_snoc]; exact hown)
        have HHF := hide_ (show Hits (· = p) w w9 from (HH6.out.alloc _).grown hg (fun g hg hlt => by
          have := (HOW5.out.lt _ hg).1; omega))
        have HRF := hide_ (show RdrAt w9 p ((L.drop (k + 1)).flatMap encCh ++ rest, 0) from
          (HR5.out.later (later_alloc _ _)).grown (own_below HOW5.out (later_alloc _ _)) (by decide) (by decide) hg)
        clear hown hg hat
        go_wp2_with fail
        go_roundw
        case rel => exact ⟨k + 1, A9, c9, by omega, rfl, by first | rfl | (rw [q6]), HOF, HRF, HHF⟩
        case measure => simp [intOf]; omega
    · obtain rfl : k = n := by omega
      have q1 : ¬ (0 : Int) < (k : Int) - (k : Int) := by omega
      go_wp2_with fail
      go_ret
      refine ⟨A5, c5, rfl, ?_, ?_, HH.out⟩
      · have h := HOW.out; rwa [List.take_of_length_le (by rw [HL.out]; exact Nat.le_refl _)] at h
      · have h := HRD.out; rw [List.drop_of_length_le (by rw [HL.out]; exact Nat.le_refl _)] at h; simpa using h
end Go.Proofs.YtcmollfhlillfaaGreatDoor
/-
  The document's code: Num.
-/
namespace Go.Proofs.YtcmollfhlillfaaGreatDoor
open Go.RowKit
set_option linter.unusedVariables false
set_option linter.unusedSimpArgs false
set_option maxHeartbeats 4000000 in
set_option maxRecDepth 100000 in
theorem lnum_any {w : World} {A : Option Addr} {n c : Nat} {l : List UInt8} (hr : Rd w 1 A n (bvs l)) (hl : l.length = n) (hn : n ≤ 4398046511104) :
    Calls Tryz.prog 111 #[.slice A n c] w fun e w' => e = .returned (.tuple #[.int .i64 (numF l).1, .int .i64 (numF l).2.1, .int .i64 (numF l).2.2]) ∧ Later w w' := by
  have HR := hide_ hr
  subst hl
  have hn2 : (l.length : Int) ≤ 4398046511104 := by omega
  clear hr
  go_enter Tryz.func111, Tryz.ntmps111
  go_wp2_with fail
  go_loopw [5, 6, 7] (fun s5 s6 s7 wr => ∃ (k acc : Nat) (t : Int), k ≤ l.length ∧ k ≤ 9 ∧ s7 = .int .i64 k ∧ s5 = .int .i64 acc ∧ s6 = .int .i64 t ∧ Hid (k ≤ 8 → t = ((128 ^ k : Nat) : Int)) ∧ Hid (numF l = numGo k acc (l.drop k)) ∧ Hid (acc < 128 ^ k) ∧ Hid (Later w wr)) (fun _ _ i _ => l.length - (intOf i).toNat)
  case atStart => exact ⟨0, 0, 1, Nat.zero_le _, by omega, rfl, rfl, rfl, hide_ (fun _ => rfl), hide_ rfl, hide_ (by decide), hide_ (Later.refl w)⟩
  case round =>
    obtain ⟨k, acc, t, hkn, hk9, rfl, rfl, rfl, HT, HC, HACC, HB⟩ := hrel
    by_cases hlt : k < l.length
    · have q1 : (k : Int) < (l.length : Int) := by omega
      by_cases h9 : k = 9
      · have HN := hide_ (show numF l = (0, 0, 2) by
          rw [HC.out, num_next l (acc := acc) (List.getElem?_eq_getElem hlt), if_pos h9])
        subst h9
        have q5 : (9 : Int) ≤ (l.length : Int) := by omega
        go_wp2_with fail
        go_ret3
        exact ⟨by rw [HN.out]; rfl, HB.out⟩
      · obtain ⟨b, o, rfl, hcell⟩ := (HR.out.below HB.out).byte hlt
        have hx1 : l[k]? = some l[k] := List.getElem?_eq_getElem hlt
        obtain ⟨x, hxx⟩ : ∃ x, x = l[k] := ⟨_, rfl⟩
        rw [← hxx] at hcell hx1
        have HN := hide_ (num_next l (acc := acc) hx1)
        have q2 : (0 : Int) ≤ (k : Int) := by omega
        have q3 : (k : Int) < 9 := by omega
        have hxb : x.toNat < 256 := x.toNat_lt
        have hx0 : (0 : Int) ≤ (x.toNat : Int) := by omega
        clear hxx hx1
        have hk8 : k ≤ 8 := by omega
        obtain rfl : t = ((128 ^ k : Nat) : Int) := HT.out hk8
        clear HT
        rw [if_neg h9] at HN
        obtain ⟨P, hP⟩ : ∃ P, P = 128 ^ k := ⟨_, rfl⟩
        have hP1 : P ≤ 72057594037927936 := by rw [hP]; exact Nat.pow_le_pow_right (n := 128) (by omega) hk8
        have hacc : acc < P := by rw [hP]; exact HACC.out
        rw [← hP]
        have HP := hide_ hP
        have HW1 := hide_ (show ∀ y : Nat, y < 128 → wrap64 ((acc : Int) + wrap64 ((y : Int) * (P : Int))) = ((acc + y * P : Nat) : Int) from fun y hy => by
          have h1 : ((y : Int) * (P : Int)) = ((y * P : Nat) : Int) := by simp
          have h2 : y * P ≤ 127 * P := Nat.mul_le_mul_right _ (by omega)
          rw [h1, wrap64_nat _ (by omega), ← Int.natCast_add, wrap64_nat _ (by omega)])
        have HW2 := hide_ (show k < 8 → wrap64 ((P : Int) * 128) = ((128 ^ (k + 1) : Nat) : Int) from fun hk => by
          have h1 : P ≤ 562949953421312 := by rw [hP]; exact Nat.le_trans (Nat.pow_le_pow_right (n := 128) (by omega) (show k ≤ 7 by omega)) (by decide)
          have h2 : ((P : Int) * 128) = ((P * 128 : Nat) : Int) := by simp
          rw [h2, wrap64_nat _ (by omega), hP, Nat.pow_succ])
        have HAC := hide_ hacc
        have HPB := hide_ hP1
        clear hP hacc hP1 HACC
        by_cases h128 : 128 ≤ x.toNat
        · have q4 : ¬ (x.toNat : Int) < 128 := by omega
          rw [if_pos h128] at HN
          have HX := hide_ (show acc + x.toNat % 128 * P < 128 ^ (k + 1) by
            rw [Nat.pow_succ, ← HP.out]
            have h1 := HAC.out
            have h2 : x.toNat % 128 * P ≤ 127 * P := Nat.mul_le_mul_right _ (by omega)
            omega)
          go_wp2_with fail
          go_roundw
          case rel => exact ⟨k + 1, acc + x.toNat % 128 * P, wrap64 ((P : Int) * 128), by omega, by omega, by go_num, (by have h := HW1.out (x.toNat % 128) (by omega); rw [← h]; rfl), rfl, hide_ (fun h => HW2.out (by omega)), hide_ (by rw [HC.out, HN.out, HP.out]), HX, HB⟩
          case measure => simp [intOf]; omega
        · have q4 : (x.toNat : Int) < 128 := by omega
          rw [if_neg h128] at HN
          have HV := hide_ (HW1.out x.toNat (by omega))
          have hmod : (x.toNat : Int) % 128 = (x.toNat : Int) := by omega
          by_cases h0 : x.toNat = 0
          · by_cases hk0 : 0 < k
            · have q6 : (x.toNat : Int) = 0 := by omega
              have q7 : (0 : Int) < (k : Int) := by omega
              rw [if_pos ⟨h0, hk0⟩] at HN
              go_wp2_with fail
              go_ret3
              exact ⟨by rw [HC.out, HN.out]; rfl, HB.out⟩
            · have q6 : (x.toNat : Int) = 0 := by omega
              have q7 : ¬ (0 : Int) < (k : Int) := by omega
              rw [if_neg (fun h => hk0 h.2)] at HN
              go_wp2_with fail
              go_ret3
              refine ⟨?_, HB.out⟩
              have h2 : wrap64 (acc : Int) = ((acc : Nat) : Int) := wrap64_nat _ (by have := HAC.out; have := HPB.out; omega)
              rw [HC.out, HN.out, h0, Nat.zero_mul, Nat.add_zero]
              show Ending.returned (.tuple #[.int .i64 (wrap64 (acc : Int)), .int .i64 ((k : Int) + 1), .int .i64 0]) = _
              rw [h2]; rfl
          · have q6 : ¬ (x.toNat : Int) = 0 := by omega
            rw [if_neg (fun h => h0 h.1)] at HN
            go_wp2_with fail
            go_ret3
            refine ⟨?_, HB.out⟩
            rw [HC.out, HN.out, ← HP.out]
            show Ending.returned (.tuple #[.int .i64 (wrap64 ((acc : Int) + wrap64 ((x.toNat : Int) * (P : Int)))), .int .i64 ((k : Int) + 1), .int .i64 0]) = _
            rw [HV.out]; rfl
    · have hkl : k = l.length := by omega
      have q1 : ¬ (k : Int) < (l.length : Int) := by omega
      have HN := hide_ (show numF l = if 9 ≤ l.length then (0, 0, 2) else (0, 0, 3) by rw [HC.out, hkl]; exact num_end)
      by_cases h9 : 9 ≤ l.length
      · have q2 : (9 : Int) ≤ (l.length : Int) := by omega
        rw [if_pos h9] at HN
        clear hkl
        go_wp2_with fail
        go_ret3
        exact ⟨by rw [HN.out]; rfl, HB.out⟩
      · have q2 : ¬ (9 : Int) ≤ (l.length : Int) := by omega
        rw [if_neg h9] at HN
        clear hkl
        go_wp2_with fail
        go_ret3
        exact ⟨by rw [HN.out]; rfl, HB.out⟩

end Go.Proofs.YtcmollfhlillfaaGreatDoor
/-
  The document's frame: its reader; numbers.
-/
namespace Go.Proofs.YtcmollfhlillfaaGreatDoor
open Go.RowKit
set_option linter.unusedVariables false
set_option linter.unusedSimpArgs false
/-- A reader of the document at block p, that nothing was lacking for. -/
def LRdr (w : World) (p : Nat) (l : List UInt8) : Prop :=
  ∃ A c, w.heap[p]? = some (.cells #[.slice A l.length c, .bool false] 145 (0, 0)) ∧ Rd w 1 A l.length (bvs l) ∧ l.length ≤ c ∧ (c ≤ 9223372036854775807 ∧ l.length ≤ 4398046511104) ∧ (A = none → l.length = 0) ∧ ∀ a, A = some a → BAt w p a
theorem LRdr.later {w w' : World} {p : Nat} {s : List UInt8} (h : LRdr w p s) (hl : Later w w') : LRdr w' p s := by
  obtain ⟨A, c, h1, h2, h3, h4, h5, h6⟩ := h
  exact ⟨A, c, later_row hl h1, h2.below hl, h3, h4, h5, fun a ha => (h6 a ha).later hl⟩
theorem LRdr.set {w : World} {p U : Nat} {A : Option Addr} {c : Nat} {l : List UInt8} {x : Value} (h1 : w.heap[p]? = some (.cells #[x, .bool false] 145 (0, 0))) (h2 : Rd w 1 A l.length (bvs l)) (h3 : l.length ≤ c) (h4 : c ≤ 9223372036854775807 ∧ l.length ≤ 4398046511104) (h5 : A = none → l.length = 0) (h6 : ∀ a, A = some a → BAt w p a) (hU : U ≤ l.length) :
    LRdr (w.setCell ⟨p, 0, none⟩ (.slice (if c = U then A else A.map (·.add U)) (l.length - U) (c - U))) p (l.drop U) := by
  have g1 := heap_setCell_same w p 0 _ _ (.slice (if c = U then A else A.map (·.add U)) (l.length - U) (c - U)) h1
  have hlen : (l.drop U).length = l.length - U := List.length_drop
  have hblk2 : ∀ a, (if c = U then A else A.map (·.add U)) = some a → BAt w p a := by
    intro a ha
    split at ha
    · exact h6 a ha
    · cases A with
      | none => cases ha
      | some b =>
        have hb := h6 b rfl
        simp only [Option.map_some, Option.some.injEq] at ha
        subst ha
        unfold Addr.add
        split <;> simpa [BAt] using hb
  have hblk : ∀ a, (if c = U then A else A.map (·.add U)) = some a → a.block ≠ p := fun a ha => (hblk2 a ha).1
  refine ⟨_, c - U, by rw [hlen]; exact g1, ?_, by rw [hlen]; omega, ⟨by omega, by rw [hlen]; omega⟩, ?_, fun a ha => ((hblk2 a ha).set 0 _)⟩
  · have hcut := h2.cut (k := U) (cap := c) hU h3
    have eb : bvs (l.drop U) = (bvs l).drop (U * 1) := by simp [bvs, List.map_drop]
    rw [hlen, eb]
    have hcut2 : Rd w 1 (if c = U then A else A.map (·.add U)) (l.length - U) ((bvs l).drop (U * 1)) := by simpa using hcut
    exact hcut2.setCell hblk 0 _
  · intro h
    rw [hlen]
    split at h
    · have := h5 h; omega
    · cases A with
      | none => have := h5 rfl; omega
      | some b => cases h
set_option maxHeartbeats 4000000 in
set_option maxRecDepth 100000 in
theorem lrnum_any {w : World} {p : Nat} {l : List UInt8} {n : Nat} (h : LRdr w p l) {r : List UInt8} (hl : l = putN n ++ r) (hn : n < 9223372036854775808) :
    Calls Tryz.prog 77 #[.pointer (some ⟨p, 0, none⟩)] w fun e w' => e = .returned (.int .i64 n) ∧ LRdr w' p r ∧ Hits (· = p) w w' := by
  obtain ⟨A, c, h1, h2, h3, h4, h5, h6⟩ := h
  have c0 := cell_of_row _ _ 0 _ _ (0, 0) h1
  have c1 := cell_of_row _ _ 1 _ _ (0, 0) h1
  have hnu := lnum_any (c := c) h2 rfl (by omega)
  have hnf : numF l = (n, (putN n).length, 0) := by rw [hl]; exact numF_put hn r
  rw [hnf] at hnu
  have hdr : l.drop (putN n).length = r := by rw [hl]; simp
  have hused : (putN n).length ≤ l.length := by rw [hl]; simp
  obtain ⟨U, hU⟩ : ∃ U, U = (putN n).length := ⟨_, rfl⟩
  simp only [← hU] at hnu
  rw [← hU] at hdr hused
  have HNU := hide_ hnu
  have HROW := hide_ h1; have HRD := hide_ h2; have HA := hide_ h5; have HB := hide_ h6; have HDR := hide_ hdr
  clear hnu hnf hU h1 h2 h5 h6 hl hdr
  go_enter Tryz.func77, Tryz.ntmps77
  go_wp2_with fail
  refine HNU.out.mono ?_; rintro e w1 ⟨rfl, hl1⟩
  have HROW1 := hide_ (later_row hl1 HROW.out)
  have HL1 := hide_ hl1
  have d0 := cell_of_row _ _ 0 _ _ (0, 0) HROW1.out
  have d1 := cell_of_row _ _ 1 _ _ (0, 0) HROW1.out
  have g0 := frozen_of_row _ _ 0 _ _ HROW1.out
  have HSET := hide_ (LRdr.set (U := U) HROW1.out (HRD.out.below hl1) h3 h4 HA.out (fun a ha => (HB.out a ha).later hl1) hused)
  have hq1 : (U : Int) ≤ (l.length : Int) := by omega
  have hq2 : (l.length : Int) ≤ (c : Int) := by omega
  have hq3 : (0 : Int) ≤ (U : Int) := by omega
  clear hl1 c0 c1
  by_cases hcU : c = U
  · subst hcU
    rw [if_pos rfl, Nat.sub_self, show l.length - c = 0 by omega] at HSET
    go_wp2_with fail
    go_ret
    exact ⟨rfl, by rw [← HDR.out]; exact HSET.out, (Hits.later (F := (· = p)) HL1.out).trans ((Hits.refl (· = p) w1).setCell (g := p) (fun _ => rfl) 0 _) (fun _ _ h => h)⟩
  · rw [if_neg hcU] at HSET
    go_wp2_with fail
    go_ret
    exact ⟨rfl, by rw [← HDR.out]; exact HSET.out, (Hits.later (F := (· = p)) HL1.out).trans ((Hits.refl (· = p) w1).setCell (g := p) (fun _ => rfl) 0 _) (fun _ _ h => h)⟩
set_option maxHeartbeats 4000000 in
set_option maxRecDepth 100000 in
theorem lnums_nil {w : World} {A : Option Addr} {c : Nat} :
    Calls Tryz.prog 44 #[.slice A 0 c] w fun e w' => ∃ b, e = .returned (.tuple #[.slice (some ⟨b, 0, none⟩) 0 0, .int .i64 0]) ∧ w'.heap[b]? = some (.cells #[] 5 (0, 0)) ∧ w.heap.size ≤ b ∧ Later w w' := by
  go_enter Tryz.func44, Tryz.ntmps44
  go_wp2_with fail
  go_loopw [4, 5] (fun s4 s5 wr => s4 = .slice (some ⟨w.heap.size, 0, none⟩) 0 0 ∧ s5 = .int .i64 0 ∧ Hid (wr = w.alloc (.cells #[] 5))) (fun _ _ _ => 0)
  case atStart => exact ⟨rfl, rfl, hide_ rfl⟩
  case round =>
    obtain ⟨rfl, rfl, HB⟩ := hrel
    go_wp2_with fail
    go_ret2
    exact ⟨_, rfl, by rw [HB.out]; exact heap_alloc_new _ _, Nat.le_refl _, by rw [HB.out]; exact later_alloc _ _⟩

end Go.Proofs.YtcmollfhlillfaaGreatDoor
