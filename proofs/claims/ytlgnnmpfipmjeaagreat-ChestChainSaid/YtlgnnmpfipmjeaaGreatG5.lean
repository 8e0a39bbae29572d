/-
  Texts of this seat in one: Ch19, Ch20, Ch21.
-/
import Derived.Test.YtlgnnmpfipmjeaaGreatG4
import Derived.Test.YtlgnnmpfipmjeaaGreatZkZone
/-
  chest: chain, same, EqualFunc.
-/
namespace Go.Proofs.YtlgnnmpfipmjeaaGreat
open Go.RowKit
set_option linter.unusedVariables false
set_option linter.unusedSimpArgs false
/-- Each batch begins where the one ahead ends. -/
def Chain : Nat → List BP → Prop
  | _, [] => True
  | base, x :: L => x.prev = base ∧ base < x.ver ∧ Chain x.ver L
def chainAt (base : Nat) (L : List BP) (k : Nat) : Nat := match (L.take k).getLast? with
  | some x => x.ver
  | none => base
theorem chain_at : ∀ {base : Nat} {L : List BP} (h : Chain base L) {k : Nat} {x : BP} (hx : L[k]? = some x), x.prev = chainAt base L k ∧ chainAt base L k < x.ver
  | base, [], h, k, x, hx => by simp at hx
  | base, y :: L, h, 0, x, hx => by
    simp only [List.getElem?_cons_zero, Option.some.injEq] at hx
    subst hx; exact ⟨h.1, h.2.1⟩
  | base, y :: L, h, k + 1, x, hx => by
    have h1 := chain_at (base := y.ver) (L := L) h.2.2 (k := k) (x := x) (by simpa using hx)
    have e : chainAt base (y :: L) (k + 1) = chainAt y.ver L k := by
      unfold chainAt
      rw [List.take_succ_cons, List.getLast?_cons]
      cases (L.take k).getLast? <;> rfl
    rw [e]; exact h1
theorem chainAt_next {base : Nat} {L : List BP} {k : Nat} {x : BP} (hx : L[k]? = some x) : chainAt base L (k + 1) = x.ver := by
  unfold chainAt; rw [List.take_add_one, hx]; simp
set_option maxHeartbeats 4000000 in
set_option maxRecDepth 100000 in
theorem chain_any {w : World} {A : Option Addr} {n c : Nat} {L : List BV} {base : Nat} (hr : Rd w 4 A n (brow L)) (hl : L.length = n) (hn : n ≤ 24) (hc : Chain base (L.map BV.bp)) :
    Calls Tryz.prog 27 #[.int .i64 base, .slice A n c] w fun e w' => e = .returned (.bool true) ∧ Later w w' := by
  have HR := hide_ hr; have HL := hide_ hl; have HC := hide_ hc
  have hn2 : (n : Int) ≤ 24 := by omega
  clear hr hl hc
  go_enter Tryz.func27, Tryz.ntmps27
  go_wp2_with fail
  go_loopw [0, 9] (fun s0 s9 wr => ∃ k bs : Nat, k ≤ n ∧ s9 = .int .i64 k ∧ s0 = .int .i64 bs ∧ Hid (bs = chainAt base (L.map BV.bp) k) ∧ Hid (Later w wr)) (fun _ s _ => n - (intOf s).toNat)
  case atStart => exact ⟨0, base, Nat.zero_le _, rfl, rfl, hide_ rfl, Later.refl _⟩
  case round =>
    obtain ⟨k, bs, hkn, rfl, rfl, HB, HLR⟩ := hrel
    by_cases hlt : k < n
    · obtain ⟨x, hx⟩ : ∃ x, L[k]? = some x := ⟨_, List.getElem?_eq_getElem (by rw [HL.out]; exact hlt)⟩
      obtain ⟨b, o, rfl, l0, l1, l2, l3⟩ := (HR.out.below HLR.out).bat hx
      have hxm : (L.map BV.bp)[k]? = some x.bp := by rw [List.getElem?_map, hx]; rfl
      have hca := chain_at HC.out hxm
      rw [← HB.out] at hca
      have r1 : (k : Int) < (n : Int) := by omega
      have r2 : (0 : Int) ≤ (k : Int) := by omega
      have r3 : ((x.prev : Int) != (bs : Int)) = false := by have : x.bp.prev = x.prev := rfl; rw [show (x.prev : Int) = (bs : Int) by omega]; simp
      have r4 : ¬ (x.ver : Int) ≤ (bs : Int) := by have : x.bp.ver = x.ver := rfl; omega
      have r4n : ¬ x.ver ≤ bs := by have : x.bp.ver = x.ver := rfl; omega
      have HNX := hide_ (chainAt_next (base := base) hxm)
      clear hx hxm hca
      go_wp2_with fail
      go_roundw
      case rel => exact ⟨k + 1, x.ver, by omega, by go_num, rfl, hide_ HNX.out.symm, HLR.out.al _⟩
      case measure => simp [intOf]; omega
    · obtain rfl : k = n := by omega
      have r1 : ¬ (k : Int) < (k : Int) := by omega
      go_wp2_with fail
      go_ret
      exact ⟨rfl, HLR.out⟩
set_option maxHeartbeats 1000000 in
theorem chEqual_nil {w : World} (A A' : Option Addr) (c c' : Nat) :
    Calls Tryz.prog 62 #[.slice A 0 c, .slice A' 0 c'] w fun e w' => e = .returned (.bool true) ∧ w' = w := by
  go_enter Tryz.func62, Tryz.ntmps62
  go_wp2_with fail
  go_loopw [13] (fun s wr => s = .int .i64 0 ∧ Hid (wr = w)) (fun _ _ => 0)
  case atStart => exact ⟨rfl, hide_ rfl⟩
  case round =>
    obtain ⟨rfl, HW⟩ := hrel
    obtain rfl := HW.out
    go_wp2_with fail
    go_ret
    exact ⟨rfl, rfl⟩
set_option maxHeartbeats 2000000 in
set_option maxRecDepth 100000 in
theorem same_any {w : World} {x y : BV} (h : x.bp = y.bp) (hx : x.n = 0) (hy : y.n = 0) :
    Calls Tryz.prog 30 #[.agg #[.int .i64 x.prev, .int .i64 x.ver, .int .i64 x.known, .slice x.A x.n x.c], .agg #[.int .i64 y.prev, .int .i64 y.ver, .int .i64 y.known, .slice y.A y.n y.c]] w fun e w' => e = .returned (.bool true) ∧ Later w w' := by
  have e1 : x.prev = y.prev := congrArg BP.prev h
  have e2 : x.ver = y.ver := congrArg BP.ver h
  have e3 : x.known = y.known := congrArg BP.known h
  rw [hx, hy, e1, e2, e3]
  have HL := hide_ (show Later w ((w.alloc (.cells #[.int .i64 y.prev, .int .i64 y.ver, .int .i64 y.known, .slice x.A 0 x.c] 38)).alloc (.cells #[.int .i64 y.prev, .int .i64 y.ver, .int .i64 y.known, .slice y.A 0 y.c] 38)) from (later_alloc _ _).al _)
  clear h hx hy e1 e2 e3
  go_enter Tryz.func30, Tryz.ntmps30
  go_wp2_with fail
  refine (chEqual_nil _ _ _ _).mono ?_; rintro e w2 ⟨rfl, rfl⟩
  go_wp2_with fail
  go_ret
  exact ⟨rfl, HL.out⟩
set_option maxHeartbeats 4000000 in
set_option maxRecDepth 100000 in
theorem equal_any {w : World} {A A' : Option Addr} {n c c' : Nat} {L L' : List BV} (hr : Rd w 4 A n (brow L)) (hr' : Rd w 4 A' n (brow L')) (hl : L.length = n) (hn : n ≤ 24) (hm : L.map BV.bp = L'.map BV.bp) (h0 : ∀ x ∈ L, x.n = 0) (h0' : ∀ x ∈ L', x.n = 0) :
    Calls Tryz.prog 29 #[.slice A n c, .slice A' n c', .func (.func 30) #[] #[]] w fun e w' => e = .returned (.bool true) ∧ Later w w' := by
  have HR := hide_ hr; have HR' := hide_ hr'; have HL := hide_ hl; have HM := hide_ hm; have H0 := hide_ h0; have H0' := hide_ h0'
  have hn2 : (n : Int) ≤ 24 := by omega
  clear hr hr' hl hm h0 h0'
  go_enter Tryz.func29, Tryz.ntmps29
  go_wp2_with fail
  go_loopw [17] (fun s wr => ∃ k : Nat, k ≤ n ∧ s = .int .i64 k ∧ Hid (Later w wr)) (fun s _ => n - (intOf s).toNat)
  case atStart => exact ⟨0, Nat.zero_le _, rfl, Later.refl _⟩
  case round =>
    obtain ⟨k, hkn, rfl, HLR⟩ := hrel
    by_cases hlt : k < n
    · obtain ⟨x, hx⟩ : ∃ x, L[k]? = some x := ⟨_, List.getElem?_eq_getElem (by rw [HL.out]; exact hlt)⟩
      have hxm : (L'.map BV.bp)[k]? = some x.bp := by rw [← HM.out, List.getElem?_map, hx]; rfl
      obtain ⟨y, hy, hyx⟩ : ∃ y, L'[k]? = some y ∧ y.bp = x.bp := by
        rw [List.getElem?_map] at hxm; exact Option.map_eq_some_iff.1 hxm
      obtain ⟨b, o, rfl, l0, l1, l2, l3⟩ := (HR.out.below HLR.out).bat hx
      have hal := later_alloc wr (.cells #[.int .i64 x.prev, .int .i64 x.ver, .int .i64 x.known, .slice x.A x.n x.c] 38)
      obtain ⟨b', o', rfl, m0, m1, m2, m3⟩ := ((HR'.out.below HLR.out).below hal).bat hy
      have HS := hide_ (fun W => same_any (w := W) hyx.symm (H0.out x (List.mem_of_getElem? hx)) (H0'.out y (List.mem_of_getElem? hy)))
      have r1 : (k : Int) < (n : Int) := by omega
      have r2 : (0 : Int) ≤ (k : Int) := by omega
      clear hx hxm hy hyx hal
      go_wp2_with fail
      refine (HS.out _).mono ?_; rintro e w3 ⟨rfl, hl3⟩
      have HL3 := hide_ (((HLR.out.al _).al _).trans hl3)
      clear hl3
      go_wp2_with fail
      go_roundw
      case rel => exact ⟨k + 1, by omega, by go_num, HL3⟩
      case measure => simp [intOf]; omega
    · obtain rfl : k = n := by omega
      have r1 : ¬ (k : Int) < (k : Int) := by omega
      go_wp2_with fail
      go_ret
      exact ⟨rfl, HLR.out⟩

end Go.Proofs.YtlgnnmpfipmjeaaGreat
/-
  chest: Lay where no log of the epoch is there.
-/
namespace Go.Proofs.YtlgnnmpfipmjeaaGreat
open Go.RowKit
set_option linter.unusedVariables false
set_option linter.unusedSimpArgs false
def encT (x : BP) : List UInt8 := putT (encB x)
theorem encT_snoc {L : List BV} {k : Nat} {x : BV} (hx : L[k]? = some x) : ((L.map BV.bp).take (k + 1)).flatMap encT = ((L.map BV.bp).take k).flatMap encT ++ encT x.bp := by
  rw [List.take_add_one, List.getElem?_map, hx, List.flatMap_append]; simp
theorem encT_len : ∀ {L : List BP}, (∀ x ∈ L, BOk x) → (L.flatMap encT).length ≤ L.length * 2403
  | [], _ => by simp
  | x :: L, h => by
    have ih := encT_len (L := L) (fun y hy => h y (List.mem_cons_of_mem _ hy))
    have hb := (h x List.mem_cons_self).len
    have := putT_len (s := encB x) (by omega)
    rw [List.flatMap_cons, List.length_append, List.length_cons, Nat.succ_mul]; unfold encT at ih ⊢; omega
set_option maxHeartbeats 16000000 in
set_option maxRecDepth 100000 in
theorem lay_new0 {w : World} {c b lock : Nat} {vl : Value} (h : ChB w c b lock vl) {epoch base : Nat} (he1 : 1 ≤ epoch) (he9 : epoch < 1000000000) (hb : base < 1000000000000000) (hlk : ¬ epoch < lock) {A : Option Addr} {n cc : Nat} {L : List BV} (hr : Rd w 4 A n (brow L)) (hl : L.length = n) (hn : n ≤ 24) (hok : ∀ x ∈ L, BvOk w x ∧ BOk x.bp) (hch : Chain base (L.map BV.bp))
    (hfind : ∀ W, Later w W → Calls Tryz.prog 28 #[.pointer (some ⟨c, 0, none⟩), .int .i64 epoch] W fun e w' => e = .returned (.pointer none) ∧ w' = W) (Q : World → Prop)
    (hput : ∀ (W : World) (pw : Nat) (v : Value), Later w W → WrAt W w.heap.size pw v (recH 1 epoch base ++ (putN n ++ (L.map BV.bp).flatMap encT), 0) → Calls Tryz.prog 31 #[.pointer (some ⟨c, 0, none⟩), .pointer (some ⟨pw, 0, none⟩)] W fun e w' => e = .returned (.int .i64 0) ∧ Q w') :
    Calls Tryz.prog 10 #[.pointer (some ⟨c, 0, none⟩), .int .i64 epoch, .int .i64 base, .slice A n cc] w fun e w' => e = .returned (.int .i64 0) ∧ Q w' := by
  obtain ⟨W0, hW0⟩ : ∃ W0, W0 = w.alloc (.cells #[.int .i64 base] 3) := ⟨_, rfl⟩
  have HW := hide_ hW0.symm
  have HL0 := hide_ (show Later w W0 by rw [hW0]; exact later_alloc _ _)
  have HCB0 := hide_ (h.later HL0.out)
  have HR := hide_ (ready_any (cc := 1) HCB0.out epoch he1 (A := some ⟨w.heap.size, 0, none⟩) (n := 1) (L := [base]) (by rw [hW0]; exact Rd.fresh1 rfl) rfl (by omega))
  have c2 := cell_of_row _ _ 2 _ _ (0, 0) HCB0.out.row
  have q1 : ¬ (epoch : Int) < (lock : Int) := by omega
  have q1n : ¬ epoch < lock := hlk
  have q2 : ¬ (24 : Int) < (n : Int) := by omega
  have hni : (n : Int) ≤ 24 := by omega
  have HRD := hide_ hr; have HL := hide_ hl; have HOK := hide_ hok; have HCH := hide_ hch; have HFD := hide_ hfind; have HPUT := hide_ hput; have HE9 := hide_ he9; have HB9 := hide_ hb
  clear h he1 he9 hb hlk hr hl hok hch hfind hput hW0
  go_enter Tryz.func10, Tryz.ntmps10
  go_wp2_with (rw [HW.out])
  refine HR.out.mono ?_; rintro e w1 ⟨rfl, rfl⟩
  have HRC := hide_ (record_any w1 1 epoch base (by omega) (by have := HE9.out; omega) HB9.out)
  go_wp2_with fail
  refine HRC.out.mono ?_; rintro e w2 ⟨rfl, ⟨v2, hw2⟩, hl2⟩
  obtain ⟨pw, hpw⟩ : ∃ pw, pw = w1.heap.size := ⟨_, rfl⟩
  rw [← hpw]
  have HW2 := hide_ (show WrAt w2 w1.heap.size pw v2 (recH 1 epoch base, 0) from by rw [hpw]; exact hw2)
  have HL2 := hide_ (HL0.out.trans hl2)
  have HWS := hide_ (show w.heap.size ≤ w1.heap.size from HL0.out.size)
  have HL12 := hide_ hl2
  have HPW := hide_ hpw
  clear hw2 hl2 hpw c2
  have HN0 := hide_ (show wNums [(n : Int)] (recH 1 epoch base, 0) = (recH 1 epoch base ++ putN n, 0) by unfold wNums; rw [if_neg (by omega)]; rfl)
  go_wp2_with fail
  refine (nums_any (HW2.out.later (later_alloc w2 _)) (A := some ⟨w2.heap.size, 0, none⟩) (n := 1) (L := [(n : Int)]) (by exact Rd.fresh1 rfl) rfl (by omega) (by intro x hx; rw [List.mem_singleton] at hx; omega) (by
    intro a ha; injection ha with ha; subst ha; intro hf
    rcases hf with hf | hf
    · have := HW2.out.lt; simp at hf; omega
    · have := (HW2.out.2.2.lt _ hf).2; simp at this) (by have := (recH_len (k := 1) (e := epoch) (n := base) (by omega) HE9.out HB9.out).1; simp only; omega) (by have := HL12.out.size; simp; omega)).mono ?_; rintro e w3 ⟨rfl, hp3⟩
  rw [HN0.out] at hp3
  obtain ⟨v3, ht3, hh3, hd3⟩ := hp3
  have HT3 := hide_ ht3
  have HL3 := hide_ (show Below w1.heap.size w1 w3 from Below.trans (HL12.out.al _) (hh3.below (B := w1.heap.size) (by have := HL12.out.size; simp; omega) (by
    rintro k (hk | hk)
    · have := HPW.out; omega
    · exact (HW2.out.2.2.lt _ hk).1)))
  clear ht3 hh3 hd3
  go_wp2_with fail
  go_loopw [42] (fun s wr => ∃ (k : Nat) (v' : Value), k ≤ n ∧ s = .int .i64 k ∧ Hid (WrAt wr w1.heap.size pw v' (recH 1 epoch base ++ (putN n ++ ((L.map BV.bp).take k).flatMap encT), 0)) ∧ Hid (Below w1.heap.size w1 wr)) (fun s _ => n - (intOf s).toNat)
  case atStart => exact ⟨0, v3, Nat.zero_le _, rfl, by simpa using HT3, HL3⟩
  case round =>
    obtain ⟨k, v', hkn, rfl, HT, HLR⟩ := hrel
    have HLW := hide_ (show Later w wr from HL0.out.trans HLR.out)
    by_cases hlt : k < n
    · obtain ⟨x, hx⟩ : ∃ x, L[k]? = some x := ⟨_, List.getElem?_eq_getElem (by rw [HL.out]; exact hlt)⟩
      obtain ⟨bb, oo, rfl, l0, l1, l2, l3⟩ := (HRD.out.below HLW.out).bat hx
      have HXO := hide_ (HOK.out x (List.mem_of_getElem? hx))
      have hal := later_alloc wr (.cells #[.int .i64 x.prev, .int .i64 x.ver, .int .i64 x.known, .slice x.A x.n x.c] 38)
      have HTX := hide_ (ctext_any ((HXO.out.1.later HLW.out).later hal) HXO.out.2.len)
      have HES := hide_ (encT_snoc hx)
      have HLE := hide_ (show (recH 1 epoch base ++ (putN n ++ ((L.map BV.bp).take k).flatMap encT)).length ≤ 100000 by
        have h1 := (recH_len (k := 1) (e := epoch) (n := base) (by omega) HE9.out HB9.out).1
        have h2 := putN_len3 (n := n) (by omega)
        have h3 := encT_len (L := (L.map BV.bp).take k) (fun y hy => by
          obtain ⟨z, hz, rfl⟩ := List.mem_map.1 (List.mem_of_mem_take hy)
          exact (HOK.out z hz).2)
        rw [List.length_take, List.length_map] at h3
        rw [List.length_append, List.length_append]; omega)
      have r1 : (k : Int) < (n : Int) := by omega
      have r2 : (0 : Int) ≤ (k : Int) := by omega
      have HAL := hide_ hal
      clear hx hal
      go_wp2_with fail
      refine HTX.out.mono ?_; rintro e w5 ⟨rfl, hl5⟩
      have HT5 := hide_ (HT.out.later (HAL.out.trans hl5))
      have HL5 := hide_ (show Below w1.heap.size w1 w5 from HLR.out.trans ((HAL.out.trans hl5).mono HLR.out.size))
      clear hl5
      go_wp2_with fail
      refine (texts_any (HT5.out.later (later_alloc _ _)) (A := some ⟨w5.heap.size, 0, none⟩) (n := 1) (L := [⟨(encB x.bp).toArray⟩]) (by exact Rd.fresh1 rfl) rfl (by omega) (by intro y hy; rw [List.mem_singleton] at hy; subst hy; show (encB x.bp).toArray.size ≤ _; have := HXO.out.2.len; simp; omega) (by
        intro a ha; injection ha with ha; subst ha
        rintro (hf | hf)
        · have := HT5.out.lt; simp at hf; omega
        · have := (HT5.out.2.2.lt _ hf).2; simp at this) (by have := HLE.out; simp only; omega) (by have := HL5.out.size; simp; omega)).mono ?_; rintro e w6 ⟨rfl, hp6⟩
      rw [wText1 (by have := HXO.out.2.len; omega)] at hp6
      obtain ⟨v6, ht6, hh6, hd6⟩ := hp6
      have HT6 := hide_ (show WrAt w6 w1.heap.size pw v6 (recH 1 epoch base ++ (putN n ++ ((L.map BV.bp).take (k + 1)).flatMap encT), 0) from by
        rw [HES.out]; simpa [encT, List.append_assoc] using ht6)
      have HL6 := hide_ (show Below w1.heap.size w1 w6 from Below.trans (HL5.out.alloc HL5.out.size _) (hh6.below (B := w1.heap.size) (by have := HL5.out.size; simp; omega) (by
        rintro k (hk | hk)
        · have := HPW.out; omega
        · exact (HT5.out.2.2.lt _ hk).1)))
      clear ht6 hh6 hd6
      go_wp2_with fail
      go_roundw
      case rel => exact ⟨k + 1, v6, by omega, by go_num, HT6, HL6⟩
      case measure => simp [intOf]; omega
    · obtain rfl : k = n := by omega
      have r1 : ¬ (k : Int) < (k : Int) := by omega
      have htk : (L.map BV.bp).take k = L.map BV.bp := by rw [List.take_of_length_le]; rw [List.length_map, HL.out]; exact Nat.le_refl _
      rw [htk] at HT
      have HCN := hide_ (chain_any (c := cc) (HRD.out.below HLW.out) HL.out hn HCH.out)
      clear htk
      go_wp2_with fail
      refine HCN.out.mono ?_; rintro e w7 ⟨rfl, hl7⟩
      have HL7 := hide_ (HLW.out.trans hl7)
      have HT7 := hide_ (HT.out.later hl7)
      clear hl7 HCN
      go_wp2_with fail
      refine (HFD.out _ HL7.out).mono ?_; rintro e w8 ⟨rfl, rfl⟩
      have HPP := hide_ (HPUT.out w8 pw v' HL7.out ⟨by have := HPW.out; have := HWS.out; omega, HT7.out.2.1, own_base HT7.out.2.2 HWS.out⟩)
      go_wp2_with fail
      refine HPP.out.mono ?_; rintro e w9 ⟨rfl, hq⟩
      have HQ := hide_ hq
      clear hq
      go_wp2_with fail
      go_ret
      exact ⟨rfl, HQ.out⟩

end Go.Proofs.YtlgnnmpfipmjeaaGreat
/-
  chest: Lay where a log of the epoch is there, or behind a lock.
-/
namespace Go.Proofs.YtlgnnmpfipmjeaaGreat
open Go.RowKit
set_option linter.unusedVariables false
set_option linter.unusedSimpArgs false
set_option maxHeartbeats 16000000 in
set_option maxRecDepth 100000 in
theorem lay_clash0 {w : World} {B c b t : Nat} {v vr : Value} {g cap p : Nat} {v1 v2 : Value} {used room lock : Nat} {S : LV} (h1 : Ch1 w B c b t v vr g cap p v1 v2 used room lock S) {base : Nat} (he1 : 1 ≤ S.epoch) (hb : base < 1000000000000000) (hlk : ¬ S.epoch < lock) {A : Option Addr} {n cc : Nat} {L : List BV} (hr : Rd w 4 A n (brow L)) (hl : L.length = n) (hn : n ≤ 24) (hok : ∀ x ∈ L, BvOk w x ∧ BOk x.bp) (hch : Chain base (L.map BV.bp)) (hbn : S.base ≠ base) :
    Calls Tryz.prog 10 #[.pointer (some ⟨c, 0, none⟩), .int .i64 S.epoch, .int .i64 base, .slice A n cc] w fun e w' => e = .returned (.int .i64 13) ∧ Later w w' := by
  have h := h1.b
  have he9 := h1.log.e
  have HC1 := hide_ h1
  obtain ⟨epoch, hep⟩ : ∃ epoch, epoch = S.epoch := ⟨_, rfl⟩
  have hfind : ∀ W, Later w W → Calls Tryz.prog 28 #[.pointer (some ⟨c, 0, none⟩), .int .i64 epoch] W fun e w' => e = .returned (.pointer (some ⟨p, 0, none⟩)) ∧ w' = W := fun W hW => by
    have := find_1 (h1.later hW) S.epoch
    rw [if_pos rfl] at this
    rw [hep]; exact this
  rw [← hep] at he1 he9 hlk ⊢
  have HBN := hide_ hbn
  obtain ⟨W0, hW0⟩ : ∃ W0, W0 = w.alloc (.cells #[.int .i64 base] 3) := ⟨_, rfl⟩
  have HW := hide_ hW0.symm
  have HL0 := hide_ (show Later w W0 by rw [hW0]; exact later_alloc _ _)
  have HCB0 := hide_ (h.later HL0.out)
  have HR := hide_ (ready_any (cc := 1) HCB0.out epoch he1 (A := some ⟨w.heap.size, 0, none⟩) (n := 1) (L := [base]) (by rw [hW0]; exact Rd.fresh1 rfl) rfl (by omega))
  have c2 := cell_of_row _ _ 2 _ _ (0, 0) HCB0.out.row
  have q1 : ¬ (epoch : Int) < (lock : Int) := by omega
  have q1n : ¬ epoch < lock := hlk
  have q2 : ¬ (24 : Int) < (n : Int) := by omega
  have hni : (n : Int) ≤ 24 := by omega
  have HRD := hide_ hr; have HL := hide_ hl; have HOK := hide_ hok; have HCH := hide_ hch; have HFD := hide_ hfind; have HE9 := hide_ he9; have HB9 := hide_ hb
  clear h h1 hep he1 he9 hb hlk hr hl hok hch hfind hbn hW0
  go_enter Tryz.func10, Tryz.ntmps10
  go_wp2_with (rw [HW.out])
  refine HR.out.mono ?_; rintro e w1 ⟨rfl, rfl⟩
  have HRC := hide_ (record_any w1 1 epoch base (by omega) (by have := HE9.out; omega) HB9.out)
  go_wp2_with fail
  refine HRC.out.mono ?_; rintro e w2 ⟨rfl, ⟨v2, hw2⟩, hl2⟩
  obtain ⟨pw, hpw⟩ : ∃ pw, pw = w1.heap.size := ⟨_, rfl⟩
  rw [← hpw]
  have HW2 := hide_ (show WrAt w2 w1.heap.size pw v2 (recH 1 epoch base, 0) from by rw [hpw]; exact hw2)
  have HL2 := hide_ (HL0.out.trans hl2)
  have HWS := hide_ (show w.heap.size ≤ w1.heap.size from HL0.out.size)
  have HL12 := hide_ hl2
  have HPW := hide_ hpw
  clear hw2 hl2 hpw c2
  have HN0 := hide_ (show wNums [(n : Int)] (recH 1 epoch base, 0) = (recH 1 epoch base ++ putN n, 0) by unfold wNums; rw [if_neg (by omega)]; rfl)
  go_wp2_with fail
  refine (nums_any (HW2.out.later (later_alloc w2 _)) (A := some ⟨w2.heap.size, 0, none⟩) (n := 1) (L := [(n : Int)]) (by exact Rd.fresh1 rfl) rfl (by omega) (by intro x hx; rw [List.mem_singleton] at hx; omega) (by
    intro a ha; injection ha with ha; subst ha; intro hf
    rcases hf with hf | hf
    · have := HW2.out.lt; simp at hf; omega
    · have := (HW2.out.2.2.lt _ hf).2; simp at this) (by have := (recH_len (k := 1) (e := epoch) (n := base) (by omega) HE9.out HB9.out).1; simp only; omega) (by have := HL12.out.size; simp; omega)).mono ?_; rintro e w3 ⟨rfl, hp3⟩
  rw [HN0.out] at hp3
  obtain ⟨v3, ht3, hh3, hd3⟩ := hp3
  have HT3 := hide_ ht3
  have HL3 := hide_ (show Below w1.heap.size w1 w3 from Below.trans (HL12.out.al _) (hh3.below (B := w1.heap.size) (by have := HL12.out.size; simp; omega) (by
    rintro k (hk | hk)
    · have := HPW.out; omega
    · exact (HW2.out.2.2.lt _ hk).1)))
  clear ht3 hh3 hd3
  go_wp2_with fail
  go_loopw [42] (fun s wr => ∃ (k : Nat) (v' : Value), k ≤ n ∧ s = .int .i64 k ∧ Hid (WrAt wr w1.heap.size pw v' (recH 1 epoch base ++ (putN n ++ ((L.map BV.bp).take k).flatMap encT), 0)) ∧ Hid (Below w1.heap.size w1 wr)) (fun s _ => n - (intOf s).toNat)
  case atStart => exact ⟨0, v3, Nat.zero_le _, rfl, by simpa using HT3, HL3⟩
  case round =>
    obtain ⟨k, v', hkn, rfl, HT, HLR⟩ := hrel
    have HLW := hide_ (show Later w wr from HL0.out.trans HLR.out)
    by_cases hlt : k < n
    · obtain ⟨x, hx⟩ : ∃ x, L[k]? = some x := ⟨_, List.getElem?_eq_getElem (by rw [HL.out]; exact hlt)⟩
      obtain ⟨bb, oo, rfl, l0, l1, l2, l3⟩ := (HRD.out.below HLW.out).bat hx
      have HXO := hide_ (HOK.out x (List.mem_of_getElem? hx))
      have hal := later_alloc wr (.cells #[.int .i64 x.prev, .int .i64 x.ver, .int .i64 x.known, .slice x.A x.n x.c] 38)
      have HTX := hide_ (ctext_any ((HXO.out.1.later HLW.out).later hal) HXO.out.2.len)
      have HES := hide_ (encT_snoc hx)
      have HLE := hide_ (show (recH 1 epoch base ++ (putN n ++ ((L.map BV.bp).take k).flatMap encT)).length ≤ 100000 by
        have h1 := (recH_len (k := 1) (e := epoch) (n := base) (by omega) HE9.out HB9.out).1
        have h2 := putN_len3 (n := n) (by omega)
        have h3 := encT_len (L := (L.map BV.bp).take k) (fun y hy => by
          obtain ⟨z, hz, rfl⟩ := List.mem_map.1 (List.mem_of_mem_take hy)
          exact (HOK.out z hz).2)
        rw [List.length_take, List.length_map] at h3
        rw [List.length_append, List.length_append]; omega)
      have r1 : (k : Int) < (n : Int) := by omega
      have r2 : (0 : Int) ≤ (k : Int) := by omega
      have HAL := hide_ hal
      clear hx hal
      go_wp2_with fail
      refine HTX.out.mono ?_; rintro e w5 ⟨rfl, hl5⟩
      have HT5 := hide_ (HT.out.later (HAL.out.trans hl5))
      have HL5 := hide_ (show Below w1.heap.size w1 w5 from HLR.out.trans ((HAL.out.trans hl5).mono HLR.out.size))
      clear hl5
      go_wp2_with fail
      refine (texts_any (HT5.out.later (later_alloc _ _)) (A := some ⟨w5.heap.size, 0, none⟩) (n := 1) (L := [⟨(encB x.bp).toArray⟩]) (by exact Rd.fresh1 rfl) rfl (by omega) (by intro y hy; rw [List.mem_singleton] at hy; subst hy; show (encB x.bp).toArray.size ≤ _; have := HXO.out.2.len; simp; omega) (by
        intro a ha; injection ha with ha; subst ha
        rintro (hf | hf)
        · have := HT5.out.lt; simp at hf; omega
        · have := (HT5.out.2.2.lt _ hf).2; simp at this) (by have := HLE.out; simp only; omega) (by have := HL5.out.size; simp; omega)).mono ?_; rintro e w6 ⟨rfl, hp6⟩
      rw [wText1 (by have := HXO.out.2.len; omega)] at hp6
      obtain ⟨v6, ht6, hh6, hd6⟩ := hp6
      have HT6 := hide_ (show WrAt w6 w1.heap.size pw v6 (recH 1 epoch base ++ (putN n ++ ((L.map BV.bp).take (k + 1)).flatMap encT), 0) from by
        rw [HES.out]; simpa [encT, List.append_assoc] using ht6)
      have HL6 := hide_ (show Below w1.heap.size w1 w6 from Below.trans (HL5.out.alloc HL5.out.size _) (hh6.below (B := w1.heap.size) (by have := HL5.out.size; simp; omega) (by
        rintro k (hk | hk)
        · have := HPW.out; omega
        · exact (HT5.out.2.2.lt _ hk).1)))
      clear ht6 hh6 hd6
      go_wp2_with fail
      go_roundw
      case rel => exact ⟨k + 1, v6, by omega, by go_num, HT6, HL6⟩
      case measure => simp [intOf]; omega
    · obtain rfl : k = n := by omega
      have r1 : ¬ (k : Int) < (k : Int) := by omega
      have htk : (L.map BV.bp).take k = L.map BV.bp := by rw [List.take_of_length_le]; rw [List.length_map, HL.out]; exact Nat.le_refl _
      rw [htk] at HT
      have HCN := hide_ (chain_any (c := cc) (HRD.out.below HLW.out) HL.out hn HCH.out)
      clear htk
      go_wp2_with fail
      refine HCN.out.mono ?_; rintro e w7 ⟨rfl, hl7⟩
      have HL7 := hide_ (HLW.out.trans hl7)
      have HT7 := hide_ (HT.out.later hl7)
      clear hl7 HCN
      go_wp2_with fail
      refine (HFD.out _ HL7.out).mono ?_; rintro e w8 ⟨rfl, rfl⟩
      have HC8 := hide_ (HC1.out.later HL7.out)
      have hlr := HC8.out.log.row
      simp only [logRow] at hlr
      have k1 := cell_of_row _ _ 1 _ _ (0, 0) hlr
      have hbn : ((S.base : Int) != (base : Int)) = true := bne_iff_ne.2 (fun h => HBN.out (by omega))
      have hbe : ¬ (S.base : Int) = (base : Int) := fun h => HBN.out (by omega)
      clear hlr
      go_wp2_with fail
      go_ret
      exact ⟨rfl, HL7.out⟩
set_option maxHeartbeats 16000000 in
set_option maxRecDepth 100000 in
theorem lay_same0 {w : World} {B c b t : Nat} {v vr : Value} {g cap p : Nat} {v1 v2 : Value} {used room lock : Nat} {S : LV} (h1 : Ch1 w B c b t v vr g cap p v1 v2 used room lock S) {base : Nat} (he1 : 1 ≤ S.epoch) (hb : base < 1000000000000000) (hlk : ¬ S.epoch < lock) {A : Option Addr} {n cc : Nat} {L : List BV} (hr : Rd w 4 A n (brow L)) (hl : L.length = n) (hn : n ≤ 24) (hok : ∀ x ∈ L, BvOk w x ∧ BOk x.bp) (hch : Chain base (L.map BV.bp)) (hbn : S.base = base) (heq : S.first.map BV.bp = L.map BV.bp) (hz1 : ∀ x ∈ S.first, x.n = 0) (hz2 : ∀ x ∈ L, x.n = 0) :
    Calls Tryz.prog 10 #[.pointer (some ⟨c, 0, none⟩), .int .i64 S.epoch, .int .i64 base, .slice A n cc] w fun e w' => e = .returned (.int .i64 0) ∧ Later w w' := by
  have h := h1.b
  have he9 := h1.log.e
  have HC1 := hide_ h1
  obtain ⟨epoch, hep⟩ : ∃ epoch, epoch = S.epoch := ⟨_, rfl⟩
  have hfind : ∀ W, Later w W → Calls Tryz.prog 28 #[.pointer (some ⟨c, 0, none⟩), .int .i64 epoch] W fun e w' => e = .returned (.pointer (some ⟨p, 0, none⟩)) ∧ w' = W := fun W hW => by
    have := find_1 (h1.later hW) S.epoch
    rw [if_pos rfl] at this
    rw [hep]; exact this
  rw [← hep] at he1 he9 hlk ⊢
  have HBN := hide_ hbn; have HEQ := hide_ heq; have HZ1 := hide_ hz1; have HZ2 := hide_ hz2
  obtain ⟨W0, hW0⟩ : ∃ W0, W0 = w.alloc (.cells #[.int .i64 base] 3) := ⟨_, rfl⟩
  have HW := hide_ hW0.symm
  have HL0 := hide_ (show Later w W0 by rw [hW0]; exact later_alloc _ _)
  have HCB0 := hide_ (h.later HL0.out)
  have HR := hide_ (ready_any (cc := 1) HCB0.out epoch he1 (A := some ⟨w.heap.size, 0, none⟩) (n := 1) (L := [base]) (by rw [hW0]; exact Rd.fresh1 rfl) rfl (by omega))
  have c2 := cell_of_row _ _ 2 _ _ (0, 0) HCB0.out.row
  have q1 : ¬ (epoch : Int) < (lock : Int) := by omega
  have q1n : ¬ epoch < lock := hlk
  have q2 : ¬ (24 : Int) < (n : Int) := by omega
  have hni : (n : Int) ≤ 24 := by omega
  have HRD := hide_ hr; have HL := hide_ hl; have HOK := hide_ hok; have HCH := hide_ hch; have HFD := hide_ hfind; have HE9 := hide_ he9; have HB9 := hide_ hb
  clear h h1 hep he1 he9 hb hlk hr hl hok hch hfind hbn heq hz1 hz2 hW0
  go_enter Tryz.func10, Tryz.ntmps10
  go_wp2_with (rw [HW.out])
  refine HR.out.mono ?_; rintro e w1 ⟨rfl, rfl⟩
  have HRC := hide_ (record_any w1 1 epoch base (by omega) (by have := HE9.out; omega) HB9.out)
  go_wp2_with fail
  refine HRC.out.mono ?_; rintro e w2 ⟨rfl, ⟨v2, hw2⟩, hl2⟩
  obtain ⟨pw, hpw⟩ : ∃ pw, pw = w1.heap.size := ⟨_, rfl⟩
  rw [← hpw]
  have HW2 := hide_ (show WrAt w2 w1.heap.size pw v2 (recH 1 epoch base, 0) from by rw [hpw]; exact hw2)
  have HL2 := hide_ (HL0.out.trans hl2)
  have HWS := hide_ (show w.heap.size ≤ w1.heap.size from HL0.out.size)
  have HL12 := hide_ hl2
  have HPW := hide_ hpw
  clear hw2 hl2 hpw c2
  have HN0 := hide_ (show wNums [(n : Int)] (recH 1 epoch base, 0) = (recH 1 epoch base ++ putN n, 0) by unfold wNums; rw [if_neg (by omega)]; rfl)
  go_wp2_with fail
  refine (nums_any (HW2.out.later (later_alloc w2 _)) (A := some ⟨w2.heap.size, 0, none⟩) (n := 1) (L := [(n : Int)]) (by exact Rd.fresh1 rfl) rfl (by omega) (by intro x hx; rw [List.mem_singleton] at hx; omega) (by
    intro a ha; injection ha with ha; subst ha; intro hf
    rcases hf with hf | hf
    · have := HW2.out.lt; simp at hf; omega
    · have := (HW2.out.2.2.lt _ hf).2; simp at this) (by have := (recH_len (k := 1) (e := epoch) (n := base) (by omega) HE9.out HB9.out).1; simp only; omega) (by have := HL12.out.size; simp; omega)).mono ?_; rintro e w3 ⟨rfl, hp3⟩
  rw [HN0.out] at hp3
  obtain ⟨v3, ht3, hh3, hd3⟩ := hp3
  have HT3 := hide_ ht3
  have HL3 := hide_ (show Below w1.heap.size w1 w3 from Below.trans (HL12.out.al _) (hh3.below (B := w1.heap.size) (by have := HL12.out.size; simp; omega) (by
    rintro k (hk | hk)
    · have := HPW.out; omega
    · exact (HW2.out.2.2.lt _ hk).1)))
  clear ht3 hh3 hd3
  go_wp2_with fail
  go_loopw [42] (fun s wr => ∃ (k : Nat) (v' : Value), k ≤ n ∧ s = .int .i64 k ∧ Hid (WrAt wr w1.heap.size pw v' (recH 1 epoch base ++ (putN n ++ ((L.map BV.bp).take k).flatMap encT), 0)) ∧ Hid (Below w1.heap.size w1 wr)) (fun s _ => n - (intOf s).toNat)
  case atStart => exact ⟨0, v3, Nat.zero_le _, rfl, by simpa using HT3, HL3⟩
  case round =>
    obtain ⟨k, v', hkn, rfl, HT, HLR⟩ := hrel
    have HLW := hide_ (show Later w wr from HL0.out.trans HLR.out)
    by_cases hlt : k < n
    · obtain ⟨x, hx⟩ : ∃ x, L[k]? = some x := ⟨_, List.getElem?_eq_getElem (by rw [HL.out]; exact hlt)⟩
      obtain ⟨bb, oo, rfl, l0, l1, l2, l3⟩ := (HRD.out.below HLW.out).bat hx
      have HXO := hide_ (HOK.out x (List.mem_of_getElem? hx))
      have hal := later_alloc wr (.cells #[.int .i64 x.prev, .int .i64 x.ver, .int .i64 x.known, .slice x.A x.n x.c] 38)
      have HTX := hide_ (ctext_any ((HXO.out.1.later HLW.out).later hal) HXO.out.2.len)
      have HES := hide_ (encT_snoc hx)
      have HLE := hide_ (show (recH 1 epoch base ++ (putN n ++ ((L.map BV.bp).take k).flatMap encT)).length ≤ 100000 by
        have h1 := (recH_len (k := 1) (e := epoch) (n := base) (by omega) HE9.out HB9.out).1
        have h2 := putN_len3 (n := n) (by omega)
        have h3 := encT_len (L := (L.map BV.bp).take k) (fun y hy => by
          obtain ⟨z, hz, rfl⟩ := List.mem_map.1 (List.mem_of_mem_take hy)
          exact (HOK.out z hz).2)
        rw [List.length_take, List.length_map] at h3
        rw [List.length_append, List.length_append]; omega)
      have r1 : (k : Int) < (n : Int) := by omega
      have r2 : (0 : Int) ≤ (k : Int) := by omega
      have HAL := hide_ hal
      clear hx hal
      go_wp2_with fail
      refine HTX.out.mono ?_; rintro e w5 ⟨rfl, hl5⟩
      have HT5 := hide_ (HT.out.later (HAL.out.trans hl5))
      have HL5 := hide_ (show Below w1.heap.size w1 w5 from HLR.out.trans ((HAL.out.trans hl5).mono HLR.out.size))
      clear hl5
      go_wp2_with fail
      refine (texts_any (HT5.out.later (later_alloc _ _)) (A := some ⟨w5.heap.size, 0, none⟩) (n := 1) (L := [⟨(encB x.bp).toArray⟩]) (by exact Rd.fresh1 rfl) rfl (by omega) (by intro y hy; rw [List.mem_singleton] at hy; subst hy; show (encB x.bp).toArray.size ≤ _; have := HXO.out.2.len; simp; omega) (by
        intro a ha; injection ha with ha; subst ha
        rintro (hf | hf)
        · have := HT5.out.lt; simp at hf; omega
        · have := (HT5.out.2.2.lt _ hf).2; simp at this) (by have := HLE.out; simp only; omega) (by have := HL5.out.size; simp; omega)).mono ?_; rintro e w6 ⟨rfl, hp6⟩
      rw [wText1 (by have := HXO.out.2.len; omega)] at hp6
      obtain ⟨v6, ht6, hh6, hd6⟩ := hp6
      have HT6 := hide_ (show WrAt w6 w1.heap.size pw v6 (recH 1 epoch base ++ (putN n ++ ((L.map BV.bp).take (k + 1)).flatMap encT), 0) from by
        rw [HES.out]; simpa [encT, List.append_assoc] using ht6)
      have HL6 := hide_ (show Below w1.heap.size w1 w6 from Below.trans (HL5.out.alloc HL5.out.size _) (hh6.below (B := w1.heap.size) (by have := HL5.out.size; simp; omega) (by
        rintro k (hk | hk)
        · have := HPW.out; omega
        · exact (HT5.out.2.2.lt _ hk).1)))
      clear ht6 hh6 hd6
      go_wp2_with fail
      go_roundw
      case rel => exact ⟨k + 1, v6, by omega, by go_num, HT6, HL6⟩
      case measure => simp [intOf]; omega
    · obtain rfl : k = n := by omega
      have r1 : ¬ (k : Int) < (k : Int) := by omega
      have htk : (L.map BV.bp).take k = L.map BV.bp := by rw [List.take_of_length_le]; rw [List.length_map, HL.out]; exact Nat.le_refl _
      rw [htk] at HT
      have HCN := hide_ (chain_any (c := cc) (HRD.out.below HLW.out) HL.out hn HCH.out)
      clear htk
      go_wp2_with fail
      refine HCN.out.mono ?_; rintro e w7 ⟨rfl, hl7⟩
      have HL7 := hide_ (HLW.out.trans hl7)
      have HT7 := hide_ (HT.out.later hl7)
      clear hl7 HCN
      go_wp2_with fail
      refine (HFD.out _ HL7.out).mono ?_; rintro e w8 ⟨rfl, rfl⟩
      have HC8 := hide_ (HC1.out.later HL7.out)
      obtain ⟨A1, c1, hv1⟩ := own_form HC8.out.log.own1
      subst hv1
      have hfl : S.first.length = k := by have := congrArg List.length HEQ.out; rw [List.length_map, List.length_map, HL.out] at this; exact this
      have hlr := HC8.out.log.row
      simp only [logRow] at hlr
      have HEF := hide_ (equal_any (c := c1) (c' := cc) (by have := Rd.of_own HC8.out.log.own1; rw [hfl] at this; exact this) (HRD.out.below HL7.out) hfl hn HEQ.out HZ1.out HZ2.out)
      rw [hfl] at hlr
      have k1 := cell_of_row _ _ 1 _ _ (0, 0) hlr
      have k3 := cell_of_row _ _ 3 _ _ (0, 0) hlr
      have hbn : ((S.base : Int) != (base : Int)) = false := by rw [HBN.out]; simp
      have hbe : (S.base : Int) = (base : Int) := by rw [HBN.out]
      clear hlr hfl
      go_wp2_with fail
      refine HEF.out.mono ?_; rintro e w9 ⟨rfl, hl9⟩
      have HL9 := hide_ (HL7.out.trans hl9)
      clear hl9
      go_wp2_with fail
      go_ret
      exact ⟨rfl, HL9.out⟩
set_option maxHeartbeats 4000000 in
set_option maxRecDepth 100000 in
theorem lay_locked {w : World} {c b lock : Nat} {vl : Value} (h : ChB w c b lock vl) {epoch base : Nat} (he1 : 1 ≤ epoch) (hlk : epoch < lock) (A : Option Addr) (n cc : Nat) :
    Calls Tryz.prog 10 #[.pointer (some ⟨c, 0, none⟩), .int .i64 epoch, .int .i64 base, .slice A n cc] w fun e w' => e = .returned (.int .i64 15) ∧ Later w w' := by
  obtain ⟨W0, hW0⟩ : ∃ W0, W0 = w.alloc (.cells #[.int .i64 base] 3) := ⟨_, rfl⟩
  have HW := hide_ hW0.symm
  have HL0 := hide_ (show Later w W0 by rw [hW0]; exact later_alloc _ _)
  have HCB0 := hide_ (h.later HL0.out)
  have HR := hide_ (ready_any (cc := 1) HCB0.out epoch he1 (A := some ⟨w.heap.size, 0, none⟩) (n := 1) (L := [base]) (by rw [hW0]; exact Rd.fresh1 rfl) rfl (by omega))
  have c2 := cell_of_row _ _ 2 _ _ (0, 0) HCB0.out.row
  have q1 : (epoch : Int) < (lock : Int) := by omega
  clear h he1 hW0
  go_enter Tryz.func10, Tryz.ntmps10
  go_wp2_with (rw [HW.out])
  refine HR.out.mono ?_; rintro e w1 ⟨rfl, rfl⟩
  go_wp2_with fail
  go_ret
  exact ⟨rfl, HL0.out⟩

end Go.Proofs.YtlgnnmpfipmjeaaGreat
