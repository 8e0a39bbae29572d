/-
  Texts of this seat in one: FrAll, FrLive, FrDel.
-/
import Derived.Test.YtcmollfhlillfaaGreatDoorM29
import Derived.Lib.AppendZeros
import Derived.IntWalk
import Derived.Test.YtcmollfhlillfaaGreatDoorM7
import Derived.Test.YtcmollfhlillfaaGreatDoorM5
import Derived.Test.YtcmollfhlillfaaGreatDoorM10
/-
  front: is a number among some; numbers behind one another; the chests and referees.
-/
namespace Go.Proofs.YtcmollfhlillfaaGreatDoor
open Go.RowKit
set_option linter.unusedVariables false
set_option linter.unusedSimpArgs false
def IdxPost (L : List Int) (x : Int) (w : World) (e : Ending) (w' : World) : Prop := (∃ r : Int, e = .returned (.int .i64 r) ∧ decide (0 ≤ r) = L.contains x) ∧ w' = w
theorem index_int {w : World} {A : Option Addr} {n c : Nat} {L : List Int} (hr : Rd w 1 A n (ints L)) (hl : L.length = n) (hn : n ≤ 4398046511104) (x : Int) :
    Calls Tryz.prog 95 #[.slice A n c, .int .i64 x] w (IdxPost L x w) := by
  have HR := hide_ hr; have HL := hide_ hl
  have hn2 : (n : Int) ≤ 4398046511104 := by omega
  clear hr hl
  go_enter Tryz.func95, Tryz.ntmps95
  go_wp2_with fail
  go_loop [4, 5, 8] (fun s4 s5 s8 => ∃ (k : Nat), k ≤ n ∧ s8 = .int .i64 k ∧ Hid ((L.take k).contains x = false)) (fun _ _ i => n - (intOf i).toNat)
  case atStart => exact ⟨0, Nat.zero_le _, rfl, hide_ (by simp)⟩
  case round =>
    obtain ⟨k, hk, rfl, HN⟩ := hrel
    by_cases hlt : k < n
    · have q1 : (k : Int) < (n : Int) := by omega
      have q2 : (k : Int) ≤ 4398046511104 := by omega
      obtain ⟨m, hm⟩ : ∃ m, L[k]? = some m := ⟨_, List.getElem?_eq_getElem (by rw [HL.out]; exact hlt)⟩
      obtain ⟨b, o, rfl, l0⟩ := HR.out.int hm
      by_cases hx : x = m
      · have HF := hide_ (show L.contains x = true by rw [List.contains_iff_mem, hx]; exact List.mem_of_getElem? hm)
        have he : (x == m) = true := by simpa using hx
        clear hm hx
        go_wp2_with fail
        go_ret
        exact ⟨⟨_, rfl, by rw [HF.out]; simp⟩, rfl⟩
      · have HF := hide_ (show (L.take (k + 1)).contains x = false by rw [take_snoc hm, List.contains_eq_any_beq, List.any_append, ← List.contains_eq_any_beq, HN.out]; simpa using hx)
        have he : (x == m) = false := by simpa using hx
        clear hm hx
        go_wp2_with fail
        go_round
        case rel => exact ⟨k + 1, by omega, by go_num, HF⟩
        case measure => simp [intOf]; omega
    · obtain rfl : k = n := by omega
      have HF := hide_ (show L.contains x = false by have := HN.out; rwa [← HL.out, List.take_length] at this)
      go_wp2_with fail
      go_ret
      exact ⟨⟨_, rfl, by rw [HF.out]; simp⟩, rfl⟩
theorem contains_int {w : World} {A : Option Addr} {n c : Nat} {L : List Int} (hr : Rd w 1 A n (ints L)) (hl : L.length = n) (hn : n ≤ 4398046511104) (x : Int) :
    Calls Tryz.prog 60 #[.slice A n c, .int .i64 x] w fun e w' => e = .returned (.bool (L.contains x)) ∧ w' = w := by
  have HB := hide_ (index_int (c := c) hr hl hn x)
  clear hr hl
  go_enter Tryz.func60, Tryz.ntmps60
  go_wp2_with fail
  refine HB.out.mono ?_; rintro e w2 ⟨⟨r, rfl, hr2⟩, rfl⟩
  have HV := hide_ hr2
  clear hr2
  go_wp2_with fail
  go_ret
  exact ⟨ret_val (congrArg Value.bool HV.out), rfl⟩
set_option maxHeartbeats 1000000 in
set_option maxRecDepth 100000 in
theorem grow_int {w : World} {n : Nat} (hn : n ≤ 1099511627776) : Calls Tryz.prog 123 #[.slice none 0 0, .int .i64 n] w fun e w' => ∃ A c, e = .returned (.slice A 0 c) ∧ w'.ownsRow w.heap.size 3 1 (.slice A 0 c) 0 [] ∧ Later w w' := by
  have hn2 : (n : Int) ≤ 1099511627776 := by omega
  have hz : IntKind.i64.wrap (n : Int) = (n : Int) := IntWalk.i64_in _ (by omega)
  rcases Nat.eq_zero_or_pos n with rfl | hpos
  · go_enter Tryz.func123, Tryz.ntmps123
    go_wp2_with fail
    go_ret
    exact ⟨none, 0, rfl, World.ownsRow_nil _ _ _ _, Later.refl _⟩
  · obtain ⟨i, hi⟩ : ∃ i, Tryz.prog.info? 3 = some i := ⟨_, rfl⟩
    have hz0 : i.zero = some (.int .i64 0) := by
      have : (Tryz.prog.info? 3).bind (·.zero) = some (.int .i64 0) := by kernel_rfl
      rw [hi] at this; exact this
    have hzs : i.size = 1 := by
      have : (Tryz.prog.info? 3).map (·.size) = some 1 := by kernel_rfl
      rw [hi] at this; simpa using this
    have hzb : i.bytes = 8 := by
      have : (Tryz.prog.info? 3).map (·.bytes) = some 8 := by kernel_rfl
      rw [hi] at this; simpa using this
    obtain ⟨G, hG⟩ : ∃ G, G = grownCap w n 0 3 := ⟨_, rfl⟩
    have hG1 : n ≤ G := by rw [hG]; exact grownCap_ge _ _ _ _
    have hG2 : G ≤ maxLen := by rw [hG]; exact grownCap_le_maxLen _ _ _ _ (by unfold maxLen; omega)
    have hrz : ∀ ty, (Builtin.append_ #[35, 3] ty #[.slice none 0 0, .int .i64 (n : Int)]).run Tryz.prog w = .ok (.slice (some ⟨w.heap.size, 0, none⟩) n G) (w.drew.alloc (.cells (Builtin.zeroCells (Value.int .i64 0).cells n ++ Builtin.zeroCells (Value.int .i64 0).cells (G - n)) 3)) := fun ty => by
      rw [hG]
      exact Lib.run_append_nil_zeros w 35 3 ty 3 i _ .i64 .i64 Tryz.underlying35 Tryz.underlying3 hi hz0 n hpos (by omega) (by omega) (by rw [hzb]; omega)
    obtain ⟨W, hW⟩ : ∃ W, W = w.drew.alloc (.cells (Builtin.zeroCells (Value.int .i64 0).cells n ++ Builtin.zeroCells (Value.int .i64 0).cells (G - n)) 3) := ⟨_, rfl⟩
    rw [← hW] at hrz
    have ho : W.ownsRow w.heap.size 3 1 (.slice (some ⟨w.heap.size, 0, none⟩) 0 G) 0 [] := by
      rw [hW]
      refine ⟨rfl, .inr ⟨_, G, _, rfl, Nat.le_refl _, heap_alloc_new w.drew _, Nat.zero_le _, hG2, ?_, by simp⟩⟩
      simp only [Array.size_append, size_zeroCells]
      show n * 1 + (G - n) * 1 = G * 1
      omega
    have hl : Later w W := by rw [hW]; exact (Later.refl w).dr.al _
    have HO := hide_ ho; have HLL := hide_ hl
    have hpos2 : (0 : Int) < (n : Int) := by omega
    have g1 : (n : Int) ≤ (G : Int) := by omega
    have g2 : (0 : Int) ≤ (G : Int) := by omega
    clear ho hl hW hi hz0 hzs hzb hG
    go_enter Tryz.func123, Tryz.ntmps123
    go_wp2_with (at_builtin; refine Lib.wpList_append_run _ rfl _ _ _ _ rfl _ _ rfl rfl _ _ (hrz _) ?_)
    go_ret
    exact ⟨_, _, rfl, HO.out, HLL.out⟩
/-- Two rows of numbers, one behind the other. -/
def ConcPost (w : World) (L : List Int) (e : Ending) (w' : World) : Prop := ∃ A n c, e = .returned (.slice A n c) ∧ L.length = n ∧ w'.ownsRow w.heap.size 3 1 (.slice A n c) n (ints L) ∧ Later w w'
def sumTo (n1 n2 : Nat) : Nat → Nat
  | 0 => 0
  | 1 => n1
  | _ => n1 + n2
def catTo (L1 L2 : List Int) : Nat → List Int
  | 0 => []
  | 1 => L1
  | _ => L1 ++ L2
theorem two_rows {w : World} {b : Nat} {A1 A2 : Option Addr} {n1 n2 c1 c2 : Nat} {L1 L2 : List Int} (z0 : w.cell? ⟨b, 0, none⟩ = some (.slice A1 n1 c1)) (z1 : w.cell? ⟨b, 1, none⟩ = some (.slice A2 n2 c2)) (h1 : Rd w 1 A1 n1 (ints L1)) (h2 : Rd w 1 A2 n2 (ints L2)) (hl1 : L1.length = n1) (hl2 : L2.length = n2)
    (hn1 : n1 ≤ 1048576) (hn2 : n2 ≤ 1048576) (hA1 : A1 = none → n1 = 0) (hA2 : A2 = none → n2 = 0) {k : Nat} (hk : k < 2) :
    ∃ (A : Option Addr) (n c : Nat) (L : List Int), w.cell? ⟨b, k, none⟩ = some (.slice A n c) ∧ Rd w 1 A n (ints L) ∧ L.length = n ∧ n ≤ 1048576 ∧ (A = none → n = 0) ∧ sumTo n1 n2 (k + 1) = sumTo n1 n2 k + n ∧ catTo L1 L2 (k + 1) = catTo L1 L2 k ++ L := by
  match k, hk with
  | 0, _ => exact ⟨A1, n1, c1, L1, z0, h1, hl1, hn1, hA1, by simp [sumTo], by simp [catTo]⟩
  | 1, _ => exact ⟨A2, n2, c2, L2, z1, h2, hl2, hn2, hA2, by simp [sumTo], by simp [catTo]⟩
theorem sumTo_le {n1 n2 : Nat} (h1 : n1 ≤ 1048576) (h2 : n2 ≤ 1048576) (k : Nat) : sumTo n1 n2 k ≤ 2097152 := by
  match k with
  | 0 => simp [sumTo]
  | 1 => simp [sumTo]; omega
  | k + 2 => simp [sumTo]; omega
theorem catTo_len {L1 L2 : List Int} {n1 n2 : Nat} (h1 : L1.length = n1) (h2 : L2.length = n2) (k : Nat) : (catTo L1 L2 k).length = sumTo n1 n2 k := by
  match k with
  | 0 => simp [sumTo, catTo]
  | 1 => simp [sumTo, catTo]; omega
  | k + 2 => simp [sumTo, catTo]; omega
set_option maxHeartbeats 4000000 in
set_option maxRecDepth 100000 in
theorem concat_int {w : World} {b : Nat} {A1 A2 : Option Addr} {n1 n2 c1 c2 : Nat} {L1 L2 : List Int} (hb : w.heap[b]? = some (.cells #[.slice A1 n1 c1, .slice A2 n2 c2] 35 (0, 0))) (h1 : Rd w 1 A1 n1 (ints L1)) (h2 : Rd w 1 A2 n2 (ints L2)) (hl1 : L1.length = n1) (hl2 : L2.length = n2)
    (hn1 : n1 ≤ 1048576) (hn2 : n2 ≤ 1048576) (hA1 : A1 = none → n1 = 0) (hA2 : A2 = none → n2 = 0) :
    Calls Tryz.prog 96 #[.slice (some ⟨b, 0, none⟩) 2 2] w (ConcPost w (L1 ++ L2)) := by
  have z0 : w.cell? ⟨b, 0, none⟩ = some (.slice A1 n1 c1) := cell_of_row _ _ 0 _ _ (0, 0) hb
  have z1 : w.cell? ⟨b, 1, none⟩ = some (.slice A2 n2 c2) := cell_of_row _ _ 1 _ _ (0, 0) hb
  have HTW := hide_ (fun (k : Nat) (hk : k < 2) => two_rows z0 z1 h1 h2 hl1 hl2 hn1 hn2 hA1 hA2 hk)
  have HSL := hide_ (sumTo_le hn1 hn2)
  have HCL := hide_ (catTo_len hl1 hl2)
  clear h1 h2 hl1 hl2 hA1 hA2 hb z0 z1 hn1 hn2
  go_enter Tryz.func96, Tryz.ntmps96
  go_wp2_with fail
  go_loop [3, 5, 11] (fun s3 s5 s11 => ∃ (k q : Nat), k ≤ 2 ∧ s11 = .int .i64 k ∧ s3 = .int .i64 q ∧ Hid (q = sumTo n1 n2 k)) (fun _ _ i => 2 - (intOf i).toNat)
  case atStart => exact ⟨0, 0, Nat.zero_le _, rfl, rfl, hide_ rfl⟩
  case round =>
    obtain ⟨k, q, hk, rfl, rfl, HQ⟩ := hrel
    by_cases hlt : k < 2
    · obtain ⟨A, n, c, L, hc, hr, hl, hn, hA, hs, hcat⟩ := HTW.out k hlt
      have q1 : (k : Int) < 2 := by omega
      have hq := HSL.out k
      have hw : IntKind.i64.wrap ((q : Int) + (n : Int)) = (q : Int) + (n : Int) := IntWalk.i64_in _ (by have := HQ.out; omega)
      have hge : ¬ (q : Int) + (n : Int) < 0 := by omega
      have HS := hide_ hs
      have hc : w.cell? ⟨b, k, none⟩ = some (.slice A n c) := hc
      clear hr hl hA hs hcat hq
      go_wp2_with fail
      go_round
      case rel => exact ⟨k + 1, q + n, by omega, by go_num, by go_num, hide_ (by rw [HS.out, HQ.out])⟩
      case measure => simp [intOf]; omega
    · obtain rfl : k = 2 := by omega
      have hq : q ≤ 2097152 := by have := HSL.out 2; have := HQ.out; omega
      go_wp2_with fail
      refine (grow_int (w := w) (n := q) (by omega)).mono ?_; rintro e w2 ⟨A0, c0, rfl, ho, hl2⟩
      have HO := hide_ ho; have HL2 := hide_ hl2
      clear ho hl2
      go_wp2_with fail
      go_loopw [6, 8, 27] (fun s6 s8 s27 wr => ∃ (k q : Nat) (A : Option Addr) (c : Nat), k ≤ 2 ∧ s27 = .int .i64 k ∧ s6 = .slice A q c ∧ Hid (q = sumTo n1 n2 k) ∧ Hid (wr.ownsRow w.heap.size 3 1 (.slice A q c) q (ints (catTo L1 L2 k))) ∧ Hid (Later w wr)) (fun _ _ i _ => 2 - (intOf i).toNat)
      case atStart => exact ⟨0, 0, A0, c0, Nat.zero_le _, rfl, rfl, hide_ rfl, hide_ HO.out, HL2⟩
      case round =>
        obtain ⟨k, q2, A, c, hk, rfl, rfl, HQ2, HOW, HLW⟩ := hrel
        by_cases hlt : k < 2
        · obtain ⟨Ak, n, ck, L, hc, hr, hl, hn, hA, hs, hcat⟩ := HTW.out k hlt
          have q1 : (k : Int) < 2 := by omega
          have hq2 := HSL.out k
          have hcc : wr.cell? ⟨b, k, none⟩ = some (.slice Ak n ck) := (HLW.out.cell (cell_lt hc)).trans hc
          have HR := hide_ (hr.below HLW.out)
          have HS := hide_ hs; have HCT := hide_ hcat; have HAK := hide_ hA
          have HB := hide_ (show w.heap.size ≤ wr.heap.size from HLW.out.size)
          have hq3 : q2 ≤ 2097152 := by have := HQ2.out; omega
          clear hc hr hl hA hs hcat hq2
          go_wp2_with (at_builtin; refine wpList_append_rd _ rfl (.tmp 31) (.tmp 32) 35 rfl w.heap.size 3 1 8 intT (.slice A q2 c) q2 (ints (catTo L1 L2 k)) rfl HOW.out Ak n ck (ints L) rfl HR.out (ints_one L) (by omega) (by unfold maxLen; omega) HB.out (fun h => HAK.out h) ?c8)
          case c8 =>
            intro v9 w9 hown hg hat
            obtain ⟨A9, c9, rfl⟩ := own_form hown
            have HOW9 := hide_ (show w9.ownsRow w.heap.size 3 1 (.slice A9 (q2 + n) c9) (q2 + n) (ints (catTo L1 L2 (k + 1))) by rw [HCT.out]; unfold ints; rw [List.map_append]; exact hown)
            have HLW9 := hide_ (show Later w w9 from own_grown HLW.out HOW.out hg HB.out)
            clear hown hg hat
            go_wp2_with fail
            go_roundw
            case rel => exact ⟨k + 1, q2 + n, A9, c9, by omega, by go_num, rfl, hide_ (by rw [HS.out, HQ2.out]), HOW9, HLW9⟩
            case measure => simp [intOf]; omega
        · obtain rfl : k = 2 := by omega
          go_wp2_with fail
          go_ret
          exact ⟨A, q2, c, rfl, by have h := HCL.out 2; rw [← HQ2.out] at h; exact h, HOW.out, HLW.out⟩
/-- The chests, then the referees. -/
def allF (s : Fr) : List Int := s.chests ++ s.refs
structure AllOk (s : Fr) : Prop where
  c : s.chests.length ≤ 1048576
  r : s.refs.length ≤ 1048576
set_option maxHeartbeats 4000000 in
set_option maxRecDepth 100000 in
theorem fall_any {w : World} {f : Nat} {s : Fr} {X : List Nat} (h : FrH w f s X) (hok : AllOk s) :
    Calls Tryz.prog 61 #[.pointer (some ⟨f, 0, none⟩)] w (ConcPost w (allF s)) := by
  obtain ⟨cc, hp, _⟩ := id h
  obtain ⟨vc, ec, oc, _⟩ := ints_holds.1 hp.chests
  injection ec with ec
  obtain ⟨Ac, kc, rfl⟩ := own_form oc
  obtain ⟨vr, er, or', _⟩ := ints_holds.1 hp.refs
  injection er with er
  obtain ⟨Ar, kr, rfl⟩ := own_form or'
  obtain ⟨n1, hn1⟩ : ∃ n, n = s.chests.length := ⟨_, rfl⟩
  obtain ⟨n2, hn2⟩ : ∃ n, n = s.refs.length := ⟨_, rfl⟩
  have hrow : w.heap[f]? = some (.cells #[.int .i64 s.node, .int .i64 s.gen, .int .i64 s.epoch, .int .i64 s.rec_, .slice Ac n1 kc, .slice Ar n2 kr, cc.ub, .int .i64 s.version, .int .i64 s.known, .bool s.owed, .map (some cc.m), cc.uq, cc.uw, .int .i64 s.number, cc.up, .int .i64 s.stuck, .bool s.begun] 75 (0, 0)) := by
    have := hp.row; unfold frCells at this; rw [ec, er, ← hn1, ← hn2] at this; exact this
  have k4 := Stands.cell (X := fun g => g = f) (show w.cell? ⟨f, 4, none⟩ = some (.slice Ac n1 kc) from cell_of_row _ _ 4 _ _ (0, 0) hrow) rfl
  have k5 := Stands.cell (X := fun g => g = f) (show w.cell? ⟨f, 5, none⟩ = some (.slice Ar n2 kr) from cell_of_row _ _ 5 _ _ (0, 0) hrow) rfl
  have HC := hide_ oc; have HR := hide_ or'; have HN1 := hide_ hn1; have HN2 := hide_ hn2; have HOK := hide_ hok
  have HW0 := hide_ (show Later w w.drew from (Later.refl w).dr)
  clear h hp hok oc or' hrow ec er hn1 hn2
  go_enter Tryz.func61, Tryz.ntmps61
  go_wp2_with fail
  have hcc : ∀ W', Later (w.drew.alloc (.cells #[.slice Ac n1 kc, .slice Ar n2 kr] 35)) W' → Calls Tryz.prog 96 #[.slice (some ⟨w.drew.heap.size, 0, none⟩) 2 2] W' (ConcPost W' (allF s)) := fun W' hl =>
    concat_int (later_row hl (heap_alloc_new w.drew _)) (by have h := Rd.of_own HC.out; rw [← HN1.out] at h; exact h.below ((HW0.out.al _).trans hl)) (by have h := Rd.of_own HR.out; rw [← HN2.out] at h; exact h.below ((HW0.out.al _).trans hl)) HN1.out.symm HN2.out.symm (by rw [HN1.out]; exact HOK.out.c) (by rw [HN2.out]; exact HOK.out.r)
      (fun e => by have := (own_cap2 HC.out).1 e; rw [HN1.out]; exact this) (fun e => by have := (own_cap2 HR.out).1 e; rw [HN2.out]; exact this)
  have HCC := hide_ hcc
  clear hcc
  refine wp_region_z (R := Stands (fun g => g = f)) [] (by kernel_rfl) ?_
  refine wpAnyZ_take0 (Stands.steady (fun g => g = f)) 0 (v := ?_) rfl (by kernel_rfl) (by kernel_rfl) (by kernel_rfl) (fun _ _ _ h => h) (by rfl) (by intro W hSw; go_simp; with_reducible rfl) ?_; try simp only [Act.put, qA, qZ, qS]
  refine wpAnyZ_take0 (Stands.steady (fun g => g = f)) 1 (v := ?_) rfl (by kernel_rfl) (by kernel_rfl) (by kernel_rfl) (fun _ _ _ h => h) (by rfl) (by intro W hSw; go_simp; with_reducible rfl) ?_; try simp only [Act.put, qA, qZ, qS]
  refine wpAnyZ_take0 (Stands.steady (fun g => g = f)) 2 (v := ?_) rfl (by kernel_rfl) (by kernel_rfl) (by kernel_rfl) (fun _ _ _ h => h) (by rfl) (by intro W hSw; go_simp; with_reducible rfl) ?_; try simp only [Act.put, qA, qZ, qS]
  refine wpAnyZ_take0 (Stands.steady (fun g => g = f)) 3 (v := ?_) rfl (by kernel_rfl) (by kernel_rfl) (by kernel_rfl) (fun _ _ _ h => h) (by rfl) (by intro W hSw; go_simp; with_reducible rfl) ?_; try simp only [Act.put, qA, qZ, qS]
  refine wpAnyZ_take0 (Stands.steady (fun g => g = f)) 4 (v := ?_) rfl (by kernel_rfl) (by kernel_rfl) (by kernel_rfl) (fun _ _ _ h => h) (by rfl) (by intro W hSw; have hS0 := Stands.trans (show Stands (fun g => g = f) w _ from by repeat first | with_reducible assumption | with_reducible exact Stands.refl _ _ | with_reducible refine Stands.alloc ?_ _ | with_reducible refine Stands.drew ?_ | with_reducible refine Stands.drewL ?_ | with_reducible refine Stands.setCell ?_ (by assumption) _ _ | assumption | refine Stands.trans ?_ (by assumption)) hSw; go_simp; with_reducible rfl) ?_; try simp only [Act.put, qA, qZ, qS]
  refine wpAnyZ_take0 (Stands.steady (fun g => g = f)) 5 (v := ?_) rfl (by kernel_rfl) (by kernel_rfl) (by kernel_rfl) (fun _ _ _ h => h) (by rfl) (by intro W hSw; go_simp; with_reducible rfl) ?_; try simp only [Act.put, qA, qZ, qS]
  refine wpAnyZ_take0 (Stands.steady (fun g => g = f)) 6 (v := ?_) rfl (by kernel_rfl) (by kernel_rfl) (by kernel_rfl) (fun _ _ _ h => h) (by rfl) (by intro W hSw; go_simp; with_reducible rfl) ?_; try simp only [Act.put, qA, qZ, qS]
  refine wpAnyZ_take0 (Stands.steady (fun g => g = f)) 7 (v := ?_) rfl (by kernel_rfl) (by kernel_rfl) (by kernel_rfl) (fun _ _ _ h => h) (by rfl) (by intro W hSw; go_simp; with_reducible rfl) ?_; try simp only [Act.put, qA, qZ, qS]
  refine wpAnyZ_take0 (Stands.steady (fun g => g = f)) 8 (v := ?_) rfl (by kernel_rfl) (by kernel_rfl) (by kernel_rfl) (fun _ _ _ h => h) (by rfl) (by intro W hSw; have hS0 := Stands.trans (show Stands (fun g => g = f) w _ from by repeat first | with_reducible assumption | with_reducible exact Stands.refl _ _ | with_reducible refine Stands.alloc ?_ _ | with_reducible refine Stands.drew ?_ | with_reducible refine Stands.drewL ?_ | with_reducible refine Stands.setCell ?_ (by assumption) _ _ | assumption | refine Stands.trans ?_ (by assumption)) hSw; go_simp; with_reducible rfl) ?_; try simp only [Act.put, qA, qZ, qS]
  refine wpAnyZ_one 9 (by kernel_rfl) rfl (fun K hK => ?_)
  go_simp
  refine hK.out _ _ (by repeat first | with_reducible assumption | with_reducible exact Stands.refl _ _ | with_reducible refine Stands.alloc ?_ _ | with_reducible refine Stands.drew ?_ | with_reducible refine Stands.drewL ?_ | with_reducible refine Stands.setCell ?_ (by assumption) _ _ | assumption | refine Stands.of_later ?_) ?_
  clear hK K; try simp only [Act.put, qA, qZ, qS]
  refine wpAnyZ_one 10 (by kernel_rfl) rfl (fun K hK => ?_)
  go_simp
  refine (HCC.out _ (Later.refl _)).mono ?_; rintro e w6 ⟨A6, n6, c6, rfl, hL6, ho6, hl6⟩; have hs6 : Stands (fun g => g = f) _ w6 := Stands.of_later hl6; have hl06 : Later w w6 := (HW0.out.al _).trans hl6
  refine hK.out _ _ (by repeat first | with_reducible assumption | with_reducible exact Stands.refl _ _ | with_reducible refine Stands.alloc ?_ _ | with_reducible refine Stands.drew ?_ | with_reducible refine Stands.drewL ?_ | with_reducible refine Stands.setCell ?_ (by assumption) _ _ | assumption | refine Stands.of_later ?_) ?_
  clear hK K; try simp only [Act.put, qA, qZ, qS]
  refine wpAnyZ_take0 (Stands.steady (fun g => g = f)) 11 (v := ?_) rfl (by kernel_rfl) (by kernel_rfl) (by kernel_rfl) (fun _ _ _ h => h) (by rfl) (by intro W hSw; go_simp; with_reducible rfl) ?_; try simp only [Act.put, qA, qZ, qS]
  refine wpAnyZ_done (by kernel_rfl) ?_ _
  have HO6 := hide_ ho6; have HL6 := hide_ hl06; have HLN := hide_ hL6
  clear ho6 hl06 hs6 hl6 hL6
  go_wp2_with fail
  go_ret
  exact ⟨A6, n6, c6, rfl, HLN.out, own_base HO6.out (by simp), HL6.out⟩

end Go.Proofs.YtcmollfhlillfaaGreatDoor
/-
  front: tell; live.
-/
namespace Go.Proofs.YtcmollfhlillfaaGreatDoor
open Go.RowKit
set_option linter.unusedVariables false
set_option linter.unusedSimpArgs false
theorem body_nil (w : World) : bodyR.holds w [.slice none 0 0] [] [] := ⟨none, 0, rfl, Rd.nil _ _ _, Nat.le_refl _, by omega, fun _ => rfl, fun a h => (by cases h), rfl⟩
/-- A function's result that is one message, in a cell. -/
theorem ret_msg {R : Ending → World → Prop} {W : World} {b p : Nat} {fn : Func} (hfn : fn.results = #[.cell p 53]) {u0 u1 u2 u3 u4 u5 u6 u7 : Value} (hp : W.heap[b]? = some (.cells #[u0, u1, u2, u3, u4, u5, u6, u7] 53 (0, 0))) {a : Act} (hd : a.tmps.getD p undef = .pointer (some ⟨b, 0, none⟩)) (hD : a.defers = [])
    (hR : R (.returned (.agg #[u0, u1, u2, u3, u4, u5, u6, u7])) W) : bodyPost Tryz.prog fn R .ret a W := by
  have hl : (loadVar 53 ⟨b, 0, none⟩).run Tryz.prog W = .ok (.agg #[u0, u1, u2, u3, u4, u5, u6, u7]) W := run_loadVar_row W b _ _ #[u0, u1, u2, u3, u4, u5, u6, u7] _ (.struct (Tryz.prog.fieldsOf 53)) hp (by kernel_rfl) rfl (by kernel_rfl)
  refine bodyPost_ret (v := .agg #[u0, u1, u2, u3, u4, u5, u6, u7]) ?_ hD hR
  rw [results_cell1 (fn := fn) (p := p) (ty := 53) hfn, hd]
  simp only [asAddr, Sem.run_pure, Result.andThen_ok, hl]
/-- What a guest is told. -/
def tellM (s : Fr) (guest seq outcome version : Int) : Msg := ⟨2, s.node, guest, s.epoch, seq, outcome, version, []⟩
def msgV (m : Msg) : Value := .agg #[.int .i64 m.kind, .int .i64 m.frm, .int .i64 m.to_, .int .i64 m.epoch, .int .i64 m.a, .int .i64 m.b, .int .i64 m.c, .slice none 0 0]
set_option maxRecDepth 100000 in
theorem tell_any {w : World} {f : Nat} {s : Fr} {X : List Nat} (h : FrH w f s X) (guest seq outcome version : Int) :
    Calls Tryz.prog 56 #[.pointer (some ⟨f, 0, none⟩), .agg #[.int .i64 guest, .int .i64 seq], .int .i64 outcome, .int .i64 version] w fun e w' => e = .returned (msgV (tellM s guest seq outcome version)) ∧ Later w w' := by
  obtain ⟨Wm, hW⟩ : ∃ Wm, Wm = (w.alloc (.cells #[.int .i64 guest, .int .i64 seq] 87)).alloc (.cells #[.int .i64 0, .int .i64 0, .int .i64 0, .int .i64 0, .int .i64 0, .int .i64 0, .int .i64 0, .slice none 0 0] 53) := ⟨_, rfl⟩
  have hl : Later w Wm := by rw [hW]; exact (later_alloc _ _).al _
  have hd : Wm.heap[w.heap.size + 1]? = some (.cells #[.int .i64 0, .int .i64 0, .int .i64 0, .int .i64 0, .int .i64 0, .int .i64 0, .int .i64 0, .slice none 0 0] 53 (0, 0)) := by rw [hW]; exact row_new2 _ _ _
  have hb : Wm.heap[w.heap.size]? = some (.cells #[.int .i64 guest, .int .i64 seq] 87 (0, 0)) := by rw [hW]; exact row_al (heap_alloc_new _ _) _
  have k0 : Wm.cell? ⟨w.heap.size, 0, none⟩ = some (.int .i64 guest) := cell_of_row _ _ 0 _ _ (0, 0) hb
  have k1 : Wm.cell? ⟨w.heap.size, 1, none⟩ = some (.int .i64 seq) := cell_of_row _ _ 1 _ _ (0, 0) hb
  have HM := hide_ (message_any (h.later hl) 2 guest 0 0 0 0 seq outcome version none 0 0)
  have HW := hide_ hW; have HL := hide_ hl; have HD := hide_ hd
  clear h hl hd hb hW
  go_enter Tryz.func56, Tryz.ntmps56
  go_wp2_with fail
  rw [← HW.out]
  refine HM.out.mono ?_; rintro e W2 ⟨rfl, hl2⟩
  have hd2 := later_row hl2 HD.out
  have HD2 := hide_ hd2
  have HL2 := hide_ (HL.out.trans hl2)
  have v0 : W2.cell? ⟨w.heap.size + 1, 0, none⟩ = some (.int .i64 0) := cell_of_row _ _ 0 _ _ (0, 0) hd2
  have v1 : W2.cell? ⟨w.heap.size + 1, 1, none⟩ = some (.int .i64 0) := cell_of_row _ _ 1 _ _ (0, 0) hd2
  have v2 : W2.cell? ⟨w.heap.size + 1, 2, none⟩ = some (.int .i64 0) := cell_of_row _ _ 2 _ _ (0, 0) hd2
  have v3 : W2.cell? ⟨w.heap.size + 1, 3, none⟩ = some (.int .i64 0) := cell_of_row _ _ 3 _ _ (0, 0) hd2
  have v4 : W2.cell? ⟨w.heap.size + 1, 4, none⟩ = some (.int .i64 0) := cell_of_row _ _ 4 _ _ (0, 0) hd2
  have v5 : W2.cell? ⟨w.heap.size + 1, 5, none⟩ = some (.int .i64 0) := cell_of_row _ _ 5 _ _ (0, 0) hd2
  have v6 : W2.cell? ⟨w.heap.size + 1, 6, none⟩ = some (.int .i64 0) := cell_of_row _ _ 6 _ _ (0, 0) hd2
  have v7 : W2.cell? ⟨w.heap.size + 1, 7, none⟩ = some (.slice none 0 0) := cell_of_row _ _ 7 _ _ (0, 0) hd2
  have g0 := frozen_of_row _ _ 0 _ _ hd2
  have g1 := frozen_of_row _ _ 1 _ _ hd2
  have g2 := frozen_of_row _ _ 2 _ _ hd2
  have g3 := frozen_of_row _ _ 3 _ _ hd2
  have g4 := frozen_of_row _ _ 4 _ _ hd2
  have g5 := frozen_of_row _ _ 5 _ _ hd2
  have g6 := frozen_of_row _ _ 6 _ _ hd2
  have g7 := frozen_of_row _ _ 7 _ _ hd2
  clear hd2 hl2 HM k0 k1
  go_wp2_with fail
  obtain ⟨W3, hW3⟩ : ∃ V, V = put8 W2 (w.heap.size + 1) (.int .i64 2) (.int .i64 s.node) (.int .i64 guest) (.int .i64 s.epoch) (.int .i64 seq) (.int .i64 outcome) (.int .i64 version) (.slice none 0 0) := ⟨_, rfl⟩
  have hr3 := put8_row HD2.out (.int .i64 2) (.int .i64 s.node) (.int .i64 guest) (.int .i64 s.epoch) (.int .i64 seq) (.int .i64 outcome) (.int .i64 version) (.slice none 0 0)
  have hl3 := Below.trans HL2.out ((put8_hits W2 (w.heap.size + 1) (.int .i64 2) (.int .i64 s.node) (.int .i64 guest) (.int .i64 s.epoch) (.int .i64 seq) (.int .i64 outcome) (.int .i64 version) (.slice none 0 0)).below (B := w.heap.size) HL2.out.size fun k hk => by omega)
  rw [← hW3] at hr3 hl3
  unfold put8 at hW3
  rw [← hW3]
  exact ret_msg (p := 8) rfl (W := W3) hr3 rfl rfl ⟨rfl, hl3⟩
/-- Up to where the referees have judged. -/
def judgedF (s : Fr) : Int := match s.cur with
  | none => s.version
  | some b => b.prev
def liveOne (s : Fr) (u : Ws) (n : Int) : List Msg := if u.alive.contains n = true then [] else [⟨18, s.node, n, s.epoch, u.number, judgedF s, 0, []⟩]
def liveL (s : Fr) (u : Ws) : List Msg := (allF s).flatMap (liveOne s u)
def liveTo (s : Fr) (u : Ws) (k : Nat) : List Msg := ((allF s).take k).flatMap (liveOne s u)
theorem liveTo_next {s : Fr} {u : Ws} {k : Nat} {n : Int} (h : (allF s)[k]? = some n) : liveTo s u (k + 1) = liveTo s u k ++ liveOne s u n := by
  unfold liveTo; rw [take_snoc h, List.flatMap_append]; simp
theorem liveTo_len (s : Fr) (u : Ws) (k : Nat) : (liveTo s u k).length ≤ k := by
  unfold liveTo
  have : ∀ L : List Int, (L.flatMap (liveOne s u)).length ≤ L.length := by
    intro L; induction L with
    | nil => simp
    | cons a L ih =>
      rw [List.flatMap_cons, List.length_append, List.length_cons]
      have : (liveOne s u a).length ≤ 1 := by unfold liveOne; split <;> simp
      omega
  exact Nat.le_trans (this _) (by rw [List.length_take]; omega)
theorem live_cur {w : World} {f : Nat} {s : Fr} {cc : FrC} (h : FrP w f s cc) : (s.cur = none ∧ cc.up = .pointer none ∧ judgedF s = s.version) ∨ (∃ b0, cc.up = .pointer (some ⟨b0, 0, none⟩) ∧ w.cell? ⟨b0, 0, none⟩ = some (.int .i64 (judgedF s))) := by
  have hc := h.cur
  unfold judgedF
  cases hcur : s.cur with
  | none => rw [hcur] at hc; exact .inl ⟨rfl, hc.1, rfl⟩
  | some t =>
    rw [hcur] at hc
    obtain ⟨b0, c, h1, h2, _⟩ := hc
    exact .inr ⟨b0, h1, cell_of_row _ _ 0 _ _ (0, 0) h2.row⟩
/-- A row of one's own that grew: what stood ahead stands. -/
theorem hp_later {α : Type} {w0 w1 w2 : World} {base : Nat} {t : TypeId} {r : Rep α} {v : Value} {L : List α} {X : List Nat} (hl : Later w0 w1) (hp : SliceP base t r w1 v L X) (hg : w1.grownBy w2 v.ownBlock) (hb : w0.heap.size ≤ base) : Later w0 w2 := by
  obtain ⟨rows, ho⟩ := hp.own
  exact own_grown hl (own_base ho hb) hg hl.size
theorem SliceP.weaken {α : Type} {base base' : Nat} {t : TypeId} {r : Rep α} {w : World} {v : Value} {L : List α} {X : List Nat} (h : SliceP base t r w v L X) (hb : base' ≤ base) : SliceP base' t r w v L X := by
  obtain ⟨rows, xs, h1, h2, h3, h4⟩ := h
  exact ⟨rows, xs, own_base h1 hb, h2, h3, h4⟩
set_option maxHeartbeats 8000000 in
set_option maxRecDepth 100000 in
theorem live_any {w : World} {f : Nat} {s : Fr} {X : List Nat} (h : FrH w f s X) (hok : AllOk s) (u : Ws) {Aa : Option Addr} {na ca : Nat} (ha : Rd w 1 Aa na (ints u.alive)) (hla : u.alive.length = na) (hna : na ≤ 1048576) :
    Calls Tryz.prog 37 #[.pointer (some ⟨f, 0, none⟩), .agg #[.int .i64 u.guest, .int .i64 u.seq, .int .i64 u.number, .slice Aa na ca]] w (MsgsPost w (liveL s u)) := by
  obtain ⟨Wm, hW⟩ : ∃ Wm, Wm = w.alloc (.cells #[.int .i64 u.guest, .int .i64 u.seq, .int .i64 u.number, .slice Aa na ca] 89) := ⟨_, rfl⟩
  have hl : Later w Wm := by rw [hW]; exact later_alloc _ _
  have hb : Wm.heap[w.heap.size]? = some (.cells #[.int .i64 u.guest, .int .i64 u.seq, .int .i64 u.number, .slice Aa na ca] 89 (0, 0)) := by rw [hW]; exact heap_alloc_new _ _
  have hf := h.later hl
  obtain ⟨cc, hp, _⟩ := id hf
  have hrow := hp.row
  unfold frCells at hrow
  have c7 : Wm.cell? ⟨f, 7, none⟩ = some (.int .i64 s.version) := cell_of_row _ _ 7 _ _ (0, 0) hrow
  have c14 : Wm.cell? ⟨f, 14, none⟩ = some cc.up := cell_of_row _ _ 14 _ _ (0, 0) hrow
  have hcur := live_cur hp
  have HF := hide_ hf; have HOK := hide_ hok; have HA := hide_ (ha.below hl); have HLA := hide_ hla; have HW := hide_ hW; have HL := hide_ hl; have HB := hide_ hb
  have HAL := hide_ (fall_any hf hok)
  have hlen : (allF s).length ≤ 2097152 := by unfold allF; rw [List.length_append]; have := hok.c; have := hok.r; omega
  have HLN := hide_ hlen
  obtain ⟨jd, hjd⟩ : ∃ j, j = judgedF s := ⟨_, rfl⟩
  have HJ := hide_ hjd
  rw [← hjd] at hcur
  clear h hok ha hla hl hb hf hp hrow hW hlen hjd
  go_enter Tryz.func37, Tryz.ntmps37
  rcases hcur with ⟨_, h1, h2⟩ | ⟨b0, h1, h2⟩
  · rw [h1] at c14
    rw [← h2] at c7
    clear h1 h2
    go_wp2_with (rw [← HW.out])
    refine HAL.out.mono ?_; rintro e w2 ⟨A2, n2, c2, rfl, hL2, ho2, hl2⟩
    have HO2 := hide_ ho2; have HL2 := hide_ (HL.out.trans hl2); have HN2 := hide_ hL2; have HLW := hide_ hl2
    have hn2 : n2 ≤ 2097152 := by have := HLN.out; omega
    clear hL2 ho2 hl2 HAL c7 c14
    go_wp2_with fail
    go_loopw [6, 29] (fun s6 s29 wr => ∃ (i m : Nat) (A3 : Option Addr) (c3 : Nat), i ≤ n2 ∧ s29 = .int .i64 i ∧ m ≤ i ∧ s6 = .slice A3 m c3 ∧ Hid ((liveTo s u i).length = m) ∧ Hid (SliceP w2.heap.size 53 msgR wr (.slice A3 m c3) (liveTo s u i) []) ∧ Hid (Later w2 wr)) (fun _ i _ => n2 - (intOf i).toNat)
    case atStart => exact ⟨0, 0, none, 0, Nat.zero_le _, rfl, Nat.le_refl _, rfl, hide_ rfl, hide_ (SliceP.nil _ _ _ _), hide_ (Later.refl _)⟩
    case round =>
      obtain ⟨i, m, A3, c3, hi, rfl, hmi, rfl, HM, HP, HLR⟩ := hrel
      by_cases hlt : i < n2
      · obtain ⟨r, hr⟩ : ∃ r, (allF s)[i]? = some r := ⟨_, List.getElem?_eq_getElem (by rw [HN2.out]; exact hlt)⟩
        obtain ⟨br, orr, rfl, l0⟩ := ((Rd.of_own HO2.out).below HLR.out).int hr
        have q1 : (i : Int) < (n2 : Int) := by omega
        have q2 : (i : Int) ≤ 2097152 := by omega
        have HNX := hide_ (liveTo_next (u := u) hr)
        have hb := later_row (HLW.out.trans HLR.out) HB.out
        have d3 : wr.cell? ⟨w.heap.size, 3, none⟩ = some (.slice Aa na ca) := cell_of_row _ _ 3 _ _ (0, 0) hb
        have HCT := hide_ (contains_int (c := ca) (HA.out.below (HLW.out.trans HLR.out)) HLA.out (by omega) r)
        have blt := cell_lt l0
        have HMB := hide_ (show w2.heap.size ≤ wr.heap.size from HLR.out.size)
        clear hr
        go_wp2_with fail
        refine HCT.out.mono ?_; rintro e w5 ⟨rfl, rfl⟩
        by_cases hct : u.alive.contains r = true
        · rw [hct]
          have HE := hide_ (show liveTo s u (i + 1) = liveTo s u i by rw [HNX.out]; unfold liveOne; rw [if_pos hct, List.append_nil])
          clear hct hb
          go_wp2_with fail
          go_roundw
          case rel => exact ⟨i + 1, m, A3, c3, by omega, by go_num, by omega, rfl, hide_ (by rw [HE.out]; exact HM.out), hide_ (by rw [HE.out]; exact HP.out), HLR⟩
          case measure => simp [intOf]; omega
        · have hct : u.alive.contains r = false := by simpa using hct
          rw [hct]
          have HE := hide_ (show liveTo s u (i + 1) = liveTo s u i ++ [⟨18, s.node, r, s.epoch, u.number, jd, 0, []⟩] by rw [HNX.out]; unfold liveOne; rw [if_neg (by rw [hct]; decide), HJ.out])
          have d2 : w5.cell? ⟨w.heap.size, 2, none⟩ = some (.int .i64 u.number) := cell_of_row _ _ 2 _ _ (0, 0) hb
          have HMG := hide_ (message_any (w := w5) (HF.out.later (HLW.out.trans HLR.out)) 18 r 0 0 0 0 u.number jd 0 none 0 0)
          clear hct hb HCT
          go_wp2_with fail
          refine HMG.out.mono ?_; rintro e w6 ⟨rfl, hl6⟩
          have HP6 := hide_ (HP.out.later hl6)
          have HL6 := hide_ (HLR.out.trans hl6)
          have HB6 := hide_ (show w2.heap.size ≤ w6.heap.size from Nat.le_trans HMB.out hl6.size)
          clear hl6 d2 d3 l0
          go_wp2_with (at_builtin; refine wpList_push rfl (.tmp 38) (.tmp 46) rfl msgT rfl (HP6.out.later (later_alloc w6 _)) HM.out (b := w6.heap.size) (c := 1) (cells := [.int .i64 18, .int .i64 s.node, .int .i64 r, .int .i64 s.epoch, .int .i64 u.number, .int .i64 jd, .int .i64 0, .slice none 0 0]) (el := ⟨18, s.node, r, s.epoch, u.number, jd, 0, []⟩) (Y := []) rfl (Rd.newAt w6 #[.int .i64 18, .int .i64 s.node, .int .i64 r, .int .i64 s.epoch, .int .i64 u.number, .int .i64 jd, .int .i64 0, .slice none 0 0] 53 1 8 _ (0, 0) rfl rfl) ⟨_, rfl, body_nil _⟩ (fun k hk => by cases hk) (by omega) (by unfold maxLen; omega) (by have := HB6.out; simp; omega) ?c8)
          case c8 =>
            intro A9 c9 w9 hp9 hg9 hat9
            have HP9 := hide_ hp9
            have HL9 := hide_ (hp_later (HL6.out.al _) (HP6.out.later (later_alloc w6 _)) hg9 (Nat.le_refl _))
            clear hp9 hg9 hat9
            go_wp2_with fail
            go_roundw
            case rel => exact ⟨i + 1, m + 1, A9, c9, by omega, by go_num, by omega, rfl, hide_ (by rw [HE.out, List.length_append, HM.out]; rfl), hide_ (by rw [HE.out]; exact HP9.out), HL9⟩
            case measure => simp [intOf]; omega
      · obtain rfl : i = n2 := by omega
        have q1 : ¬ (i : Int) < (i : Int) := by omega
        have HT := hide_ (show liveTo s u i = liveL s u by unfold liveTo liveL; rw [List.take_of_length_le (by rw [HN2.out]; exact Nat.le_refl _)])
        go_wp2_with fail
        go_ret
        exact ⟨A3, m, c3, [], rfl, by rw [← HT.out]; exact HM.out, by rw [← HT.out]; exact HP.out.weaken HL2.out.size, fun k hk => (by cases hk), HL2.out.trans HLR.out⟩
  · rw [h1] at c14
    have hlt := cell_lt h2
    clear h1
    go_wp2_with (rw [← HW.out])
    clear hlt h2
    refine HAL.out.mono ?_; rintro e w2 ⟨A2, n2, c2, rfl, hL2, ho2, hl2⟩
    have HO2 := hide_ ho2; have HL2 := hide_ (HL.out.trans hl2); have HN2 := hide_ hL2; have HLW := hide_ hl2
    have hn2 : n2 ≤ 2097152 := by have := HLN.out; omega
    clear hL2 ho2 hl2 HAL c7 c14
    go_wp2_with fail
    go_loopw [6, 29] (fun s6 s29 wr => ∃ (i m : Nat) (A3 : Option Addr) (c3 : Nat), i ≤ n2 ∧ s29 = .int .i64 i ∧ m ≤ i ∧ s6 = .slice A3 m c3 ∧ Hid ((liveTo s u i).length = m) ∧ Hid (SliceP w2.heap.size 53 msgR wr (.slice A3 m c3) (liveTo s u i) []) ∧ Hid (Later w2 wr)) (fun _ i _ => n2 - (intOf i).toNat)
    case atStart => exact ⟨0, 0, none, 0, Nat.zero_le _, rfl, Nat.le_refl _, rfl, hide_ rfl, hide_ (SliceP.nil _ _ _ _), hide_ (Later.refl _)⟩
    case round =>
      obtain ⟨i, m, A3, c3, hi, rfl, hmi, rfl, HM, HP, HLR⟩ := hrel
      by_cases hlt : i < n2
      · obtain ⟨r, hr⟩ : ∃ r, (allF s)[i]? = some r := ⟨_, List.getElem?_eq_getElem (by rw [HN2.out]; exact hlt)⟩
        obtain ⟨br, orr, rfl, l0⟩ := ((Rd.of_own HO2.out).below HLR.out).int hr
        have q1 : (i : Int) < (n2 : Int) := by omega
        have q2 : (i : Int) ≤ 2097152 := by omega
        have HNX := hide_ (liveTo_next (u := u) hr)
        have hb := later_row (HLW.out.trans HLR.out) HB.out
        have d3 : wr.cell? ⟨w.heap.size, 3, none⟩ = some (.slice Aa na ca) := cell_of_row _ _ 3 _ _ (0, 0) hb
        have HCT := hide_ (contains_int (c := ca) (HA.out.below (HLW.out.trans HLR.out)) HLA.out (by omega) r)
        have blt := cell_lt l0
        have HMB := hide_ (show w2.heap.size ≤ wr.heap.size from HLR.out.size)
        clear hr
        go_wp2_with fail
        refine HCT.out.mono ?_; rintro e w5 ⟨rfl, rfl⟩
        by_cases hct : u.alive.contains r = true
        · rw [hct]
          have HE := hide_ (show liveTo s u (i + 1) = liveTo s u i by rw [HNX.out]; unfold liveOne; rw [if_pos hct, List.append_nil])
          clear hct hb
          go_wp2_with fail
          go_roundw
          case rel => exact ⟨i + 1, m, A3, c3, by omega, by go_num, by omega, rfl, hide_ (by rw [HE.out]; exact HM.out), hide_ (by rw [HE.out]; exact HP.out), HLR⟩
          case measure => simp [intOf]; omega
        · have hct : u.alive.contains r = false := by simpa using hct
          rw [hct]
          have HE := hide_ (show liveTo s u (i + 1) = liveTo s u i ++ [⟨18, s.node, r, s.epoch, u.number, jd, 0, []⟩] by rw [HNX.out]; unfold liveOne; rw [if_neg (by rw [hct]; decide), HJ.out])
          have d2 : w5.cell? ⟨w.heap.size, 2, none⟩ = some (.int .i64 u.number) := cell_of_row _ _ 2 _ _ (0, 0) hb
          have HMG := hide_ (message_any (w := w5) (HF.out.later (HLW.out.trans HLR.out)) 18 r 0 0 0 0 u.number jd 0 none 0 0)
          clear hct hb HCT
          go_wp2_with fail
          refine HMG.out.mono ?_; rintro e w6 ⟨rfl, hl6⟩
          have HP6 := hide_ (HP.out.later hl6)
          have HL6 := hide_ (HLR.out.trans hl6)
          have HB6 := hide_ (show w2.heap.size ≤ w6.heap.size from Nat.le_trans HMB.out hl6.size)
          clear hl6 d2 d3 l0
          go_wp2_with (at_builtin; refine wpList_push rfl (.tmp 38) (.tmp 46) rfl msgT rfl (HP6.out.later (later_alloc w6 _)) HM.out (b := w6.heap.size) (c := 1) (cells := [.int .i64 18, .int .i64 s.node, .int .i64 r, .int .i64 s.epoch, .int .i64 u.number, .int .i64 jd, .int .i64 0, .slice none 0 0]) (el := ⟨18, s.node, r, s.epoch, u.number, jd, 0, []⟩) (Y := []) rfl (Rd.newAt w6 #[.int .i64 18, .int .i64 s.node, .int .i64 r, .int .i64 s.epoch, .int .i64 u.number, .int .i64 jd, .int .i64 0, .slice none 0 0] 53 1 8 _ (0, 0) rfl rfl) ⟨_, rfl, body_nil _⟩ (fun k hk => by cases hk) (by omega) (by unfold maxLen; omega) (by have := HB6.out; simp; omega) ?c8)
          case c8 =>
            intro A9 c9 w9 hp9 hg9 hat9
            have HP9 := hide_ hp9
            have HL9 := hide_ (hp_later (HL6.out.al _) (HP6.out.later (later_alloc w6 _)) hg9 (Nat.le_refl _))
            clear hp9 hg9 hat9
            go_wp2_with fail
            go_roundw
            case rel => exact ⟨i + 1, m + 1, A9, c9, by omega, by go_num, by omega, rfl, hide_ (by rw [HE.out, List.length_append, HM.out]; rfl), hide_ (by rw [HE.out]; exact HP9.out), HL9⟩
            case measure => simp [intOf]; omega
      · obtain rfl : i = n2 := by omega
        have q1 : ¬ (i : Int) < (i : Int) := by omega
        have HT := hide_ (show liveTo s u i = liveL s u by unfold liveTo liveL; rw [List.take_of_length_le (by rw [HN2.out]; exact Nat.le_refl _)])
        go_wp2_with fail
        go_ret
        exact ⟨A3, m, c3, [], rfl, by rw [← HT.out]; exact HM.out, by rw [← HT.out]; exact HP.out.weaken HL2.out.size, fun k hk => (by cases hk), HL2.out.trans HLR.out⟩

end Go.Proofs.YtcmollfhlillfaaGreatDoor
/-
  The contract of slices.Delete at wishes.
-/
namespace Go.Proofs.YtcmollfhlillfaaGreatDoor
open Go.RowKit
set_option linter.unusedVariables false
set_option linter.unusedSimpArgs false
theorem wishT : ElemT Tryz.prog 72 89 4 48 := elem_mk (z := .agg #[.int .i64 0, .int .i64 0, .int .i64 0, .slice none 0 0]) Tryz.underlying72 (by kernel_rfl) rfl (by decide)
/-- A row of letters that has been written twice in place. -/
theorem wrows_close {w : World} {B g cap m : Nat} {cur X Y : Array Value} {xs : List Value} (hg : w.heap[g]? = some (.cells cur 89 (0, 0))) (hB : B ≤ g) (hm : m ≤ cap) (hcm : cap ≤ maxLen) (hY : Y.size = cap * 4)
    (ht : Y.toList.take (m * 4) = xs) (hl : xs.length = m * 4) :
    ((w.drew.setRow g X).setRow g Y).ownsRow B 89 4 (.slice (some ⟨g, 0, none⟩) m cap) m xs ∧ Below B w ((w.drew.setRow g X).setRow g Y) ∧ (∀ k, k ≠ g → ((w.drew.setRow g X).setRow g Y).heap[k]? = w.heap[k]?) ∧ ((w.drew.setRow g X).setRow g Y).heap.size = w.heap.size := by
  have h1 : (w.drew.setRow g X).heap[g]? = some (.cells X 89 (0, 0)) := setRow_heap w.drew _ _ _ _ _ hg
  have h2 := setRow_heap _ g X Y _ _ h1
  refine ⟨⟨hl, .inr ⟨g, cap, Y, rfl, hB, h2, hm, hcm, hY, ht⟩⟩, below_setRow (below_setRow (Below.refl _ _).drew hB _) hB _, fun k hne => ?_, by simp⟩
  rw [setRow_other _ _ _ _ hne, setRow_other _ _ _ _ hne]; exact rfl
theorem wclear_size {o k n : Nat} {X : Array Value} {z : Array Value} (hz : z.size = 4) (h : o + k * 4 ≤ n) (hX : X.size = n) :
    (X.toList.take o ++ (Builtin.zeroCells z k).toList ++ X.toList.drop (o + (Builtin.zeroCells z k).toList.length)).toArray.size = n := by
  have e : (Builtin.zeroCells z k).toList.length = k * 4 := by rw [Array.length_toList, size_zeroCells, hz]
  simp only [List.size_toArray, List.length_append, List.length_take, List.length_drop, e, Array.length_toList, hX]
  omega
set_option maxHeartbeats 2000000 in
theorem wdelete_end {w : World} {B g n : Nat} {xs : List Value} (ho : w.ownsRow B 89 4 (.slice (some ⟨g, 0, none⟩) n n) n xs) (i : Nat) (hij : i < n) (hn : n ≤ 4398046511104) :
    Calls Tryz.prog 62 #[.slice (some ⟨g, 0, none⟩) n n, .int .i64 (i : Int), .int .i64 (n : Int)] w fun e w' =>
      e = .returned (.slice (some ⟨g, 0, none⟩) i n) ∧ w'.ownsRow B 89 4 (.slice (some ⟨g, 0, none⟩) i n) i (xs.take (i * 4)) ∧ Below B w w' ∧ (∀ k, k ≠ g → w'.heap[k]? = w.heap[k]?) ∧ w'.heap.size = w.heap.size := by
  obtain ⟨cur, hBg, hg, hnc, hcm, hcs, htk⟩ := own_row ho
  have q1 : (0 : Int) ≤ (i : Int) := by omega
  have q2 : (i : Int) ≤ (n : Int) := by omega
  have n1 : i ≤ n := by omega
  have qe : ((i : Int) == (n : Int)) = false := by rw [beq_eq_false_iff_ne]; omega
  have HC := Lib.hid hcs; have HT := Lib.hid htk; have HO := Lib.hid ho; have HM := Lib.hid hcm
  clear hcs htk ho hcm hnc
  go_enter Tryz.func62, Tryz.ntmps62
  go_wp2_with fail
  refine wp_region_t (by kernel_rfl) ?_
  refine wpAnyT_take 0 (v := ?_) rfl (by kernel_rfl) (by kernel_rfl) (by kernel_rfl) (fun _ _ _ h => h) (by rfl) (by intro W hSw; go_simp; with_reducible rfl) ?_; try simp only [Act.put, qA, qZ, qS]
  refine wpAnyT_take 1 (v := ?_) rfl (by kernel_rfl) (by kernel_rfl) (by kernel_rfl) (fun _ _ _ h => h) (by rfl) (by intro W hSw; go_simp; with_reducible rfl) ?_; try simp only [Act.put, qA, qZ, qS]
  refine wpAnyT_take 2 (v := ?_) rfl (by kernel_rfl) (by kernel_rfl) (by kernel_rfl) (fun _ _ _ h => h) (by rfl) (by intro W hSw; go_simp; with_reducible rfl) ?_; try simp only [Act.put, qA, qZ, qS]
  refine wpAnyT_take 3 (v := ?_) rfl (by kernel_rfl) (by kernel_rfl) (by kernel_rfl) (fun _ _ _ h => h) (by rfl) (by intro W hSw; go_simp; with_reducible rfl) ?_; try simp only [Act.put, qA, qZ, qS]
  refine wpAnyT_take 4 (v := ?_) rfl (by kernel_rfl) (by kernel_rfl) (by kernel_rfl) (fun _ _ _ h => h) (by rfl) (by intro W hSw; go_simp; with_reducible rfl) ?_; try simp only [Act.put, qA, qZ, qS]
  refine wpAnyT_take 5 (v := ?_) rfl (by kernel_rfl) (by kernel_rfl) (by kernel_rfl) (fun _ _ _ h => h) (by rfl) (by intro W hSw; go_simp; with_reducible rfl) ?_; try simp only [Act.put, qA, qZ, qS]
  refine wpAnyT_one 6 (by kernel_rfl) rfl (fun K hK => ?_)
  refine step_append_in (by rfl) (.tmp 22) (.tmp 25) 72 rfl 89 4 48 wishT g i n cur hg rfl ⟨g, 0, none⟩ 0 0 [] rfl (Rd.nil _ _ _) (fun u hu => by cases hu) (by omega) HC.out ?_
  refine hK.out _ _ trivial ?_
  clear hK K; try simp only [Act.put, qA, qZ, qS]
  refine wpAnyT_take 7 (v := ?_) rfl (by kernel_rfl) (by kernel_rfl) (by kernel_rfl) (fun _ _ _ h => h) (by rfl) (by intro W hSw; go_simp; with_reducible rfl) ?_; try simp only [Act.put, List.setIfInBounds_toArray, List.set_cons_zero]
  refine wpAnyT_done (by kernel_rfl) ?_ _
  obtain ⟨W2, hW2⟩ : ∃ W2, W2 = w.drew.setRow g (cur.toList.take (i * 4) ++ [] ++ cur.toList.drop (i * 4 + ([] : List Value).length)).toArray := ⟨_, rfl⟩
  rw [← hW2]
  have hg2 : W2.heap[g]? = some (.cells cur 89 (0, 0)) := by
    rw [hW2, setRow_heap _ _ _ _ _ _ (show w.drew.heap[g]? = _ from hg)]; simp
  have hclr : ∀ ty, (Builtin.clear_ #[72] ty #[.slice (some ⟨g, i * 4, none⟩) (n - i) (n - i)]).run Tryz.prog W2 = .ok (.tuple #[]) (W2.setRow g _) := fun ty =>
    run_clear_row 72 89 ty (.agg #[.int .i64 0, .int .i64 0, .int .i64 0, .slice none 0 0]) 4 Tryz.underlying72 (fun w => by kernel_rfl) rfl (by intro u hu; simp [Value.cells] at hu; rcases hu with rfl | rfl | rfl | rfl <;> rfl) (by omega) W2 g (i * 4) (n - i) (n - i) cur (by omega) hg2 (by rw [HC.out]; omega)
  have HW2 := Lib.hid hW2
  clear hW2
  go_wp2_with fail
  go_ret
  refine ⟨rfl, ?_⟩
  rw [HW2.out]
  have ht : xs.take (i * 4) = cur.toList.take (i * 4) := by rw [← HT.out, List.take_take]; congr 1; omega
  refine wrows_close hg hBg n1 HM.out ?_ ?_ ?_
  · simpa [Value.cells] using wclear_size (o := i * 4) (k := n - i) (n := n * 4) (X := cur) (z := (Value.agg #[.int .i64 0, .int .i64 0, .int .i64 0, .slice none 0 0]).cells) rfl (by omega) HC.out
  · rw [ht]; simp; rw [List.take_append_of_le_length (by simp [HC.out]; omega), List.take_take]; congr 1; omega
  · rw [List.length_take, HO.out.1]; omega
set_option maxHeartbeats 2000000 in
theorem wdelete_mid {w : World} {B g n cap : Nat} {xs : List Value} (ho : w.ownsRow B 89 4 (.slice (some ⟨g, 0, none⟩) n cap) n xs) (hone : ∀ u ∈ xs, u.oneCell' = true) (i j : Nat) (hij : i < j) (hjn : j ≤ n) (hn : n ≤ 4398046511104) (hcj : ¬ cap = j) :
    Calls Tryz.prog 62 #[.slice (some ⟨g, 0, none⟩) n cap, .int .i64 (i : Int), .int .i64 (j : Int)] w fun e w' =>
      e = .returned (.slice (some ⟨g, 0, none⟩) (i + (n - j)) cap) ∧ w'.ownsRow B 89 4 (.slice (some ⟨g, 0, none⟩) (i + (n - j)) cap) (i + (n - j)) (xs.take (i * 4) ++ xs.drop (j * 4)) ∧ Below B w w' ∧ (∀ k, k ≠ g → w'.heap[k]? = w.heap[k]?) ∧ w'.heap.size = w.heap.size := by
  obtain ⟨cur, hBg, hg, hnc, hcm, hcs, htk⟩ := own_row ho
  have hR := Rd.cut (Rd.of_own ho) (k := j) (cap := cap) (by omega) (by omega)
  simp only [hcj, if_false, Option.map_some, add_plain, Nat.zero_add] at hR
  have hmx : cap ≤ 9223372036854775807 := by simpa [maxLen] using hcm
  have q1 : (0 : Int) ≤ (i : Int) := by omega
  have q2 : (i : Int) ≤ (j : Int) := by omega
  have q3 : (j : Int) ≤ (n : Int) := by omega
  have q4 : (n : Int) ≤ (cap : Int) := by omega
  have n1 : i ≤ cap := by omega
  have n2 : j ≤ cap := by omega
  have n3 : j ≤ n := hjn
  have qe : ((i : Int) == (j : Int)) = false := by rw [beq_eq_false_iff_ne]; omega
  have HC := Lib.hid hcs; have HT := Lib.hid htk; have HO := Lib.hid ho; have HM := Lib.hid hcm
  clear hcs htk ho hcm
  go_enter Tryz.func62, Tryz.ntmps62
  go_wp2_with fail
  refine wp_region_t (by kernel_rfl) ?_
  refine wpAnyT_take 0 (v := ?_) rfl (by kernel_rfl) (by kernel_rfl) (by kernel_rfl) (fun _ _ _ h => h) (by rfl) (by intro W hSw; go_simp; with_reducible rfl) ?_; try simp only [Act.put, qA, qZ, qS]
  refine wpAnyT_take 1 (v := ?_) rfl (by kernel_rfl) (by kernel_rfl) (by kernel_rfl) (fun _ _ _ h => h) (by rfl) (by intro W hSw; go_simp; with_reducible rfl) ?_; try simp only [Act.put, qA, qZ, qS]
  refine wpAnyT_take 2 (v := ?_) rfl (by kernel_rfl) (by kernel_rfl) (by kernel_rfl) (fun _ _ _ h => h) (by rfl) (by intro W hSw; go_simp; with_reducible rfl) ?_; try simp only [Act.put, qA, qZ, qS]
  refine wpAnyT_take 3 (v := ?_) rfl (by kernel_rfl) (by kernel_rfl) (by kernel_rfl) (fun _ _ _ h => h) (by rfl) (by intro W hSw; go_simp; with_reducible rfl) ?_; try simp only [Act.put, qA, qZ, qS]
  refine wpAnyT_take 4 (v := ?_) rfl (by kernel_rfl) (by kernel_rfl) (by kernel_rfl) (fun _ _ _ h => h) (by rfl) (by intro W hSw; go_simp; with_reducible rfl) ?_; try simp only [Act.put, qA, qZ, qS]
  refine wpAnyT_take 5 (v := ?_) rfl (by kernel_rfl) (by kernel_rfl) (by kernel_rfl) (fun _ _ _ h => h) (by rfl) (by intro W hSw; go_simp; with_reducible rfl) ?_; try simp only [Act.put, qA, qZ, qS]
  refine wpAnyT_one 6 (by kernel_rfl) rfl (fun K hK => ?_)
  refine step_append_in (by rfl) (.tmp 22) (.tmp 25) 72 rfl 89 4 48 wishT g i cap cur hg rfl ⟨g, j * 4, none⟩ (n - j) (cap - j) (xs.drop (j * 4)) rfl hR.drew (fun u hu => hone u (List.mem_of_mem_drop hu)) (by omega) HC.out ?_
  refine hK.out _ _ trivial ?_
  clear hK K; try simp only [Act.put, qA, qZ, qS]
  refine wpAnyT_take 7 (v := ?_) rfl (by kernel_rfl) (by kernel_rfl) (by kernel_rfl) (fun _ _ _ h => h) (by rfl) (by intro W hSw; go_simp; with_reducible rfl) ?_; try simp only [Act.put, qA, qZ, qS]
  refine wpAnyT_done (by kernel_rfl) ?_ _
  obtain ⟨m, hm⟩ : ∃ m, m = i + (n - j) := ⟨_, rfl⟩
  have hmn : m < n := by omega
  have hX : (cur.toList.take (i * 4) ++ xs.drop (j * 4) ++ cur.toList.drop (i * 4 + (xs.drop (j * 4)).length)).length = cap * 4 := by
    have h1 := HO.out.1
    simp only [List.length_append, List.length_take, List.length_drop, Array.length_toList, HC.out, h1]
    omega
  have hXt : (cur.toList.take (i * 4) ++ xs.drop (j * 4) ++ cur.toList.drop (i * 4 + (xs.drop (j * 4)).length)).take (m * 4) = xs.take (i * 4) ++ xs.drop (j * 4) := by
    have h1 := HO.out.1
    have h2 : xs.take (i * 4) = cur.toList.take (i * 4) := by rw [← HT.out, List.take_take]; congr 1; omega
    rw [List.take_left' (by simp only [List.length_append, List.length_take, List.length_drop, Array.length_toList, HC.out, h1]; omega), h2]
  have hml : (xs.take (i * 4) ++ xs.drop (j * 4)).length = m * 4 := by
    have h1 := HO.out.1
    simp only [List.length_append, List.length_take, List.length_drop, h1]
    omega
  generalize cur.toList.take (i * 4) ++ xs.drop (j * 4) ++ cur.toList.drop (i * 4 + (xs.drop (j * 4)).length) = X at hX hXt ⊢
  rw [← hm]
  obtain ⟨W2, hW2⟩ : ∃ W2, W2 = w.drew.setRow g X.toArray := ⟨_, rfl⟩
  rw [← hW2]
  have hg2 : W2.heap[g]? = some (.cells X.toArray 89 (0, 0)) := by
    rw [hW2]; exact setRow_heap w.drew _ _ _ _ _ hg
  have hclr : ∀ ty, (Builtin.clear_ #[72] ty #[.slice (some ⟨g, m * 4, none⟩) (n - m) (cap - m)]).run Tryz.prog W2 = .ok (.tuple #[]) (W2.setRow g _) := fun ty =>
    run_clear_row 72 89 ty (.agg #[.int .i64 0, .int .i64 0, .int .i64 0, .slice none 0 0]) 4 Tryz.underlying72 (fun w => by kernel_rfl) rfl (by intro u hu; simp [Value.cells] at hu; rcases hu with rfl | rfl | rfl | rfl <;> rfl) (by omega) W2 g (m * 4) (n - m) (cap - m) X.toArray (by omega) hg2 (by rw [List.size_toArray, hX]; omega)
  have r1 : (0 : Int) ≤ (m : Int) := by omega
  have r2 : (m : Int) ≤ (n : Int) := by omega
  have r3 : ¬ cap = m := by omega
  have HW2 := Lib.hid hW2; have HMM := Lib.hid hm; have HX := Lib.hid hX; have HXT := Lib.hid hXt; have HML := Lib.hid hml
  clear hW2 hm hX hXt hml
  go_wp2_with fail
  go_ret
  rw [← HMM.out]
  refine ⟨rfl, ?_⟩
  rw [HW2.out]
  refine wrows_close hg hBg (by omega) HM.out ?_ ?_ HML.out
  · simpa [Value.cells] using wclear_size (o := m * 4) (k := n - m) (n := cap * 4) (X := X.toArray) (z := (Value.agg #[.int .i64 0, .int .i64 0, .int .i64 0, .slice none 0 0]).cells) rfl (by omega) (by rw [List.size_toArray, HX.out])
  · simp; rw [List.take_append_of_le_length (by simp [HX.out]; omega), List.take_take, Nat.min_self]; exact HXT.out
theorem wown_cases {w : World} {base n size c : Nat} {e : TypeId} {A : Option Addr} {xs : List Value} (h : w.ownsRow base e size (.slice A n c) n xs) : (A = none ∧ n = 0 ∧ c = 0 ∧ xs = []) ∨ ∃ g, A = some ⟨g, 0, none⟩ := by
  rcases h.2 with ⟨hv, h0⟩ | ⟨g, cap, cur, hv, _⟩
  · injection hv with h1 h2 h3
    exact .inl ⟨h1, h2, h3, List.eq_nil_of_length_eq_zero (by rw [h.1, h0, Nat.zero_mul])⟩
  · injection hv with h1
    exact .inr ⟨g, h1⟩
/-- One wish is struck. -/
theorem delete_wish {w : World} {B n c : Nat} {A : Option Addr} {xs : List Value} (ho : w.ownsRow B 89 4 (.slice A n c) n xs) (hone : ∀ u ∈ xs, u.oneCell' = true) (i : Nat) (hi : i < n) (hn : n ≤ 4398046511104) :
    Calls Tryz.prog 62 #[.slice A n c, .int .i64 (i : Int), .int .i64 ((i : Int) + 1)] w fun e w' =>
      e = .returned (.slice A (n - 1) c) ∧ w'.ownsRow B 89 4 (.slice A (n - 1) c) (n - 1) (xs.take (i * 4) ++ xs.drop ((i + 1) * 4)) ∧ Below B w w' ∧ (∀ k, some k ≠ (Value.slice A n c).ownBlock → w'.heap[k]? = w.heap[k]?) ∧ w'.heap.size = w.heap.size := by
  have hnc := (own_cap2 ho).2
  have ei : ((i : Int) + 1) = ((i + 1 : Nat) : Int) := by omega
  rw [ei]
  rcases wown_cases ho with ⟨_, h0, _⟩ | ⟨g, rfl⟩
  · omega
  · by_cases hc : c = i + 1
    · have hcn : c = n := by omega
      subst hcn
      have hm : ((i + 1 : Nat) : Int) = (c : Int) := by omega
      rw [hm]
      refine (wdelete_end ho i hi hn).mono fun e' w' ⟨he, h1, h2, h3, h4⟩ => ?_
      have e0 : i = c - 1 := by omega
      rw [List.drop_of_length_le (by rw [ho.1]; omega), List.append_nil]
      subst he
      rw [← e0]
      exact ⟨rfl, h1, h2, fun k hk => h3 k fun e => hk (by rw [e]; rfl), h4⟩
    · refine (wdelete_mid ho hone i (i + 1) (by omega) (by omega) hn hc).mono fun e' w' ⟨he, h1, h2, h3, h4⟩ => ?_
      have e0 : i + (n - (i + 1)) = n - 1 := by omega
      rw [e0] at he h1
      exact ⟨he, h1, h2, fun k hk => h3 k fun e => hk (by rw [e]; rfl), h4⟩
end Go.Proofs.YtcmollfhlillfaaGreatDoor
