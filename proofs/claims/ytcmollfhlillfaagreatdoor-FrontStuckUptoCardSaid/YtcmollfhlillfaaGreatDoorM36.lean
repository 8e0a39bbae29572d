/-
  Texts of this seat in one: FrVd, FrBoth, FrCln.
-/
import Derived.Test.YtcmollfhlillfaaGreatDoorM35
import Derived.Test.YtcmollfhlillfaaGreatDoorM2
import Derived.Test.YtcmollfhlillfaaGreatDoorM16
/-
  verdict: is; so many ones.
-/
namespace Go.Proofs.YtcmollfhlillfaaGreatDoor
open Go.RowKit
set_option linter.unusedVariables false
set_option linter.unusedSimpArgs false
def isV (v : Int) : Bool := decide (1 ≤ v ∧ v ≤ 3)
theorem is_any (v : Int) (w : World) : Calls Tryz.prog 127 #[.int .i64 v] w fun e w' => e = .returned (.bool (isV v)) ∧ w' = w := by
  by_cases h1 : 1 ≤ v
  · by_cases h2 : v ≤ 3
    · have HV := hide_ (show isV v = true by unfold isV; simp; omega)
      go_enter Tryz.func127, Tryz.ntmps127
      go_wp2_with fail
      go_ret
      exact ⟨ret_val (congrArg Value.bool HV.out.symm), rfl⟩
    · have HV := hide_ (show isV v = false by unfold isV; simp; omega)
      go_enter Tryz.func127, Tryz.ntmps127
      go_wp2_with fail
      go_ret
      exact ⟨ret_val (congrArg Value.bool HV.out.symm), rfl⟩
  · have HV := hide_ (show isV v = false by unfold isV; simp; omega)
    go_enter Tryz.func127, Tryz.ntmps127
    go_wp2_with fail
    go_ret
    exact ⟨ret_val (congrArg Value.bool HV.out.symm), rfl⟩
def reps (n : Nat) (k : Nat) : List Value := List.replicate k (.int .i64 1) ++ List.replicate (n - k) (.int .i64 0)
theorem reps_len {n k : Nat} (h : k ≤ n) : (reps n k).length = n := by unfold reps; simp; omega
theorem reps_at {n k j : Nat} (h : j < k) : (reps n k)[j]? = some (.int .i64 1) := by unfold reps; rw [List.getElem?_append_left (by simpa using h)]; simp [h]
/-- The copy of the first ones behind them. -/
theorem reps_copy {n k : Nat} (hk : k ≤ n) : ((reps n k).take k ++ List.replicate (min k (n - k)) (.int .i64 1) ++ (reps n k).drop (k + min k (n - k))) = reps n (k + min k (n - k)) := by
  unfold reps
  rw [List.take_left' (by simp), List.drop_append, List.drop_of_length_le (by simp), List.nil_append, List.length_replicate, show k + min k (n - k) - k = min k (n - k) by omega, List.drop_replicate, List.replicate_append_replicate]
  congr 2
  omega
set_option maxHeartbeats 4000000 in
set_option maxRecDepth 100000 in
theorem repeat_any {w : World} {b n : Nat} (hb : w.heap[b]? = some (.cells #[.int .i64 1] 3 (0, 0))) (hn : n ≤ 4096) :
    Calls Tryz.prog 126 #[.slice (some ⟨b, 0, none⟩) 1 1, .int .i64 n] w fun e w' => ∃ g, e = .returned (.slice (some ⟨g, 0, none⟩) n n) ∧ w.heap.size ≤ g ∧ w'.ownsRow w.heap.size 3 1 (.slice (some ⟨g, 0, none⟩) n n) n (List.replicate n (.int .i64 1)) ∧ Later w w' := by
  have hn2 : (n : Int) ≤ 4096 := by omega
  have HMU := hide_ (bits_Mul 1 n (by omega) (by omega) w)
  have e1 : (1 * n / 18446744073709551616 : Nat) = 0 := by omega
  have e2 : (1 * n % 18446744073709551616 : Nat) = n := by omega
  rw [e1, e2] at HMU
  have HB := hide_ hb
  clear hb e1 e2
  go_enter Tryz.func126, Tryz.ntmps126
  go_wp2_with fail
  refine HMU.out.mono ?_; rintro e w2 ⟨rfl, rfl⟩
  obtain ⟨cs, hcs, hct, hmk⟩ := make_one (P := Tryz.prog) (t := 35) (e := 3) (z := .int .i64 0) (bytes := 8) Tryz.underlying35 (by kernel_rfl) rfl n (by omega) (by unfold maxLen; omega)
  have hn3 : ¬ (9223372036854775807 : Int) < (n : Int) := by omega
  have hwr : IntKind.i64.wrap (n : Int) = (n : Int) := IntWalk.i64_in _ (by omega)
  have hn0 : (0 : Int) ≤ (n : Int) := by omega
  clear HMU
  have hecs : cs = (reps n 0).toArray := by apply Array.toList_inj.1; rw [hct]; simp [reps]
  subst hecs
  obtain ⟨W1, hW1⟩ : ∃ W, W = w2.alloc (.cells (reps n 0).toArray 3) := ⟨_, rfl⟩
  have hg1 : W1.heap[w2.heap.size]? = some (.cells (reps n 0).toArray 3 (0, 0)) := by rw [hW1]; exact heap_alloc_new _ _
  have hb1 : W1.heap[b]? = some (.cells #[.int .i64 1] 3 (0, 0)) := by rw [hW1]; exact row_al HB.out _
  have hcp : ∀ ty, (Builtin.copy_ #[35, 35] ty #[.slice (some ⟨w2.heap.size, 0, none⟩) n n, .slice (some ⟨b, 0, none⟩) 1 1]).run Tryz.prog W1 = .ok (goInt ((min 1 n : Nat) : Int)) (W1.setRow w2.heap.size (reps n (min 1 n)).toArray) := fun ty => by
    have h := run_copy_rowk (P := Tryz.prog) W1 35 35 ty 3 1 w2.heap.size 0 n n ⟨b, 0, none⟩ 1 1 (reps n 0).toArray 3 (List.replicate (min 1 n) (.int .i64 1)) (min 1 n) Tryz.underlying35 (by kernel_rfl) hg1 rfl (by simp) (fun j v hj => by
      have hj0 : j < min 1 n := by have := (List.getElem?_eq_some_iff.1 hj).1; simpa using this
      obtain rfl : j = 0 := by omega
      have : v = .int .i64 1 := (List.mem_replicate.1 (List.mem_of_getElem? hj)).2
      rw [this, add_plain]
      exact cell_of_row _ _ 0 _ _ (0, 0) hb1) (by simp [reps]; omega) (fun v hv => by rw [(List.mem_replicate.1 hv).2]; rfl)
    rw [h]
    congr 2
    apply Array.toList_inj.1
    simp only [List.take_zero, List.nil_append, Nat.zero_add, List.length_replicate]
    unfold reps
    simp
  obtain ⟨k0, hk0⟩ : ∃ k, k = min 1 n := ⟨_, rfl⟩
  rw [← hk0] at hcp
  have hk0n : k0 ≤ n := by omega
  have hk0p : n = 0 ∨ 0 < k0 := by omega
  obtain ⟨W2, hW2⟩ : ∃ W, W = W1.setRow w2.heap.size (reps n k0).toArray := ⟨_, rfl⟩
  rw [← hW2] at hcp
  have hg2 : W2.heap[w2.heap.size]? = some (.cells (reps n k0).toArray 3 (0, 0)) := by rw [hW2]; exact setRow_heap W1 _ _ _ _ _ hg1
  have hl2 : Later w2 W2 := by rw [hW2]; exact below_setRow (by rw [hW1]; exact later_alloc _ _) (Nat.le_refl _) _
  have HW1 := hide_ hW1; have HG2 := hide_ hg2; have HL2 := hide_ hl2; have HKP := hide_ hk0p
  clear hg1 hb1 hW2 hg2 hl2 hk0 hk0p hW1 hcs hct
  go_wp2_with (rw [← HW1.out])
  go_loopw [8] (fun s8 wr => ∃ k : Nat, k ≤ n ∧ s8 = .int .i64 k ∧ Hid (n = 0 ∨ 0 < k) ∧ Hid (wr.heap[w2.heap.size]? = some (.cells (reps n k).toArray 3 (0, 0))) ∧ Hid (Later w2 wr)) (fun i _ => n - (intOf i).toNat)
  case atStart => exact ⟨k0, hk0n, rfl, HKP, HG2, HL2⟩
  case round =>
    obtain ⟨k, hk, rfl, HP, HG, HL⟩ := hrel
    by_cases hlt : k < n
    · have q1 : (k : Int) < (n : Int) := by omega
      have q2 : (k : Int) ≤ (n : Int) := by omega
      have q0 : (0 : Int) ≤ (k : Int) := by omega
      have hkn : ¬ n = k := by omega
      obtain ⟨m, hm⟩ : ∃ m, m = min k (n - k) := ⟨_, rfl⟩
      have hm0 : 0 < m := by have := HP.out; omega
      have hmn : k + m ≤ n := by omega
      obtain ⟨wo, ewo⟩ : ∃ wo, wo = wr := ⟨_, rfl⟩
      rw [← ewo] at HG HL ⊢
      clear ewo
      have hcp2 : ∀ ty dc sc, (Builtin.copy_ #[35, 35] ty #[.slice (some ⟨w2.heap.size, k, none⟩) (n - k) dc, .slice (some ⟨w2.heap.size, 0, none⟩) k sc]).run Tryz.prog wo.drew = .ok (goInt (m : Int)) (wo.drew.setRow w2.heap.size (reps n (k + m)).toArray) := fun ty dc sc => by
        have h := run_copy_rowk (P := Tryz.prog) wo.drew 35 35 ty 3 1 w2.heap.size k (n - k) dc ⟨w2.heap.size, 0, none⟩ k sc (reps n k).toArray 3 (List.replicate m (.int .i64 1)) m Tryz.underlying35 (by kernel_rfl) HG.out hm.symm (by rw [List.length_replicate]; omega) (fun j v hj => by
          have hj0 : j < m := by have := (List.getElem?_eq_some_iff.1 hj).1; simpa using this
          have : v = .int .i64 1 := (List.mem_replicate.1 (List.mem_of_getElem? hj)).2
          rw [this, add_plain, Nat.zero_add]
          have h2 := cell_of_row wo w2.heap.size j _ _ (0, 0) HG.out
          exact h2.trans (by rw [List.getElem?_toArray]; exact reps_at (by omega))) (by rw [List.size_toArray, reps_len hk]; simp; try omega) (fun v hv => by rw [(List.mem_replicate.1 hv).2]; rfl)
        rw [h]
        congr 2
        apply Array.toList_inj.1
        have h2 := reps_copy hk
        rw [← hm] at h2
        simpa using h2
      obtain ⟨W3, hW3⟩ : ∃ W, W = wo.drew.setRow w2.heap.size (reps n (k + m)).toArray := ⟨_, rfl⟩
      rw [← hW3] at hcp2
      have HG3 := hide_ (show W3.heap[w2.heap.size]? = some (.cells (reps n (k + m)).toArray 3 (0, 0)) by rw [hW3]; exact setRow_heap wo.drew _ _ _ _ _ HG.out)
      have HL3 := hide_ (show Later w2 W3 by rw [hW3]; exact below_setRow HL.out.dr (Nat.le_refl _) _)
      have hsum : IntKind.i64.wrap ((k : Int) + (m : Int)) = ((k + m : Nat) : Int) := by rw [IntWalk.i64_in _ (by omega)]; omega
      have HMM := hide_ hm
      clear hm hW3
      go_wp2_with fail
      refine wp_region_t (by kernel_rfl) ?_
      refine wpAnyT_take 0 (v := ?_) rfl (by kernel_rfl) (by kernel_rfl) (by kernel_rfl) (fun _ _ _ h => h) (by rfl) (by intro W hSw; go_simp; with_reducible rfl) ?_; try simp only [Act.put, qA, qZ, qS]
      refine wpAnyT_take 1 (v := ?_) rfl (by kernel_rfl) (by kernel_rfl) (by kernel_rfl) (fun _ _ _ h => h) (by rfl) (by intro W hSw; go_simp; with_reducible rfl) ?_; try simp only [Act.put, qA, qZ, qS]
      refine wpAnyT_take 2 (v := ?_) rfl (by kernel_rfl) (by kernel_rfl) (by kernel_rfl) (fun _ _ _ h => h) (by rfl) (by intro W hSw; go_simp; with_reducible rfl) ?_; try simp only [Act.put, qA, qZ, qS]
      refine wpAnyT_take 3 (v := ?_) rfl (by kernel_rfl) (by kernel_rfl) (by kernel_rfl) (fun _ _ _ h => h) (by rfl) (by intro W hSw; go_simp; with_reducible rfl) ?_; try simp only [Act.put, qA, qZ, qS]
      refine wpAnyT_take 4 (v := ?_) rfl (by kernel_rfl) (by kernel_rfl) (by kernel_rfl) (fun _ _ _ h => h) (by rfl) (by intro W hSw; go_simp; with_reducible rfl) ?_; try simp only [Act.put, qA, qZ, qS]
      refine wpAnyT_take 5 (v := ?_) rfl (by kernel_rfl) (by kernel_rfl) (by kernel_rfl) (fun _ _ _ h => h) (by rfl) (by intro W hSw; go_simp; with_reducible rfl) ?_; try simp only [Act.put, qA, qZ, qS]
      refine wpAnyT_take 6 (v := ?_) rfl (by kernel_rfl) (by kernel_rfl) (by kernel_rfl) (fun _ _ _ h => h) (by rfl) (by intro W hSw; go_simp; with_reducible rfl) ?_; try simp only [Act.put, qA, qZ, qS]
      refine wpAnyT_one 7 (by kernel_rfl) rfl (fun K hK => ?_)
      go_simp
      refine hK.out _ _ trivial ?_
      clear hK K; try simp only [Act.put, qA, qZ, qS]
      refine wpAnyT_take 8 (v := ?_) rfl (by kernel_rfl) (by kernel_rfl) (by kernel_rfl) (fun _ _ _ h => h) (by rfl) (by intro W hSw; go_simp; with_reducible rfl) ?_; try simp only [Act.put, qA, qZ, qS]
      refine wpAnyT_take 9 (v := ?_) rfl (by kernel_rfl) (by kernel_rfl) (by kernel_rfl) (fun _ _ _ h => h) (by rfl) (by intro W hSw; go_simp; with_reducible rfl) ?_; try simp only [Act.put, qA, qZ, qS]
      refine wpAnyT_done (by kernel_rfl) ?_ _
      go_wp2_with fail
      go_roundw
      case rel => exact ⟨k + m, hmn, by first | rfl | rw [hsum], hide_ (.inr (by omega)), HG3, HL3⟩
      case measure => simp [intOf]; omega
    · obtain rfl : k = n := by omega
      have q1 : ¬ (k : Int) < (k : Int) := by omega
      go_wp2_with fail
      go_ret
      refine ⟨_, rfl, Nat.le_refl _, ⟨by simp, .inr ⟨_, k, _, rfl, Nat.le_refl _, HG.out, Nat.le_refl _, by unfold maxLen; omega, by rw [List.size_toArray, reps_len (Nat.le_refl _)]; omega, ?_⟩⟩, HL.out⟩
      unfold reps
      simp

end Go.Proofs.YtcmollfhlillfaaGreatDoor
/-
  verdict: Both.
-/
namespace Go.Proofs.YtcmollfhlillfaaGreatDoor
open Go.RowKit
set_option linter.unusedVariables false
set_option linter.unusedSimpArgs false
/-- Rows of numbers that are only read. -/
def RdL (w : World) (b : Nat) (Ls : List (List Int)) : Prop := ∀ i l, Ls[i]? = some l → ∃ A c, w.cell? ⟨b, i, none⟩ = some (.slice A l.length c) ∧ Rd w 1 A l.length (ints l)
theorem RdL.later {w w' : World} {b : Nat} {Ls : List (List Int)} (h : RdL w b Ls) (hl : Later w w') : RdL w' b Ls := fun i l hi => by
  obtain ⟨A, c, h1, h2⟩ := h i l hi
  exact ⟨A, c, (hl.cell (cell_lt h1)).trans h1, h2.below hl⟩
/-- Are all of one length? -/
def oneLen (n0 : Nat) (Ls : List (List Int)) : Bool := Ls.all fun l => l.length == n0
set_option maxRecDepth 100000 in
theorem both1_any {w : World} {A : Option Addr} {n c b n0 c0 m mc bx : Nat} {A0 : Option Addr} (hx : w.cell? ⟨bx, 0, none⟩ = some (.slice (some ⟨b, 0, none⟩) m mc)) (hm : 0 < m) (hmm : m ≤ 64) (h0 : w.cell? ⟨b, 0, none⟩ = some (.slice A0 n0 c0)) :
    Calls Tryz.prog 125 #[.slice A n c, .pointer (some ⟨bx, 0, none⟩)] w fun e w' => e = .returned (.bool (!(n == n0))) ∧ w' = w := by
  have q1 : (0 : Int) < (m : Int) := by omega
  have hb : ((n : Int) != (n0 : Int)) = !(n == n0) := by
    by_cases h : n = n0
    · subst h; simp
    · have h1 : (n == n0) = false := by simpa using h
      have h2 : ((n : Int) == (n0 : Int)) = false := by rw [beq_eq_false_iff_ne]; omega
      simp [h1, h2, bne]
  have HB := hide_ hb
  clear hb
  go_enter Tryz.func125, Tryz.ntmps125
  go_wp2_with fail
  go_ret
  exact ⟨ret_val (congrArg Value.bool HB.out), rfl⟩
set_option maxHeartbeats 2000000 in
set_option maxRecDepth 100000 in
theorem lidx_any {w : World} {b m c bx n0 c0 mc : Nat} {A0 : Option Addr} {Ls : List (List Int)} (hL : RdL w b Ls) (hl : Ls.length = m) (hmm : m ≤ 64) (hm0 : 0 < m) (hx : w.cell? ⟨bx, 0, none⟩ = some (.slice (some ⟨b, 0, none⟩) m mc)) (h0 : w.cell? ⟨b, 0, none⟩ = some (.slice A0 n0 c0)) :
    Calls Tryz.prog 139 #[.slice (some ⟨b, 0, none⟩) m c, .func (.func 125) #[] #[.pointer (some ⟨bx, 0, none⟩)]] w fun e w' => (∃ r : Int, e = .returned (.int .i64 r) ∧ decide (0 ≤ r) = !oneLen n0 Ls) ∧ w' = w := by
  have HL := hide_ hL; have HLN := hide_ hl
  have q0 : (m : Int) ≤ 64 := by omega
  have HX := hide_ hx; have H0 := hide_ h0
  clear hL hl hx h0
  go_enter Tryz.func139, Tryz.ntmps139
  go_wp2_with fail
  go_loop [8] (fun s8 => ∃ i : Nat, i ≤ m ∧ s8 = .int .i64 i ∧ Hid ((Ls.take i).all (fun l => l.length == n0) = true)) (fun i => m - (intOf i).toNat)
  case atStart => exact ⟨0, by omega, rfl, hide_ (by simp)⟩
  case round =>
    obtain ⟨i, hi, rfl, HB⟩ := hrel
    by_cases hlt : i < m
    · obtain ⟨l, hx⟩ : ∃ l, Ls[i]? = some l := ⟨_, List.getElem?_eq_getElem (by rw [HLN.out]; exact hlt)⟩
      have HXX := hide_ hx
      obtain ⟨A, ca, y0, _⟩ := HL.out i l hx
      have q1 : (i : Int) < (m : Int) := by omega
      have HC := hide_ (both1_any (w := w) (A := A) (n := l.length) (c := ca) HX.out hm0 hmm H0.out)
      obtain ⟨nl, hnl⟩ : ∃ n, n = l.length := ⟨_, rfl⟩
      rw [← hnl] at y0 HC
      have HNL := hide_ hnl
      clear hx hnl
      by_cases hpx : nl = n0
      · have hpb : (!(nl == n0)) = false := by simp [hpx]
        rw [hpb] at HC
        have HB1 := hide_ (show (Ls.take (i + 1)).all (fun l => l.length == n0) = true by rw [take_snoc HXX.out, List.all_append, HB.out]; simp [← HNL.out, hpx])
        clear hpx hpb
        go_wp2_with fail
        refine HC.out.mono ?_; rintro e w1 ⟨rfl, rfl⟩
        go_wp2_with fail
        go_round
        case rel => exact ⟨i + 1, by omega, by go_num, HB1⟩
        case measure => simp only [intOf]; omega
      · have hpb : (!(nl == n0)) = true := by simp [hpx]
        rw [hpb] at HC
        have HF := hide_ (show oneLen n0 Ls = false by unfold oneLen; rw [List.all_eq_false]; exact ⟨l, List.mem_of_getElem? HXX.out, by rw [← HNL.out]; simpa using hpx⟩)
        clear hpx hpb
        go_wp2_with fail
        refine HC.out.mono ?_; rintro e w1 ⟨rfl, rfl⟩
        go_wp2_with fail
        go_ret
        exact ⟨⟨_, rfl, by rw [HF.out]; simp⟩, rfl⟩
    · obtain rfl : i = m := by omega
      have HF := hide_ (show oneLen n0 Ls = true by unfold oneLen; have := HB.out; rwa [List.take_of_length_le (by rw [HLN.out]; exact Nat.le_refl _)] at this)
      go_wp2_with fail
      go_ret
      exact ⟨⟨_, rfl, by rw [HF.out]; simp⟩, rfl⟩
theorem lcont_any {w : World} {b m c bx n0 c0 mc : Nat} {A0 : Option Addr} {Ls : List (List Int)} (hL : RdL w b Ls) (hl : Ls.length = m) (hmm : m ≤ 64) (hm0 : 0 < m) (hx : w.cell? ⟨bx, 0, none⟩ = some (.slice (some ⟨b, 0, none⟩) m mc)) (h0 : w.cell? ⟨b, 0, none⟩ = some (.slice A0 n0 c0)) :
    Calls Tryz.prog 124 #[.slice (some ⟨b, 0, none⟩) m c, .func (.func 125) #[] #[.pointer (some ⟨bx, 0, none⟩)]] w fun e w' => e = .returned (.bool (!oneLen n0 Ls)) ∧ w' = w := by
  have HB := hide_ (lidx_any (c := c) hL hl hmm hm0 hx h0)
  clear hL hl hx h0
  go_enter Tryz.func124, Tryz.ntmps124
  go_wp2_with fail
  refine HB.out.mono ?_; rintro e w2 ⟨⟨r, rfl, hr2⟩, rfl⟩
  have HV := hide_ hr2
  clear hr2
  go_wp2_with fail
  go_ret
  exact ⟨ret_val (congrArg Value.bool HV.out), rfl⟩
def maxL (a b : List Int) : List Int := List.zipWith max a b
def foldL (n0 : Nat) (Ls : List (List Int)) : List Int := Ls.foldl maxL (List.replicate n0 1)
theorem rd_lt0 {w : World} {size n : Nat} {A : Option Addr} {xs : List Value} (h : Rd w size A n xs) (h0 : 0 < xs.length) : ∀ a, A = some a → a.block < w.heap.size := by
  obtain ⟨b, o, e, hc⟩ := h.2 h0
  intro a ha
  rw [e] at ha; injection ha with ha; subst ha
  exact cell_lt (hc 0 _ (List.getElem?_eq_getElem h0))
def bothF (n0 : Nat) (Ls : List (List Int)) : List Int × Int := if oneLen n0 Ls = false then ([], 1) else if Ls.all (fun l => l.all isV) = true then (foldL n0 Ls, 0) else ([], 2)
theorem foldL_next {n0 : Nat} {Ls : List (List Int)} {i : Nat} {l : List Int} (h : Ls[i]? = some l) : foldL n0 (Ls.take (i + 1)) = maxL (foldL n0 (Ls.take i)) l := by
  unfold foldL; rw [take_snoc h, List.foldl_append]; rfl
/-- Up to k the greater ones, then as it was. -/
def mixL (O l : List Int) (k : Nat) : List Int := (maxL O l).take k ++ O.drop k
theorem mixL_len {O l : List Int} (h : O.length = l.length) {k : Nat} (hk : k ≤ O.length) : (mixL O l k).length = O.length := by
  unfold mixL maxL
  rw [List.length_append, List.length_take, List.length_zipWith, List.length_drop]; omega
theorem mixL_next {O l : List Int} {k : Nat} {x y : Int} (hx : O[k]? = some x) (hy : l[k]? = some y) : (mixL O l k).set k (max x y) = mixL O l (k + 1) := by
  have hxl := (List.getElem?_eq_some_iff.1 hx).1
  have hyl := (List.getElem?_eq_some_iff.1 hy).1
  have hm : (maxL O l)[k]? = some (max x y) := by unfold maxL; rw [List.getElem?_zipWith, hx, hy]
  have hml := (List.getElem?_eq_some_iff.1 hm).1
  unfold mixL
  rw [take_snoc hm, List.set_append_right _ _ (by rw [List.length_take]; omega), List.length_take, Nat.min_eq_left (by omega), Nat.sub_self, List.append_assoc]
  congr 1
  have e := List.getElem?_eq_some_iff.1 hx
  rw [List.drop_eq_getElem_cons e.1]; rfl
theorem mixL_at {O l : List Int} {k : Nat} {x : Int} (hx : O[k]? = some x) (h : O.length = l.length) : (mixL O l k)[k]? = some x := by
  have hxl := (List.getElem?_eq_some_iff.1 hx).1
  unfold mixL maxL
  rw [List.getElem?_append_right (by rw [List.length_take]; omega), List.length_take, List.length_zipWith, List.getElem?_drop]
  rw [show k + (k - min k (min O.length l.length)) = k by omega]; exact hx
theorem mixL_all {O l : List Int} (h : O.length = l.length) : mixL O l l.length = maxL O l := by
  unfold mixL maxL
  rw [List.take_of_length_le (by rw [List.length_zipWith]; omega), List.drop_of_length_le (by omega), List.append_nil]
def BothPost (w : World) (n0 : Nat) (Ls : List (List Int)) (e : Ending) (w' : World) : Prop := ∃ A c, e = .returned (.tuple #[.slice A (bothF n0 Ls).1.length c, .int .i64 (bothF n0 Ls).2]) ∧ w'.ownsRow w.heap.size 3 1 (.slice A (bothF n0 Ls).1.length c) (bothF n0 Ls).1.length (ints (bothF n0 Ls).1) ∧ Later w w'
set_option maxHeartbeats 8000000 in
set_option maxRecDepth 100000 in
theorem both_any {w : World} {b m n0 mc : Nat} {Ls : List (List Int)} {l0 : List Int} (hL : RdL w b Ls) (hl : Ls.length = m) (hmm : m ≤ 64) (h0 : Ls[0]? = some l0) (hn0 : l0.length = n0) (hn : n0 ≤ 4096) :
    Calls Tryz.prog 98 #[.slice (some ⟨b, 0, none⟩) m mc] w (BothPost w n0 Ls) := by
  have hm0 : 0 < m := by rw [← hl]; exact (List.getElem?_eq_some_iff.1 h0).1
  obtain ⟨A0, c0, hc0, _⟩ := hL 0 l0 h0
  rw [hn0] at hc0
  obtain ⟨W1, hW1⟩ : ∃ W, W = w.alloc (.cells #[.slice (some ⟨b, 0, none⟩) m mc] 41) := ⟨_, rfl⟩
  have hl1 : Later w W1 := by rw [hW1]; exact later_alloc _ _
  have hb1 : W1.heap[w.heap.size]? = some (.cells #[.slice (some ⟨b, 0, none⟩) m mc] 41 (0, 0)) := by rw [hW1]; exact heap_alloc_new _ _
  have x0 : W1.cell? ⟨w.heap.size, 0, none⟩ = some (.slice (some ⟨b, 0, none⟩) m mc) := cell_of_row _ _ 0 _ _ (0, 0) hb1
  have c00 : W1.cell? ⟨b, 0, none⟩ = some (.slice A0 n0 c0) := (hl1.cell (cell_lt hc0)).trans hc0
  have HCT := hide_ (lcont_any (c := mc) (hL.later hl1) hl hmm hm0 x0 c00)
  have q0 : ((m : Int) == 0) = false := by rw [beq_eq_false_iff_ne]; omega
  have q1 : (0 : Int) < (m : Int) := by omega
  have q2 : (m : Int) ≤ 64 := by omega
  have HL := hide_ (hL.later hl1); have HLN := hide_ hl; have HW := hide_ hW1; have HL1 := hide_ hl1; have HB1 := hide_ hb1
  obtain ⟨ol, hol⟩ : ∃ x, x = oneLen n0 Ls := ⟨_, rfl⟩
  rw [← hol] at HCT
  have HOL := hide_ hol
  clear hL hl h0 hc0 hW1 hl1 hb1 hol
  go_enter Tryz.func98, Tryz.ntmps98
  go_wp2_with (rw [← HW.out])
  refine HCT.out.mono ?_; rintro e w2 ⟨rfl, rfl⟩
  cases ol with
  | false =>
    have HF := hide_ (show bothF n0 Ls = ([], 1) by unfold bothF; rw [if_pos HOL.out.symm])
    go_wp2_with fail
    go_ret2
    exact ⟨none, 0, by rw [HF.out]; rfl, by rw [HF.out]; exact World.ownsRow_nil _ _ _ _, HL1.out⟩
  | true =>
    clear HCT
    have xlt := cell_lt x0
    have blt := cell_lt c00
    go_wp2_with fail
    have hr1 : (w2.alloc (.cells #[.int .i64 1] 3)).heap[w2.heap.size]? = some (.cells #[.int .i64 1] 3 (0, 0)) := heap_alloc_new _ _
    refine (repeat_any hr1 hn).mono ?_; rintro e w3 ⟨g, rfl, hgge, ho3, hl3⟩
    have hl23 := (later_alloc w2 (.cells #[.int .i64 1] 3)).trans hl3
    have x3 : w3.cell? ⟨w.heap.size, 0, none⟩ = some (.slice (some ⟨b, 0, none⟩) m mc) := (hl23.cell xlt).trans x0
    have HG := hide_ (show w2.heap.size ≤ g by simp at hgge; omega)
    have HO := hide_ (show w3.ownsRow w2.heap.size 3 1 (.slice (some ⟨g, 0, none⟩) n0 n0) n0 (ints (List.replicate n0 1)) by
      have h1 := own_base (base' := w2.heap.size) ho3 (by simp)
      rwa [show ints (List.replicate n0 1) = List.replicate n0 (.int .i64 1) by unfold ints; rw [List.map_replicate]])
    have HL23 := hide_ hl23
    clear hr1 hgge ho3 hl3 hl23 x0 c00 xlt blt
    go_wp2_with fail
    go_loopw [6, 7, 8, 25] (fun s6 s7 s8 s25 wr => ∃ i : Nat, i ≤ m ∧ s25 = .int .i64 i ∧ Hid (wr.ownsRow w2.heap.size 3 1 (.slice (some ⟨g, 0, none⟩) n0 n0) n0 (ints (foldL n0 (Ls.take i)))) ∧ Hid ((foldL n0 (Ls.take i)).length = n0) ∧ Hid ((Ls.take i).all (fun l => l.all isV) = true) ∧ Hid (Later w2 wr)) (fun _ _ _ i _ => m - (intOf i).toNat)
    case atStart => exact ⟨0, by omega, rfl, HO, hide_ (by simp [foldL]), hide_ (by simp), HL23⟩
    case round =>
      obtain ⟨i, hi, rfl, HOI, HLI, HAI, HLW⟩ := hrel
      by_cases hlt : i < m
      · obtain ⟨l, hx⟩ : ∃ l, Ls[i]? = some l := ⟨_, List.getElem?_eq_getElem (by rw [HLN.out]; exact hlt)⟩
        have HXX := hide_ hx
        obtain ⟨A, ca, y00, rl0⟩ := HL.out i l hx
        have y0 := (HLW.out.cell (cell_lt y00)).trans y00
        have rl := rl0.below HLW.out
        have hll : l.length = n0 := by
          have h1 := HOL.out.symm
          unfold oneLen at h1
          have := List.all_eq_true.1 h1 l (List.mem_of_getElem? hx)
          simpa using this
        rw [hll] at y0 rl
        have q3 : (i : Int) < (m : Int) := by omega
        have HRLB := hide_ (show 0 < n0 → ∀ a, A = some a → a.block < w2.heap.size from fun h0 => rd_lt0 rl0 (by unfold ints; rw [List.length_map, hll]; exact h0))
        have HRL := hide_ rl; have HLL := hide_ hll
        have q4 : (n0 : Int) ≤ 4096 := by omega
        clear hx rl hll rl0 y00
        obtain ⟨wo, ewo⟩ : ∃ wo, wo = wr := ⟨_, rfl⟩
        rw [← ewo] at HOI HLW HRL y0 ⊢
        clear ewo
        go_wp2_with fail
        go_loopw [7, 8, 31] (fun s7 s8 s31 wr => ∃ k : Nat, k ≤ n0 ∧ s31 = .int .i64 k ∧ Hid (wr.ownsRow w2.heap.size 3 1 (.slice (some ⟨g, 0, none⟩) n0 n0) n0 (ints (mixL (foldL n0 (Ls.take i)) l k))) ∧ Hid ((l.take k).all isV = true) ∧ Hid (Later w2 wr) ∧ Hid (Hits (· = g) wo wr)) (fun _ _ i _ => n0 - (intOf i).toNat)
        case atStart => exact ⟨0, by omega, rfl, hide_ (by unfold mixL; simpa using HOI.out), hide_ (by simp), HLW, hide_ (Hits.refl _ _)⟩
        case round =>
          obtain ⟨k, hk, rfl, HOK, HAK, HLK, HHK⟩ := hrel
          by_cases hlt2 : k < n0
          · obtain ⟨v, hv⟩ : ∃ v, l[k]? = some v := ⟨_, List.getElem?_eq_getElem (by rw [HLL.out]; exact hlt2)⟩
            obtain ⟨bv, ov, eA, y1⟩ := (HHK.out.rd HRL.out (fun a ha e => by have h1 := HRLB.out (by omega) a ha; have h2 := HG.out; omega)).int hv
            subst eA
            obtain ⟨x, hxx⟩ : ∃ x, (foldL n0 (Ls.take i))[k]? = some x := ⟨_, List.getElem?_eq_getElem (by rw [HLI.out]; exact hlt2)⟩
            obtain ⟨bg, og, eG, y2⟩ := (Rd.of_own HOK.out).int (mixL_at hxx (by rw [HLI.out, HLL.out]))
            injection eG with eG; injection eG with eG1 eG2 _
            subst eG1 eG2
            rw [Nat.zero_add] at y2
            have q5 : (k : Int) < (n0 : Int) := by omega
            have HIV := hide_ (is_any v wr)
            have HNX := hide_ (mixL_next (O := foldL n0 (Ls.take i)) (l := l) hxx hv)
            have HVV := hide_ hv
            have hfz := frozen_own HOK.out (show (Value.slice (some ⟨g, 0, none⟩) n0 n0).ownBlock = some g from rfl) k
            clear hv hxx
            by_cases hiv : isV v = true
            · rw [hiv] at HIV
              have HAK2 := hide_ (show (l.take (k + 1)).all isV = true by rw [take_snoc HVV.out, List.all_append, HAK.out]; simp [hiv])
              clear hiv
              go_wp2_with fail
              refine HIV.out.mono ?_; rintro e w5 ⟨rfl, rfl⟩
              go_wp2_with fail
              have ho5 := own_setCell HOK.out k (.int .i64 (max x v))
              have e5 : (ints (mixL (foldL n0 (Ls.take i)) l k)).set k (.int .i64 (max x v)) = ints (mixL (foldL n0 (Ls.take i)) l (k + 1)) := by
                rw [← HNX.out]; unfold ints; rw [List.map_set]
              rw [e5] at ho5
              have hh5 := HHK.out.setCell (g := g) (fun _ => rfl) k (.int .i64 (max x v))
              have hl5 : Later w2 (w5.setCell ⟨g, k, none⟩ (.int .i64 (max x v))) := Below.trans HLW.out (hh5.below (B := w2.heap.size) HLW.out.size fun q hq => by rw [hq]; exact HG.out)
              go_roundw
              case rel => exact ⟨k + 1, by omega, by go_num, hide_ ho5, HAK2, hide_ hl5, hide_ hh5⟩
              case measure => simp [intOf]; omega
            · have hiv : isV v = false := by simpa using hiv
              rw [hiv] at HIV
              have HF := hide_ (show bothF n0 Ls = ([], 2) by
                unfold bothF
                rw [if_neg (by rw [← HOL.out]; simp), if_neg]
                rw [Bool.not_eq_true, List.all_eq_false]
                exact ⟨l, List.mem_of_getElem? HXX.out, by rw [Bool.not_eq_true, List.all_eq_false]; exact ⟨v, List.mem_of_getElem? HVV.out, by rw [hiv]; decide⟩⟩)
              clear hiv
              go_wp2_with fail
              refine HIV.out.mono ?_; rintro e w5 ⟨rfl, rfl⟩
              go_wp2_with fail
              go_ret2
              exact ⟨none, 0, by rw [HF.out]; rfl, by rw [HF.out]; exact World.ownsRow_nil _ _ _ _, HL1.out.trans HLK.out⟩
          · obtain rfl : k = n0 := by omega
            have q5 : ¬ (k : Int) < (k : Int) := by omega
            have HNX := hide_ (foldL_next (n0 := k) HXX.out)
            have HMX := hide_ (show mixL (foldL k (Ls.take i)) l k = foldL k (Ls.take (i + 1)) by rw [HNX.out]; have h1 := mixL_all (O := foldL k (Ls.take i)) (l := l) (by rw [HLI.out, HLL.out]); rwa [HLL.out] at h1)
            go_wp2_with fail
            go_roundw
            case rel => exact ⟨i + 1, by omega, by go_num, hide_ (by rw [← HMX.out]; exact HOK.out), hide_ (by rw [HNX.out]; unfold maxL; rw [List.length_zipWith, HLI.out, HLL.out]; omega), hide_ (by rw [take_snoc HXX.out, List.all_append, HAI.out]; have h1 := HAK.out; rw [List.take_of_length_le (by rw [HLL.out]; exact Nat.le_refl _)] at h1; simp [h1]), HLK⟩
            case measure => simp [intOf]; omega
      · obtain rfl : i = m := by omega
        have hta : Ls.take i = Ls := List.take_of_length_le (by rw [HLN.out]; exact Nat.le_refl _)
        have HF := hide_ (show bothF n0 Ls = (foldL n0 Ls, 0) by unfold bothF; rw [if_neg (by rw [← HOL.out]; simp), if_pos (by have := HAI.out; rwa [hta] at this)])
        have HFL := hide_ (show (foldL n0 Ls).length = n0 by have := HLI.out; rwa [hta] at this)
        have HOF := hide_ (show wr.ownsRow w2.heap.size 3 1 (.slice (some ⟨g, 0, none⟩) n0 n0) n0 (ints (foldL n0 Ls)) by have := HOI.out; rwa [hta] at this)
        have q5 : ¬ (i : Int) < (i : Int) := by omega
        clear hta
        go_wp2_with fail
        go_ret2
        refine ⟨some ⟨g, 0, none⟩, n0, ?_, ?_, HL1.out.trans HLW.out⟩
        · rw [HF.out]; simp only [HFL.out]; rfl
        · rw [HF.out]; simp only [HFL.out]; exact own_base HOF.out HL1.out.size

end Go.Proofs.YtcmollfhlillfaaGreatDoor
/-
  change: Clone.
-/
namespace Go.Proofs.YtcmollfhlillfaaGreatDoor
open Go.RowKit
set_option linter.unusedVariables false
set_option linter.unusedSimpArgs false
theorem strclone_any (s : ByteArray) (w : World) (h : s.size ≤ 1048576) : Calls Tryz.prog 141 #[.string s] w fun e w' => e = .returned (.string s) ∧ Later w w' := by
  have HB := hide_ (stringslite_Clone s w (by omega))
  go_enter Tryz.func141, Tryz.ntmps141
  go_wp2_with fail
  refine HB.out.mono ?_; rintro e w2 ⟨rfl, hl⟩
  have HL := hide_ hl
  clear hl
  go_wp2_with fail
  go_ret
  exact ⟨rfl, HL.out⟩
set_option maxHeartbeats 2000000 in
set_option maxRecDepth 100000 in
theorem clone_chg {w : World} {A : Option Addr} {n c : Nat} {xs : List Value} (hr : Rd w 3 A n xs) (h1 : ∀ u ∈ xs, u.oneCell' = true) (hn : n ≤ 1099511627776) (hA : A = none → n = 0) :
    Calls Tryz.prog 140 #[.slice A n c] w (ClonePost w 142 3 n A xs) := by
  have HR := hide_ hr; have H1 := hide_ h1
  rcases A with _ | a
  · have hn0 : n = 0 := hA rfl
    subst hn0
    have hx : xs = [] := List.eq_nil_of_length_eq_zero (by have := hr.1; omega)
    subst hx
    clear hr h1 hA HR H1
    have hnil := eql_slice_nil_any (P := Tryz.prog) Tryz.underlying28 w none 0 c 0 0
    go_enter Tryz.func140, Tryz.ntmps140
    go_wp2_with fail
    go_ret
    exact ⟨none, 0, rfl, World.ownsRow_nil _ _ _ _, Later.refl _, Iff.rfl⟩
  · clear hr h1 hA
    have hnil := eql_slice_nil_any (P := Tryz.prog) Tryz.underlying28 w (some a) n c 0 0
    have hn2 : (n : Int) ≤ 1099511627776 := by omega
    go_enter Tryz.func140, Tryz.ntmps140
    go_wp2_with (at_builtin; refine wpList_append_rd _ rfl (.tmp 5) (.tmp 6) 28 rfl w.heap.size 142 3 40 chgT (.slice (some ⟨w.heap.size, 0, none⟩) 0 0) 0 [] rfl (own_new w #[] 142 3 0 w.heap.size rfl (by unfold maxLen; omega) (Nat.le_refl _)) (some a) n c xs rfl (HR.out.alloc _) H1.out (by omega) (by unfold maxLen; omega) (by simp) (fun h => by cases h) ?c8)
    case c8 =>
      intro v9 w9 hown hg hat
      obtain ⟨A9, c9, hv9⟩ := own_form hown
      subst hv9
      have HN := hide_ (show A9 ≠ none from fun h => by subst h; rcases hat with h | h <;> cases h)
      have HB := hide_ (show Later w w9 from own_grown (later_alloc w (.cells #[] 142)) (own_new w #[] 142 3 0 w.heap.size rfl (by unfold maxLen; omega) (Nat.le_refl _)) hg (by simp))
      have HO := hide_ (show w9.ownsRow w.heap.size 142 3 (.slice A9 n c9) n xs by simpa using hown)
      clear hown hg hat
      go_wp2_with fail
      go_ret
      exact ⟨A9, c9, rfl, HO.out, HB.out, ⟨fun h => absurd h HN.out, fun h => by cases h⟩⟩
/-- A cell that holds it already. -/
theorem setCell_id {w : World} {b o : Nat} {u : Value} (h : w.cell? ⟨b, o, none⟩ = some u) : w.setCell ⟨b, o, none⟩ u = w := by
  have hlt := cell_lt h
  obtain ⟨ob, hob⟩ : ∃ ob, w.heap[b]? = some ob := ⟨_, Array.getElem?_eq_getElem hlt⟩
  unfold World.cell? at h
  rw [hob] at h
  cases ob with
  | cells cs t fz =>
    simp only at h
    have hs : (w.setCell ⟨b, o, none⟩ u).heap = w.heap := by
      apply Array.ext_getElem?
      intro k
      by_cases hk : k = b
      · subst hk
        have h1 : (w.setCell ⟨k, o, none⟩ u).heap[k]? = some (.cells (cs.setIfInBounds o u) t fz) := by rw [setCell_eq_setRow w k o cs t fz u hob]; exact setRow_heap w k cs _ t _ hob
        rw [h1, hob]
        congr 2
        apply Array.ext_getElem?
        intro j
        by_cases hj : j = o
        · subst hj
          have h2 := Array.getElem?_eq_some_iff.1 h
          simp [Array.getElem?_setIfInBounds, h2.1, h2.2]
        · simp [Array.getElem?_setIfInBounds, Ne.symm hj]
      · exact Below.heap_setCell w _ u k hk
    cases w
    simp only [World.setCell] at hs ⊢
    rw [hs]
  | _ => cases h
theorem chg_cells {w : World} {base g n c : Nat} {L : List Chg} (ho : w.ownsRow base 142 3 (.slice (some ⟨g, 0, none⟩) n c) n (crow L)) (hl : L.length = n) {i : Nat} {x : Chg} (hx : L[i]? = some x) :
    w.cell? ⟨g, i * 3, none⟩ = some (.int .i64 x.1) ∧ w.cell? ⟨g, i * 3 + 1, none⟩ = some (.string x.2.1) ∧ w.cell? ⟨g, i * 3 + 2, none⟩ = some (.string x.2.2) := by
  have hlt := (List.getElem?_eq_some_iff.1 hx).1
  have hlen : (crow L).length = n * 3 := ho.1
  obtain ⟨b, o, e, hc⟩ := (Rd.of_own ho).2 (by omega)
  injection e with e; injection e with e1 e2 _
  subst e1 e2
  have h4 : ∀ d ∈ L.map encC, d.length = 3 := fun d hd => by obtain ⟨y, _, rfl⟩ := List.mem_map.1 hd; exact encC_len y
  have ef : crow L = (L.map encC).flatten := by unfold crow; rw [List.flatMap_def]
  have hi : (L.map encC)[i]? = some (encC x) := by rw [List.getElem?_map, hx]; rfl
  have f0 := rflat_at h4 hi 0 (by omega)
  have f1 := rflat_at h4 hi 1 (by omega)
  have f2 := rflat_at h4 hi 2 (by omega)
  rw [← ef] at f0 f1 f2
  have g0 := hc (i * 3 + 0) (.int .i64 x.1) f0
  have g1 := hc (i * 3 + 1) (.string x.2.1) f1
  have g2 := hc (i * 3 + 2) (.string x.2.2) f2
  simp only [Nat.zero_add, Nat.add_zero] at g0 g1 g2
  exact ⟨g0, g1, g2⟩
def ClnPost (w : World) (L : List Chg) (e : Ending) (w' : World) : Prop := ∃ A c, e = .returned (.slice A L.length c) ∧ w'.ownsRow w.heap.size 142 3 (.slice A L.length c) L.length (crow L) ∧ Later w w'
set_option maxHeartbeats 8000000 in
set_option maxRecDepth 100000 in
theorem chgclone_any {w : World} {A : Option Addr} {n c : Nat} {L : List Chg} (hr : Rd w 3 A n (crow L)) (hl : L.length = n) (hn : n ≤ 1048576) (hA : A = none → n = 0) (hs : ∀ x ∈ L, x.2.1.size ≤ 1048576 ∧ x.2.2.size ≤ 1048576) (h1 : ∀ u ∈ crow L, u.oneCell' = true) :
    Calls Tryz.prog 128 #[.slice A n c] w (ClnPost w L) := by
  have HC := hide_ (clone_chg (c := c) hr h1 (by omega) hA)
  have HLN := hide_ hl; have HS := hide_ hs
  have hn2 : (n : Int) ≤ 1048576 := by omega
  clear hr hl hA hs h1
  go_enter Tryz.func128, Tryz.ntmps128
  go_wp2_with fail
  refine HC.out.mono ?_; rintro e w2 ⟨A2, c2, rfl, ho2, hl2, _⟩
  have HO := hide_ ho2; have HL2 := hide_ hl2
  clear ho2 hl2 HC
  go_wp2_with fail
  go_loopw [4, 9] (fun s4 s9 wr => ∃ i : Nat, i ≤ n ∧ s9 = .int .i64 i ∧ Hid (Later w2 wr)) (fun _ i _ => n - (intOf i).toNat)
  case atStart => exact ⟨0, by omega, rfl, hide_ (Later.refl _)⟩
  case round =>
    obtain ⟨i, hi, rfl, HLW⟩ := hrel
    by_cases hlt : i < n
    · obtain ⟨x, hx⟩ : ∃ x, L[i]? = some x := ⟨_, List.getElem?_eq_getElem (by rw [HLN.out]; exact hlt)⟩
      have hA2 : ∃ g, A2 = some ⟨g, 0, none⟩ := by
        rcases HO.out.2 with ⟨hv, h0⟩ | ⟨g, cap, cur, hv, _⟩
        · omega
        · injection hv with hv; exact ⟨g, hv⟩
      obtain ⟨g, rfl⟩ := hA2
      have hoW := own_later HO.out HLW.out
      obtain ⟨_, y1, y2⟩ := chg_cells hoW HLN.out hx
      have hsz := HS.out x (List.mem_of_getElem? hx)
      have q1 : (i : Int) < (n : Int) := by omega
      have q2 : (0 : Int) ≤ (i : Int) := by omega
      have HSZ := hide_ hsz
      have HY1 := hide_ y1; have HY2 := hide_ y2; have HOW := hide_ hoW
      have k1 := Stands.cell (X := fun k => k = g) y1 rfl
      have k2 := Stands.cell (X := fun k => k = g) y2 rfl
      obtain ⟨wo, ewo⟩ : ∃ wo, wo = wr := ⟨_, rfl⟩
      rw [← ewo] at HOW HLW HY1 HY2 k1 k2 ⊢
      have HF := hide_ (fun (W : World) (hW : Later wo W) (j : Nat) => (show W.frozen? ⟨g, j, none⟩ = false from frozen_own (own_later HOW.out hW) rfl j))
      clear hx hoW y1 y2 hsz ewo
      go_wp2_with fail
      refine wp_region_z (R := Stands (fun k => k = g)) [18, 21] (by kernel_rfl) ?_
      refine wpAnyZ_pure (Stands.steady (fun k => k = g)) 0 (v := ?_) rfl (by kernel_rfl) (by kernel_rfl) (by kernel_rfl) (fun _ _ _ h => h) (by rfl) (by intro W; go_simp; with_reducible rfl) ?_; try simp only [Act.put, qA, qZ, qS]
      refine wpAnyZ_pure (Stands.steady (fun k => k = g)) 1 (v := ?_) rfl (by kernel_rfl) (by kernel_rfl) (by kernel_rfl) (fun _ _ _ h => h) (by rfl) (by intro W; go_simp; with_reducible rfl) ?_; try simp only [Act.put, qA, qZ, qS]
      refine wpAnyZ_pure (Stands.steady (fun k => k = g)) 2 (v := ?_) rfl (by kernel_rfl) (by kernel_rfl) (by kernel_rfl) (fun _ _ _ h => h) (by rfl) (by intro W; go_simp; with_reducible rfl) ?_; try simp only [Act.put, qA, qZ, qS]
      refine wpAnyZ_pure (Stands.steady (fun k => k = g)) 3 (v := ?_) rfl (by kernel_rfl) (by kernel_rfl) (by kernel_rfl) (fun _ _ _ h => h) (by rfl) (by intro W; go_simp; with_reducible rfl) ?_; try simp only [Act.put, qA, qZ, qS]
      refine wpAnyZ_pure (Stands.steady (fun k => k = g)) 4 (v := ?_) rfl (by kernel_rfl) (by kernel_rfl) (by kernel_rfl) (fun _ _ _ h => h) (by rfl) (by intro W; go_simp; with_reducible rfl) ?_; try simp only [Act.put, qA, qZ, qS]
      refine wpAnyZ_pure (Stands.steady (fun k => k = g)) 5 (v := ?_) rfl (by kernel_rfl) (by kernel_rfl) (by kernel_rfl) (fun _ _ _ h => h) (by rfl) (by intro W; go_simp; with_reducible rfl) ?_; try simp only [Act.put, qA, qZ, qS]
      refine wpAnyZ_pure (Stands.steady (fun k => k = g)) 6 (v := ?_) rfl (by kernel_rfl) (by kernel_rfl) (by kernel_rfl) (fun _ _ _ h => h) (by rfl) (by intro W; go_simp; with_reducible rfl) ?_; try simp only [Act.put, qA, qZ, qS]
      refine wpAnyZ_pure (Stands.steady (fun k => k = g)) 7 (v := ?_) rfl (by kernel_rfl) (by kernel_rfl) (by kernel_rfl) (fun _ _ _ h => h) (by rfl) (by intro W; go_simp; with_reducible rfl) ?_; try simp only [Act.put, qA, qZ, qS]
      refine wpAnyZ_take (Stands.steady (fun k => k = g)) 8 (v := ?_) rfl (by kernel_rfl) (by kernel_rfl) (by kernel_rfl) (by kernel_rfl) (fun _ _ _ h => h) (by rfl) (by intro W hSw; have hS0 := Stands.trans (show Stands (fun k => k = g) wo _ from by repeat first | with_reducible assumption | with_reducible exact Stands.refl _ _ | with_reducible refine Stands.alloc ?_ _ | with_reducible refine Stands.drew ?_ | with_reducible refine Stands.drewL ?_ | with_reducible refine Stands.setCell ?_ (by assumption) _ _ | assumption | refine Stands.trans ?_ (by assumption)) hSw; go_simp; with_reducible rfl) ?_; try simp only [Act.put, qA, qZ, qS]
      refine wpAnyZ_pure (Stands.steady (fun k => k = g)) 10 (v := ?_) rfl (by kernel_rfl) (by kernel_rfl) (by kernel_rfl) (fun _ _ _ h => h) (by rfl) (by intro W; go_simp; with_reducible rfl) ?_; try simp only [Act.put, qA, qZ, qS]
      refine wpAnyZ_pure (Stands.steady (fun k => k = g)) 11 (v := ?_) rfl (by kernel_rfl) (by kernel_rfl) (by kernel_rfl) (fun _ _ _ h => h) (by rfl) (by intro W; go_simp; with_reducible rfl) ?_; try simp only [Act.put, qA, qZ, qS]
      refine wpAnyZ_pure (Stands.steady (fun k => k = g)) 12 (v := ?_) rfl (by kernel_rfl) (by kernel_rfl) (by kernel_rfl) (fun _ _ _ h => h) (by rfl) (by intro W; go_simp; with_reducible rfl) ?_; try simp only [Act.put, qA, qZ, qS]
      refine wpAnyZ_pure (Stands.steady (fun k => k = g)) 13 (v := ?_) rfl (by kernel_rfl) (by kernel_rfl) (by kernel_rfl) (fun _ _ _ h => h) (by rfl) (by intro W; go_simp; with_reducible rfl) ?_; try simp only [Act.put, qA, qZ, qS]
      refine wpAnyZ_take (Stands.steady (fun k => k = g)) 14 (v := ?_) rfl (by kernel_rfl) (by kernel_rfl) (by kernel_rfl) (by kernel_rfl) (fun _ _ _ h => h) (by rfl) (by intro W hSw; have hS0 := Stands.trans (show Stands (fun k => k = g) wo _ from by repeat first | with_reducible assumption | with_reducible exact Stands.refl _ _ | with_reducible refine Stands.alloc ?_ _ | with_reducible refine Stands.drew ?_ | with_reducible refine Stands.drewL ?_ | with_reducible refine Stands.setCell ?_ (by assumption) _ _ | assumption | refine Stands.trans ?_ (by assumption)) hSw; go_simp; with_reducible rfl) ?_; try simp only [Act.put, qA, qZ, qS]
      refine wpAnyZ_one 9 (by kernel_rfl) rfl (fun K hK => ?_)
      go_simp
      refine (strclone_any x.2.1 _ HSZ.out.1).mono ?_; rintro e w5 ⟨rfl, hl5⟩; have hs5 : Stands (fun k => k = g) _ w5 := Stands.of_later hl5; have hl05 : Later wo w5 := Later.trans (Later.refl wo).dr hl5; have f51 := HF.out w5 hl05 (i * 3 + 1); have f52 := HF.out w5 hl05 (i * 3 + 2); have c51 := (hl05.cell (cell_lt HY1.out)).trans HY1.out; have c52 := (hl05.cell (cell_lt HY2.out)).trans HY2.out
      refine hK.out _ _ (by repeat first | with_reducible assumption | with_reducible exact Stands.refl _ _ | with_reducible refine Stands.alloc ?_ _ | with_reducible refine Stands.drew ?_ | with_reducible refine Stands.drewL ?_ | with_reducible refine Stands.setCell ?_ (by assumption) _ _ | assumption | refine Stands.of_later ?_) ?_
      clear hK K; try simp only [Act.put, qA, qZ, qS]
      refine wpAnyZ_one 15 (by kernel_rfl) rfl (fun K hK => ?_)
      go_simp
      refine (strclone_any x.2.2 _ HSZ.out.2).mono ?_; rintro e w6 ⟨rfl, hl6⟩; have hs6 : Stands (fun k => k = g) _ w6 := Stands.of_later hl6; have hl06 := hl05.trans hl6; have f61 := HF.out w6 hl06 (i * 3 + 1); have f62 := HF.out w6 hl06 (i * 3 + 2); have c61 := (hl06.cell (cell_lt HY1.out)).trans HY1.out; have c62 := (hl06.cell (cell_lt HY2.out)).trans HY2.out
      refine hK.out _ _ (by repeat first | with_reducible assumption | with_reducible exact Stands.refl _ _ | with_reducible refine Stands.alloc ?_ _ | with_reducible refine Stands.drew ?_ | with_reducible refine Stands.drewL ?_ | with_reducible refine Stands.setCell ?_ (by assumption) _ _ | assumption | refine Stands.of_later ?_) ?_
      clear hK K; try simp only [Act.put, qA, qZ, qS]
      refine wpAnyZ_pure (Stands.steady (fun k => k = g)) 16 (v := ?_) rfl (by kernel_rfl) (by kernel_rfl) (by kernel_rfl) (fun _ _ _ h => h) (by rfl) (by intro W; go_simp; with_reducible rfl) ?_; try simp only [Act.put, qA, qZ, qS]
      refine wpAnyZ_pure (Stands.steady (fun k => k = g)) 17 (v := ?_) rfl (by kernel_rfl) (by kernel_rfl) (by kernel_rfl) (fun _ _ _ h => h) (by rfl) (by intro W; go_simp; with_reducible rfl) ?_; try simp only [Act.put, qA, qZ, qS]
      refine wpAnyZ_loud 18 (by kernel_rfl) (by rfl) rfl (fun K hK => ?_)
      go_simp
      refine hK.out _ _ ?_
      clear hK K; try simp only [Act.put, qA, qZ, qS]
      refine wpAnyZ_pure (Stands.steady (fun k => k = g)) 19 (v := ?_) rfl (by kernel_rfl) (by kernel_rfl) (by kernel_rfl) (fun _ _ _ h => h) (by rfl) (by intro W; go_simp; with_reducible rfl) ?_; try simp only [Act.put, qA, qZ, qS]
      refine wpAnyZ_pure (Stands.steady (fun k => k = g)) 20 (v := ?_) rfl (by kernel_rfl) (by kernel_rfl) (by kernel_rfl) (fun _ _ _ h => h) (by rfl) (by intro W; go_simp; with_reducible rfl) ?_; try simp only [Act.put, qA, qZ, qS]
      refine wpAnyZ_loud 21 (by kernel_rfl) (by rfl) rfl (fun K hK => ?_)
      go_simp
      refine hK.out _ _ ?_
      clear hK K; try simp only [Act.put, qA, qZ, qS]
      refine wpAnyZ_done (by kernel_rfl) ?_ _
      rw [setCell_id c61, setCell_id c62]
      have HLX := hide_ (HLW.out.trans hl06)
      clear k1 k2 hl5 hs5 hl05 f51 f52 c51 c52 hl6 hs6 hl06 f61 f62 c61 c62
      go_wp2_with fail
      go_roundw
      case rel => exact ⟨i + 1, by omega, by go_num, HLX⟩
      case measure => simp [intOf]; omega
    · obtain rfl : i = n := by omega
      have q1 : ¬ (i : Int) < (i : Int) := by omega
      go_wp2_with fail
      go_ret
      rw [show i = L.length from HLN.out.symm] at HO ⊢
      exact ⟨A2, c2, rfl, own_later HO.out HLW.out, HL2.out.trans HLW.out⟩

end Go.Proofs.YtcmollfhlillfaaGreatDoor
