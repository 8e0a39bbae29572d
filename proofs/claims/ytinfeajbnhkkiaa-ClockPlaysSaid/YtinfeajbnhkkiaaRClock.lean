/-
  The document's clock in memory: without, Stop.
-/
import Derived.Test.YtinfeajbnhkkiaaCAwake
namespace Go.Proofs.Ytinfeajbnhkkiaa
open Go.RowKit
set_option linter.unusedVariables false
set_option linter.unusedSimpArgs false
def encL (x : Bel) : List Value := [.int .i64 x.1, .int .i64 x.2]
def brow (L : List Bel) : List Value := L.flatMap encL
theorem encL_len (x : Bel) : (encL x).length = 2 := rfl
theorem encL_one (x : Bel) : ∀ u ∈ encL x, u.oneCell' = true := by
  intro u hu
  simp only [encL, List.mem_cons, List.not_mem_nil, or_false] at hu
  rcases hu with rfl | rfl <;> rfl
theorem brow_one (L : List Bel) : ∀ u ∈ brow L, u.oneCell' = true := rec_one encL_one L
theorem brow_len (L : List Bel) : (brow L).length = L.length * 2 := rec_len encL_len L
theorem brow_append (A B : List Bel) : brow (A ++ B) = brow A ++ brow B := by simp [brow]
theorem brow_snoc (L : List Bel) (x : Bel) : brow (L ++ [x]) = brow L ++ encL x := by simp [brow]
theorem bellT : ElemT Try.prog 37 55 2 16 := elem_mk (z := .agg #[.int .i64 0, .int .i64 0]) Try.underlying37 (by kernel_rfl) rfl (by decide)
theorem Rd.bell {w : World} {A : Option Addr} {n : Nat} {L : List Bel} (h : Rd w 2 A n (brow L)) {i : Nat} {x : Bel} (hi : L[i]? = some x) :
    ∃ b o, A = some ⟨b, o, none⟩ ∧ w.cell? ⟨b, o + i * 2, none⟩ = some (.int .i64 x.1) ∧ w.cell? ⟨b, o + i * 2 + 1, none⟩ = some (.int .i64 x.2) := by
  have e0 : (brow L)[i * 2 + 0]? = some (.int .i64 x.1) := rec_at encL_len hi 0 (by omega)
  have e1 : (brow L)[i * 2 + 1]? = some (.int .i64 x.2) := rec_at encL_len hi 1 (by omega)
  obtain ⟨b, o, e, hc⟩ := h.2 (by have := (List.getElem?_eq_some_iff.1 e0).1; omega)
  exact ⟨b, o, e, hc _ _ e0, hc _ _ e1⟩
def RAt (w : World) (R : Nat) (t : Int) (v : Value) : Prop := w.heap[R]? = some (.cells #[.int .i64 t, v] 39 (0, 0))
/-- The document's clock stands here. -/
def RK (w : World) (R : Nat) (t : Int) (L : List Bel) : Prop := ∃ A n c, RAt w R t (.slice A n c) ∧ Rd w 2 A n (brow L) ∧ L.length = n ∧ n ≤ c ∧ (A = none → c = 0) ∧ ∀ b o, A = some ⟨b, o, none⟩ → R < b
theorem RK.lt {w : World} {R : Nat} {t : Int} {L : List Bel} (h : RK w R t L) : R < w.heap.size := by obtain ⟨A, n, c, h1, _⟩ := h; exact theap_lt h1
theorem RK.later {w w' : World} {R : Nat} {t : Int} {L : List Bel} (h : RK w R t L) (hb : Later w w') : RK w' R t L := by
  obtain ⟨A, n, c, h1, h2, h3⟩ := h
  exact ⟨A, n, c, (hb.block R (theap_lt h1)).trans h1, h2.below hb, h3⟩
theorem own_some {w : World} {base n size : Nat} {e : TypeId} {v : Value} {xs : List Value} (h : w.ownsRow base e size v n xs) (hb : v.ownBlock ≠ none) : ∃ g c, v = .slice (some ⟨g, 0, none⟩) n c ∧ base ≤ g := by
  rcases h.2 with ⟨h0, _⟩ | ⟨g, cap, cur, hv, hg, _⟩
  · rw [h0] at hb; exact absurd rfl hb
  · exact ⟨g, cap, hv, hg⟩
theorem butB_yes {b : Int} {L : List Bel} {k : Nat} {x : Bel} (h : L[k]? = some x) (hx : x.1 ≠ b) : butB b (L.take (k + 1)) = butB b (L.take k) ++ [x] := by
  unfold butB; rw [take_snoc h, List.filter_append]; simp [hx]
theorem butB_no {b : Int} {L : List Bel} {k : Nat} {x : Bel} (h : L[k]? = some x) (hx : x.1 = b) : butB b (L.take (k + 1)) = butB b (L.take k) := by
  unfold butB; rw [take_snoc h, List.filter_append]; simp [hx]
set_option maxRecDepth 100000 in
set_option maxHeartbeats 4000000 in
theorem without_any {w : World} {R : Nat} {t : Int} {L : List Bel} (b : Int) (h : RK w R t L) (hn : L.length ≤ 4096) :
    Calls Try.prog 22 #[.pointer (some ⟨R, 0, none⟩), .int .i64 b] w fun e w' =>
      (∃ g m c, e = .returned (.slice (some ⟨g, 0, none⟩) m c) ∧ (butB b L).length = m ∧ w'.ownsRow w.heap.size 55 2 (.slice (some ⟨g, 0, none⟩) m c) m (brow (butB b L))) ∧ Later w w' := by
  obtain ⟨A, n, c, h1, h2, h3, h4, h5, h6⟩ := h
  have H1 := hide_ h1; have HR := hide_ h2; have HL := hide_ h3
  have hn2 : (n : Int) ≤ 4096 := by omega
  have HO1 := hide_ (show (w.alloc (.cells #[] 55)).ownsRow w.heap.size 55 2 (.slice (some ⟨w.heap.size, 0, none⟩) 0 0) 0 (brow (butB b (L.take 0))) from own_new w #[] 55 2 0 w.heap.size rfl (Nat.zero_le _) (Nat.le_refl _))
  have HB1 := hide_ (later_alloc w (.cells #[] 55))
  have m1 := cell_of_row _ _ 1 _ _ (0, 0) h1
  clear h1 h2 h3 h5 h6
  go_enter Try.func22, Try.ntmps22
  go_wp2_with fail
  clear m1
  go_loopw [5, 6] (fun s5 s6 wr => ∃ (k q g c5 : Nat), k ≤ n ∧ q ≤ k ∧ s6 = .int .i64 k ∧ s5 = .slice (some ⟨g, 0, none⟩) q c5 ∧ Hid (wr.ownsRow w.heap.size 55 2 (.slice (some ⟨g, 0, none⟩) q c5) q (brow (butB b (L.take k)))) ∧ Hid (Later w wr)) (fun _ s6 _ => n - (intOf s6).toNat)
  case atStart => exact ⟨0, 0, _, 0, Nat.zero_le _, Nat.zero_le _, rfl, rfl, HO1, HB1⟩
  case round =>
    obtain ⟨k, q, g, c5, hk, hq, rfl, rfl, HO, HB⟩ := hrel
    have r2 : (k : Int) ≤ 4096 := by omega
    have r3 : (0 : Int) ≤ (k : Int) := by omega
    have m1 := cell_of_row _ _ 1 _ _ (0, 0) ((HB.out.block R (theap_lt H1.out)).trans H1.out)
    have hgw : w.heap.size ≤ wr.heap.size := HB.out.size
    by_cases hlt : k < n
    · have r1 : (k : Int) < (n : Int) := by omega
      obtain ⟨x, hx⟩ : ∃ x, L[k]? = some x := ⟨_, List.getElem?_eq_getElem (by rw [HL.out]; exact hlt)⟩
      obtain ⟨b2, o2, rfl, l0, l1⟩ := (HR.out.below HB.out).bell hx
      by_cases hxb : x.1 = b
      · have HS := hide_ (butB_no hx hxb)
        have q1 : (x.1 == b) = true := by simpa using hxb
        clear hx hxb
        go_wp2_with fail
        go_roundw
        case rel => exact ⟨k + 1, q, g, c5, by omega, by omega, by go_num, rfl, hide_ (by rw [HS.out]; exact HO.out), HB⟩
        case measure => simp [intOf]; omega
      · have HS := hide_ (butB_yes hx hxb)
        have q1 : (x.1 == b) = false := by simpa using hxb
        have p1 : (q + 1) * 16 ≤ 140737488355328 := by omega
        have p2 : q + 1 ≤ maxLen := by unfold maxLen; omega
        have p3 : ∀ o, w.heap.size ≤ (wr.alloc o).heap.size := fun o => by simp; omega
        clear hx hxb
        go_wp2_with (at_builtin; go_loud (refine wpList_append_rd _ rfl (.tmp 27) (.tmp 35) 37 rfl w.heap.size 55 2 16 bellT _ q (brow (butB b (L.take k))) rfl (HO.out.alloc _) _ 1 1 (encL x) rfl (Rd.newAt _ #[.int .i64 x.1, .int .i64 x.2] 55 1 2 _ (0, 0) rfl rfl) (encL_one _) p1 p2 (p3 _) (fun h => nomatch h) ?_; intro v8 w8 hown8 hg8 hat8; have hsm := own_some hown8 (by rcases hat8 with e | e <;> rw [e] <;> exact fun h => nomatch h); have HW8 := hide_ hown8; have HB8 := hide_ (own_grown (Below.alloc HB.out (Below.size HB.out) _) (HO.out.alloc _) hg8 (p3 _)); obtain ⟨g8, c8, rfl, _⟩ := hsm; clear hown8 hg8 hat8))
        go_roundw
        case rel => exact ⟨k + 1, q + 1, g8, c8, by omega, by omega, by go_num, rfl, hide_ (by rw [HS.out, brow_snoc]; exact HW8.out), HB8⟩
        case measure => simp [intOf]; omega
    · have r1 : ¬ (k : Int) < (n : Int) := by omega
      obtain rfl : k = n := by omega
      have HF := hide_ (show L.take k = L by rw [← HL.out, List.take_length])
      go_wp2_with fail
      go_ret
      have ho := HO.out
      rw [HF.out] at ho
      exact ⟨⟨g, q, c5, rfl, by have := (Rd.of_own ho).1; rw [brow_len] at this; omega, ho⟩, HB.out⟩
def RStopPost (R : Nat) (t b : Int) (L : List Bel) (w : World) (e : Ending) (w' : World) : Prop :=
  ((b < 0 ∨ 4096 ≤ b) ∧ e = .returned (.int .i64 1) ∧ Later w w') ∨ (0 ≤ b ∧ b < 4096 ∧ (butB b L).length = L.length ∧ e = .returned (.int .i64 4) ∧ Later w w') ∨ (0 ≤ b ∧ b < 4096 ∧ (butB b L).length ≠ L.length ∧ e = .returned (.int .i64 0) ∧ RK w' R t (butB b L) ∧ w.grownBy w' (some R))
set_option maxRecDepth 100000 in
set_option maxHeartbeats 2000000 in
/-- The document's Stop. -/
theorem rstop_any {w : World} {R : Nat} {t : Int} {L : List Bel} (b : Int) (h : RK w R t L) (hn : L.length ≤ 4096) :
    Calls Try.prog 14 #[.pointer (some ⟨R, 0, none⟩), .int .i64 b] w (RStopPost R t b L w) := by
  have HW := hide_ (without_any b h hn)
  obtain ⟨A, n, c, h1, h2, h3, h4, h5, h6⟩ := h
  have H1 := hide_ h1; have HL := hide_ h3
  clear h1 h2 h3 h5 h6
  by_cases e1 : b < 0
  · go_enter Try.func14, Try.ntmps14
    go_wp2_with fail
    go_ret
    exact .inl ⟨.inl e1, rfl, Later.refl _⟩
  · by_cases e2 : 4096 ≤ b
    · have e3 : 4095 < b := by omega
      go_enter Try.func14, Try.ntmps14
      go_wp2_with fail
      go_ret
      exact .inl ⟨.inr e2, rfl, Later.refl _⟩
    · have b0 : 0 ≤ b := by omega
      have b1 : b < 4096 := by omega
      have e3 : ¬ 4095 < b := by omega
      go_enter Try.func14, Try.ntmps14
      go_wp2_with fail
      refine HW.out.mono ?_; rintro e w1 ⟨⟨g, m, c1, rfl, hm, ho⟩, hb⟩
      have hr1 := (hb.block R (theap_lt H1.out)).trans H1.out
      have HR1 := hide_ hr1; have HO := hide_ ho; have HB := hide_ hb; have HM := hide_ hm
      have m1 := cell_of_row _ _ 1 _ _ (0, 0) hr1
      have f1 := frozen_of_row _ _ 1 _ _ hr1
      clear hr1 ho hb hm
      by_cases e4 : m = n
      · have e5 : (m : Int) = (n : Int) := by omega
        have q1 : ((m : Int) == (n : Int)) = true := by simpa using e5
        have q2 : decide ((m : Int) = (n : Int)) = true := decide_eq_true e5
        have HE := hide_ e4
        clear e4 e5
        go_wp2_with fail
        go_ret
        exact .inr (.inl ⟨b0, b1, by rw [HM.out, HL.out]; exact HE.out, rfl, HB.out⟩)
      · have e5 : ¬ (m : Int) = (n : Int) := by omega
        have q1 : ((m : Int) == (n : Int)) = false := by simpa using e5
        have q2 : decide ((m : Int) = (n : Int)) = false := decide_eq_false e5
        have q3 : (m == n) = false := by simpa using e4
        have HE := hide_ e4
        clear e4 e5
        go_wp2_with fail
        go_ret
        have hg : w.heap.size ≤ g := (HO.out.lt g rfl).1
        have hRw := theap_lt H1.out
        have ho2 := own_put (B := R) (j := 1) (u := .slice (some ⟨g, 0, none⟩) m c1) HO.out hRw
        refine .inr (.inr ⟨b0, b1, by rw [HM.out, HL.out]; exact HE.out, rfl, ⟨some ⟨g, 0, none⟩, m, c1, ?_, Rd.of_own ho2, HM.out, (own_cap2 ho2).2, (fun h => nomatch h), (fun b o e => by injection e with e; injection e with e; omega)⟩, grown_setCell (grown_later HB.out (some R)) (.inl rfl) _⟩)
        have := heap_setCell_same w1 R 1 _ _ (.slice (some ⟨g, 0, none⟩) m c1) HR1.out
        unfold RAt
        simpa using this

end Go.Proofs.Ytinfeajbnhkkiaa
