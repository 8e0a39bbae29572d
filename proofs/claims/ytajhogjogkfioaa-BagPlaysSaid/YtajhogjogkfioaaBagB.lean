/-
  The walks of the bag's Send and Look.
-/
import Derived.Test.YtajhogjogkfioaaBagPut
import Derived.Test.YtajhogjogkfioaaRegion
namespace Go.Proofs.Ytajhogjogkfioaa
open Go.RowKit Go.Conc
set_option linter.unusedVariables false
set_option maxHeartbeats 400000 in
theorem send_nil (dst : Int) (v : Value) (w : World) :
    Calls Try.prog 6 #[.pointer none, .int .i64 dst, v] w fun e w' => e = .returned (.int .i64 1) ∧ w = w' := by
  go_enter Try.func6, Try.ntmps6
  go_wp2
  go_ret
  exact ⟨rfl, rfl⟩
set_option maxHeartbeats 400000 in
theorem send_arg {w : World} {B p c room : Nat} {sv : Value} {L : List Ltr} (hB : BagAt w B p c sv room L) (dst : Int) (v : Value) (h : dst < 0 ∨ (0 ≤ dst ∧ 255 < dst)) :
    Calls Try.prog 6 #[.pointer (some ⟨p, 0, none⟩), .int .i64 dst, v] w fun e w' => e = .returned (.int .i64 1) ∧ w = w' := by
  rcases h with h | ⟨h, h2⟩
  · go_enter Try.func6, Try.ntmps6
    go_wp2
    go_ret
    exact ⟨rfl, rfl⟩
  · go_enter Try.func6, Try.ntmps6
    go_wp2
    go_ret
    exact ⟨rfl, rfl⟩
set_option maxHeartbeats 400000 in
theorem send_large {w : World} {B p c room : Nat} {sv : Value} {L : List Ltr} (hB : BagAt w B p c sv room L) (dst : Int) (A : Option Addr) (n cap : Nat) (h : 0 ≤ dst) (h2 : dst ≤ 255) (hn : 131072 < n) :
    Calls Try.prog 6 #[.pointer (some ⟨p, 0, none⟩), .int .i64 dst, .slice A n cap] w fun e w' => e = .returned (.int .i64 6) ∧ w = w' := by
  go_enter Try.func6, Try.ntmps6
  go_wp2
  go_ret
  exact ⟨rfl, rfl⟩
theorem BagAt.later {w w' : World} {B p c room : Nat} {sv : Value} {L : List Ltr} (h : BagAt w B p c sv room L) (hb : Below w.heap.size w w') : BagAt w' B p c sv room L := by
  obtain ⟨hp, hBp, hBc, ⟨buf, s, r, hc, hroom⟩, ho, hL, hpw⟩ := h
  exact ⟨(hb.block p (heap_lt hp)).trans hp, hBp, hBc, ⟨buf, s, r, (hb.block c (heap_lt hc)).trans hc, hroom⟩, own_below ho hb, fun x hx => own_below (hL x hx) hb, hpw⟩
theorem own_lt {w : World} {base : Nat} {e : TypeId} {size n : Nat} {v : Value} {xs : List Value} (h : w.ownsRow base e size v n xs) {g : Nat} (hg : v.ownBlock = some g) : g < w.heap.size := (h.lt g hg).2
theorem own_ge {w : World} {base : Nat} {e : TypeId} {size n : Nat} {v : Value} {xs : List Value} (h : w.ownsRow base e size v n xs) {g : Nat} (hg : v.ownBlock = some g) : base ≤ g := (h.lt g hg).1
theorem own_base {w : World} {base base' : Nat} {e : TypeId} {size n : Nat} {v : Value} {xs : List Value} (h : w.ownsRow base e size v n xs) (hb : base' ≤ base) : w.ownsRow base' e size v n xs := by
  refine ⟨h.1, ?_⟩
  rcases h.2 with h0 | ⟨g, cap, cur, hv, hbb, hh, hr⟩
  · exact .inl h0
  · exact .inr ⟨g, cap, cur, hv, by omega, hh, hr⟩
set_option maxHeartbeats 400000 in
theorem send_full {w : World} {B p c room : Nat} {sv : Value} {L : List Ltr} (hB : BagAt w B p c sv room L) (dst : Int) (A : Option Addr) (n cap : Nat) (l : List UInt8) (h : 0 ≤ dst) (h2 : dst ≤ 255) (hn : n ≤ 131072) (hl : l.length = n)
    (hA : A = none → n = 0) (hR : Rd w 1 A n (bvs l)) (hf : L.length = room) :
    Calls Try.prog 6 #[.pointer (some ⟨p, 0, none⟩), .int .i64 dst, .slice A n cap] w fun e w' => e = .returned (.int .i64 10) ∧ Below w.heap.size w w' := by
  have HA := Lib.hid hA; have HF := Lib.hid hf; have HL := Lib.hid hl
  clear hA hf hl
  go_enter Try.func6, Try.ntmps6
  go_wp2_with fail
  refine (clone_any A n cap l w HL.out (by omega) HA.out hR).mono ?_
  rintro e w1 ⟨v1, rfl, ho1, hb1⟩
  obtain ⟨A1, c1, rfl⟩ := own_form ho1
  go_wp2_with fail
  refine (put_full ⟨dst, .slice A1 n c1, l, false⟩ (hB.later hb1) HF.out).mono ?_
  rintro e w2 ⟨rfl, hb2⟩
  go_wp2_with fail
  go_ret
  exact ⟨rfl, hb1.trans (hb2.mono hb1.size)⟩
set_option maxHeartbeats 400000 in
theorem send_any {w : World} {B p c room : Nat} {sv : Value} {L : List Ltr} (hB : BagAt w B p c sv room L) (hr4 : room ≤ 4096) (hBw : B ≤ w.heap.size) (dst : Int) (A : Option Addr) (n cap : Nat) (l : List UInt8) (h : 0 ≤ dst) (h2 : dst ≤ 255) (hn : n ≤ 131072) (hl : l.length = n)
    (hA : A = none → n = 0) (hR : Rd w 1 A n (bvs l)) (hf : L.length < room) :
    Calls Try.prog 6 #[.pointer (some ⟨p, 0, none⟩), .int .i64 dst, .slice A n cap] w fun e w' =>
      e = .returned (.int .i64 0) ∧ (∃ sv' v, BagAt w' B p c sv' room (L ++ [⟨dst, v, l, false⟩])) ∧ Below B w w' ∧ Kept isBag w w' := by
  have HA := Lib.hid hA; have HL := Lib.hid hl
  clear hA hl
  go_enter Try.func6, Try.ntmps6
  go_wp2_with fail
  refine (clone_any A n cap l w HL.out (by omega) HA.out hR).mono ?_
  rintro e w1 ⟨v1, rfl, ho1, hb1⟩
  obtain ⟨A1, c1, rfl⟩ := own_form ho1
  go_wp2_with fail
  have hB1 := hB.later hb1
  refine (put_any dst (.slice A1 n c1) l false hB1 hf hr4 (Nat.le_trans hBw hb1.size) (own_base (HL.out ▸ ho1) hBw) ?_).mono ?_
  · intro y hy g hg hg'
    have h1 := own_lt (hB.2.2.2.2.2.1 y hy) hg
    have h2 := own_ge ho1 hg'
    omega
  rintro e w2 ⟨rfl, ⟨sv', hB2⟩, hb2, hk2⟩
  have HB2 := Lib.hid hB2; have HK2 := Lib.hid hk2; have HBB := Lib.hid hb2
  clear hB2 hk2 hb2
  go_wp2_with fail
  go_ret
  exact ⟨rfl, ⟨sv', _, HB2.out⟩, (hb1.mono hBw).trans HBB.out, (Kept.of_later hb1).trans HK2.out⟩
theorem row_at {L : List Ltr} {i : Nat} {x : Ltr} (hx : L[i]? = some x) (j : Nat) (hj : j < 3) : (rowOf L)[i * 3 + j]? = x.cells[j]? := by
  induction L generalizing i with
  | nil => simp at hx
  | cons y L ih =>
    have e : rowOf (y :: L) = y.cells ++ rowOf L := rfl
    have hy : y.cells.length = 3 := rfl
    rw [e]
    cases i with
    | zero =>
      simp at hx; subst hx
      rw [List.getElem?_append_left (by omega)]; simp
    | succ i =>
      simp at hx
      rw [List.getElem?_append_right (by omega), hy, show (i + 1) * 3 + j - 3 = i * 3 + j from by omega]
      exact ih hx
theorem rowOf_length (L : List Ltr) : (rowOf L).length = L.length * 3 := by
  induction L with
  | nil => rfl
  | cons y L ih =>
    have e : rowOf (y :: L) = y.cells ++ rowOf L := rfl
    rw [e, List.length_append, ih, List.length_cons]
    have : y.cells.length = 3 := rfl
    omega
set_option maxHeartbeats 400000 in
theorem look_nil (i : Int) (w : World) :
    Calls Try.prog 8 #[.pointer none, .int .i64 i] w fun e w' => e = .returned (.tuple #[.int .i64 0, .slice none 0 0, .int .i64 1]) ∧ w = w' := by
  go_enter Try.func8, Try.ntmps8
  go_wp2_with (go_at_call 19; refine (there_nil _ _).mono ?_; rintro e w' ⟨rfl, rfl⟩)
  go_ret3
  exact ⟨rfl, rfl⟩
set_option maxHeartbeats 400000 in
theorem look_none {w : World} {B p c room : Nat} {sv : Value} {L : List Ltr} (hB : BagAt w B p c sv room L) (i : Int) (hi : ¬ (0 ≤ i ∧ i < L.length)) :
    Calls Try.prog 8 #[.pointer (some ⟨p, 0, none⟩), .int .i64 i] w fun e w' => e = .returned (.tuple #[.int .i64 0, .slice none 0 0, .int .i64 4]) ∧ w = w' := by
  have ht := there_any hB i
  rw [if_neg hi] at ht
  have HT := hide_ ht
  clear ht hi
  go_enter Try.func8, Try.ntmps8
  go_wp2_with (go_at_call 19; refine HT.out.mono ?_; rintro e w' ⟨rfl, rfl⟩)
  go_ret3
  exact ⟨rfl, rfl⟩
set_option maxHeartbeats 1000000 in
theorem look_any {w : World} {B p c room : Nat} {sv : Value} {L : List Ltr} (hB : BagAt w B p c sv room L) (hr4 : room ≤ 4096) (i : Nat) (x : Ltr) (hi : L[i]? = some x) (hx : x.text.length ≤ 140737488351232) :
    Calls Try.prog 8 #[.pointer (some ⟨p, 0, none⟩), .int .i64 (i : Int)] w fun e w' =>
      ∃ v, e = .returned (.tuple #[.int .i64 x.dest, v, .int .i64 0]) ∧ w'.ownsRow w.heap.size 5 1 v x.text.length (bvs x.text) ∧ Below w.heap.size w w' := by
  have hil := (List.getElem?_eq_some_iff.1 hi).1
  have ht := there_any hB (i : Int)
  rw [if_pos ⟨by omega, by omega⟩] at ht
  have HT := hide_ ht
  obtain ⟨hp, _, _, ⟨buf, s, r, hc, hroom⟩, ho, hL, _⟩ := hB
  have hLl : L.length ≤ 4096 := by omega
  have hxo := hL x (List.mem_of_getElem? hi)
  obtain ⟨g, cap, rfl, _, hgl⟩ := ho.form (by omega)
  obtain ⟨A, cx, hxv⟩ := own_form hxo
  have hxn : A = none → x.text.length = 0 := by rw [hxv] at hxo; exact own_nil hxo
  have hxr : Rd w 1 A x.text.length (bvs x.text) := by rw [hxv] at hxo; exact Rd.of_own hxo
  have hk0 : w.cell? ⟨p, 0, none⟩ = some (.slice (some ⟨g, 0, none⟩) L.length cap) := cell_of_row _ _ 0 _ _ (0, 0) hp
  have hc0 : w.cell? ⟨g, i * 3, none⟩ = some (.int .i64 x.dest) := (ho.cellAt (i * 3) (by omega)).trans (row_at hi 0 (by omega))
  have hc1 : w.cell? ⟨g, i * 3 + 1, none⟩ = some (.slice A x.text.length cx) := by rw [← hxv]; exact (ho.cellAt (i * 3 + 1) (by omega)).trans (row_at hi 1 (by omega))
  have q1 : (i : Int) < (L.length : Int) := by omega
  have q0 : (0 : Int) ≤ (i : Int) := by omega
  have l0 := later_drew_cell hk0
  have l1 := later_drew_cell hc0
  have l2 := later_drew_cell hc1
  have HX := Lib.hid hxn
  clear ht hp hc ho hL hxo hxv hi hk0 hc0 hc1 hxn
  go_enter Try.func8, Try.ntmps8
  go_wp2_with (go_at_call 19; refine HT.out.mono ?_; rintro e w' ⟨rfl, rfl⟩)
  refine wp_region_k (by kernel_rfl) ?_
  refine wpAnyK_take 0 (v := ?_) rfl (by kernel_rfl) (by kernel_rfl) (by kernel_rfl) (fun _ _ _ h => h) (by rfl) (by intro W hSw; go_simp; with_reducible rfl) ?_; try simp only [Act.put, List.setIfInBounds_toArray, List.set_cons_zero, List.set_cons_succ]
  refine wpAnyK_take 1 (v := ?_) rfl (by kernel_rfl) (by kernel_rfl) (by kernel_rfl) (fun _ _ _ h => h) (by rfl) (by intro W hSw; go_simp; with_reducible rfl) ?_; try simp only [Act.put, List.setIfInBounds_toArray, List.set_cons_zero, List.set_cons_succ]
  refine wpAnyK_take 2 (v := ?_) rfl (by kernel_rfl) (by kernel_rfl) (by kernel_rfl) (fun _ _ _ h => h) (by rfl) (by intro W hSw; go_simp; with_reducible rfl) ?_; try simp only [Act.put, List.setIfInBounds_toArray, List.set_cons_zero, List.set_cons_succ]
  refine wpAnyK_take 3 (v := ?_) rfl (by kernel_rfl) (by kernel_rfl) (by kernel_rfl) (fun _ _ _ h => h) (by rfl) (by intro W hSw; go_simp; with_reducible rfl) ?_; try simp only [Act.put, List.setIfInBounds_toArray, List.set_cons_zero, List.set_cons_succ]
  refine wpAnyK_take 4 (v := ?_) rfl (by kernel_rfl) (by kernel_rfl) (by kernel_rfl) (fun _ _ _ h => h) (by rfl) (by intro W hSw; go_simp; with_reducible rfl) ?_; try simp only [Act.put, List.setIfInBounds_toArray, List.set_cons_zero, List.set_cons_succ]
  refine wpAnyK_take 5 (v := ?_) rfl (by kernel_rfl) (by kernel_rfl) (by kernel_rfl) (fun _ _ _ h => h) (by rfl) (by intro W hSw; go_simp; with_reducible rfl) ?_; try simp only [Act.put, List.setIfInBounds_toArray, List.set_cons_zero, List.set_cons_succ]
  refine wpAnyK_take 6 (v := ?_) rfl (by kernel_rfl) (by kernel_rfl) (by kernel_rfl) (fun _ _ _ h => h) (by rfl) (by intro W hSw; go_simp; with_reducible rfl) ?_; try simp only [Act.put, List.setIfInBounds_toArray, List.set_cons_zero, List.set_cons_succ]
  refine wpAnyK_take 7 (v := ?_) rfl (by kernel_rfl) (by kernel_rfl) (by kernel_rfl) (fun _ _ _ h => h) (by rfl) (by intro W hSw; go_simp; with_reducible rfl) ?_; try simp only [Act.put, List.setIfInBounds_toArray, List.set_cons_zero, List.set_cons_succ]
  refine wpAnyK_take 8 (v := ?_) rfl (by kernel_rfl) (by kernel_rfl) (by kernel_rfl) (fun _ _ _ h => h) (by rfl) (by intro W hSw; go_simp; with_reducible rfl) ?_; try simp only [Act.put, List.setIfInBounds_toArray, List.set_cons_zero, List.set_cons_succ]
  refine wpAnyK_take 9 (v := ?_) rfl (by kernel_rfl) (by kernel_rfl) (by kernel_rfl) (fun _ _ _ h => h) (by rfl) (by intro W hSw; go_simp; with_reducible rfl) ?_; try simp only [Act.put, List.setIfInBounds_toArray, List.set_cons_zero, List.set_cons_succ]
  refine wpAnyK_take 10 (v := ?_) rfl (by kernel_rfl) (by kernel_rfl) (by kernel_rfl) (fun _ _ _ h => h) (by rfl) (by intro W hSw; go_simp; with_reducible rfl) ?_; try simp only [Act.put, List.setIfInBounds_toArray, List.set_cons_zero, List.set_cons_succ]
  refine wpAnyK_take 11 (v := ?_) rfl (by kernel_rfl) (by kernel_rfl) (by kernel_rfl) (fun _ _ _ h => h) (by rfl) (by intro W hSw; go_simp; with_reducible rfl) ?_; try simp only [Act.put, List.setIfInBounds_toArray, List.set_cons_zero, List.set_cons_succ]
  refine wpAnyK_take 12 (v := ?_) rfl (by kernel_rfl) (by kernel_rfl) (by kernel_rfl) (fun _ _ _ h => h) (by rfl) (by intro W hSw; go_simp; with_reducible rfl) ?_; try simp only [Act.put, List.setIfInBounds_toArray, List.set_cons_zero, List.set_cons_succ]
  refine wpAnyK_take 13 (v := ?_) rfl (by kernel_rfl) (by kernel_rfl) (by kernel_rfl) (fun _ _ _ h => h) (by rfl) (by intro W hSw; go_simp; with_reducible rfl) ?_; try simp only [Act.put, List.setIfInBounds_toArray, List.set_cons_zero, List.set_cons_succ]
  refine wpAnyK_take 14 (v := ?_) rfl (by kernel_rfl) (by kernel_rfl) (by kernel_rfl) (fun _ _ _ h => h) (by rfl) (by intro W hSw; go_simp; with_reducible rfl) ?_; try simp only [Act.put, List.setIfInBounds_toArray, List.set_cons_zero, List.set_cons_succ]
  refine wpAnyK_take 15 (v := ?_) rfl (by kernel_rfl) (by kernel_rfl) (by kernel_rfl) (fun _ _ _ h => h) (by rfl) (by intro W hSw; go_simp; with_reducible rfl) ?_; try simp only [Act.put, List.setIfInBounds_toArray, List.set_cons_zero, List.set_cons_succ]
  refine wpAnyK_one 16 (by kernel_rfl) rfl (fun K hK => ?_); go_simp
  refine (clone_any A x.text.length cx x.text _ rfl hx HX.out (hxr.drew)).mono ?_; rintro e w3 ⟨v3, rfl, ho3, hb3⟩
  refine hK.out _ _ (by assumption) ?_
  clear hK K; try simp only [Act.put, List.setIfInBounds_toArray, List.set_cons_zero, List.set_cons_succ]
  refine wpAnyK_take 17 (v := ?_) rfl (by kernel_rfl) (by kernel_rfl) (by kernel_rfl) (fun _ _ _ h => h) (by rfl) (by intro W hSw; go_simp; with_reducible rfl) ?_; try simp only [Act.put, List.setIfInBounds_toArray, List.set_cons_zero, List.set_cons_succ]
  refine wpAnyK_take 18 (v := ?_) rfl (by kernel_rfl) (by kernel_rfl) (by kernel_rfl) (fun _ _ _ h => h) (by rfl) (by intro W hSw; go_simp; with_reducible rfl) ?_; try simp only [Act.put, List.setIfInBounds_toArray, List.set_cons_zero, List.set_cons_succ]
  refine wpAnyK_take 19 (v := ?_) rfl (by kernel_rfl) (by kernel_rfl) (by kernel_rfl) (fun _ _ _ h => h) (by rfl) (by intro W hSw; go_simp; with_reducible rfl) ?_; try simp only [Act.put, List.setIfInBounds_toArray, List.set_cons_zero, List.set_cons_succ]
  refine wpAnyK_done (by kernel_rfl) ?_ _
  go_wp2_with fail
  go_ret3
  exact ⟨v3, rfl, ho3, Below.trans ((Below.refl _ _).drew) hb3⟩
end Go.Proofs.Ytajhogjogkfioaa

