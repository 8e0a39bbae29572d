/-
  Both clocks side by side; the document's Ints; how the calls of ClockPlays come in.
-/
import Derived.Test.YtinfeajbnhkkiaaRSet
import Derived.Test.YtinfeajbnhkkiaaRPass
import Derived.Test.YtinfeajbnhkkiaaShape
namespace Go.Proofs.Ytinfeajbnhkkiaa
open Go.ChangeShapes Go.WideShapes Go.ChangeAt Go.RowKit
set_option linter.unusedVariables false
set_option linter.unusedSimpArgs false
/-- The clock's blocks lie ahead of this one. -/
def CU (top : Nat) (w : World) (C : Nat) : Prop := C < top ∧ ∀ B t, CkAt w C B t → B < top
theorem CU.turn {top : Nat} {w w' : World} {C : Nat} (h : CU top w C) (ht : CTurn C w w') : CU top w' C := by
  obtain ⟨B, t, t', h1, h2, _⟩ := ht
  exact ⟨h.1, fun B' s hk => by rw [← ckAt_uniq h2 hk]; exact h.2 B t h1⟩
theorem CU.grown {R : Nat} {w w' : World} {C : Nat} (h : CU R w C) (hC : C < w.heap.size) (hg : w.grownBy w' (some R)) : CU R w' C :=
  ⟨h.1, fun B t hk => h.2 B t ((hg.block C hC (fun e => by have := Option.some.inj e; have := h.1; omega)).symm.trans hk)⟩
theorem CB.grown {base R : Nat} {w w' : World} {C : Nat} (h : CB base w C) (hu : CU R w C) (hC : C < w.heap.size) (hg : w.grownBy w' (some R)) : CB base w' C :=
  ⟨h.1, fun B t hk => h.2 B t ((hg.block C hC (fun e => by have := Option.some.inj e; have := hu.1; omega)).symm.trans hk)⟩
theorem CK.grown {w w' : World} {R C n : Nat} {t : Int} {L : List Bel} (h : CK w C n t L) (hu : CU R w C) (hg : w.grownBy w' (some R)) : CK w' C n t L := by
  obtain ⟨B, h1, ⟨D, h2, h3⟩, h4⟩ := h
  have hB := hu.2 B t h1
  exact ⟨B, (hg.block C h1.lt (fun e => by have := Option.some.inj e; have := hu.1; omega)).trans h1, ⟨D, h2.kept hg (fun e => by have := Option.some.inj e; omega), h3⟩, h4⟩
theorem RK.turn {w w' : World} {R C : Nat} {t : Int} {L : List Bel} (h : RK w R t L) (ht : CTurn C w w') (hu : CU R w C) : RK w' R t L := by
  obtain ⟨A, n, c, h1, h2, h3, h4, h5, h6⟩ := h
  obtain ⟨B, t1, t2, k1, k2, k3, k4, k5, k6, k7⟩ := ht
  have hB := hu.2 B t1 k1
  have hC := hu.1
  refine ⟨A, n, c, (k7 R (theap_lt h1) (by omega) (by omega)).trans h1, ⟨h2.1, fun hp => ?_⟩, h3, h4, h5, h6⟩
  obtain ⟨b, o, e, hc⟩ := h2.2 hp
  have hb := h6 b o e
  refine ⟨b, o, e, fun j u hu2 => ?_⟩
  have h := hc j u hu2
  rw [World.cell?_of_block (k7 b (cell_lt h) (by omega) (by omega))]; exact h
theorem RK.len {w : World} {R : Nat} {t : Int} {L : List Bel} (h : RK w R t L) : True := trivial
theorem grown_laterR {w0 w w' : World} {R : Nat} (h0 : Later w0 w) (hg : w.grownBy w' (some R)) (hR : w0.heap.size ≤ R) : Later w0 w' :=
  ⟨hg.os.trans h0.os, hg.tape.trans h0.tape, hg.output.trans h0.output, Nat.le_trans h0.size hg.size, fun k hk => (hg.block k (Nat.lt_of_lt_of_le hk h0.size) (fun e => by have := Option.some.inj e; omega)).trans (h0.block k hk)⟩
abbrev ActC := Int × Int × Int
section
variable {H : Type} {enc : TypeId × Value → H} {W : World} {b base : Nat} {held : Bool} {r : Reach}
def ActCSh : Sh ActC := fun w cs a => ∃ u0 u1 u2, cs = [u0, u1, u2] ∧ IntSh .i64 w [u0] a.1 ∧ IntSh .i64 w [u1] a.2.1 ∧ IntSh .i64 w [u2] a.2.2
theorem copens_acts : Opens enc Try.prog 35 (SliceSh 3 ActCSh) (sumM fun a : ActC => 0 + 0 + 0 + 3) :=
  opens_slice (size := 3) Try.underlying35 (by kernel_rfl) (by omega) (opens_struct3 Try.underlying41 (by kernel_rfl) ⟨rfl, rfl, rfl⟩ ⟨by kernel_rfl, by kernel_rfl, by kernel_rfl⟩ (opens_int Try.underlying3) (opens_int Try.underlying3) (opens_int Try.underlying3))
/-- Calls lie here. -/
def ActCRow (w : World) (A : Option Addr) (n : Nat) (X : List ActC) : Prop := X.length = n ∧ ∀ (i : Nat) (a : ActC), X[i]? = some a → ∃ (b o : Nat), A = some ⟨b, o, none⟩ ∧
  w.cell? ⟨b, o + i * 3, none⟩ = some (.int .i64 a.1) ∧ w.cell? ⟨b, o + i * 3 + 1, none⟩ = some (.int .i64 a.2.1) ∧ w.cell? ⟨b, o + i * 3 + 2, none⟩ = some (.int .i64 a.2.2) ∧ I64 a.2.1 ∧ I64 a.2.2
theorem copen_acts {v : Value} {d : DataW H} {p : List MemPlace} (hv : Value.okWide Try.prog W r base 35 v) (h : DataW.Trod enc Try.prog W b (fun _ => true) held 35 v d p) :
    ∃ (A : Option Addr) (c : Nat) (X : List ActC), v = .slice A X.length c ∧ X.length ≤ maxLen ∧ ActCRow W A X.length X := by
  obtain ⟨X, hL, hbl⟩ := open_sh copens_acts Try.underlying35 hv h
  obtain ⟨A, c, hv', hlc, hcm, hA, hx⟩ := hL
  injection hv' with hv'
  subst hv'
  refine ⟨A, c, X, rfl, by omega, rfl, fun i a hi => ?_⟩
  have hi2 := (List.getElem?_eq_some_iff.1 hi).1
  obtain ⟨b, o, rfl, he⟩ := hx (by omega)
  obtain ⟨us, hul, huc, hr⟩ := he i a hi
  obtain ⟨u0, u1, u2, rfl, ⟨e0, w0⟩, ⟨e1, w1⟩, ⟨e2, w2⟩⟩ := hr
  injection e0 with e0; injection e1 with e1; injection e2 with e2
  subst e0 e1 e2
  exact ⟨b, o, rfl, huc 0 _ rfl, huc 1 _ rfl, huc 2 _ rfl, w1, w2⟩
end
set_option maxRecDepth 100000 in
set_option maxHeartbeats 2000000 in
theorem ints_same {w : World} {A A' : Option Addr} {n c c' : Nat} {V : List Int} (h1 : Rd w 1 A n (ints V)) (h2 : Rd w 1 A' n (ints V)) (hV : V.length = n) (hn : n ≤ 1048576) :
    Calls Try.prog 16 #[.slice A n c, .slice A' n c'] w fun e w' => e = .returned (.bool true) ∧ Later w w' := by
  have HR := hide_ h1; have HR' := hide_ h2; have HL := hide_ hV
  have hn2 : (n : Int) ≤ 1048576 := by omega
  clear h1 h2 hV
  go_enter Try.func16, Try.ntmps16
  go_wp2_with fail
  go_loopw [5] (fun s5 wr => ∃ (k : Nat), k ≤ n ∧ s5 = .int .i64 k ∧ Hid (Later w wr)) (fun i _ => n - (intOf i).toNat)
  case atStart => exact ⟨0, Nat.zero_le _, rfl, hide_ (Later.refl _)⟩
  case round =>
    obtain ⟨k, hk, rfl, HB⟩ := hrel
    by_cases hlt : k < n
    · have r1 : (k : Int) < (n : Int) := by omega
      have r2 : (k : Int) ≤ 1048576 := by omega
      have r3 : (0 : Int) ≤ (k : Int) := by omega
      obtain ⟨v, hv⟩ : ∃ v, V[k]? = some v := ⟨_, List.getElem?_eq_getElem (by rw [HL.out]; exact hlt)⟩
      have hx : (ints V)[k]? = some (.int .i64 v) := by simp [ints, hv]
      have hpos : 0 < (ints V).length := by simp [ints]; have := HL.out; omega
      obtain ⟨b, o, rfl, hc⟩ := (HR.out.below HB.out).2 hpos
      obtain ⟨b', o', rfl, hc'⟩ := (HR'.out.below HB.out).2 hpos
      have l0 : wr.cell? ⟨b, o + k * 1, none⟩ = some (.int .i64 v) := by rw [Nat.mul_one]; exact hc k _ hx
      have l1 : wr.cell? ⟨b', o' + k * 1, none⟩ = some (.int .i64 v) := by rw [Nat.mul_one]; exact hc' k _ hx
      have k0 := later_drew_cell l0
      have k1 := later_drew_cell l1
      have k2 := later_drew_cell (hc k _ hx)
      have k3 := later_drew_cell (hc' k _ hx)
      clear hx hpos hc hc' hv
      go_wp2_with fail
      refine wp_region_k (by kernel_rfl) ?_
      refine wpAnyK_take 0 (v := ?_) rfl (by kernel_rfl) (by kernel_rfl) (by kernel_rfl) (fun _ _ _ h => h) (by rfl) (by intro W hSw; go_simp; with_reducible rfl) ?_; try simp only [Act.put, List.setIfInBounds_toArray, List.set_cons_zero, List.set_cons_succ]
      refine wpAnyK_take 1 (v := ?_) rfl (by kernel_rfl) (by kernel_rfl) (by kernel_rfl) (fun _ _ _ h => h) (by rfl) (by intro W hSw; go_simp; with_reducible rfl) ?_; try simp only [Act.put, List.setIfInBounds_toArray, List.set_cons_zero, List.set_cons_succ]
      refine wpAnyK_take 2 (v := ?_) rfl (by kernel_rfl) (by kernel_rfl) (by kernel_rfl) (fun _ _ _ h => h) (by rfl) (by intro W hSw; go_simp; with_reducible rfl) ?_; try simp only [Act.put, List.setIfInBounds_toArray, List.set_cons_zero, List.set_cons_succ]
      refine wpAnyK_take 3 (v := ?_) rfl (by kernel_rfl) (by kernel_rfl) (by kernel_rfl) (fun _ _ _ h => h) (by rfl) (by intro W hSw; go_simp; with_reducible rfl) ?_; try simp only [Act.put, List.setIfInBounds_toArray, List.set_cons_zero, List.set_cons_succ]
      refine wpAnyK_take 4 (v := ?_) rfl (by kernel_rfl) (by kernel_rfl) (by kernel_rfl) (fun _ _ _ h => h) (by rfl) (by intro W hSw; go_simp; with_reducible rfl) ?_; try simp only [Act.put, List.setIfInBounds_toArray, List.set_cons_zero, List.set_cons_succ]
      refine wpAnyK_take 5 (v := ?_) rfl (by kernel_rfl) (by kernel_rfl) (by kernel_rfl) (fun _ _ _ h => h) (by rfl) (by intro W hSw; go_simp; with_reducible rfl) ?_; try simp only [Act.put, List.setIfInBounds_toArray, List.set_cons_zero, List.set_cons_succ]
      refine wpAnyK_take 6 (v := ?_) rfl (by kernel_rfl) (by kernel_rfl) (by kernel_rfl) (fun _ _ _ h => h) (by rfl) (by intro W hSw; go_simp; with_reducible rfl) ?_; try simp only [Act.put, List.setIfInBounds_toArray, List.set_cons_zero, List.set_cons_succ]
      refine wpAnyK_take 7 (v := ?_) rfl (by kernel_rfl) (by kernel_rfl) (by kernel_rfl) (fun _ _ _ h => h) (by rfl) (by intro W hSw; go_simp; with_reducible rfl) ?_; try simp only [Act.put, List.setIfInBounds_toArray, List.set_cons_zero, List.set_cons_succ]
      refine wpAnyK_take 8 (v := ?_) rfl (by kernel_rfl) (by kernel_rfl) (by kernel_rfl) (fun _ _ _ h => h) (by rfl) (by intro W hSw; go_simp; with_reducible rfl) ?_; try simp only [Act.put, List.setIfInBounds_toArray, List.set_cons_zero, List.set_cons_succ]
      refine wpAnyK_done (by kernel_rfl) ?_ _
      go_wp2_with fail
      go_roundw
      case rel => exact ⟨k + 1, by omega, by go_num, hide_ (HB.out.trans (below_drewN (Later.refl _) 1))⟩
      case measure => simp [intOf]; omega
    · have r1 : ¬ (k : Int) < (n : Int) := by omega
      go_wp2_with fail
      go_ret
      exact ⟨rfl, HB.out⟩

end Go.Proofs.Ytinfeajbnhkkiaa
