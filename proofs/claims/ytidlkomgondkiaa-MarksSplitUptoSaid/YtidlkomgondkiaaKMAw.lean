/-
  awake of law 11; no Marks.
-/
import Derived.Test.YtidlkomgondkiaaKMarkSem
namespace Go.Proofs.Ytidlkomgondkiaa
open Go.RowKit
set_option linter.unusedVariables false
set_option linter.unusedSimpArgs false
/-- What lies elsewhere stays while one block is written. -/
theorem rd_other {w w' : World} {size n B0 : Nat} {A : Option Addr} {xs : List Value} (h : Rd w size A n xs) (hg : w.grownBy w' (some B0)) (hA : ∀ b o, A = some ⟨b, o, none⟩ → 0 < xs.length → b ≠ B0) : Rd w' size A n xs := by
  refine ⟨h.1, fun hn => ?_⟩
  obtain ⟨b, o, e, hc⟩ := h.2 hn
  refine ⟨b, o, e, fun j u hu => ?_⟩
  have h1 := hc j u hu
  rw [World.cell?_of_block (hg.block b (cell_lt h1) (fun e2 => hA b o e hn (Option.some.inj e2)))]
  exact h1
/-- Marks hold no text. -/
theorem no_text {w : World} {B0 o : Nat} {v : Value} {f l : Int} {s : ByteArray} (hm : MarksAt w B0 v f l) (h : w.cell? ⟨B0, o, none⟩ = some (.string s)) (hv : ∀ s, v ≠ .string s) : False := by
  have h2 := cell_of_row w B0 o _ _ (0, 0) hm
  rw [h2] at h
  match o, h with
  | 0, h => exact hv s (by simpa using h)
  | 1, h => simp at h
  | 2, h => simp at h
  | k + 3, h => exact absurd h (by simp)
theorem crow_text {w : World} {B0 p : Nat} {A A1 : Option Addr} {n1 c1 : Nat} {C : List Chg} {f l : Int} (hm : MarksAt w B0 (.slice A1 n1 c1) f l) (h : Rd w 3 A p (crow C)) : ∀ b o, A = some ⟨b, o, none⟩ → 0 < (crow C).length → b ≠ B0 := by
  rintro b o rfl hn rfl
  obtain ⟨b', o', e, hc⟩ := h.2 hn
  injection e with e
  injection e with e1 e2
  subst e1 e2
  match C, hn with
  | s :: C, _ => exact no_text hm (hc 1 (.string s.2.1) rfl) (fun _ h => nomatch h)
theorem srow_text {w : World} {B0 p : Nat} {A A1 : Option Addr} {n1 c1 : Nat} {C : List Spn} {f l : Int} (hm : MarksAt w B0 (.slice A1 n1 c1) f l) (h : Rd w 2 A p (srow C)) : ∀ b o, A = some ⟨b, o, none⟩ → 0 < (srow C).length → b ≠ B0 := by
  rintro b o rfl hn rfl
  obtain ⟨b', o', e, hc⟩ := h.2 hn
  injection e with e
  injection e with e1 e2
  subst e1 e2
  match C, hn with
  | s :: C, _ => exact no_text hm (hc 0 (.string s.1) rfl) (fun _ h => nomatch h)
/-- Transactions do not lie where Marks lie. -/
theorem TxRow.stayM {w : World} {B0 n n1 c1 : Nat} {A A1 : Option Addr} {T : List Tx} {f l : Int} (h : TxRow w A n T) (hm : MarksAt w B0 (.slice A1 n1 c1) f l) : TxStay w B0 A n T := by
  refine ⟨h.1, fun i t hi => ?_⟩
  obtain ⟨b, o, A1, A2, m1, c1, m2, c2, rfl, h0, h1, h2, h3, h4, h5, h6, h7, h8⟩ := h.2 i t hi
  have hb : b ≠ B0 := by
    rintro rfl
    have h2' := cell_of_row w b (o + i * 3 + 2) _ _ (0, 0) hm
    have h1' := cell_of_row w b (o + i * 3 + 1) _ _ (0, 0) hm
    rw [h2'] at h2
    rw [h1'] at h1
    match o + i * 3, h1, h2 with
    | 0, h1, h2 => simp at h1
    | k + 1, h1, h2 => exact absurd h2 (by simp)
  refine ⟨b, o, A1, A2, m1, c1, m2, c2, rfl, h3, h4, h5, h6, fun W hW => ?_⟩
  have hk : ∀ j, (h : (w.cell? ⟨b, j, none⟩).isSome) → W.cell? ⟨b, j, none⟩ = w.cell? ⟨b, j, none⟩ := fun j h => by
    obtain ⟨u, hu⟩ := Option.isSome_iff_exists.1 h
    exact World.cell?_of_block (hW.block b (cell_lt hu) (fun e => hb (Option.some.inj e)))
  exact ⟨(hk _ (by rw [h0]; rfl)).trans h0, (hk _ (by rw [h1]; rfl)).trans h1, (hk _ (by rw [h2]; rfl)).trans h2, rd_other h7 hW (srow_text hm h7), rd_other h8 hW (crow_text hm h8)⟩
/-- Some transactions, as cells. -/
def encT (t : Int × (Option Addr × Nat × Nat) × (Option Addr × Nat × Nat)) : List Value := [.int .i64 t.1, .slice t.2.1.1 t.2.1.2.1 t.2.1.2.2, .slice t.2.2.1 t.2.2.2.1 t.2.2.2.2]
theorem txRow_of {w : World} {b o n : Nat} {T : List Tx} (hn : T.length = n) (h : ∀ (i : Nat) (t : Tx), T[i]? = some t → ∃ (A1 A2 : Option Addr) (c1 c2 : Nat), w.cell? ⟨b, o + i * 3, none⟩ = some (.int .i64 t.1) ∧ w.cell? ⟨b, o + i * 3 + 1, none⟩ = some (.slice A1 t.2.1.length c1) ∧ w.cell? ⟨b, o + i * 3 + 2, none⟩ = some (.slice A2 t.2.2.length c2) ∧
    t.2.1.length ≤ 1048576 ∧ t.2.2.length ≤ 1048576 ∧ Rd w 2 A1 t.2.1.length (srow t.2.1) ∧ Rd w 3 A2 t.2.2.length (crow t.2.2)) : TxRow w (some ⟨b, o, none⟩) n T := by
  refine ⟨hn, fun i t hi => ?_⟩
  obtain ⟨A1, A2, c1, c2, h0, h1, h2, h3, h4, h5, h6⟩ := h i t hi
  exact ⟨b, o, A1, A2, _, c1, _, c2, rfl, h0, h1, h2, rfl, rfl, h3, h4, h5, h6⟩
/-! No Marks. -/
theorem judge_none (v : Int) (x : Value) (w : World) : Calls Try.prog 17 #[.pointer none, .int .i64 v, x] w fun e w' => e = .returned (.tuple #[.slice none 0 0, .int .i64 1]) ∧ Later w w' := by
  go_enter Try.func17, Try.ntmps17
  go_wp2_with fail
  go_ret2
  exact ⟨rfl, Later.refl _⟩
theorem last_none (s : Spn) (w : World) : Calls Try.prog 21 #[.pointer none, .agg #[.string s.1, .string s.2]] w fun e w' => e = .returned (.tuple #[.int .i64 0, .bool false]) ∧ Later w w' := by
  go_enter Try.func21, Try.ntmps21
  go_wp2_with fail
  go_ret2
  exact ⟨rfl, later_alloc _ _⟩
theorem forget_none (v : Int) (w : World) : Calls Try.prog 23 #[.pointer none, .int .i64 v] w fun e w' => e = .returned (.int .i64 1) ∧ Later w w' := by
  go_enter Try.func23, Try.ntmps23
  go_wp2_with fail
  go_ret
  exact ⟨rfl, later_alloc _ _⟩
theorem size_none (w : World) : Calls Try.prog 25 #[.pointer none] w fun e w' => e = .returned (.int .i64 0) ∧ Later w w' := by
  go_enter Try.func25, Try.ntmps25
  go_wp2_with fail
  go_ret
  exact ⟨rfl, Later.refl _⟩
set_option maxRecDepth 100000 in
set_option maxHeartbeats 4000000 in
theorem awake_yes (w : World) : Calls Try.prog 15 #[] w fun e w' => e = .returned (.bool true) ∧ Later w w' := by
  go_enter Try.func15, Try.ntmps15
  go_wp2_with fail
  refine (new_any _ _).mono ?_; rintro e w1 ⟨rfl, hm, hb1⟩
  have HMK := hide_ (mk_new hm)
  have HB1 := hide_ hb1
  have HMA := hide_ hm
  clear hm hb1
  go_wp2_with fail
  have hl3 : Later w1 (((w1.alloc (.cells #[.int .i64 1, .string ⟨#[97]⟩, .string ⟨#[]⟩] 26)).alloc (.cells #[.string ⟨#[97]⟩, .string ⟨#[98]⟩] 24)).alloc (.cells #[.int .i64 0, .slice none 0 0, .slice (some ⟨w1.heap.size, 0, none⟩) 1 1, .int .i64 6, .slice (some ⟨w1.heap.size + 1, 0, none⟩) 1 1, .slice none 0 0] 32)) :=
    ((later_alloc _ _).trans (later_alloc _ _)).trans (later_alloc _ _)
  have hrow : TxRow (((w1.alloc (.cells #[.int .i64 1, .string ⟨#[97]⟩, .string ⟨#[]⟩] 26)).alloc (.cells #[.string ⟨#[97]⟩, .string ⟨#[98]⟩] 24)).alloc (.cells #[.int .i64 0, .slice none 0 0, .slice (some ⟨w1.heap.size, 0, none⟩) 1 1, .int .i64 6, .slice (some ⟨w1.heap.size + 1, 0, none⟩) 1 1, .slice none 0 0] 32)) (some ⟨w1.heap.size + 1 + 1, 0, none⟩) 2 [((0 : Int), [], [((1 : Int), (⟨#[97]⟩ : ByteArray), (⟨#[]⟩ : ByteArray))]), (6, [(⟨#[97]⟩, ⟨#[98]⟩)], [])] := by
    have hx := heap_alloc_new ((w1.alloc (.cells #[.int .i64 1, .string ⟨#[97]⟩, .string ⟨#[]⟩] 26)).alloc (.cells #[.string ⟨#[97]⟩, .string ⟨#[98]⟩] 24)) (.cells #[.int .i64 0, .slice none 0 0, .slice (some ⟨w1.heap.size, 0, none⟩) 1 1, .int .i64 6, .slice (some ⟨w1.heap.size + 1, 0, none⟩) 1 1, .slice none 0 0] 32)
    have hc := (((Rd.newAt w1 #[.int .i64 1, .string ⟨#[97]⟩, .string ⟨#[]⟩] 26 1 3 w1.heap.size (0, 0) rfl rfl).alloc (.cells #[.string ⟨#[97]⟩, .string ⟨#[98]⟩] 24)).alloc (.cells #[.int .i64 0, .slice none 0 0, .slice (some ⟨w1.heap.size, 0, none⟩) 1 1, .int .i64 6, .slice (some ⟨w1.heap.size + 1, 0, none⟩) 1 1, .slice none 0 0] 32))
    have hs := ((Rd.newAt (w1.alloc (.cells #[.int .i64 1, .string ⟨#[97]⟩, .string ⟨#[]⟩] 26)) #[.string ⟨#[97]⟩, .string ⟨#[98]⟩] 24 1 2 (w1.heap.size + 1) (0, 0) rfl (by simp)).alloc (.cells #[.int .i64 0, .slice none 0 0, .slice (some ⟨w1.heap.size, 0, none⟩) 1 1, .int .i64 6, .slice (some ⟨w1.heap.size + 1, 0, none⟩) 1 1, .slice none 0 0] 32))
    have hcell := fun k => cell_of_row _ _ k _ _ (0, 0) hx
    rw [show ((w1.alloc (.cells #[.int .i64 1, .string ⟨#[97]⟩, .string ⟨#[]⟩] 26)).alloc (.cells #[.string ⟨#[97]⟩, .string ⟨#[98]⟩] 24)).heap.size = w1.heap.size + 1 + 1 by simp] at hcell
    refine txRow_of rfl fun i t hi => ?_
    match i, hi with
    | 0, hi =>
      obtain rfl := Option.some.inj hi
      exact ⟨_, _, _, _, hcell 0, hcell 1, hcell 2, by simp, by simp, Rd.nil _ _ _, hc⟩
    | 1, hi =>
      obtain rfl := Option.some.inj hi
      exact ⟨_, _, _, _, hcell 3, hcell 4, hcell 5, by simp, by simp, hs, Rd.nil _ _ _⟩
    | k + 2, hi => exact absurd hi (by simp)
  obtain ⟨W3, hW3⟩ : ∃ W3, W3 = (((w1.alloc (.cells #[.int .i64 1, .string ⟨#[97]⟩, .string ⟨#[]⟩] 26)).alloc (.cells #[.string ⟨#[97]⟩, .string ⟨#[98]⟩] 24)).alloc (.cells #[.int .i64 0, .slice none 0 0, .slice (some ⟨w1.heap.size, 0, none⟩) 1 1, .int .i64 6, .slice (some ⟨w1.heap.size + 1, 0, none⟩) 1 1, .slice none 0 0] 32)) := ⟨_, rfl⟩
  rw [← hW3] at hl3 hrow ⊢
  have HL3 := hide_ hl3
  have hmk3 := HMK.out.below hl3
  have hst := hrow.stayM ((hl3.block _ (heap_lt0 HMA.out)).trans HMA.out)
  clear hW3 hrow hl3
  refine (judges_any (ct := 2) 9 hmk3 (by simp) ⟨trivial, by omega, fun k hk => (by cases hk)⟩ (by omega) hst (by omega)).mono ?_; rintro e w4 hj
  rcases hj with ⟨h, _⟩ | ⟨_, h, _⟩ | ⟨_, _, _, Av, nv, cv, V, M, m, rfl, hJ, hV, hVo, hMK, hG⟩
  · exact absurd h (by omega)
  · exact absurd ⟨by simp, by decide⟩ h
  obtain ⟨rfl, hmd, hlast, hruns, hsize⟩ := aw_marks hJ
  obtain rfl : 2 = nv := hV
  have HMD := hide_ hmd; have HLAST := hide_ hlast; have HRUNS := hide_ hruns; have HSIZE := hide_ (show M.length ≤ 1048576 by omega)
  have HJ := hide_ hJ
  have HG4 := hide_ hG
  have HV4 := hide_ hVo; have HMK4 := hide_ hMK
  obtain ⟨Am, nm, cm, hma, hmo, hml⟩ := hMK
  have hla := hide_ (last_any (c := cm) ((⟨#[97]⟩, ⟨#[99]⟩) : Spn) hma (Rd.of_own hmo) hml (by omega))
  clear hJ hVo hG hmk3 hst hma hmo hml hmd hlast hruns hsize
  go_wp2_with fail
  refine hla.out.mono ?_; rintro e w5 ⟨rfl, hb5⟩
  rw [HLAST.out]
  have hsz := hide_ (size_any (HMK4.out.below hb5) HMD.out HSIZE.out)
  have HB5 := hide_ hb5
  obtain ⟨bv, ov, hbo, hcv⟩ := (Rd.of_own (own_below HV4.out hb5)).2 (by simp [ints])
  have v0 : w5.cell? ⟨bv, ov, none⟩ = some (.int .i64 1) := hcv 0 (.int .i64 1) rfl
  have v1 := hcv 1 (.int .i64 2) rfl
  obtain rfl := hbo
  clear hla hb5 hcv
  go_wp2_with fail
  refine hsz.out.mono ?_; rintro e w6 ⟨rfl, hb6⟩
  rw [HRUNS.out]
  have HB6 := hide_ hb6
  clear hsz hb6 v0 v1
  go_wp2_with fail
  go_ret
  refine ⟨rfl, ?_⟩
  have hw : w.heap.size ≤ w1.heap.size := HB1.out.size
  have h3 : Later w W3 := HB1.out.trans HL3.out
  have h4 : Later w w4 := ⟨HG4.out.os.trans h3.os, HG4.out.tape.trans h3.tape, HG4.out.output.trans h3.output, Nat.le_trans h3.size HG4.out.size, fun k hk => (HG4.out.block k (Nat.lt_of_lt_of_le hk h3.size) (fun e => by have := Option.some.inj e; omega)).trans (h3.block k hk)⟩
  exact (h4.trans HB5.out).trans HB6.out

end Go.Proofs.Ytidlkomgondkiaa
