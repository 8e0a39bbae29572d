/-
  awake of law 17; what a referee's Judge answers, case by case.
-/
import Derived.Test.YtidlkomgondkiaaKRJudge
namespace Go.Proofs.Ytidlkomgondkiaa
open Go.RowKit
set_option linter.unusedVariables false
set_option linter.unusedSimpArgs false
theorem rj_good {R0 : Nat} {E V f l p v : Int} {J : Bool} {told : List Int} {L : List Mk} {T : List Tx} {w w' : World} {en : Ending} (h : RJPost R0 E V J told L f l p v T w en w') (hR : RS w R0 E V J told L f l) (hp : p = V) (hv : V < v) (hs : T.length ≤ 4 ∧ T.all soundT = true) :
    ∃ D M m x L' f', JudgeAll v f L l T D M m ∧ en = .returned (.tuple #[x, .int .i64 0]) ∧ w'.ownsRow w.heap.size 3 1 x D.length (ints D) ∧ RS w' R0 E v true D L' f' m ∧ Turns R0 isRef w w' ∧ L' = (if v - 100 < f then M else M.filter (newer (v - 100))) ∧ f' = (if v - 100 < f then f else v - 100) ∧ L'.length ≤ L.length + 192 := by
  rcases h with ⟨h, _⟩ | ⟨h, _⟩ | ⟨_, _, h, _⟩ | ⟨_, _, h, _⟩ | ⟨_, _, h1, h2, D, M, m, x, hJ, he, ho, hRS, hT⟩
  · omega
  · omega
  · exact absurd hp (h.elim id (fun h => by omega))
  · exact absurd hs h
  · refine ⟨D, M, m, x, _, _, hJ, he, ho, hRS, hT, rfl, rfl, ?_⟩
    have hfa := fit_all hJ hR.fit.1 (by have := hR.fit; omega) (fun t2 h3 => (soundT_iff.1 (List.all_eq_true.1 h2 t2 h3)).2.2.1)
    have := hfa.2.2.2
    split
    · omega
    · exact Nat.le_trans (List.length_filter_le _ _) (by omega)
theorem rj_again {R0 : Nat} {E V f l p v : Int} {J : Bool} {told : List Int} {L : List Mk} {T : List Tx} {w w' : World} {en : Ending} (h : RJPost R0 E V J told L f l p v T w en w') (hv : v = V) (hJ : J = true) :
    (∃ x, en = .returned (.tuple #[x, .int .i64 0]) ∧ w'.ownsRow w.heap.size 3 1 x told.length (ints told)) ∧ Later w w' := by
  rcases h with ⟨_, _, h1, h2⟩ | ⟨h, _⟩ | ⟨_, h, _⟩ | ⟨_, h, _⟩ | ⟨_, h, _⟩
  · exact ⟨h1, h2⟩
  · omega
  · exact absurd ⟨hv, hJ⟩ h
  · omega
  · omega
theorem rj_old {R0 : Nat} {E V f l p v : Int} {J : Bool} {told : List Int} {L : List Mk} {T : List Tx} {w w' : World} {en : Ending} (h : RJPost R0 E V J told L f l p v T w en w') (hv : v < V) :
    en = .returned (.tuple #[.slice none 0 0, .int .i64 7]) ∧ Later w w' := by
  rcases h with ⟨h, _⟩ | ⟨_, h1, h2⟩ | ⟨h, _⟩ | ⟨_, h, _⟩ | ⟨_, h, _⟩
  · omega
  · exact ⟨h1, h2⟩
  · omega
  · omega
  · omega
theorem rj_order {R0 : Nat} {E V f l p v : Int} {J : Bool} {told : List Int} {L : List Mk} {T : List Tx} {w w' : World} {en : Ending} (h : RJPost R0 E V J told L f l p v T w en w') (hv : V < v) (hp : p ≠ V) :
    en = .returned (.tuple #[.slice none 0 0, .int .i64 9]) ∧ Later w w' := by
  rcases h with ⟨h, _⟩ | ⟨h, _⟩ | ⟨_, _, _, h1, h2⟩ | ⟨h, _⟩ | ⟨h, _⟩
  · omega
  · omega
  · exact ⟨h1, h2⟩
  · exact absurd h hp
  · exact absurd h hp
theorem later_turns {w w0 w' : World} {R0 : Nat} {S : TypeId → Prop} (h0 : Later w w0) (ht : Turns R0 S w0 w') (hB : w.heap.size ≤ R0) : Later w w' :=
  ⟨ht.os.trans h0.os, ht.tape.trans h0.tape, ht.output.trans h0.output, Nat.le_trans h0.size ht.size, fun k hk => (ht.block k (by omega)).trans (h0.block k hk)⟩
/-- Begin of a new referee. -/
theorem begin_new {w w' : World} {R0 : Nat} {e v : Int} {en : Ending} (h : BeginPost R0 0 0 e v (.pointer none) false (.slice none 0 0) w en w') (hR : R0 < w.heap.size) (h1 : 1 ≤ e) (h2 : 0 ≤ v) : en = .returned (.int .i64 0) ∧ RS w' R0 e v false [] [] v 0 ∧ w.grownBy w' (some R0) := by
  rcases h with ⟨⟨h, _⟩, _⟩ | ⟨⟨_, h, _⟩, _⟩ | ⟨⟨_, h, _⟩, _⟩ | ⟨h3, _, he, hr, hm, hg⟩
  · omega
  · omega
  · omega
  · exact ⟨he, rs_begin hr hR hm h3, hg⟩
set_option maxRecDepth 100000 in
set_option maxHeartbeats 4000000 in
theorem rawake_yes (w : World) : Calls Try.prog 28 #[] w fun e w' => e = .returned (.bool true) ∧ Later w w' := by
  go_enter Try.func28, Try.ntmps28
  go_wp2_with fail
  refine (rnew_any _).mono ?_; rintro e w1 ⟨rfl, hr, hb1⟩
  have HR := hide_ hr; have HB1 := hide_ hb1
  clear hr hb1
  go_wp2_with fail
  refine (begin_any 3 5 HR.out).mono ?_; rintro e w2 h
  obtain ⟨rfl, hrs, hg⟩ := begin_new h (heap_lt0 HR.out) (by omega) (by omega)
  have HRS2 := hide_ hrs
  have HB2 := hide_ (later_of_grown HB1.out hg (Nat.le_refl _))
  clear h hrs hg
  go_wp2_with fail
  obtain ⟨r0, r1, hl⟩ := alloc2_at w2 (.cells #[.int .i64 1, .string ⟨#[97]⟩, .string ⟨#[]⟩] 26) (.cells #[.int .i64 0, .slice none 0 0, .slice (some ⟨w2.heap.size, 0, none⟩) 1 1] 32)
  obtain ⟨W3, hW3⟩ : ∃ W3, W3 = ((w2.alloc (.cells #[.int .i64 1, .string ⟨#[97]⟩, .string ⟨#[]⟩] 26)).alloc (.cells #[.int .i64 0, .slice none 0 0, .slice (some ⟨w2.heap.size, 0, none⟩) 1 1] 32)) := ⟨_, rfl⟩
  rw [← hW3] at r0 r1 hl ⊢
  have hrow := txRow_one r1 (R := []) (C := [((1 : Int), (⟨#[97]⟩ : ByteArray), (⟨#[]⟩ : ByteArray))]) rfl rfl (by omega) (by omega) (Rd.nil _ _ _) (rd_block (n := 1) (size := 3) r0 rfl)
  have HRS3 := hide_ (HRS2.out.below hl)
  have HB3 := hide_ (HB2.out.trans hl)
  refine (rjudge_any (ct := 1) 5 9 HRS3.out hrow (by omega) (by simp) (by simp) (by omega)).mono ?_; rintro e w4 h
  obtain ⟨D, M, m, x, L', f', hJ, rfl, ho, hrs, hT, _, _, hlen⟩ := rj_good h HRS3.out rfl (by omega) ⟨by simp, by decide⟩
  obtain ⟨j, rfl, hjo⟩ := judgeAll_one hJ
  obtain ⟨rfl, -⟩ := fine_of hjo (judgeV_nil _ _ _)
  have HRS4 := hide_ hrs; have HO4 := hide_ ho
  have HB4 := hide_ (later_turns HB3.out hT (Nat.le_refl _))
  have hlen' : L'.length ≤ 192 := by simpa using hlen
  clear h hJ hjo ho hrs hT hlen hrow r0 r1 hl hW3
  obtain ⟨A, c, rfl⟩ := own_form HO4.out
  go_wp2_with fail
  refine (rjudge_any (ct := 0) (nt := 0) (At := none) (T := []) 5 9 HRS4.out (TxRow.nil _ _) (by omega) (by omega) (by simp) (by omega)).mono ?_; rintro e w5 h
  obtain ⟨⟨y, rfl, hoy⟩, hb5⟩ := rj_again h rfl rfl
  obtain ⟨A2, c2, rfl⟩ := own_form hoy
  have HB5 := hide_ (HB4.out.trans hb5)
  have HRS5 := hide_ (HRS4.out.below hb5)
  have HO5 := hide_ (own_below HO4.out hb5)
  clear h hoy hb5
  go_wp2_with fail
  obtain ⟨mv, tv, hat⟩ := HRS5.out.at_
  refine (rends_any hat).mono ?_; rintro e w6 ⟨rfl, hb6⟩
  have HB6 := hide_ (HB5.out.trans hb6)
  obtain ⟨bv, ov, rfl, hcv⟩ := ints_cells (own_below HO5.out hb6) rfl (by simp)
  have v0 : w6.cell? ⟨bv, ov, none⟩ = some (.int .i64 1) := hcv 0 1 rfl
  clear hcv hb6 hat
  go_wp2_with fail
  go_ret
  exact ⟨rfl, HB6.out⟩

end Go.Proofs.Ytidlkomgondkiaa
