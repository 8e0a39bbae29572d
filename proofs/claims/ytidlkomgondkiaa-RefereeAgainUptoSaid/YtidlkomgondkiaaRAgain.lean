/-
  RefereeAgain: for any transactions a batch that is judged again is judged as it was, and one that is elder is not judged; it writes nothing that was there.
  Conditions: the arguments hold at most 1048576 values and letters (the second form).
-/
import Derived.Test.YtidlkomgondkiaaKRAw
import Derived.Test.YtidlkomgondkiaaKRInts
import Derived.Test.YtidlkomgondkiaaKMOpen
namespace Go.Proofs.Ytidlkomgondkiaa
open Go.ChangeShapes Go.WideShapes Go.ChangeAt Go.RowKit
set_option linter.unusedVariables false
set_option linter.unusedSimpArgs false
theorem rtxRow_take {w : World} {A : Option Addr} {n k : Nat} {T : List Tx} (h : TxRow w A n T) (hk : k ≤ n) : TxRow w A k (T.take k) :=
  ⟨by rw [List.length_take, h.1]; omega, fun i t hi => h.2 i t (by
    rw [List.getElem?_take] at hi
    split at hi
    · exact hi
    · cases hi)⟩
theorem rj_bad {R0 : Nat} {E V f l p v : Int} {J : Bool} {told : List Int} {L : List Mk} {T : List Tx} {w w' : World} {en : Ending} (h : RJPost R0 E V J told L f l p v T w en w') (hv : V < v) (hp : p = V) (hs : ¬ (T.length ≤ 4 ∧ T.all soundT = true)) :
    en = .returned (.tuple #[.slice none 0 0, .int .i64 2]) ∧ Later w w' := by
  rcases h with ⟨h, _⟩ | ⟨h, _⟩ | ⟨_, _, h, _⟩ | ⟨_, _, _, h1, h2⟩ | ⟨_, _, h1, h2, _⟩
  · omega
  · omega
  · exact absurd hp (h.elim id (fun h => by omega))
  · exact ⟨h1, h2⟩
  · exact absurd ⟨h1, h2⟩ hs
set_option maxRecDepth 100000 in
set_option maxHeartbeats 16000000 in
theorem refereeAgain_walk {w : World} (A : Option Addr) (n c : Nat) (T : List Tx) (hT : TxRow w A n T) (hc : n ≤ c) (hcm : n ≤ 1048576) (Ao : Option Addr) (no co : Nat) (To : List Tx) (hTo : TxRow w Ao no To) (hcmo : no ≤ 1048576) (q : Int) (hq : 0 ≤ q ∧ q ≤ 255) :
    Calls Try.prog 10 #[.slice A n c, .slice Ao no co, .int .u8 q] w fun e w' => e = .returned (.bool true) ∧ Below w.heap.size w w' := by
  have qo1 := hq.1; have qo2 := hq.2
  have HT := hide_ hT; have HO := hide_ hTo
  clear hT hTo hq
  by_cases e4 : n ≤ 4
  · have p4 : ¬ (4 : Int) < (n : Int) := by omega
    have HT4 := hide_ (show TxRow w A n T from HT.out)
    have hn4 : n ≤ 4 := by omega
    go_enter Try.func10, Try.ntmps10
    go_wp2_with fail
    refine (rnew_any _).mono ?_; rintro e w1 ⟨rfl, hrf, hb1⟩
    have HRF1 := hide_ hrf; have HB1 := hide_ hb1
    clear hrf hb1
    go_wp2_with fail
    refine (rawake_yes _).mono ?_; rintro e w2 ⟨rfl, hb2⟩
    have HRF2 := hide_ (later_row hb2 HRF1.out); have HB2 := hide_ (HB1.out.trans hb2)
    clear hb2
    go_wp2_with fail
    refine (begin_any 1 10 HRF2.out).mono ?_; rintro e w3 h
    obtain ⟨rfl, hrs, hg⟩ := begin_new h (heap_lt0 HRF2.out) (by omega) (by omega)
    have HRS3 := hide_ hrs
    have HB3 := hide_ (later_of_grown HB2.out hg (Nat.le_refl _))
    clear h hrs hg
    go_wp2_with fail
    refine (rjudge_any 10 20 HRS3.out (HT4.out.below HB3.out) (by omega) (by simp) (by simp) (by omega)).mono ?_; rintro e w4 h
    by_cases hs : (T).length ≤ 4 ∧ (T).all soundT = true
    · obtain ⟨D, M, m, x, L', f', hJ, rfl, ho, hrs, hT, -, -, hlen⟩ := rj_good h HRS3.out rfl (by omega) hs
      have hdl : D.length ≤ 4 := by rw [judgeAll_length hJ]; exact hs.1
      have hlen' : L'.length ≤ 1000 := by have : ([] : List Mk).length = 0 := rfl; omega
      have HRS4 := hide_ hrs
      have HB4 := hide_ (later_turns HB3.out hT (Nat.le_refl _))
      obtain ⟨A4, c4, rfl⟩ := own_form ho
      have HO4 := hide_ ho
      clear h hs hJ ho hrs hT hlen
      go_wp2_with fail
      go_loopw [12] (fun s12 wr => ∃ (k : Nat), k ≤ 5 ∧ s12 = .int .i64 k ∧ Hid (RS wr w.heap.size 1 20 true D L' f' m) ∧ Hid (wr.ownsRow w3.heap.size 3 1 (.slice A4 D.length c4) D.length (ints D)) ∧ Hid (Later w wr)) (fun i _ => 5 - (intOf i).toNat)
      case atStart => exact ⟨0, by omega, rfl, HRS4, HO4, HB4⟩
      case round =>
        obtain ⟨k, hk, rfl, HRSr, HOr, HBr⟩ := hrel
        have hqt : q.tmod 5 = q % 5 := Int.tmod_eq_emod_of_nonneg qo1
        have hq5 : 0 ≤ q % 5 ∧ q % 5 ≤ 4 := by omega
        by_cases hlt : (k : Int) < q % 5
        · have hlt' : (k : Int) < q.tmod 5 := by omega
          go_wp2_with fail
          refine (rjudge_any q 20 HRSr.out (HO.out.below HBr.out) hcmo (by omega) (by omega) (by omega)).mono ?_; rintro e w5 h
          obtain ⟨⟨y, rfl, hoy⟩, hb5⟩ := rj_again h rfl rfl
          obtain ⟨A5, c5, rfl⟩ := own_form hoy
          have HRS5 := hide_ (HRSr.out.below hb5); have HB5 := hide_ (HBr.out.trans hb5); have HO5 := hide_ (own_below HOr.out hb5)
          have hin := hide_ (ints_same (c := c4) (c' := c5) (Rd.of_own HO5.out) (Rd.of_own hoy) rfl (by omega))
          clear h hoy hb5
          go_wp2_with fail
          refine hin.out.mono ?_; rintro e w6 ⟨rfl, hb6⟩
          have HRS6 := hide_ (HRS5.out.below hb6); have HB6 := hide_ (HB5.out.trans hb6); have HO6 := hide_ (own_below HO5.out hb6)
          clear hin hb6
          go_wp2_with fail
          go_roundw
          case rel => exact ⟨k + 1, by omega, by go_num, HRS6, HO6, HB6⟩
          case measure => simp [intOf]; omega
        · have hlt' : ¬ (k : Int) < q.tmod 5 := by omega
          go_wp2_with fail
          refine (rjudge_any 10 15 HRSr.out (HT4.out.below HBr.out) (by omega) (by omega) (by omega) (by omega)).mono ?_; rintro e w5 h
          obtain ⟨rfl, hb5⟩ := rj_old h (by omega)
          have HRS5 := hide_ (HRSr.out.below hb5); have HB5 := hide_ (HBr.out.trans hb5)
          clear h hb5
          go_wp2_with fail
          refine (rjudge_any 10 30 HRS5.out (HT4.out.below HB5.out) (by omega) (by omega) (by omega) (by omega)).mono ?_; rintro e w6 h
          obtain ⟨rfl, hb6⟩ := rj_order h (by omega) (by omega)
          have HRS6 := hide_ (HRS5.out.below hb6); have HB6 := hide_ (HB5.out.trans hb6)
          clear h hb6
          go_wp2_with fail
          obtain ⟨mv, tv, hat⟩ := HRS6.out.at_
          refine (rjudge_wrong 2 20 30 hat (.inl (by omega))).mono ?_; rintro e w7 ⟨rfl, hb7⟩
          have HB7 := hide_ (HB6.out.trans hb7)
          clear hat hb7
          go_wp2_with fail
          go_ret
          exact ⟨rfl, HB7.out⟩
    · obtain ⟨rfl, hb4⟩ := rj_bad h (by omega) rfl hs
      have HRS4 := hide_ (HRS3.out.below hb4); have HB4 := hide_ (HB3.out.trans hb4)
      clear h hs hb4
      go_wp2_with fail
      refine (rjudge_any (ct := 0) (nt := 0) (At := none) (T := []) 10 20 HRS4.out (TxRow.nil _ _) (by omega) (by simp) (by simp) (by omega)).mono ?_; rintro e w5 h
      obtain ⟨D, M, m, x, L', f', hJ, rfl, ho, hrs, hT, -, -, hlen⟩ := rj_good h HRS4.out rfl (by omega) ⟨by simp, by decide⟩
      have HB5 := hide_ (later_turns HB4.out hT (Nat.le_refl _))
      clear h hJ ho hrs hT hlen
      go_wp2_with fail
      go_ret
      exact ⟨rfl, HB5.out⟩
  · have p4 : (4 : Int) < (n : Int) := by omega
    have p5 : (4 : Int) ≤ (c : Int) := by omega
    have p6 : 4 ≤ c := by omega
    obtain ⟨b, o, hAb⟩ : ∃ b o, A = some ⟨b, o, none⟩ := by
      obtain ⟨b, o, _, _, _, _, _, _, h, _⟩ := HT.out.2 0 _ (List.getElem?_eq_getElem (by rw [HT.out.1]; omega))
      exact ⟨b, o, h⟩
    subst hAb
    have HT4 := hide_ (show TxRow w (some ⟨b, o, none⟩) 4 (T.take 4) from rtxRow_take HT.out (by omega))
    have hn4 : 4 ≤ 4 := by omega
    go_enter Try.func10, Try.ntmps10
    go_wp2_with fail
    refine (rnew_any _).mono ?_; rintro e w1 ⟨rfl, hrf, hb1⟩
    have HRF1 := hide_ hrf; have HB1 := hide_ hb1
    clear hrf hb1
    go_wp2_with fail
    refine (rawake_yes _).mono ?_; rintro e w2 ⟨rfl, hb2⟩
    have HRF2 := hide_ (later_row hb2 HRF1.out); have HB2 := hide_ (HB1.out.trans hb2)
    clear hb2
    go_wp2_with fail
    refine (begin_any 1 10 HRF2.out).mono ?_; rintro e w3 h
    obtain ⟨rfl, hrs, hg⟩ := begin_new h (heap_lt0 HRF2.out) (by omega) (by omega)
    have HRS3 := hide_ hrs
    have HB3 := hide_ (later_of_grown HB2.out hg (Nat.le_refl _))
    clear h hrs hg
    go_wp2_with fail
    refine (rjudge_any 10 20 HRS3.out (HT4.out.below HB3.out) (by omega) (by simp) (by simp) (by omega)).mono ?_; rintro e w4 h
    by_cases hs : ((T.take 4)).length ≤ 4 ∧ ((T.take 4)).all soundT = true
    · obtain ⟨D, M, m, x, L', f', hJ, rfl, ho, hrs, hT, -, -, hlen⟩ := rj_good h HRS3.out rfl (by omega) hs
      have hdl : D.length ≤ 4 := by rw [judgeAll_length hJ]; exact hs.1
      have hlen' : L'.length ≤ 1000 := by have : ([] : List Mk).length = 0 := rfl; omega
      have HRS4 := hide_ hrs
      have HB4 := hide_ (later_turns HB3.out hT (Nat.le_refl _))
      obtain ⟨A4, c4, rfl⟩ := own_form ho
      have HO4 := hide_ ho
      clear h hs hJ ho hrs hT hlen
      go_wp2_with fail
      go_loopw [12] (fun s12 wr => ∃ (k : Nat), k ≤ 5 ∧ s12 = .int .i64 k ∧ Hid (RS wr w.heap.size 1 20 true D L' f' m) ∧ Hid (wr.ownsRow w3.heap.size 3 1 (.slice A4 D.length c4) D.length (ints D)) ∧ Hid (Later w wr)) (fun i _ => 5 - (intOf i).toNat)
      case atStart => exact ⟨0, by omega, rfl, HRS4, HO4, HB4⟩
      case round =>
        obtain ⟨k, hk, rfl, HRSr, HOr, HBr⟩ := hrel
        have hqt : q.tmod 5 = q % 5 := Int.tmod_eq_emod_of_nonneg qo1
        have hq5 : 0 ≤ q % 5 ∧ q % 5 ≤ 4 := by omega
        by_cases hlt : (k : Int) < q % 5
        · have hlt' : (k : Int) < q.tmod 5 := by omega
          go_wp2_with fail
          refine (rjudge_any q 20 HRSr.out (HO.out.below HBr.out) hcmo (by omega) (by omega) (by omega)).mono ?_; rintro e w5 h
          obtain ⟨⟨y, rfl, hoy⟩, hb5⟩ := rj_again h rfl rfl
          obtain ⟨A5, c5, rfl⟩ := own_form hoy
          have HRS5 := hide_ (HRSr.out.below hb5); have HB5 := hide_ (HBr.out.trans hb5); have HO5 := hide_ (own_below HOr.out hb5)
          have hin := hide_ (ints_same (c := c4) (c' := c5) (Rd.of_own HO5.out) (Rd.of_own hoy) rfl (by omega))
          clear h hoy hb5
          go_wp2_with fail
          refine hin.out.mono ?_; rintro e w6 ⟨rfl, hb6⟩
          have HRS6 := hide_ (HRS5.out.below hb6); have HB6 := hide_ (HB5.out.trans hb6); have HO6 := hide_ (own_below HO5.out hb6)
          clear hin hb6
          go_wp2_with fail
          go_roundw
          case rel => exact ⟨k + 1, by omega, by go_num, HRS6, HO6, HB6⟩
          case measure => simp [intOf]; omega
        · have hlt' : ¬ (k : Int) < q.tmod 5 := by omega
          go_wp2_with fail
          refine (rjudge_any 10 15 HRSr.out (HT4.out.below HBr.out) (by omega) (by omega) (by omega) (by omega)).mono ?_; rintro e w5 h
          obtain ⟨rfl, hb5⟩ := rj_old h (by omega)
          have HRS5 := hide_ (HRSr.out.below hb5); have HB5 := hide_ (HBr.out.trans hb5)
          clear h hb5
          go_wp2_with fail
          refine (rjudge_any 10 30 HRS5.out (HT4.out.below HB5.out) (by omega) (by omega) (by omega) (by omega)).mono ?_; rintro e w6 h
          obtain ⟨rfl, hb6⟩ := rj_order h (by omega) (by omega)
          have HRS6 := hide_ (HRS5.out.below hb6); have HB6 := hide_ (HB5.out.trans hb6)
          clear h hb6
          go_wp2_with fail
          obtain ⟨mv, tv, hat⟩ := HRS6.out.at_
          refine (rjudge_wrong 2 20 30 hat (.inl (by omega))).mono ?_; rintro e w7 ⟨rfl, hb7⟩
          have HB7 := hide_ (HB6.out.trans hb7)
          clear hat hb7
          go_wp2_with fail
          go_ret
          exact ⟨rfl, HB7.out⟩
    · obtain ⟨rfl, hb4⟩ := rj_bad h (by omega) rfl hs
      have HRS4 := hide_ (HRS3.out.below hb4); have HB4 := hide_ (HB3.out.trans hb4)
      clear h hs hb4
      go_wp2_with fail
      refine (rjudge_any (ct := 0) (nt := 0) (At := none) (T := []) 10 20 HRS4.out (TxRow.nil _ _) (by omega) (by simp) (by simp) (by omega)).mono ?_; rintro e w5 h
      obtain ⟨D, M, m, x, L', f', hJ, rfl, ho, hrs, hT, -, -, hlen⟩ := rj_good h HRS4.out rfl (by omega) ⟨by simp, by decide⟩
      have HB5 := hide_ (later_turns HB4.out hT (Nat.le_refl _))
      clear h hJ ho hrs hT hlen
      go_wp2_with fail
      go_ret
      exact ⟨rfl, HB5.out⟩
set_option maxRecDepth 20000 in
theorem refereeAgain_contract (H : Type) (enc : TypeId × Value → H) (W : World) (base : Nat) (args : Array Value) (ds : List (DataW H)) (before : List MemPlace)
    (hval : ∀ (j : Nat) t v, Try.f10.params[j]? = some t → args[j]? = some v → Value.okWide Try.prog W .any base t v)
    (hA : DataW.TrodAll enc Try.prog W 0 (fun _ => true) true Try.f10.params.toList args.toList ds before)
    (_hsz : (DataW.weightsEach Try.prog (Try.f10.params.toList ++ Rows.refereeAgainSpec.plain.varTypes Try.prog) (ds ++ [])).all (· ≤ reachBytes) = true)
    (hk : Rows.uptoSmall H (ds ++ []) = true) :
    Calls Try.prog 10 args W fun e W' => e = .returned (.bool true) ∧ Below W.heap.size W W' := by
  rw [Try.params10] at hA hval
  obtain ⟨v0, vs0, d0, ds0, p0, q0, hargs, rfl, rfl, h0, r0⟩ := trodAll_cons hA
  obtain ⟨v1, vs1, d1, ds1, p1, q1, rfl, rfl, rfl, h1, r1⟩ := trodAll_cons r0
  obtain ⟨v2, vs2, d2, ds2, p2, q2, rfl, rfl, rfl, h2, r2⟩ := trodAll_cons r1
  obtain ⟨rfl, rfl, rfl⟩ := trodAll_nil r2
  obtain rfl : args = #[v0, v1, v2] := by cases args; simp_all
  have hbb := bulk_bound hk
  have hb0 := bulk_mem (d := d0) (l := [d0, d1, d2]) (by simp)
  have hb1 := bulk_mem (d := d1) (l := [d0, d1, d2]) (by simp)
  obtain ⟨A, c, T, rfl, hc, hcm, _, hT⟩ := mopen_txns (hval 0 40 v0 rfl rfl) h0 (by omega)
  obtain ⟨Ao, co, To, rfl, hco, hcmo, _, hTo⟩ := mopen_txns (hval 1 40 v1 rfl rfl) h1 (by omega)
  obtain ⟨q, rfl, rfl, rfl, w2⟩ := open_int Try.underlying5 (hval 2 5 v2 rfl rfl) h2
  have hq : 0 ≤ q ∧ q ≤ 255 := by simpa [Lit.wf, IntKind.min, IntKind.max, IntKind.signed, IntKind.bits] using w2
  exact refereeAgain_walk A _ c T hT hc hcm Ao _ co To hTo hcmo q hq

set_option maxRecDepth 100000 in
theorem refereeAgain_lifted (os : Os) (started : os.Started) (H : Type) (enc : TypeId × Value → H) (F : Stop.Interp) :
    ReturnsInHanded {} Try.checked os 10 .any ((Rows.OpenSpec.upto Rows.refereeAgainSpec).pre6 enc Try.prog Try.f10 Rows.refereeAgainUptoRow.domain false) (((Rows.OpenSpec.upto Rows.refereeAgainSpec).at F).post enc Try.prog Try.f10 false true false false) := by
  refine returnsInHanded_of_cond_sized (C := Try.checked) (s := Rows.OpenSpec.upto Rows.refereeAgainSpec) (k := Rows.uptoSmall) rfl own started (by kernel_rfl) Try.func10
    (OpenSpec.witness (enc := enc) (C := Try.checked) (s := Rows.OpenSpec.upto Rows.refereeAgainSpec) (k := Rows.uptoSmall) rfl false ⟨#[], #[.slice none 0 0, .slice none 0 0, .int .u8 0], []⟩ 8 (by kernel_rfl) (by kernel_rfl) (by kernel_rfl)
      (x := ([.nil, .nil, .lit (.int .u8 0)], [], [])) (by kernel_rfl) rfl (by kernel_rfl)) ?_
  intro W base args ds gs before hval hW _ hk hsz _
  have hW' := hW
  obtain ⟨p, q, hA0, hV, rfl, hfz, hnd⟩ := hW
  obtain ⟨rfl, rfl⟩ := trodVars_none hV
  have hA : DataW.TrodAll enc Try.prog W 0 (fun _ => true) true Try.f10.params.toList args.toList ds p := hA0
  refine (refereeAgain_contract H enc W base args ds p hval hA hsz hk).mono fun e W' ⟨he, hb⟩ => ?_
  subst he
  have hds : ds.length = 3 := by
    rw [Try.params10] at hA
    obtain ⟨v0, vs0, d0, ds0, p0, q0, _, rfl, rfl, _, r0⟩ := trodAll_cons hA
    obtain ⟨v1, vs1, d1, ds1, p1, q1, _, rfl, rfl, _, r1⟩ := trodAll_cons r0
    obtain ⟨v2, vs2, d2, ds2, p2, q2, _, rfl, rfl, _, r2⟩ := trodAll_cons r1
    obtain ⟨_, rfl, rfl⟩ := trodAll_nil r2
    rfl
  have hsh : ∃ d0 d1 d2 : DataW H, ds = [d0, d1, d2] := by
    match ds, hds with
    | [d0, d1, d2], _ => exact ⟨d0, d1, d2, rfl⟩
  obtain ⟨d0, d1, d2, rfl⟩ := hsh
  exact ⟨_, rfl, post_law (s := Rows.refereeAgainSpec) laidOut (by kernel_rfl) Try.underlying4 rfl (by kernel_rfl) hW' rfl rfl rfl hb⟩
theorem refereeAgain_over : Rows.refereeAgainUptoRow.holds Try.pinned (Rows.OpenSpec.upto Rows.refereeAgainSpec) :=
  OpenClaim.holds_of_cond 10 Try.f10 rfl rfl rfl rfl rfl rfl rfl ⟨rfl, rfl, rfl, rfl, rfl⟩ rfl rfl rfl rfl rfl (by kernel_rfl) Try.func10 (by kernel_rfl)
    (of_decide_eq_true (by kernel_rfl)) (by unfold Func.isWrapper; first | (rw [if_pos (by decide +kernel)]; kernel_rfl) | (rw [if_neg (by decide +kernel)]; exact ⟨rfl, rfl⟩))
    (fun os started H enc _ F => refereeAgain_lifted os started H enc F)
/-- The statement. -/
theorem refereeAgain_holds : Rows.RefereeAgainUptoSaid := refereeAgain_over
end Go.Proofs.Ytidlkomgondkiaa
