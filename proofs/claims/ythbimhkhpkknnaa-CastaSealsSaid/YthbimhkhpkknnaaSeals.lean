/-
  CastaSeals: for any bytes, what the program seals and opens is what the document's answer is.
  Conditions: none but the row's own.
-/
import Derived.Test.YthbimhkhpkknnaaAwake
import Derived.Test.YthbimhkhpkknnaaFrame
import Derived.Test.YthbimhkhpkknnaaROpen
import Derived.Test.YthbimhkhpkknnaaRegion
namespace Go.Proofs.Ythbimhkhpkknnaa
open Go.ChangeShapes Go.WideShapes Go.ChangeAt Go.RowKit
set_option linter.unusedVariables false
/-- What Open answers: the bytes, and the error's number. -/
def openOf : List UInt8 → List UInt8 × Nat
  | x0 :: x1 :: x2 :: x3 :: t => if crc t = leV x0 x1 x2 x3 then (t, 0) else ([], 2)
  | _ => ([], 3)
/-- A slice value that is read as these bytes. -/
def IsBytes (w : World) (v : Value) (l : List UInt8) : Prop := ∃ A c, v = .slice A l.length c ∧ (A = none → l.length = 0) ∧ Rd w 1 A l.length (bvs l)
theorem IsBytes.of_own {w : World} {B : Nat} {v : Value} {l : List UInt8} (h : w.ownsRow B 5 1 v l.length (bvs l)) : IsBytes w v l := by
  obtain ⟨A, c, rfl⟩ := own_form h
  exact ⟨A, c, rfl, own_nil h, Rd.of_own h⟩
theorem IsBytes.nil (w : World) : IsBytes w (.slice none 0 0) [] := ⟨none, 0, rfl, fun _ => rfl, Rd.nil _ _ _⟩
theorem openOf_short {l : List UInt8} (h : l.length < 4) : openOf l = ([], 3) := by
  match l, h with
  | [], _ => rfl
  | [_], _ => rfl
  | [_, _], _ => rfl
  | [_, _, _], _ => rfl
theorem four {l : List UInt8} (h : 4 ≤ l.length) : ∃ x0 x1 x2 x3 t, l = x0 :: x1 :: x2 :: x3 :: t := by
  match l, h with
  | x0 :: x1 :: x2 :: x3 :: t, _ => exact ⟨_, _, _, _, _, rfl⟩
theorem open_all (A : Option Addr) (c : Nat) (l : List UInt8) (w : World) (hl : l.length ≤ 140737488351232) (hc : l.length ≤ c) (hR : Rd w 1 A l.length (bvs l)) :
    Calls Try.prog 13 #[.slice A l.length c] w fun e w' => ∃ v, e = .returned (.tuple #[v, .int .i64 (openOf l).2]) ∧ IsBytes w' v (openOf l).1 ∧ Below w.heap.size w w' := by
  by_cases hs : l.length < 4
  · rw [openOf_short hs]
    exact (open_short A c l w hs).mono fun e w' ⟨he, hw⟩ => by subst hw; exact ⟨_, he, IsBytes.nil _, Below.refl _ _⟩
  · obtain ⟨x0, x1, x2, x3, t, rfl⟩ := four (l := l) (by omega)
    · obtain ⟨b, o, rfl, _⟩ := hR.2 (by simp [bvs])
      simp only [List.length_cons] at hl hc
      by_cases he : crc t = leV x0 x1 x2 x3
      · simp only [openOf, he, if_true]
        exact (open_good b o c x0 x1 x2 x3 t w (by omega) (by omega) hR he).mono fun e w' ⟨v, he, ho, hb⟩ => ⟨v, he, IsBytes.of_own ho, hb⟩
      · simp only [openOf, he, if_false]
        exact (open_bad b o c x0 x1 x2 x3 t w (by omega) (by omega) hR he).mono fun e w' ⟨he, hb⟩ => ⟨_, he, IsBytes.nil _, hb⟩
theorem ropen_all (A : Option Addr) (c : Nat) (l : List UInt8) (w : World) (hl : l.length ≤ 140737488351232) (hc : l.length ≤ c) (hR : Rd w 1 A l.length (bvs l)) :
    Calls Try.prog 14 #[.slice A l.length c] w fun e w' => ∃ v, e = .returned (.tuple #[v, .int .i64 (openOf l).2]) ∧ IsBytes w' v (openOf l).1 ∧ Below w.heap.size w w' := by
  by_cases hs : l.length < 4
  · rw [openOf_short hs]
    exact (ropen_short A c l w hs).mono fun e w' ⟨he, hw⟩ => by subst hw; exact ⟨_, he, IsBytes.nil _, Below.refl _ _⟩
  · obtain ⟨x0, x1, x2, x3, t, rfl⟩ := four (l := l) (by omega)
    · obtain ⟨b, o, rfl, _⟩ := hR.2 (by simp [bvs])
      simp only [List.length_cons] at hl hc
      by_cases he : crc t = leV x0 x1 x2 x3
      · simp only [openOf, he, if_true]
        exact (ropen_good b o c x0 x1 x2 x3 t w (by omega) (by omega) hR he).mono fun e w' ⟨v, he, ho, hb⟩ => ⟨v, he, IsBytes.of_own ho, hb⟩
      · simp only [openOf, he, if_false]
        exact (ropen_bad b o c x0 x1 x2 x3 t w (by omega) (by omega) hR he).mono fun e w' ⟨he, hb⟩ => ⟨_, he, IsBytes.nil _, hb⟩
theorem run_str {w w0 : World} {A : Option Addr} {l : List UInt8} (c : Nat) (hA : A = none → l.length = 0) (h : Rd w0 1 A l.length (bvs l)) (hb : Below w0.heap.size w0 w) :
    (convert 23 9 (.slice A l.length c)).run Try.prog w = .ok (.string ⟨l.toArray⟩) w :=
  run_str_rd 23 9 5 c Try.underlying23 Try.underlying5 Try.underlying9 hA (h.below hb)
theorem str_later {w w0 : World} {A : Option Addr} {l : List UInt8} (c : Nat) (hA : A = none → l.length = 0) (h : Rd w0 1 A l.length (bvs l)) (hb : Later w0 w) :
    ∀ W, Later w W → (convert 23 9 (.slice A l.length c)).run Try.prog W = .ok (.string ⟨l.toArray⟩) W := fun W hW => run_str c hA h (hb.trans hW)
theorem str_later4 {w : World} {B : Nat} {A : Option Addr} (c : Nat) (l : List UInt8) (h : w.ownsRow B 5 1 (.slice A (4 + l.length) c) (4 + l.length) (bvs (sealed l))) :
    ∀ W, Later w W → (convert 23 9 (.slice A (4 + l.length) c)).run Try.prog W = .ok (.string ⟨(sealed l).toArray⟩) W := fun W hW =>
  run_str_n 23 9 5 c (sealed_length l) Try.underlying23 Try.underlying5 Try.underlying9 (own_nil h) ((Rd.of_own h).below hW)
set_option maxHeartbeats 400000 in
theorem castaSeals_walk (A : Option Addr) (c : Nat) (l : List UInt8) (w : World) (hl : l.length ≤ 140737488351232) (hc : l.length ≤ c) (hA : A = none → l.length = 0) (hR : Rd w 1 A l.length (bvs l)) :
    Calls Try.prog 4 #[.slice A l.length c] w fun e w' => e = .returned (.bool true) ∧ Below w.heap.size w w' := by
  have HA := Lib.hid hA
  clear hA
  have HC := hide_ (open_all A c l w hl hc hR)
  go_enter Try.func4, Try.ntmps4
  go_wp2_with fail
  refine HC.out.mono ?_
  rintro e w1 ⟨v1, rfl, ⟨A1, c1, rfl, hn1, hR10⟩, hb1⟩
  have HC2 := hide_ (ropen_all A c l w1 hl hc (hR.below hb1))
  have HN1 := Lib.hid hn1; have HB1 := Lib.hid hb1
  clear hn1 hb1 HC
  go_wp2_with fail
  refine HC2.out.mono ?_
  rintro e w2 ⟨v2, rfl, ⟨A2, c2, rfl, hn2, hR2⟩, hb2⟩
  have hR1 := hR10.below hb2
  have HB := Lib.hid (HB1.out.trans (hb2.mono HB1.out.size))
  have HN2 := Lib.hid hn2
  have hRw := hR
  have hR := hR.below HB.out
  clear hn2 hb2 HB1 HC2 hR10 hRw
  generalize hx : (openOf l).1 = x at *
  generalize hy : (openOf l).2 = y at *
  clear hx hy
  have he : ((y : Int) == (y : Int)) = true := by simp
  have hq1 : (sealed l == sealed l) = true := by simp
  have hq2 : (x == x) = true := by simp
  go_wp2_with fail
  refine wp_region_k (by kernel_rfl) ?_
  refine wpAnyK_one 0 (by kernel_rfl) rfl (fun K hK => ?_); go_simp
  refine (awake_any _).mono ?_; rintro e w3 ⟨rfl, hb3⟩; have l3 : Later w2 w3 := Below.trans (Below.refl _ w2).drew hb3
  refine hK.out _ _ (by assumption) ?_
  clear hK K; try simp only [Act.put, List.setIfInBounds_toArray, List.set_cons_zero, List.set_cons_succ]
  refine wpAnyK_take 1 (v := ?_) rfl (by kernel_rfl) (by kernel_rfl) (by kernel_rfl) (fun _ _ _ h => h) (by rfl) (by intro W hSw; go_simp; with_reducible rfl) ?_; try simp only [Act.put, List.setIfInBounds_toArray, List.set_cons_zero, List.set_cons_succ]
  refine wpAnyK_take 2 (v := ?_) rfl (by kernel_rfl) (by kernel_rfl) (by kernel_rfl) (fun _ _ _ h => h) (by rfl) (by intro W hSw; go_simp; with_reducible rfl) ?_; try simp only [Act.put, List.setIfInBounds_toArray, List.set_cons_zero, List.set_cons_succ]
  refine wpAnyK_take 5 (v := ?_) rfl (by kernel_rfl) (by kernel_rfl) (by kernel_rfl) (fun _ _ _ h => h) (by rfl) (by intro W hSw; go_simp; with_reducible rfl) ?_; try simp only [Act.put, List.setIfInBounds_toArray, List.set_cons_zero, List.set_cons_succ]
  refine wpAnyK_one 3 (by kernel_rfl) rfl (fun K hK => ?_); go_simp
  refine (seal_any A c l _ hl HA.out (hR.below l3)).mono ?_; rintro e w4 ⟨v4, rfl, ho4, hb4⟩; obtain ⟨A4, c4, rfl⟩ := own_form ho4; have l4 : Later w2 w4 := l3.trans hb4; have hs4 := str_later4 c4 l ho4; clear ho4
  refine hK.out _ _ (by assumption) ?_
  clear hK K; try simp only [Act.put, List.setIfInBounds_toArray, List.set_cons_zero, List.set_cons_succ]
  refine wpAnyK_take 4 (v := ?_) rfl (by kernel_rfl) (by kernel_rfl) (by kernel_rfl) (fun _ _ _ h => h) (by rfl) (by intro W hSw; go_simp; with_reducible rfl) ?_; try simp only [Act.put, List.setIfInBounds_toArray, List.set_cons_zero, List.set_cons_succ]
  refine wpAnyK_one 6 (by kernel_rfl) rfl (fun K hK => ?_); go_simp
  refine (rseal_any A c l _ hl HA.out (hR.below l4)).mono ?_; rintro e w5 ⟨v5, rfl, ho5, hb5⟩; obtain ⟨A5, c5, rfl⟩ := own_form ho5; have l5 : Later w2 w5 := l4.trans hb5; have hs5 := str_later4 c5 l ho5; have hs1 := str_later c1 HN1.out hR1 l5; have hs2 := str_later c2 HN2.out hR2 l5; clear ho5 hs4
  refine hK.out _ _ (by assumption) ?_
  clear hK K; try simp only [Act.put, List.setIfInBounds_toArray, List.set_cons_zero, List.set_cons_succ]
  refine wpAnyK_take 7 (v := ?_) rfl (by kernel_rfl) (by kernel_rfl) (by kernel_rfl) (fun _ _ _ h => h) (by rfl) (by intro W hSw; go_simp; with_reducible rfl) ?_; try simp only [Act.put, List.setIfInBounds_toArray, List.set_cons_zero, List.set_cons_succ]
  refine wpAnyK_take 8 (v := ?_) rfl (by kernel_rfl) (by kernel_rfl) (by kernel_rfl) (fun _ _ _ h => h) (by rfl) (by intro W hSw; go_simp; with_reducible rfl) ?_; try simp only [Act.put, List.setIfInBounds_toArray, List.set_cons_zero, List.set_cons_succ]
  refine wpAnyK_take 9 (v := ?_) rfl (by kernel_rfl) (by kernel_rfl) (by kernel_rfl) (fun _ _ _ h => h) (by rfl) (by intro W hSw; go_simp; with_reducible rfl) ?_; try simp only [Act.put, List.setIfInBounds_toArray, List.set_cons_zero, List.set_cons_succ]
  refine wpAnyK_take 10 (v := ?_) rfl (by kernel_rfl) (by kernel_rfl) (by kernel_rfl) (fun _ _ _ h => h) (by rfl) (by intro W hSw; go_simp; with_reducible rfl) ?_; try simp only [Act.put, List.setIfInBounds_toArray, List.set_cons_zero, List.set_cons_succ]
  refine wpAnyK_take 11 (v := ?_) rfl (by kernel_rfl) (by kernel_rfl) (by kernel_rfl) (fun _ _ _ h => h) (by rfl) (by intro W hSw; go_simp; with_reducible rfl) ?_; try simp only [Act.put, List.setIfInBounds_toArray, List.set_cons_zero, List.set_cons_succ]
  refine wpAnyK_take 12 (v := ?_) rfl (by kernel_rfl) (by kernel_rfl) (by kernel_rfl) (fun _ _ _ h => h) (by rfl) (by intro W hSw; go_simp; with_reducible rfl) ?_; try simp only [Act.put, List.setIfInBounds_toArray, List.set_cons_zero, List.set_cons_succ]
  refine wpAnyK_take 13 (v := ?_) rfl (by kernel_rfl) (by kernel_rfl) (by kernel_rfl) (fun _ _ _ h => h) (by rfl) (by intro W hSw; go_simp; with_reducible rfl) ?_; try simp only [Act.put, List.setIfInBounds_toArray, List.set_cons_zero, List.set_cons_succ]
  refine wpAnyK_take 14 (v := ?_) rfl (by kernel_rfl) (by kernel_rfl) (by kernel_rfl) (fun _ _ _ h => h) (by rfl) (by intro W hSw; go_simp; with_reducible rfl) ?_; try simp only [Act.put, List.setIfInBounds_toArray, List.set_cons_zero, List.set_cons_succ]
  refine wpAnyK_take 15 (v := ?_) rfl (by kernel_rfl) (by kernel_rfl) (by kernel_rfl) (fun _ _ _ h => h) (by rfl) (by intro W hSw; go_simp; with_reducible rfl) ?_; try simp only [Act.put, List.setIfInBounds_toArray, List.set_cons_zero, List.set_cons_succ]
  refine wpAnyK_take 16 (v := ?_) rfl (by kernel_rfl) (by kernel_rfl) (by kernel_rfl) (fun _ _ _ h => h) (by rfl) (by intro W hSw; go_simp; with_reducible rfl) ?_; try simp only [Act.put, List.setIfInBounds_toArray, List.set_cons_zero, List.set_cons_succ]
  refine wpAnyK_take 17 (v := ?_) rfl (by kernel_rfl) (by kernel_rfl) (by kernel_rfl) (fun _ _ _ h => h) (by rfl) (by intro W hSw; go_simp; with_reducible rfl) ?_; try simp only [Act.put, List.setIfInBounds_toArray, List.set_cons_zero, List.set_cons_succ]
  refine wpAnyK_take 18 (v := ?_) rfl (by kernel_rfl) (by kernel_rfl) (by kernel_rfl) (fun _ _ _ h => h) (by rfl) (by intro W hSw; go_simp; with_reducible rfl) ?_; try simp only [Act.put, List.setIfInBounds_toArray, List.set_cons_zero, List.set_cons_succ]
  refine wpAnyK_take 19 (v := ?_) rfl (by kernel_rfl) (by kernel_rfl) (by kernel_rfl) (fun _ _ _ h => h) (by rfl) (by intro W hSw; go_simp; with_reducible rfl) ?_; try simp only [Act.put, List.setIfInBounds_toArray, List.set_cons_zero, List.set_cons_succ]
  refine wpAnyK_take 20 (v := ?_) rfl (by kernel_rfl) (by kernel_rfl) (by kernel_rfl) (fun _ _ _ h => h) (by rfl) (by intro W hSw; go_simp; with_reducible rfl) ?_; try simp only [Act.put, List.setIfInBounds_toArray, List.set_cons_zero, List.set_cons_succ]
  refine wpAnyK_take 21 (v := ?_) rfl (by kernel_rfl) (by kernel_rfl) (by kernel_rfl) (fun _ _ _ h => h) (by rfl) (by intro W hSw; go_simp; with_reducible rfl) ?_; try simp only [Act.put, List.setIfInBounds_toArray, List.set_cons_zero, List.set_cons_succ]
  refine wpAnyK_take 22 (v := ?_) rfl (by kernel_rfl) (by kernel_rfl) (by kernel_rfl) (fun _ _ _ h => h) (by rfl) (by intro W hSw; go_simp; with_reducible rfl) ?_; try simp only [Act.put, List.setIfInBounds_toArray, List.set_cons_zero, List.set_cons_succ]
  refine wpAnyK_done (by kernel_rfl) ?_ _
  go_wp2
  go_ret
  exact ⟨rfl, HB.out.trans (Below.mono l5 HB.out.size)⟩
theorem castaSeals_contract (H : Type) (enc : TypeId × Value → H) (W : World) (base : Nat) (args : Array Value) (ds : List (DataW H)) (before : List MemPlace)
    (hval : ∀ (j : Nat) t v, Try.f4.params[j]? = some t → args[j]? = some v → Value.okWide Try.prog W .any base t v)
    (hA : DataW.TrodAll enc Try.prog W 0 (fun _ => true) true Try.f4.params.toList args.toList ds before)
    (hsz : (DataW.weightsEach Try.prog (Try.f4.params.toList ++ Rows.castaSealsSpec.plain.varTypes Try.prog) (ds ++ [])).all (· ≤ reachBytes) = true) :
    Calls Try.prog 4 args W fun e W' => e = .returned (.bool true) ∧ Below W.heap.size W W' := by
  rw [Try.params4] at hA hval hsz
  obtain ⟨v0, vs0, d0, ds0, p0, q0, hargs, rfl, rfl, h0, r0⟩ := trodAll_cons hA
  obtain ⟨rfl, rfl, rfl⟩ := trodAll_nil r0
  obtain rfl : args = #[v0] := by cases args; simp_all
  obtain ⟨A, c, l, rfl, hc, _, hA1, hR, hd⟩ := open_bytes Try.underlying23 Try.underlying5 (by kernel_rfl) (hval 0 23 v0 rfl rfl) h0
  have s1 := bytes_reach (j := 0) hsz rfl rfl Try.underlying23 (by kernel_rfl) hd
  exact castaSeals_walk A c l W (by omega) hc hA1 hR

set_option maxRecDepth 100000 in
theorem castaSeals_lifted (os : Os) (started : os.Started) (H : Type) (enc : TypeId × Value → H) :
    ReturnsInHanded {} Try.checked os 4 .any (Rows.castaSealsSpec.pre6 enc Try.prog Try.f4 Rows.castaSealsRow.domain false) (Rows.castaSealsSpec.post enc Try.prog Try.f4 false true false false) := by
  refine returnsInHanded_of_change_sized (C := Try.checked) own started (by kernel_rfl) Try.func4
    (ChangeSpec.witness6 (enc := enc) (C := Try.checked) false ⟨#[], #[.slice none 0 0], []⟩ 8 (by kernel_rfl) (by kernel_rfl) (by kernel_rfl) (by kernel_rfl)) ?_
  intro W base args ds gs before hval hW _ hsz _
  have hW' := hW
  obtain ⟨p, q, hA0, hV, rfl, hfz, hnd⟩ := hW
  obtain ⟨rfl, rfl⟩ := trodVars_none hV
  have hA : DataW.TrodAll enc Try.prog W 0 (fun _ => true) true Try.f4.params.toList args.toList ds p := hA0
  refine (castaSeals_contract H enc W base args ds p hval hA hsz).mono fun e W' ⟨he, hb⟩ => ?_
  subst he
  have hds : ds.length = 1 := by
    rw [Try.params4] at hA
    obtain ⟨v0, vs0, d0, ds0, p0, q0, _, rfl, rfl, _, r0⟩ := trodAll_cons hA
    obtain ⟨_, rfl, rfl⟩ := trodAll_nil r0
    rfl
  have hsh : ∃ d0 : DataW H, ds = [d0] := by
    match ds, hds with
    | [d0], _ => exact ⟨d0, rfl⟩
  obtain ⟨d0, rfl⟩ := hsh
  exact ⟨_, rfl, post_law (s := Rows.castaSealsSpec) laidOut (by kernel_rfl) Try.underlying4 rfl (by kernel_rfl) hW' rfl rfl rfl hb⟩
theorem castaSeals_over : Rows.castaSealsRow.holds Try.pinned (OpenSpec.ofChange Rows.castaSealsSpec) :=
  OpenClaim.holds_of_wide 4 Try.f4 rfl rfl rfl rfl rfl rfl rfl ⟨rfl, rfl, rfl, rfl, rfl⟩ rfl rfl rfl rfl rfl (by kernel_rfl) Try.func4 (by kernel_rfl)
    (of_decide_eq_true (by kernel_rfl)) (by unfold Func.isWrapper; first | (rw [if_pos (by decide +kernel)]; kernel_rfl) | (rw [if_neg (by decide +kernel)]; exact ⟨rfl, rfl⟩))
    (fun os started H enc _ => castaSeals_lifted os started H enc)
/-- The statement. -/
theorem castaSeals_holds : Rows.CastaSealsSaid := castaSeals_over
end Go.Proofs.Ythbimhkhpkknnaa
