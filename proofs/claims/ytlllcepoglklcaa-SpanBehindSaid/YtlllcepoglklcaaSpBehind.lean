/-
  SpanBehind: for any text the program's least key behind all that begin with it is the document's, and lies behind them; it writes nothing that was there.
  Conditions: none but the row's own.
-/
import Derived.Test.YtlllcepoglklcaaRBehind
namespace Go.Proofs.Ytlllcepoglklcaa
open Go.ChangeShapes Go.WideShapes Go.ChangeAt Go.RowKit
open Go.ChangeMaps (open_string)
set_option linter.unusedVariables false
set_option linter.unusedSimpArgs false
theorem behind_lt {l : List UInt8} {k : Nat} (hk : keep l l.length = k + 1) (r : List UInt8) : l ++ r < l.take k ++ [l.getD k 0 + 1] := by
  have hle := keep_le l l.length
  have hkl : k < l.length := by omega
  have hc : l.getD k 0 ≠ 255 := by have := keep_last l l.length (by omega); rwa [hk] at this
  have e : l = l.take k ++ l.getD k 0 :: l.drop (k + 1) := by
    rw [List.getD_eq_getElem?_getD, List.getElem?_eq_getElem hkl]
    show l = l.take k ++ l[k] :: l.drop (k + 1)
    rw [← List.drop_eq_getElem_cons hkl, List.take_append_drop]
  have := pre_lt (l.take k) (l.getD k 0) (l.drop (k + 1) ++ r) hc
  rw [← List.cons_append, ← List.append_assoc, ← e] at this
  exact this
set_option maxHeartbeats 1000000 in
theorem spanBehind_walk (s r : ByteArray) (hs : s.size ≤ 140737488351232) (hr : r.size ≤ 140737488351232) (w : World) :
    Calls Try.prog 5 #[.string s, .string r] w fun e w' => e = .returned (.bool true) ∧ Below w.heap.size w w' := by
  have h1 := fun W => behind_any s hs W
  have h2 := fun W => rbehind_any s hs W
  go_enter Try.func5, Try.ntmps5
  go_wp2_with fail
  refine (h1 _).mono ?_
  rintro e w1 ⟨hh, hb1⟩
  rcases hh with ⟨hk, rfl⟩ | ⟨k, u, hk, rfl, hu⟩
  · have HB1 := hide_ hb1
    have HK := hide_ hk
    clear hb1 hk h1
    go_wp2_with fail
    refine (h2 _).mono ?_
    rintro e w2 ⟨hh, hb2⟩
    rcases hh with ⟨hk, rfl⟩ | ⟨k, u, hk, _, _⟩
    · have HB2 := hide_ (HB1.out.trans (hb2.mono HB1.out.size))
      clear hb2 hk h2
      go_wp2_with (go_at_call 11; refine (awake_any _).mono ?_; rintro e w3 ⟨rfl, hb3⟩; have HB3 := hide_ (HB2.out.trans (hb3.mono HB2.out.size)); clear hb3)
      go_ret
      exact ⟨rfl, HB3.out⟩
    · rw [HK.out] at hk; cases hk
  · have HB1 := hide_ hb1
    have HK := hide_ hk
    have HU := hide_ hu
    clear hb1 hk h1 hu
    go_wp2_with fail
    refine (h2 _).mono ?_
    rintro e w2 ⟨hh, hb2⟩
    rcases hh with ⟨hk, _⟩ | ⟨k2, u2, hk, rfl, hu⟩
    · rw [HK.out] at hk; cases hk
    · obtain rfl : k2 = k := by have := HK.out; omega
      obtain rfl : u2 = u := ba_ext (hu.trans HU.out.symm)
      have HB2 := hide_ (HB1.out.trans (hb2.mono HB1.out.size))
      have l1 : Op.bytesLess (s ++ r).toList u2.toList = true := by
        rw [bl]
        have : s ++ r < u2 := by
          show (s ++ r).data.toList < u2.data.toList
          rw [ByteArray.toList_data_append, hu]
          exact behind_lt hk _
        simpa
      have l2 : Op.bytesLess s.toList u2.toList = true := by
        rw [bl]
        have : s < u2 := by
          show s.data.toList < u2.data.toList
          have := behind_lt hk []
          rw [List.append_nil] at this
          rw [hu]; exact this
        simpa
      have hadd := fun W => run_string_add_sum (P := Try.prog) W s r (by omega)
      clear hb2 hk h2 hu
      go_wp2_with (go_at_call 11; refine (awake_any _).mono ?_; rintro e w3 ⟨rfl, hb3⟩; have HB3 := hide_ (HB2.out.trans (hb3.mono HB2.out.size)); clear hb3)
      go_ret
      exact ⟨rfl, HB3.out⟩
theorem spanBehind_contract (H : Type) (enc : TypeId × Value → H) (W : World) (base : Nat) (args : Array Value) (ds : List (DataW H)) (before : List MemPlace)
    (hval : ∀ (j : Nat) t v, Try.f5.params[j]? = some t → args[j]? = some v → Value.okWide Try.prog W .any base t v)
    (hA : DataW.TrodAll enc Try.prog W 0 (fun _ => true) true Try.f5.params.toList args.toList ds before)
    (hsz : (DataW.weightsEach Try.prog (Try.f5.params.toList ++ Rows.spanBehindSpec.plain.varTypes Try.prog) (ds ++ [])).all (· ≤ reachBytes) = true) :
    Calls Try.prog 5 args W fun e W' => e = .returned (.bool true) ∧ Below W.heap.size W W' := by
  rw [Try.params5] at hA hval hsz
  obtain ⟨v0, vs0, d0, ds0, p0, q0, hargs, rfl, rfl, h0, r0⟩ := trodAll_cons hA
  obtain ⟨v1, vs1, d1, ds1, p1, q1, rfl, rfl, rfl, h1, r1⟩ := trodAll_cons r0
  obtain ⟨rfl, rfl, rfl⟩ := trodAll_nil r1
  obtain rfl : args = #[v0, v1] := by cases args; simp_all
  obtain ⟨k, rfl, rfl, rfl, hk⟩ := open_string Try.underlying9 (hval 0 9 v0 rfl rfl) h0
  obtain ⟨o, rfl, rfl, rfl, ho⟩ := open_string Try.underlying9 (hval 1 9 v1 rfl rfl) h1
  have hr := sized_string hsz (j := 0) (t := 9) (bytes := k.data.toList) rfl rfl
  have hr2 := sized_string hsz (j := 1) (t := 9) (bytes := o.data.toList) rfl rfl
  have hks : k.size = k.data.toList.length := by simp
  have hos : o.size = o.data.toList.length := by simp
  exact spanBehind_walk k o (by rw [hks]; simpa [reachBytes] using hr) (by rw [hos]; simpa [reachBytes] using hr2) W

set_option maxRecDepth 100000 in
theorem spanBehind_lifted (os : Os) (started : os.Started) (H : Type) (enc : TypeId × Value → H) :
    ReturnsInHanded {} Try.checked os 5 .any (Rows.spanBehindSpec.pre6 enc Try.prog Try.f5 Rows.spanBehindRow.domain false) (Rows.spanBehindSpec.post enc Try.prog Try.f5 false true false false) := by
  refine returnsInHanded_of_change_sized (C := Try.checked) own started (by kernel_rfl) Try.func5
    (ChangeSpec.witness6 (enc := enc) (C := Try.checked) false ⟨#[], #[.string ByteArray.empty, .string ByteArray.empty], []⟩ 8 (by kernel_rfl) (by kernel_rfl) (by kernel_rfl) (by kernel_rfl)) ?_
  intro W base args ds gs before hval hW _ hsz _
  have hW' := hW
  obtain ⟨p, q, hA0, hV, rfl, hfz, hnd⟩ := hW
  obtain ⟨rfl, rfl⟩ := trodVars_none hV
  have hA : DataW.TrodAll enc Try.prog W 0 (fun _ => true) true Try.f5.params.toList args.toList ds p := hA0
  refine (spanBehind_contract H enc W base args ds p hval hA hsz).mono fun e W' ⟨he, hb⟩ => ?_
  subst he
  have hds : ds.length = 2 := by
    rw [Try.params5] at hA
    obtain ⟨v0, vs0, d0, ds0, p0, q0, _, rfl, rfl, _, r0⟩ := trodAll_cons hA
    obtain ⟨v1, vs1, d1, ds1, p1, q1, _, rfl, rfl, _, r1⟩ := trodAll_cons r0
    obtain ⟨_, rfl, rfl⟩ := trodAll_nil r1
    rfl
  have hsh : ∃ d0 d1 : DataW H, ds = [d0, d1] := by
    match ds, hds with
    | [d0, d1], _ => exact ⟨d0, d1, rfl⟩
  obtain ⟨d0, d1, rfl⟩ := hsh
  exact ⟨_, rfl, post_law (s := Rows.spanBehindSpec) laidOut (by kernel_rfl) Try.underlying4 rfl (by kernel_rfl) hW' rfl rfl rfl hb⟩
theorem spanBehind_over : Rows.spanBehindRow.holds Try.pinned (OpenSpec.ofChange Rows.spanBehindSpec) :=
  OpenClaim.holds_of_wide 5 Try.f5 rfl rfl rfl rfl rfl rfl rfl ⟨rfl, rfl, rfl, rfl, rfl⟩ rfl rfl rfl rfl rfl (by kernel_rfl) Try.func5 (by kernel_rfl)
    (of_decide_eq_true (by kernel_rfl)) (by unfold Func.isWrapper; first | (rw [if_pos (by decide +kernel)]; kernel_rfl) | (rw [if_neg (by decide +kernel)]; exact ⟨rfl, rfl⟩))
    (fun os started H enc _ => spanBehind_lifted os started H enc)
/-- The statement. -/
theorem spanBehind_holds : Rows.SpanBehindSaid := spanBehind_over
end Go.Proofs.Ytlllcepoglklcaa
