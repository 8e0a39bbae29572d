/-
  TaleScripts: any setting and acts as a text, and back. For settings and acts of at most 1048576 bytes; the listed library tables hold what the program's text lays.
-/
import Derived.Test.YtapiglfbkncahaaDoorTScripts
import Derived.Test.YtapiglfbkncahaaDoorTOpen
import Derived.Test.YtapiglfbkncahaaDoorTWorld
import Derived.Test.YtapiglfbkncahaaDoorFrame
import Derived.Test.YtapiglfbkncahaaDoorTie
import Derived.Test.YtapiglfbkncahaaDoorCards
import Derived.SevenTiedAt
namespace Go.Proofs.YtapiglfbkncahaaDoor
open Go.ChangeShapes Go.WideShapes Go.ChangeAt Go.RowKit
open Go.ChangeMaps (open_string shut_string)
set_option linter.unusedVariables false
theorem line_lenS {x : AV} (hx : x.Ok) {l : List UInt8} (h : lineF x = some l) : l.length + 1 ≤ 16 * (bulkA x + 1) := by
  unfold lineF at h
  split at h
  · rename_i hkd
    split at h
    · injection h with h
      have hp := part_len (k := x.kind.toNat) (by omega) (by omega)
      have enc : ∀ p, (encP x p).length ≤ 4 * x.key.length + 4 * x.val.length + 21 := fun p => by
        have h1 := Lib.itoa_length_le x.a hx.a.1 hx.a.2
        have h2 := Lib.itoa_length_le x.b hx.b.1 hx.b.2
        have h3 := Lib.itoa_length_le x.n hx.n.1 hx.n.2
        have h4 := quoteL_len x.key
        have h5 := quoteL_len x.val
        unfold encP
        split
        · omega
        · split
          · omega
          · split
            · omega
            · split <;> omega
      have := joinW_len (M := 4 * x.key.length + 4 * x.val.length + 21) (wordsF x x.kind.toNat) (fun y hy => by
        rcases List.mem_cons.1 hy with rfl | hy
        · omega
        · obtain ⟨p, _, rfl⟩ := List.mem_map.1 hy; exact enc p)
      rw [h] at this
      have e : (wordsF x x.kind.toNat).length = (partT.getD x.kind.toNat []).length + 1 := by simp [wordsF]
      rw [e] at this
      have h4 : ((partT.getD x.kind.toNat []).length + 1) * (4 * x.key.length + 4 * x.val.length + 21 + 1) ≤ 4 * (4 * x.key.length + 4 * x.val.length + 21 + 1) := Nat.mul_le_mul_right _ (by omega)
      unfold bulkA
      omega
    · cases h
  · cases h
theorem body_lenS : ∀ {L : List AV} {ls : List (List UInt8)}, linesF L = some ls → (∀ x ∈ L, x.Ok) → (ls.flatMap (10 :: ·)).length ≤ 16 * sumM bulkA L
  | [], ls, h, _ => by simp [linesF] at h; subst h; simp
  | x :: r, ls, h, hx => by
    unfold linesF at h
    split at h
    · rename_i l hl
      split at h
      · rename_i ms h2; injection h with h; subst h
        have ih := body_lenS h2 (fun y hy => hx y (List.mem_cons_of_mem _ hy))
        have := line_lenS (hx x List.mem_cons_self) hl
        simp only [List.flatMap_cons, List.length_append, List.length_cons, sumM]
        omega
      · cases h
    · cases h
theorem script_lenS {s : SV} (hs : s.Ok) {L : List AV} (hx : ∀ x ∈ L, x.Ok) : (scriptF s L).1.length ≤ 137 + 16 * sumM bulkA L := by
  unfold scriptF
  split
  · simp
  · split
    · simp
    · split
      · simp
      · rename_i ls h
        have h1 := body_lenS h hx
        have h2 := headK_len hs 6
        rw [headK_end] at h2
        simp only [List.length_append, List.length_cons, List.length_nil]
        omega
set_option maxRecDepth 20000 in
theorem taleScripts_contract {H : Type} (enc : TypeId × Value → H) {W : World} {base : Nat} {args : Array Value} {ds : List (DataW H)} {p : List MemPlace}
    (hval : ∀ (j : Nat) t v, Tryd.f5.params[j]? = some t → args[j]? = some v → Value.okWide Tryd.prog W .any base t v)
    (hA : DataW.TrodAll enc Tryd.prog W 0 (fun _ => true) true Tryd.f5.params.toList args.toList ds p) (hk : Rows.uptoSmall H (ds ++ []) = true) (hE : Env W.heap.size W) :
    Calls Tryd.prog 5 args W fun e W' => e = .returned (.bool true) ∧ Below W.heap.size W W' := by
  have hb := bulk_bound hk
  rw [Tryd.params5] at hA hval
  obtain ⟨v0, vs0, d0, ds0, p0, q0, hargs, rfl, rfl, h0, r0⟩ := trodAll_cons hA
  obtain ⟨v1, vs1, d1, ds1, p1, q1, rfl, rfl, rfl, h1, r1⟩ := trodAll_cons r0
  obtain ⟨rfl, rfl, rfl⟩ := trodAll_nil r1
  obtain rfl : args = #[v0, v1] := by cases args; simp_all
  simp only [Rows.uptoBulkAll] at hb
  obtain ⟨s, rfl, hs⟩ := open_set (hval 0 35 v0 rfl rfl) h0
  obtain ⟨L, hL, hLb⟩ := open_sh opens_acts Tryd.underlying36 (hval 1 36 v1 rfl rfl) h1
  have hmem : ∀ x ∈ L, x.Mid := fun x hx => by
    have hm := sumM_mem (m := bulkA) hx
    have hbx : bulkA x = x.key.length + x.val.length + 6 := rfl
    obtain ⟨A', c', _, _, _, _, hx'⟩ := hL
    obtain ⟨i, hi, e⟩ := List.mem_iff_getElem.1 hx
    obtain ⟨bb, o, _, he⟩ := hx' (by omega)
    obtain ⟨us, _, _, _, hi64⟩ := he i x (by rw [List.getElem?_eq_getElem hi, e])
    exact ⟨⟨hi64.kind, hi64.a, hi64.b, hi64.n, by omega, by omega⟩, by omega, by omega⟩
  obtain ⟨A, c, rfl, _, _, _, hR⟩ := rd_of_sh (enc := AV.cells) acells_len (by omega) (fun cs x hx => hx.1) hL
  have hlen := script_lenS hs (fun x hx => (hmem x hx).ok)
  have hll := sumM_length bulkA L
  exact scripts_any hE s hs hR rfl (by omega) hmem (by omega)
theorem taleScripts_reads (os : Os) {H : Type} (enc : TypeId × Value → H) : ∃ places, DataW.whole enc Tryd.prog ((taleWorld os).forCall (fun _ _ => 0) ⟨#[], #[.agg #[.int .i64 0, .int .i64 0, .int .i64 0, .int .i64 0, .int .i64 0, .int .i64 0], .slice none 0 0], []⟩).memory Tryd.f5.params.toList (Rows.OpenSpec.upto Rows.taleScriptsSpec).bare.plain.vars false (#[.agg #[.int .i64 0, .int .i64 0, .int .i64 0, .int .i64 0, .int .i64 0, .int .i64 0], .slice none 0 0] : Array Value).toList 8 = some ([.agg [.lit (.int .i64 0), .lit (.int .i64 0), .lit (.int .i64 0), .lit (.int .i64 0), .lit (.int .i64 0), .lit (.int .i64 0)], .nil], [], places) :=
  ⟨[], by kernel_rfl⟩
set_option maxRecDepth 1000000 in
theorem taleScripts_lifted (os : Os) (started : os.Started) (H : Type) (enc : TypeId × Value → H) (F : Stop.Interp) :
    ReturnsInHanded {} Tryd.checked os 5 .any ((Rows.OpenSpec.upto Rows.taleScriptsSpec).preRow enc Tryd.prog Tryd.f5 Rows.taleScriptsUptoRow.domain false Rows.taleScriptsUptoRow.laid) (((Rows.OpenSpec.upto Rows.taleScriptsSpec).at F).post enc Tryd.prog Tryd.f5 false true false false) := by
  obtain ⟨places, hx⟩ := taleScripts_reads os enc
  refine returnsInHanded_of_row (C := Tryd.checked) (s := Rows.OpenSpec.upto Rows.taleScriptsSpec) own started (by kernel_rfl) Tryd.func5
    (witness_row_atRef (enc := enc) (C := Tryd.checked) false (taleWorld os) #[.agg #[.int .i64 0, .int .i64 0, .int .i64 0, .int .i64 0, .int .i64 0, .int .i64 0], .slice none 0 0] rfl (by kernel_rfl) (by kernel_rfl) (by kernel_rfl)
      (OpenSpec.preRow_of_cond 8 hx (by kernel_rfl) (fun k hk => by cases hk; kernel_rfl) (by kernel_rfl) (tale_laidMet os _))) ?_
  intro W base args ds gs before hval hW _ hk _ hL hS _
  have hW' := hW
  obtain ⟨p, q, hA0, hV, rfl, hfz, hnd⟩ := hW
  obtain ⟨rfl, rfl⟩ := trodVars_none hV
  have hA : DataW.TrodAll enc Tryd.prog W 0 (fun _ => true) true Tryd.f5.params.toList args.toList ds p := hA0
  refine (taleScripts_contract enc hval hA (hk _ rfl) (env_of hS hL)).mono fun e W' ⟨he, hb⟩ => ?_
  subst he
  have hds : ds.length = 2 := by
    rw [Tryd.params5] at hA
    obtain ⟨v0, vs0, d0, ds0, p0, q0, _, rfl, rfl, _, r0⟩ := trodAll_cons hA
    obtain ⟨v1, vs1, d1, ds1, p1, q1, _, rfl, rfl, _, r1⟩ := trodAll_cons r0
    obtain ⟨_, rfl, rfl⟩ := trodAll_nil r1
    rfl
  have hsh : ∃ d0 d1 : DataW H, ds = [d0, d1] := by
    match ds, hds with
    | [d0, d1], _ => exact ⟨d0, d1, rfl⟩
  obtain ⟨d0, d1, rfl⟩ := hsh
  exact ⟨_, rfl, post_law (s := Rows.taleScriptsSpec) laidOut (by kernel_rfl) Tryd.underlying4 rfl (by kernel_rfl) hW' rfl rfl rfl hb⟩
set_option maxRecDepth 100000 in
theorem taleScripts_over : Rows.TaleScriptsUptoSaid :=
  OpenClaim.holds_of_cond 5 Tryd.f5 rfl rfl rfl rfl rfl rfl rfl ⟨rfl, rfl, rfl, rfl, rfl⟩ rfl rfl rfl rfl rfl (by kernel_rfl) Tryd.func5 (by kernel_rfl)
    (of_decide_eq_true (by kernel_rfl)) (by unfold Func.isWrapper; first | (rw [if_pos (by decide +kernel)]; kernel_rfl) | (rw [if_neg (by decide +kernel)]; exact ⟨rfl, rfl⟩))
    (fun os started H enc _ F => by rw [OpenClaim.pre_eq_preRow]; exact taleScripts_lifted os started H enc F)
theorem taleScripts_plain (f : FuncId) (fn : Func) (hf : Tryd.pinned.checked.prog.funcNamed "roundhouse/roundhouselaw24.TaleScripts" = some f) (hfn : Tryd.pinned.checked.prog.funcs[f]? = some fn) :
    true = Tryd.pinned.checked.prog.looks [] ∧ ∀ (j : Nat) t, fn.params[j]? = some t → Tryd.pinned.checked.prog.wantsStandIn t = false := by
  obtain rfl : f = 5 := Option.some.inj ((show Tryd.prog.funcNamed "roundhouse/roundhouselaw24.TaleScripts" = some 5 by kernel_rfl).symm.trans hf) |>.symm
  obtain rfl : fn = Tryd.f5 := (Option.some.inj (Tryd.func5.symm.trans hfn)).symm
  refine ⟨by kernel_rfl, fun j t ht => ?_⟩
  rw [Tryd.params5] at ht
  have hm : t ∈ [35, 36] := by simpa using Array.mem_of_getElem? ht
  have key : [35, 36].all (fun t => Tryd.prog.wantsStandIn t == false) = true := by kernel_rfl
  exact eq_of_beq (List.all_eq_true.1 key t hm)
/-- The statement's card. -/
theorem taleScripts_card : Rows.TaleScriptsUptoCardSaid :=
  Claim7.holds_tied_plain_at .later [] _ _ _ _ taleScripts_over (fun _ h => by cases h) (by kernel_rfl) (fun _ h => by cases h) taleScriptsUpto_row_tie rfl ⟨rfl, rfl⟩ (by kernel_rfl) rfl taleScripts_plain (by kernel_rfl)
end Go.Proofs.YtapiglfbkncahaaDoor
