/-
  front: messages in memory; resolve.
-/
import Derived.Test.YtcmollfhlillfaaGreatDoorFrMsg
import Derived.Test.YtcmollfhlillfaaGreatDoorPutT
namespace Go.Proofs.YtcmollfhlillfaaGreatDoor
open Go.RowKit
set_option linter.unusedVariables false
set_option linter.unusedSimpArgs false
/-- A message. -/
structure Msg where
  kind : Int
  frm : Int
  to_ : Int
  epoch : Int
  a : Int
  b : Int
  c : Int
  body : List UInt8
/-- Bytes that are only read. -/
def bodyR : Rep (List UInt8) where
  size := 1
  holds w cs l X := ∃ A c, cs = [.slice A l.length c] ∧ Rd w 1 A l.length (bvs l) ∧ l.length ≤ c ∧ c ≤ 9223372036854775807 ∧ (A = none → l.length = 0) ∧ (∀ a, A = some a → ∃ cs fz, w.heap[a.block]? = some (.cells cs 5 fz)) ∧ X = (match A with | none => [] | some a => [a.block])
  frame := by
    rintro w w' cs a X F ⟨A, c, rfl, h1, h2, h3, h4, h5, rfl⟩ hh hF
    refine ⟨A, c, rfl, hh.rd h1 fun a ha => hF _ (by subst ha; simp), h2, h3, h4, fun a ha => ?_, rfl⟩
    obtain ⟨cs, fz, h6⟩ := h5 a ha
    exact ⟨cs, fz, hh.row h6 (hF _ (by subst ha; simp))⟩
  lt := by
    rintro w cs a X ⟨A, c, rfl, h1, h2, h3, h4, h5, rfl⟩ k hk
    cases A with
    | none => cases hk
    | some a =>
      rw [List.mem_singleton.1 hk]
      obtain ⟨cs, fz, h6⟩ := h5 a rfl
      exact theap_lt h6
  len := by rintro w cs a X ⟨A, c, rfl, _⟩; rfl
  one := by rintro w cs a X ⟨A, c, rfl, _⟩ u hu; rw [List.mem_singleton.1 hu]; rfl
theorem own_max {w : World} {base n size c : Nat} {e : TypeId} {A : Option Addr} {xs : List Value} (h : w.ownsRow base e size (.slice A n c) n xs) : c ≤ 9223372036854775807 := by
  rcases h.2 with ⟨hv, h0⟩ | ⟨g, cap, cur, hv, hb, hh, hn, hm, _⟩
  · injection hv with _ _ hv; omega
  · injection hv with _ _ hv; subst hv; unfold maxLen at hm; omega
theorem body_own {w : World} {B : Nat} {v : Value} {l : List UInt8} (h : w.ownsRow B 5 1 v l.length (bvs l)) : ∃ X, bodyR.holds w [v] l X ∧ ∀ k ∈ X, B ≤ k := by
  obtain ⟨A, c, rfl⟩ := own_form h
  have hc := own_cap2 h
  cases A with
  | none => exact ⟨[], ⟨none, c, rfl, Rd.of_own h, hc.2, own_max h, fun _ => hc.1 rfl, fun a ha => (by cases ha), rfl⟩, fun k hk => (by cases hk)⟩
  | some a =>
    have hb : ∀ g, (Value.slice (some a) l.length c).ownBlock = some g → g = a.block := fun g hg => by injection hg with hg; exact hg.symm
    obtain ⟨h1, h2, cs, h3⟩ := own_block (g := a.block) h rfl
    exact ⟨[a.block], ⟨some a, c, rfl, Rd.of_own h, hc.2, own_max h, fun e => (by cases e), fun a' ha => (by injection ha with ha; subst ha; exact ⟨cs, _, h3⟩), rfl⟩, fun k hk => (by rw [List.mem_singleton.1 hk]; exact h1)⟩
def msgR : Rep Msg where
  size := 8
  holds w cs m X := ∃ u, cs = [.int .i64 m.kind, .int .i64 m.frm, .int .i64 m.to_, .int .i64 m.epoch, .int .i64 m.a, .int .i64 m.b, .int .i64 m.c, u] ∧ bodyR.holds w [u] m.body X
  frame := by
    rintro w w' cs a X F ⟨u, rfl, h1⟩ hh hF
    exact ⟨u, rfl, bodyR.frame h1 hh hF⟩
  lt := by rintro w cs a X ⟨u, rfl, h1⟩; exact bodyR.lt h1
  len := by rintro w cs a X ⟨u, rfl, _⟩; rfl
  one := by
    rintro w cs a X ⟨u1, rfl, h1⟩ u hu
    simp only [List.mem_cons, List.not_mem_nil, or_false] at hu
    rcases hu with rfl | rfl | rfl | rfl | rfl | rfl | rfl | rfl
    · rfl
    · rfl
    · rfl
    · rfl
    · rfl
    · rfl
    · rfl
    · exact bodyR.one h1 u (by simp)
theorem msgT : ElemT Tryz.prog 39 53 8 80 := elem_mk (z := .agg #[.int .i64 0, .int .i64 0, .int .i64 0, .int .i64 0, .int .i64 0, .int .i64 0, .int .i64 0, .slice none 0 0]) Tryz.underlying39 (by kernel_rfl) rfl (by decide)
def toldHas (T : List (Int × List Int)) (r : Int) : Bool := T.any fun x => x.1 == r
def resBody (B : List ByteArray) (J : List Jb) (i : Nat) : List UInt8 := J.flatMap fun j => putT (encTx (carve1 B j.tx i))
def resMsg (s : Fr) (b : Bt) (i : Nat) (r : Int) : List Msg := if toldHas b.told r = true then [] else [⟨3, s.node, r, s.epoch, b.prev, b.ver, b.jobs.length, resBody s.bounds b.jobs i⟩]
def resTo (s : Fr) (b : Bt) : Nat → List Msg
  | 0 => []
  | i + 1 => resTo s b i ++ (match s.refs[i]? with
    | some r => resMsg s b i r
    | none => [])
def resolveL (s : Fr) (b : Bt) : List Msg := resTo s b s.refs.length
theorem resTo_len (s : Fr) (b : Bt) : ∀ i, (resTo s b i).length ≤ i
  | 0 => Nat.le_refl _
  | i + 1 => by
    have h := resTo_len s b i
    unfold resTo
    rw [List.length_append]
    cases s.refs[i]? with
    | none => simp; omega
    | some r =>
      simp only
      unfold resMsg
      split <;> simp <;> omega
theorem ToldH.has {w : World} {m : Nat} {T : List (Int × List Int)} {X : List Nat} (h : ToldH w m T X) : ∃ M, MapM w m M ∧ M.length = T.length ∧ ∀ r, (getM M r).isSome = toldHas T r := by
  obtain ⟨M, xs, h1, h2, h3, _⟩ := h
  refine ⟨M, h1, by have := congrArg List.length h2; simpa using this, fun r => ?_⟩
  have e1 : (getM M r).isSome = (M.map (·.1)).any (· == r) := by
    unfold getM
    rw [Option.isSome_map, List.any_map, List.isSome_find?]
    rfl
  rw [e1, h2, List.any_map]; rfl
theorem smeet_ne {a b : Spn} (h : ¬ (smeetS a b).2 ≤ (smeetS a b).1) : (smeetS a b).1 = (if a.1 < b.1 then b.1 else a.1) ∧ (smeetS a b).2 = (if b.2 < a.2 then b.2 else a.2) := by
  unfold smeetS at h ⊢
  by_cases hc : (if b.2 < a.2 then b.2 else a.2) ≤ (if a.1 < b.1 then b.1 else a.1)
  · simp only [if_pos hc] at h
    exact absurd (show ByteArray.empty ≤ ByteArray.empty by grind) h
  · simp only [if_neg hc]
    exact ⟨trivial, trivial⟩
theorem smeet_sound {a b : Spn} (ha : soundS a = true) (hb : b.1.size ≤ 17 ∧ b.2.size ≤ 17) (h : ¬ (smeetS a b).2 ≤ (smeetS a b).1) : soundS (smeetS a b) = true := by
  unfold soundS at ha ⊢
  have ha := of_decide_eq_true ha
  obtain ⟨e1, e2⟩ := smeet_ne h
  refine decide_eq_true ⟨?_, ?_, by grind⟩
  · rw [e1]; split
    · exact hb.1
    · exact ha.1
  · rw [e2]; split
    · exact hb.2
    · exact ha.2.1
theorem meetL_sound {q : Spn} (hq : q.1.size ≤ 17 ∧ q.2.size ≤ 17) : ∀ {R : List Spn}, R.all soundS = true → (meetL q R).all soundS = true
  | [], _ => rfl
  | s :: R, h => by
    rw [List.all_cons, Bool.and_eq_true] at h
    have h2 := meetL_sound hq h.2
    unfold meetL at h2 ⊢
    rw [List.filterMap_cons]
    by_cases hc : (smeetS s q).2 ≤ (smeetS s q).1
    · rw [if_pos hc]; exact h2
    · rw [if_neg hc]
      simp only [List.all_cons, Bool.and_eq_true]
      exact ⟨smeet_sound h.1 hq hc, h2⟩
theorem chkAll_of : ∀ {C : List Chg}, (∀ c ∈ C, chk c.1 c.2.1 c.2.2 = 0) → chkAll C = 0
  | [], _ => rfl
  | c :: C, h => by
    unfold chkAll
    rw [if_pos (h c (List.mem_cons_self ..))]
    exact chkAll_of fun d hd => h d (List.mem_cons_of_mem _ hd)
theorem cut1_chk {q : Spn} (hq : q.1.size ≤ 17 ∧ q.2.size ≤ 17) {c : Chg} (h : chk c.1 c.2.1 c.2.2 = 0) : ∀ d ∈ cut1 q c, chk d.1 d.2.1 d.2.2 = 0 := by
  intro d hd
  unfold cut1 at hd
  split at hd
  · rename_i h3
    split at hd
    · rename_i hlt
      rw [List.mem_singleton.1 hd]
      have hne : ¬ (smeetS q (c.2.1, c.2.2)).2 ≤ (smeetS q (c.2.1, c.2.2)).1 := by grind
      obtain ⟨e1, e2⟩ := smeet_ne hne
      unfold chk at h ⊢
      rw [if_pos h3] at h
      split at h
      · cases h
      · split at h
        · cases h
        · split at h
          · cases h
          · rename_i h4 h5 h6
            have s1 : (smeetS q (c.2.1, c.2.2)).1.size ≤ 17 := by
              rw [e1]; split
              · show c.2.1.size ≤ 17; omega
              · exact hq.1
            have s2 : (smeetS q (c.2.1, c.2.2)).2.size ≤ 17 := by
              rw [e2]; split
              · show c.2.2.size ≤ 17; omega
              · exact hq.2
            simp only [if_true]
            rw [if_neg (by omega), if_neg (by omega), if_neg (by grind)]
    · cases hd
  · split at hd
    · rw [List.mem_singleton.1 hd]; exact h
    · cases hd
theorem cutC_chk {q : Spn} (hq : q.1.size ≤ 17 ∧ q.2.size ≤ 17) {C : List Chg} (h : chkAll C = 0) : chkAll (cutC q C) = 0 := by
  refine chkAll_of fun d hd => ?_
  unfold cutC at hd
  obtain ⟨c, hc, hd⟩ := List.mem_flatMap.1 hd
  exact cut1_chk hq (chkAll_all h c hc) d hd
theorem cutC_len (q : Spn) : ∀ C : List Chg, (cutC q C).length ≤ C.length
  | [] => Nat.le_refl _
  | c :: C => by
    have h1 := cut1_len q c
    have h2 := cutC_len q C
    unfold cutC at h2 ⊢
    rw [List.flatMap_cons, List.length_append, List.length_cons]; omega
theorem carve_sound {B : List ByteArray} {t : Tx} {n : Nat} (hB : bndB B = true) (hn : n ≤ B.length) (h : soundT t = true) : soundT (carve1 B t n) = true := by
  obtain ⟨r, R, C⟩ := t
  obtain ⟨h1, h2, h3, h4, h5⟩ := soundT_parts h
  have hq := pieceF_size hB hn
  have a1 : (meetL (pieceF B n) R).length ≤ R.length := List.length_filterMap_le _ _
  have a2 := cutC_len (pieceF B n) C
  have a3 := cutC_chk hq h4
  have a4 := meetL_sound hq h5
  unfold carve1 soundT
  simp only [Bool.and_eq_true, decide_eq_true_eq]
  exact ⟨⟨⟨⟨h1, by omega⟩, by omega⟩, a3⟩, a4⟩

end Go.Proofs.YtcmollfhlillfaaGreatDoor
