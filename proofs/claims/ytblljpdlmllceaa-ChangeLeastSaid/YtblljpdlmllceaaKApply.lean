/-
  Clone of pairs; Apply.
-/
import Derived.Test.YtblljpdlmllceaaKSound
namespace Go.Proofs.Ytblljpdlmllceaa
open Go.RowKit
set_option linter.unusedVariables false
set_option linter.unusedSimpArgs false
theorem own_base' {w : World} {base base' : Nat} {e : TypeId} {size n : Nat} {v : Value} {xs : List Value} (h : w.ownsRow base e size v n xs) (hb : base' ≤ base) : w.ownsRow base' e size v n xs := by
  refine ⟨h.1, ?_⟩
  rcases h.2 with h0 | ⟨g, cap, cur, hv, hbb, hh, hr⟩
  · exact .inl h0
  · exact .inr ⟨g, cap, cur, hv, by omega, hh, hr⟩
set_option maxHeartbeats 400000 in
theorem clone_nil (c : Nat) (w : World) : Calls Try.prog 34 #[.slice none 0 c] w fun e w' => e = .returned (.slice none 0 0) ∧ w = w' := by
  have hq := fun W => eql_slice_nil_any Try.underlying22 W none 0 c 0 0
  go_enter Try.func34, Try.ntmps34
  go_wp2_with fail
  go_ret
  exact ⟨rfl, rfl⟩
set_option maxHeartbeats 400000 in
theorem clone_some {w : World} {b o n : Nat} {L : List Pr} (hr : Rd w 2 (some ⟨b, o, none⟩) n (prow L)) (c : Nat) (hb : n * 32 ≤ 140737488355328) (hn : n ≤ maxLen) :
    Calls Try.prog 34 #[.slice (some ⟨b, o, none⟩) n c] w fun e w' =>
      (∃ v, e = .returned v ∧ w'.ownsRow w.heap.size 55 2 v n (prow L)) ∧ Below w.heap.size w w' := by
  have hq := fun W => eql_slice_nil_any Try.underlying22 W (some ⟨b, o, none⟩) n c 0 0
  have HR := hide_ hr
  have hown := hide_ (own_new w #[] 55 2 0 w.heap.size rfl (Nat.zero_le _) (Nat.le_refl _))
  clear hr
  go_enter Try.func34, Try.ntmps34
  go_wp2_with (at_builtin; go_loud (refine wpList_append_rd _ rfl (.tmp 5) (.tmp 6) 22 rfl w.heap.size 55 2 32 pairT _ 0 [] rfl hown.out _ n _ (prow L) rfl (HR.out.alloc _) (prow_one L) (by omega) (by omega) (by simp) (fun h => nomatch h) ?_; intro v2 w2 hown2 hg2 hat2; have hb2 := hide_ (own_grown ((Below.refl _ _).alloc (Nat.le_refl _) _) hown.out hg2 (by simp)); have HO2 := hide_ hown2; clear hown2 hg2 hat2))
  go_ret
  have h2 := HO2.out
  simp only [Nat.zero_add, List.nil_append] at h2
  exact ⟨⟨_, rfl, h2⟩, hb2.out⟩
theorem clone_any {w : World} {A : Option Addr} {n c : Nat} {L : List Pr} (hr : Rd w 2 A n (prow L)) (hA : A = none → n = 0) (hb : n * 32 ≤ 140737488355328) (hn : n ≤ maxLen) :
    Calls Try.prog 34 #[.slice A n c] w fun e w' =>
      (∃ v, e = .returned v ∧ w'.ownsRow w.heap.size 55 2 v n (prow L)) ∧ Below w.heap.size w w' := by
  rcases A with _ | a
  · obtain rfl := hA rfl
    have hL : prow L = [] := List.eq_nil_of_length_eq_zero (by simpa using hr.1)
    refine (clone_nil c w).mono fun e w' ⟨he, hw⟩ => ?_
    subst hw
    exact ⟨⟨_, he, by rw [hL]; exact World.ownsRow_nil _ _ _ _⟩, Below.refl _ _⟩
  · by_cases h0 : 0 < (prow L).length
    · obtain ⟨b, o, e, _⟩ := hr.2 h0
      injection e with e
      subst e
      exact clone_some hr c hb hn
    · have hn0 : n = 0 := by have := hr.1; omega
      subst hn0
      have hL : prow L = [] := List.eq_nil_of_length_eq_zero (by omega)
      have hq := fun W => eql_slice_nil_any Try.underlying22 W (some a) 0 c 0 0
      have hown := hide_ (own_new w #[] 55 2 0 w.heap.size rfl (Nat.zero_le _) (Nat.le_refl _))
      rw [hL]
      clear hr hA hb hL
      go_enter Try.func34, Try.ntmps34
      go_wp2_with (at_builtin; go_loud (refine wpList_append_rd _ rfl (.tmp 5) (.tmp 6) 22 rfl w.heap.size 55 2 32 pairT _ 0 [] rfl hown.out _ 0 _ [] rfl (Rd.nil _ _ _) (fun u hu => by cases hu) (by omega) (by omega) (by simp) (fun h => nomatch h) ?_; intro v2 w2 hown2 hg2 hat2; have hb2 := hide_ (own_grown ((Below.refl _ _).alloc (Nat.le_refl _) _) hown.out hg2 (by simp)); have HO2 := hide_ hown2; clear hown2 hg2 hat2))
      go_ret
      have h2 := HO2.out
      simp only [Nat.zero_add, List.nil_append] at h2
      exact ⟨⟨_, rfl, h2⟩, hb2.out⟩
/-- What changes make of pairs. -/
def AppOf : List Pr → List Chg → List Pr → Prop
  | L, [], M => M = L
  | L, c :: C, M => ∃ N, OneOf L c.1 c.2.1 c.2.2 N ∧ AppOf N C M
theorem app_snoc {C : List Chg} : ∀ {L M N : List Pr} {c : Chg}, AppOf L C M → OneOf M c.1 c.2.1 c.2.2 N → AppOf L (C ++ [c]) N := by
  induction C with
  | nil => intro L M N c h h2; obtain rfl := h; exact ⟨N, h2, rfl⟩
  | cons d C ih => intro L M N c h h2; obtain ⟨K, h3, h4⟩ := h; exact ⟨K, h3, ih h4 h2⟩
theorem chk_kind {kind : Int} {k v : ByteArray} (h : chk kind k v = 0) : kind = 1 ∨ kind = 2 ∨ kind = 3 := by
  unfold chk at h
  by_cases h3 : kind = 3
  · exact .inr (.inr h3)
  · by_cases h2 : kind = 2
    · exact .inr (.inl h2)
    · by_cases h1 : kind = 1
      · exact .inl h1
      · rw [if_neg h3, if_neg h2, if_neg h1] at h; cases h
theorem chkAll_mem {C : List Chg} (h : chkAll C = 0) : ∀ c, c ∈ C → chk c.1 c.2.1 c.2.2 = 0 := by
  induction C with
  | nil => intro c hc; cases hc
  | cons d C ih =>
    intro c hc
    unfold chkAll at h
    by_cases h0 : chk d.1 d.2.1 d.2.2 = 0
    · rw [if_pos h0] at h
      rcases List.mem_cons.1 hc with rfl | hc
      · exact h0
      · exact ih h c hc
    · rw [if_neg h0] at h; exact absurd h h0
theorem take_snoc {α : Type} {L : List α} {k : Nat} {x : α} (h : L[k]? = some x) : L.take (k + 1) = L.take k ++ [x] := by
  have e := List.getElem?_eq_some_iff.1 h
  rw [← List.take_append_getElem e.1, e.2]
/-- What Apply answers. -/
def ApplyPost (L : List Pr) (n : Nat) (C : List Chg) (p : Nat) (w : World) (e : Ending) (w' : World) : Prop :=
  ((chkAll C ≠ 0 ∧ e = .returned (.tuple #[.slice none 0 0, .int .i64 (chkAll C)])) ∨
   (chkAll C = 0 ∧ ¬ Snd L ∧ e = .returned (.tuple #[.slice none 0 0, .int .i64 2])) ∨
   (chkAll C = 0 ∧ Snd L ∧ ∃ (u : Value) (M : List Pr) (m : Nat), e = .returned (.tuple #[u, .int .i64 0]) ∧ M.length = m ∧ m ≤ n + p ∧ AppOf L C M ∧ w'.ownsRow w.heap.size 55 2 u m (prow M))) ∧ Later w w'
set_option maxHeartbeats 2000000 in
theorem apply_any {w : World} {A A' : Option Addr} {n c p c' : Nat} {L : List Pr} {C : List Chg} (hr : Rd w 2 A n (prow L)) (hl : L.length = n) (hA : A = none → n = 0) (hr' : Rd w 3 A' p (crow C)) (hl' : C.length = p) (hn : n + p ≤ 2199023255552) :
    Calls Try.prog 12 #[.slice A n c, .slice A' p c'] w (ApplyPost L n C p w) := by
  have HR := hide_ hr; have HL := hide_ hl; have HR' := hide_ hr'; have HL' := hide_ hl'
  have HA := hide_ hA
  have hc := hide_ (all_any (c := c') hr' hl' (by omega))
  have hn2 : (p : Int) ≤ 4398046511104 := by omega
  clear hr hl hr' hl' hA
  go_enter Try.func12, Try.ntmps12
  go_wp2_with fail
  refine hc.out.mono ?_; rintro e w1 ⟨rfl, hb1⟩
  have HB1 := hide_ hb1
  clear hb1 hc
  by_cases h0 : chkAll C = 0
  · rw [h0]
    have HC0 := hide_ h0
    have hs := hide_ (sound_any (c := c) (HR.out.below HB1.out) HL.out (by omega))
    clear h0
    go_wp2_with fail
    refine hs.out.mono ?_; rintro e w2 ⟨⟨r, rfl, hsr⟩, hb2⟩
    have HB2 := hide_ (HB1.out.trans hb2)
    have HSR := hide_ hsr
    clear hb2 hsr hs
    cases r with
    | false =>
      have HN := hide_ (show ¬ Snd L from fun h => by have := HSR.out.2 h; cases this)
      clear HSR
      go_wp2_with fail
      go_ret2
      exact ⟨.inr (.inl ⟨HC0.out, HN.out, rfl⟩), HB2.out⟩
    | true =>
      have HSND := hide_ (HSR.out.1 rfl)
      clear HSR
      have hcl := hide_ (clone_any (c := c) (HR.out.below HB2.out) HA.out (by omega) (by unfold maxLen; omega))
      go_wp2_with fail
      refine hcl.out.mono ?_; rintro e w3 ⟨⟨v, rfl, ho3⟩, hb3⟩
      have HO3 := hide_ (own_base' ho3 HB2.out.size)
      have HB3 := hide_ (Later.trans HB2.out hb3)
      obtain ⟨A3, c3, rfl⟩ := own_form ho3
      clear ho3 hb3 hcl
      have HMEM := hide_ (chkAll_mem HC0.out)
      go_wp2_with fail
      go_loopw [7, 9, 22] (fun s7 _ s22 wr => ∃ (k m : Nat) (M : List Pr), k ≤ p ∧ s22 = .int .i64 k ∧ Hid (M.length = m) ∧ m ≤ n + k ∧ Hid (AppOf L (C.take k) M) ∧ Hid (Ris M) ∧ Hid (wr.ownsRow w.heap.size 55 2 s7 m (prow M)) ∧ Hid (Later w wr)) (fun _ _ i _ => p - (intOf i).toNat)
      case atStart => exact ⟨0, n, L, Nat.zero_le _, rfl, HL, Nat.le_refl _, hide_ rfl, hide_ HSND.out.1, HO3, HB3⟩
      case round =>
        obtain ⟨k, m, M, hkp, rfl, HM, hmk, HAP, HRI, HO, HB⟩ := hrel
        obtain ⟨A4, c4, rfl⟩ := own_form HO.out
        by_cases hlt : k < p
        · obtain ⟨s, hs⟩ : ∃ s, C[k]? = some s := ⟨_, List.getElem?_eq_getElem (by rw [HL'.out]; exact hlt)⟩
          obtain ⟨b, o, rfl, l0, l1, l2⟩ := (HR'.out.below HB.out).chg hs
          have q1 : (k : Int) < (p : Int) := by omega
          have q2 : (0 : Int) ≤ (k : Int) := by omega
          have q3 : (k : Int) ≤ 4398046511104 := by omega
          have HT := hide_ (take_snoc hs)
          have hwa := hide_ (HB.out.alloc HB.out.size (.cells #[.int .i64 s.1, .string s.2.1, .string s.2.2] 32))
          have hc := hide_ (one_any s.2.1 s.2.2 (chk_kind (HMEM.out s (List.mem_of_getElem? hs))) (HO.out.alloc (.cells #[.int .i64 s.1, .string s.2.1, .string s.2.2] 32)) HM.out HRI.out (by omega) hwa.out.size)
          clear hs
          go_wp2_with fail
          refine hc.out.mono ?_; rintro e w5 ⟨⟨u, N, m', rfl, hm', hmm, hone, ho5⟩, hb5⟩
          obtain ⟨A5, c5, rfl⟩ := own_form ho5
          have HM5 := hide_ hm'; have HON := hide_ hone; have HO5 := hide_ ho5
          have HB5 := hide_ (show Later w w5 from hwa.out.trans hb5)
          clear hm' hone ho5 hb5 hc
          go_wp2_with fail
          go_roundw
          case rel => exact ⟨k + 1, m', N, by omega, by go_num, HM5, by omega, hide_ (by rw [HT.out]; exact app_snoc HAP.out HON.out), hide_ HON.out.1, HO5, HB5⟩
          case measure => simp [intOf]; omega
        · have q1 : ¬ (k : Int) < (p : Int) := by omega
          obtain rfl : k = p := by omega
          have HF := hide_ (show AppOf L C M by have := HAP.out; rwa [← HL'.out, List.take_length] at this)
          go_wp2_with fail
          go_ret2
          exact ⟨.inr (.inr ⟨HC0.out, HSND.out, _, M, m, rfl, HM.out, hmk, HF.out, HO.out⟩), HB.out⟩
  · have h0' : ¬ (0 : Int) = chkAll C := fun h => h0 h.symm
    go_wp2_with fail
    go_ret2
    exact ⟨.inl ⟨h0, rfl⟩, HB1.out⟩
end Go.Proofs.Ytblljpdlmllceaa
