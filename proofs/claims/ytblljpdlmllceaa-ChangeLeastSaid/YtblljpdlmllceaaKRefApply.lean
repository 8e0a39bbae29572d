/-
  The document's Apply.
-/
import Derived.Test.YtblljpdlmllceaaKRefOne
namespace Go.Proofs.Ytblljpdlmllceaa
open Go.RowKit
set_option linter.unusedVariables false
set_option linter.unusedSimpArgs false
theorem chk_size {kind : Int} {k v : ByteArray} (h : chk kind k v = 0) : k.size ≤ 17 := by
  unfold chk at h
  repeat' split at h
  all_goals first | omega | (exact absurd h (by decide)) | skip
/-- What the document's Apply answers. -/
def RApplyPost (L : List Pr) (n : Nat) (C : List Chg) (p : Nat) (w : World) (e : Ending) (w' : World) : Prop :=
  ((chkAll C ≠ 0 ∧ e = .returned (.tuple #[.slice none 0 0, .int .i64 (chkAll C)])) ∨
   (chkAll C = 0 ∧ ¬ Snd L ∧ e = .returned (.tuple #[.slice none 0 0, .int .i64 2])) ∨
   (chkAll C = 0 ∧ Snd L ∧ ∃ (A : Option Addr) (c m : Nat) (M : List Pr), e = .returned (.tuple #[.slice A m c, .int .i64 0]) ∧ M.length = m ∧ m ≤ n + p ∧ AppOf L C M ∧ Rd w' 2 A m (prow M))) ∧ Later w w'
set_option maxHeartbeats 2000000 in
theorem rapply_any {w : World} {A A' : Option Addr} {n c p c' : Nat} {L : List Pr} {C : List Chg} (hr : Rd w 2 A n (prow L)) (hl : L.length = n) (hr' : Rd w 3 A' p (crow C)) (hl' : C.length = p) (hn : n + p ≤ 2199023255552) :
    Calls Try.prog 13 #[.slice A n c, .slice A' p c'] w (RApplyPost L n C p w) := by
  have HR := hide_ hr; have HL := hide_ hl; have HR' := hide_ hr'; have HL' := hide_ hl'
  have hc := hide_ (rall_any (c := c') hr' hl' (by omega))
  have hn2 : (p : Int) ≤ 4398046511104 := by omega
  clear hr hl hr' hl'
  go_enter Try.func13, Try.ntmps13
  go_wp2_with fail
  refine hc.out.mono ?_; rintro e w1 ⟨rfl, hb1⟩
  have HB1 := hide_ hb1
  clear hb1 hc
  by_cases h0 : chkAll C = 0
  · rw [h0]
    have HC0 := hide_ h0
    have hs := hide_ (rsound_any (c := c) (HR.out.below HB1.out) HL.out (by omega))
    clear h0
    go_wp2_with fail
    refine hs.out.mono ?_; rintro e w2 ⟨⟨r, rfl, hsr⟩, hb2⟩
    have HB2 := hide_ (HB1.out.trans hb2)
    have HSR := hide_ hsr
    clear hb2 hsr hs
    cases r with
    | false =>
      have HN := hide_ (show ¬ Snd L from fun h => by have := HSR.out.2 h; cases this)
      clear HSR
      go_wp2_with fail
      go_ret2
      exact ⟨.inr (.inl ⟨HC0.out, HN.out, rfl⟩), HB2.out⟩
    | true =>
      have HSND := hide_ (HSR.out.1 rfl)
      clear HSR
      have HMEM := hide_ (chkAll_mem HC0.out)
      go_wp2_with fail
      go_loopw [0, 7] (fun s0 s7 wr => ∃ (k m c : Nat) (A : Option Addr) (M : List Pr), k ≤ p ∧ s0 = .slice A m c ∧ s7 = .int .i64 k ∧ Hid (M.length = m) ∧ m ≤ n + k ∧ Hid (AppOf L (C.take k) M) ∧ Hid (Ris M) ∧ Hid (Rd wr 2 A m (prow M)) ∧ Hid (Later w wr)) (fun _ i _ => p - (intOf i).toNat)
      case atStart => exact ⟨0, n, c, A, L, Nat.zero_le _, rfl, rfl, HL, Nat.le_refl _, hide_ rfl, hide_ HSND.out.1, hide_ (HR.out.below HB2.out), HB2⟩
      case round =>
        obtain ⟨k, m, c4, A4, M, hkp, rfl, rfl, HM, hmk, HAP, HRI, HO, HB⟩ := hrel
        by_cases hlt : k < p
        · obtain ⟨s, hs⟩ : ∃ s, C[k]? = some s := ⟨_, List.getElem?_eq_getElem (by rw [HL'.out]; exact hlt)⟩
          obtain ⟨b, o, rfl, l0, l1, l2⟩ := (HR'.out.below HB.out).chg hs
          have q1 : (k : Int) < (p : Int) := by omega
          have q2 : (0 : Int) ≤ (k : Int) := by omega
          have q3 : (k : Int) ≤ 4398046511104 := by omega
          have HT := hide_ (take_snoc hs)
          have hck := hide_ (rone_any (c := c4) s.1 s.2.1 s.2.2 (by have := chk_size (HMEM.out s (List.mem_of_getElem? hs)); omega) HO.out HM.out HRI.out (by omega))
          clear hs
          go_wp2_with fail
          refine hck.out.mono ?_; rintro e w5 ⟨⟨u, N, m', rfl, hm', hmm, hone, ho5⟩, hb5⟩
          obtain ⟨A5, c5, rfl⟩ := own_form ho5
          have HM5 := hide_ hm'; have HON := hide_ hone; have HO5 := hide_ (Rd.of_own ho5)
          have HB5 := hide_ (show Later w w5 from HB.out.trans hb5)
          clear hm' hone ho5 hb5 hck
          go_wp2_with fail
          go_roundw
          case rel => exact ⟨k + 1, m', c5, A5, N, by omega, rfl, by go_num, HM5, by omega, hide_ (by rw [HT.out]; exact app_snoc HAP.out HON.out), hide_ HON.out.1, HO5, HB5⟩
          case measure => simp [intOf]; omega
        · have q1 : ¬ (k : Int) < (p : Int) := by omega
          obtain rfl : k = p := by omega
          have HF := hide_ (show AppOf L C M by have := HAP.out; rwa [← HL'.out, List.take_length] at this)
          go_wp2_with fail
          go_ret2
          exact ⟨.inr (.inr ⟨HC0.out, HSND.out, A4, c4, m, M, rfl, HM.out, hmk, HF.out, HO.out⟩), HB.out⟩
  · have h0' : ¬ (0 : Int) = chkAll C := fun h => h0 h.symm
    go_wp2_with fail
    go_ret2
    exact ⟨.inl ⟨h0, rfl⟩, HB1.out⟩
end Go.Proofs.Ytblljpdlmllceaa
