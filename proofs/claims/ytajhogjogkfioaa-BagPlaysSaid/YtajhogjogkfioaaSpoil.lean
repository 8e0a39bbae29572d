/-
  The walk of the bag's Spoil.
-/
import Derived.Test.YtajhogjogkfioaaTwin
import Derived.Laws.OwnMore
namespace Go.Proofs.Ytajhogjogkfioaa
open Go.RowKit Go.Conc
set_option linter.unusedVariables false
set_option linter.unusedSimpArgs false
/-- The blocks that a bag's calls may turn, its texts among them. -/
def isBag2 (o : Obj) : Prop := isBag o ∨ ∃ cs fz, o = .cells cs 5 fz
theorem Kept.wider {S T : Obj → Prop} {w w' : World} (h : Kept S w w') (hST : ∀ o, S o → T o) : Kept T w w' := fun k o hk hn => h k o hk fun hs => hn (hST o hs)
theorem xor_u8 (a b : UInt8) : bits .xor .u8 (a.toNat : Int) (b.toNat : Int) = ((a ^^^ b).toNat : Int) := by
  have h1 : (BitVec.ofInt 8 (a.toNat : Int)).toNat = a.toNat := by
    rw [BitVec.ofInt_natCast, BitVec.toNat_ofNat]; exact Nat.mod_eq_of_lt a.toNat_lt
  have h2 : (BitVec.ofInt 8 (b.toNat : Int)).toNat = b.toNat := by
    rw [BitVec.ofInt_natCast, BitVec.toNat_ofNat]; exact Nat.mod_eq_of_lt b.toNat_lt
  show IntKind.u8.wrap ((BitVec.ofInt 8 (a.toNat : Int) ^^^ BitVec.ofInt 8 (b.toNat : Int)).toNat : Int) = _
  rw [BitVec.toNat_xor, h1, h2, ← UInt8.toNat_xor]
  have := (a ^^^ b).toNat_lt
  have hw : ∀ n : Int, IntKind.u8.wrap n = n % 256 := fun n => by simp [IntKind.wrap, IntKind.bits, IntKind.signed]
  rw [hw]
  omega
theorem ne_u8 (b : UInt8) : ((b.toNat : Int) != 0) = (b != 0) := by
  have key : ∀ x : BitVec 8, ((x.toNat : Int) != 0) = (x != 0) := by decide +kernel
  have h := key b.toBitVec
  rw [show b.toNat = b.toBitVec.toNat from rfl, h]
  rw [Bool.eq_iff_iff]; simp [bne_iff_ne, ← UInt8.toBitVec_inj]
theorem rowOf_set {L : List Ltr} {i : Nat} {x : Ltr} (hi : L[i]? = some x) (l : List UInt8) (sp : Bool) : rowOf (L.set i ⟨x.dest, x.v, l, sp⟩) = (rowOf L).set (i * 3 + 2) (.bool sp) := by
  induction L generalizing i with
  | nil => simp at hi
  | cons y L ih =>
    cases i with
    | zero => simp at hi; subst hi; rfl
    | succ i =>
      simp at hi
      have e : rowOf (y :: L) = .int .i64 y.dest :: y.v :: .bool y.spoilt :: rowOf L := rfl
      have e2 : rowOf (y :: L.set i ⟨x.dest, x.v, l, sp⟩) = .int .i64 y.dest :: y.v :: .bool y.spoilt :: rowOf (L.set i ⟨x.dest, x.v, l, sp⟩) := rfl
      rw [List.set_cons_succ, e2, e, ih hi, show (i + 1) * 3 + 2 = (i * 3 + 2) + 1 + 1 + 1 from by omega]
      rfl
set_option maxHeartbeats 400000 in
theorem spoil_none {w : World} {B p c room : Nat} {sv : Value} {L : List Ltr} (hB : BagAt w B p c sv room L) (i k t : Int) (hi : ¬ (0 ≤ i ∧ i < L.length)) :
    Calls Try.prog 14 #[.pointer (some ⟨p, 0, none⟩), .int .i64 i, .int .i64 k, .int .u8 t] w fun e w' => e = .returned (.int .i64 4) ∧ w = w' := by
  have ht := there_any hB i
  rw [if_neg hi] at ht
  have HT := hide_ ht
  clear ht hi
  go_enter Try.func14, Try.ntmps14
  go_wp2_with (go_at_call 19; refine HT.out.mono ?_; rintro e w' ⟨rfl, rfl⟩)
  go_ret
  exact ⟨rfl, rfl⟩
set_option maxHeartbeats 1000000 in
theorem spoil_range {w : World} {B p c room : Nat} {sv : Value} {L : List Ltr} (hB : BagAt w B p c sv room L) (hr4 : room ≤ 4096) (i : Nat) (x : Ltr) (hi : L[i]? = some x) (k t : Int) (hk : k < 0 ∨ (0 ≤ k ∧ x.text.length ≤ k)) :
    Calls Try.prog 14 #[.pointer (some ⟨p, 0, none⟩), .int .i64 (i : Int), .int .i64 k, .int .u8 t] w fun e w' => e = .returned (.int .i64 5) ∧ w = w' := by
  have hil := (List.getElem?_eq_some_iff.1 hi).1
  have ht := there_any hB (i : Int)
  rw [if_pos ⟨by omega, by omega⟩] at ht
  have HT := hide_ ht
  obtain ⟨hp, _, _, ⟨buf, s, r, hc, hroom⟩, ho, hL, _⟩ := hB
  have hLl : L.length ≤ 4096 := by omega
  have hxo := hL x (List.mem_of_getElem? hi)
  obtain ⟨g, cap, rfl, _, hgl⟩ := ho.form (by omega)
  obtain ⟨A, cx, hxv⟩ := own_form hxo
  have hk0 : w.cell? ⟨p, 0, none⟩ = some (.slice (some ⟨g, 0, none⟩) L.length cap) := cell_of_row _ _ 0 _ _ (0, 0) hp
  have hc1 : w.cell? ⟨g, i * 3 + 1, none⟩ = some (.slice A x.text.length cx) := by rw [← hxv]; exact (ho.cellAt (i * 3 + 1) (by omega)).trans (row_at hi 1 (by omega))
  have q1 : (i : Int) < (L.length : Int) := by omega
  have q0 : (0 : Int) ≤ (i : Int) := by omega
  clear ht hp hc ho hL hxo hxv hi
  rcases hk with hk | ⟨hk, hk2⟩
  all_goals
    go_enter Try.func14, Try.ntmps14
    go_wp2_with (go_at_call 19; refine HT.out.mono ?_; rintro e w' ⟨rfl, rfl⟩)
    go_ret
    exact ⟨rfl, rfl⟩
set_option maxHeartbeats 1000000 in
theorem spoil_old {w : World} {B p c room : Nat} {sv : Value} {L : List Ltr} (hB : BagAt w B p c sv room L) (hr4 : room ≤ 4096) (i : Nat) (x : Ltr) (hi : L[i]? = some x) (k t : Int) (hk : 0 ≤ k) (hk2 : k < x.text.length) (hsp : x.spoilt = true) :
    Calls Try.prog 14 #[.pointer (some ⟨p, 0, none⟩), .int .i64 (i : Int), .int .i64 k, .int .u8 t] w fun e w' => e = .returned (.int .i64 7) ∧ w = w' := by
  have hil := (List.getElem?_eq_some_iff.1 hi).1
  have ht := there_any hB (i : Int)
  rw [if_pos ⟨by omega, by omega⟩] at ht
  have HT := hide_ ht
  obtain ⟨hp, _, _, ⟨buf, s, r, hc, hroom⟩, ho, hL, _⟩ := hB
  have hLl : L.length ≤ 4096 := by omega
  have hxo := hL x (List.mem_of_getElem? hi)
  obtain ⟨g, cap, rfl, _, hgl⟩ := ho.form (by omega)
  obtain ⟨A, cx, hxv⟩ := own_form hxo
  have hk0 : w.cell? ⟨p, 0, none⟩ = some (.slice (some ⟨g, 0, none⟩) L.length cap) := cell_of_row _ _ 0 _ _ (0, 0) hp
  have hc1 : w.cell? ⟨g, i * 3 + 1, none⟩ = some (.slice A x.text.length cx) := by rw [← hxv]; exact (ho.cellAt (i * 3 + 1) (by omega)).trans (row_at hi 1 (by omega))
  have hc2 : w.cell? ⟨g, i * 3 + 2, none⟩ = some (.bool true) := by rw [← hsp]; exact (ho.cellAt (i * 3 + 2) (by omega)).trans (row_at hi 2 (by omega))
  have q1 : (i : Int) < (L.length : Int) := by omega
  have q0 : (0 : Int) ≤ (i : Int) := by omega
  clear ht hp hc ho hL hxo hxv hi
  go_enter Try.func14, Try.ntmps14
  go_wp2_with (go_at_call 19; refine HT.out.mono ?_; rintro e w' ⟨rfl, rfl⟩)
  go_ret
  exact ⟨rfl, rfl⟩
set_option maxHeartbeats 1000000 in
theorem spoil_walk {w : World} {B p c room : Nat} {sv : Value} {L : List Ltr} (hB : BagAt w B p c sv room L) (hr4 : room ≤ 4096) (i : Nat) (x : Ltr) (hi : L[i]? = some x) (k : Nat) (t : UInt8) (hk2 : k < x.text.length) (hsp : x.spoilt = false) :
    ∃ g cap g2 c2, sv = .slice (some ⟨g, 0, none⟩) L.length cap ∧ x.v = .slice (some ⟨g2, 0, none⟩) x.text.length c2 ∧ Calls Try.prog 14 #[.pointer (some ⟨p, 0, none⟩), .int .i64 (i : Int), .int .i64 (k : Int), .int .u8 (t.toNat : Int)] w fun e w' => e = .returned (.int .i64 0) ∧
      w' = (w.setCell ⟨g2, k, none⟩ (bv (x.text[k] ^^^ t))).setCell ⟨g, i * 3 + 2, none⟩ (.bool (t != 0)) := by
  have hil := (List.getElem?_eq_some_iff.1 hi).1
  have ht := there_any hB (i : Int)
  rw [if_pos ⟨by omega, by omega⟩] at ht
  have HT := hide_ ht
  obtain ⟨hp, _, _, ⟨buf, s, r, hc, hroom⟩, ho, hL, _⟩ := hB
  have hLl : L.length ≤ 4096 := by omega
  have hxo := hL x (List.mem_of_getElem? hi)
  obtain ⟨g, cap, rfl, _, hgl⟩ := ho.form (by omega)
  obtain ⟨g2, cx, hxv, _, hg2l⟩ := hxo.form (by omega)
  refine ⟨g, cap, g2, cx, rfl, hxv, ?_⟩
  rw [hxv] at hxo
  have hk0 : w.cell? ⟨p, 0, none⟩ = some (.slice (some ⟨g, 0, none⟩) L.length cap) := cell_of_row _ _ 0 _ _ (0, 0) hp
  have hc1 : w.cell? ⟨g, i * 3 + 1, none⟩ = some (.slice (some ⟨g2, 0, none⟩) x.text.length cx) := by rw [← hxv]; exact (ho.cellAt (i * 3 + 1) (by omega)).trans (row_at hi 1 (by omega))
  have hc2 : w.cell? ⟨g, i * 3 + 2, none⟩ = some (.bool false) := by rw [← hsp]; exact (ho.cellAt (i * 3 + 2) (by omega)).trans (row_at hi 2 (by omega))
  have hcb : w.cell? ⟨g2, k, none⟩ = some (.int .u8 (x.text[k].toNat : Int)) := (hxo.cellAt k (by omega)).trans (by simp [bvs, bv, hk2])
  have hf2 : w.frozen? ⟨g2, k, none⟩ = false := hxo.frozenAt k
  have hf3 : w.frozen? ⟨g, i * 3 + 2, none⟩ = false := ho.frozenAt _
  have hne : g2 ≠ g := by
    obtain ⟨cur, _, hg, _⟩ := own_row ho
    obtain ⟨cur2, _, hg2, _⟩ := own_row hxo
    rintro rfl; rw [hg] at hg2; injection hg2 with hg2; injection hg2 with _ hg2; cases hg2
  have q1 : (i : Int) < (L.length : Int) := by omega
  have q0 : (0 : Int) ≤ (i : Int) := by omega
  have q2 : (k : Int) < (x.text.length : Int) := by omega
  have q3 : (0 : Int) ≤ (k : Int) := by omega
  clear ht hp hc ho hL hxo hxv hi
  go_enter Try.func14, Try.ntmps14
  go_wp2_with (go_at_call 19; refine HT.out.mono ?_; rintro e w' ⟨rfl, rfl⟩)
  go_ret
  refine ⟨rfl, ?_⟩
  rw [xor_u8, ne_u8]; rfl
theorem apart_at {L : List Ltr} (hpw : L.Pairwise Ltr.apart) {i j : Nat} {x y : Ltr} (hi : L[i]? = some x) (hj : L[j]? = some y) (hne : i ≠ j) {g : Nat} (hy : y.v.ownBlock = some g) (hx : x.v.ownBlock = some g) : False := by
  obtain ⟨h1, rfl⟩ := List.getElem?_eq_some_iff.1 hi
  obtain ⟨h2, rfl⟩ := List.getElem?_eq_some_iff.1 hj
  rcases Nat.lt_or_ge i j with h | h
  · exact List.pairwise_iff_getElem.1 hpw i j h1 h2 h g hx hy
  · exact List.pairwise_iff_getElem.1 hpw j i h2 h1 (by omega) g hy hx
/-- What Spoil leaves. -/
theorem spoil_close {w : World} {B p c room : Nat} {g cap g2 c2 : Nat} {L : List Ltr} {i k : Nat} {x : Ltr} {u : UInt8} {sp : Bool} (hB : BagAt w B p c (.slice (some ⟨g, 0, none⟩) L.length cap) room L) (hi : L[i]? = some x) (hxv : x.v = .slice (some ⟨g2, 0, none⟩) x.text.length c2) :
    BagAt ((w.setCell ⟨g2, k, none⟩ (bv u)).setCell ⟨g, i * 3 + 2, none⟩ (.bool sp)) B p c (.slice (some ⟨g, 0, none⟩) L.length cap) room (L.set i ⟨x.dest, x.v, x.text.set k u, sp⟩) ∧
    Below B w ((w.setCell ⟨g2, k, none⟩ (bv u)).setCell ⟨g, i * 3 + 2, none⟩ (.bool sp)) ∧ Kept isBag2 w ((w.setCell ⟨g2, k, none⟩ (bv u)).setCell ⟨g, i * 3 + 2, none⟩ (.bool sp)) := by
  obtain ⟨hp, hBp, hBc, ⟨buf, s, r, hc, hroom⟩, ho, hL, hpw⟩ := hB
  have hil := (List.getElem?_eq_some_iff.1 hi).1
  have hxo := hL x (List.mem_of_getElem? hi)
  rw [hxv] at hxo
  obtain ⟨cur, hBg, hg, hg3⟩ := own_row ho
  obtain ⟨cur2, hBg2, hg2, hg23⟩ := own_row hxo
  have hne : g2 ≠ g := by rintro rfl; rw [hg] at hg2; injection hg2 with hg2; injection hg2 with _ hg2; cases hg2
  have hpg : p ≠ g := by rintro rfl; rw [hp] at hg; injection hg with hg; injection hg with _ hg; cases hg
  have hpg2 : p ≠ g2 := by rintro rfl; rw [hp] at hg2; injection hg2 with hg2; injection hg2 with _ hg2; cases hg2
  have hcg : c ≠ g := by rintro rfl; rw [hc] at hg; cases hg
  have hcg2 : c ≠ g2 := by rintro rfl; rw [hc] at hg2; cases hg2
  have hE : ∀ q, q ≠ g → q ≠ g2 → ((w.setCell ⟨g2, k, none⟩ (bv u)).setCell ⟨g, i * 3 + 2, none⟩ (.bool sp)).heap[q]? = w.heap[q]? := fun q h1 h2 =>
    (Below.heap_setCell _ ⟨g, i * 3 + 2, none⟩ _ q h1).trans (Below.heap_setCell w ⟨g2, k, none⟩ _ q h2)
  have hx1 := (hxo.stored k (bv u)).1
  have ho1 : (w.setCell ⟨g2, k, none⟩ (bv u)).ownsRow B 54 3 (.slice (some ⟨g, 0, none⟩) L.length cap) L.length (rowOf L) :=
    ⟨ho.1, .inr ⟨g, cap, cur, rfl, hBg, (Below.heap_setCell w ⟨g2, k, none⟩ _ g (Ne.symm hne)).trans hg, hg3⟩⟩
  have ho2 := (ho1.stored (i * 3 + 2) (.bool sp)).1
  have hx2 : ((w.setCell ⟨g2, k, none⟩ (bv u)).setCell ⟨g, i * 3 + 2, none⟩ (.bool sp)).ownsRow B 5 1 (.slice (some ⟨g2, 0, none⟩) x.text.length c2) x.text.length ((bvs x.text).set k (bv u)) := by
    refine ⟨hx1.1, ?_⟩
    rcases hx1.2 with ⟨h0, _⟩ | ⟨g', cap', cur', hv, hb', hh, hr⟩
    · cases h0
    · have hgg : g' = g2 := by injection hv with h1; injection h1 with h1; injection h1 with h1; exact h1.symm
      subst hgg
      exact .inr ⟨g', cap', cur', hv, hb', (Below.heap_setCell _ ⟨g, i * 3 + 2, none⟩ _ g' hne).trans hh, hr⟩
  have hrow : rowOf (L.set i ⟨x.dest, x.v, x.text.set k u, sp⟩) = (rowOf L).set (i * 3 + 2) (.bool sp) := rowOf_set hi _ _
  refine ⟨⟨(hE p hpg hpg2).trans hp, hBp, hBc, ⟨buf, s, r, (hE c hcg hcg2).trans hc, by rw [List.length_set]; exact hroom⟩, ?_, ?_, ?_⟩, ?_, ?_⟩
  · rw [List.length_set, hrow]; exact ho2
  · intro y hy
    obtain ⟨j, hj⟩ := List.getElem?_of_mem hy
    by_cases hji : i = j
    · subst hji
      rw [List.getElem?_set_self hil] at hj
      injection hj with hj
      subst hj
      simp only [hxv, List.length_set]
      rw [show bvs (x.text.set k u) = (bvs x.text).set k (bv u) from by simp [bvs, List.map_set]]
      exact hx2
    · rw [List.getElem?_set_ne hji] at hj
      have hy0 := hL y (List.mem_of_getElem? hj)
      refine ⟨hy0.1, ?_⟩
      rcases hy0.2 with h0 | ⟨g', cap', cur', hv, hb', hh, hr⟩
      · exact .inl h0
      · have hgg : g' ≠ g2 := by
          rintro rfl
          have h1 : y.v.ownBlock = some g' := by rw [hv]; rfl
          have h2 : x.v.ownBlock = some g' := by rw [hxv]; rfl
          exact apart_at hpw hi hj hji h1 h2
        have hgl : g' ≠ g := by rintro rfl; rw [hg] at hh; injection hh with hh; injection hh with _ hh; cases hh
        exact .inr ⟨g', cap', cur', hv, hb', (hE g' hgl hgg).trans hh, hr⟩
  · have e : (L.set i ⟨x.dest, x.v, x.text.set k u, sp⟩).map (·.v) = L.map (·.v) := by
      rw [List.map_set]
      apply List.ext_getElem?
      intro j
      by_cases hji : i = j
      · subst hji
        rw [List.getElem?_set_self (by simpa using hil)]; simp [hi]
      · rw [List.getElem?_set_ne hji]
    have h1 : (L.map (·.v)).Pairwise (fun a b => ∀ g, a.ownBlock = some g → b.ownBlock ≠ some g) := List.pairwise_map.2 hpw
    rw [← e] at h1
    exact (List.pairwise_map (f := fun z : Ltr => z.v) (R := fun a b : Value => ∀ g, a.ownBlock = some g → b.ownBlock ≠ some g)).1 h1
  · exact ((Below.refl _ _).setCell hBg2 _).setCell hBg _
  · intro q o hq hn
    refine (hE q ?_ ?_).trans hq
    · rintro rfl; rw [hg] at hq; injection hq with hq; subst hq; exact hn (.inl (isBag_row _ _))
    · rintro rfl; rw [hg2] at hq; injection hq with hq; subst hq; exact hn (.inr ⟨_, _, rfl⟩)
theorem spoil_any {w : World} {B p c room : Nat} {sv : Value} {L : List Ltr} (hB : BagAt w B p c sv room L) (hr4 : room ≤ 4096) (i : Nat) (x : Ltr) (hi : L[i]? = some x) (k : Nat) (t : UInt8) (hk2 : k < x.text.length) (hsp : x.spoilt = false) :
    Calls Try.prog 14 #[.pointer (some ⟨p, 0, none⟩), .int .i64 (i : Int), .int .i64 (k : Int), .int .u8 (t.toNat : Int)] w fun e w' =>
      e = .returned (.int .i64 0) ∧ BagAt w' B p c sv room (L.set i ⟨x.dest, x.v, x.text.set k (x.text[k] ^^^ t), t != 0⟩) ∧ Below B w w' ∧ Kept isBag2 w w' := by
  obtain ⟨g, cap, g2, c2, rfl, hxv, h⟩ := spoil_walk hB hr4 i x hi k t hk2 hsp
  refine h.mono ?_
  rintro e w' ⟨rfl, rfl⟩
  exact ⟨rfl, spoil_close hB hi hxv⟩
end Go.Proofs.Ytajhogjogkfioaa
