/-
  Both bags' calls, each told by one plain function of what the bag holds.
-/
import Derived.Test.YtajhogjogkfioaaRSpoil
namespace Go.Proofs.Ytajhogjogkfioaa
open Go.RowKit Go.Conc
set_option linter.unusedVariables false
set_option linter.unusedSimpArgs false
def dat (x : Ltr) : RL := ⟨x.dest, x.text, x.spoilt⟩
/-- The program's bag holds these letters. -/
def Half (w : World) (B p c room : Nat) (L : List RL) : Prop := ∃ sv Ls, BagAt w B p c sv room Ls ∧ Ls.map dat = L
theorem Half.len {w : World} {B p c room : Nat} {L : List RL} (h : Half w B p c room L) : L.length ≤ room := by
  obtain ⟨sv, Ls, ⟨_, _, _, ⟨_, _, _, _, hr⟩, _⟩, rfl⟩ := h
  rw [List.length_map]; omega
theorem Half.later {w w' : World} {B p c room : Nat} {L : List RL} (h : Half w B p c room L) (hb : Below w.heap.size w w') : Half w' B p c room L := by
  obtain ⟨sv, Ls, h1, h2⟩ := h; exact ⟨sv, Ls, h1.later hb, h2⟩
theorem Half.kept {w w' : World} {B p c room : Nat} {L : List RL} (h : Half w B p c room L) (hk : Kept isRef w w') : Half w' B p c room L := by
  obtain ⟨sv, Ls, h1, h2⟩ := h; exact ⟨sv, Ls, h1.kept hk, h2⟩
def at? (L : List RL) (i : Int) : Option RL := if 0 ≤ i then L[i.toNat]? else none
theorem at_none {L : List RL} {i : Int} (h : at? L i = none) : ¬ (0 ≤ i ∧ i < L.length) := by
  rintro ⟨h0, h1⟩
  unfold at? at h
  rw [if_pos h0, List.getElem?_eq_none_iff] at h
  omega
theorem at_some {L : List RL} {i : Int} {x : RL} (h : at? L i = some x) : ∃ n : Nat, i = (n : Int) ∧ i.toNat = n ∧ L[n]? = some x := by
  unfold at? at h
  by_cases h0 : 0 ≤ i
  · rw [if_pos h0] at h; exact ⟨i.toNat, by omega, rfl, h⟩
  · rw [if_neg h0] at h; cases h
theorem map_at {Ls : List Ltr} {n : Nat} {x : RL} (h : (Ls.map dat)[n]? = some x) : ∃ y, Ls[n]? = some y ∧ dat y = x := by
  rw [List.getElem?_map] at h; exact Option.map_eq_some_iff.1 h
/-- No text is longer than this. -/
def Short (L : List RL) : Prop := ∀ x, x ∈ L → x.text.length ≤ 131072
def sendV (room : Nat) (L : List RL) (d : Int) (t : List UInt8) : Int × List RL :=
  if d < 0 ∨ 255 < d then (1, L) else if 131072 < t.length then (6, L) else if L.length < room then (0, L ++ [⟨d, t, false⟩]) else (10, L)
def lookV (L : List RL) (i : Int) : RL × Int := match at? L i with | none => (⟨0, [], false⟩, 4) | some x => (x, 0)
def takeL (L : List RL) (i : Int) : List RL := match at? L i with | none => L | some _ => L.eraseIdx i.toNat
def twinV (room : Nat) (L : List RL) (i : Int) : Int × List RL := match at? L i with | none => (4, L) | some x => if L.length < room then (0, L ++ [x]) else (10, L)
def spoilV (L : List RL) (i k : Int) (u : UInt8) : Int × List RL := match at? L i with
  | none => (4, L)
  | some x => if k < 0 ∨ (x.text.length : Int) ≤ k then (5, L) else if x.spoilt = true then (7, L) else (0, L.set i.toNat ⟨x.dest, x.text.set k.toNat ((x.text[k.toNat]?).getD 0 ^^^ u), u != 0⟩)
theorem Short.send {room : Nat} {L : List RL} {d : Int} {t : List UInt8} (h : Short L) : Short (sendV room L d t).2 := by
  unfold sendV
  split
  · exact h
  · split
    · exact h
    · split
      · intro x hx
        rcases List.mem_append.1 hx with hx | hx
        · exact h x hx
        · rw [List.mem_singleton.1 hx]; show t.length ≤ 131072; omega
      · exact h
theorem Short.take {L : List RL} {i : Int} (h : Short L) : Short (takeL L i) := by
  unfold takeL
  split
  · exact h
  · intro x hx; exact h x (List.mem_of_mem_eraseIdx hx)
theorem at_mem {L : List RL} {i : Int} {x : RL} (h : at? L i = some x) : x ∈ L := by
  obtain ⟨n, _, _, h2⟩ := at_some h; exact List.mem_of_getElem? h2
theorem Short.twin {room : Nat} {L : List RL} {i : Int} (h : Short L) : Short (twinV room L i).2 := by
  unfold twinV
  split
  · exact h
  · rename_i x hx
    split
    · intro y hy
      rcases List.mem_append.1 hy with hy | hy
      · exact h y hy
      · rw [List.mem_singleton.1 hy]; exact h x (at_mem hx)
    · exact h
theorem Short.spoil {L : List RL} {i k : Int} {u : UInt8} (h : Short L) : Short (spoilV L i k u).2 := by
  unfold spoilV
  split
  · exact h
  · rename_i x hx
    split
    · exact h
    · split
      · exact h
      · intro y hy
        rcases List.mem_or_eq_of_mem_set hy with hy | rfl
        · exact h y hy
        · rw [List.length_set]; exact h x (at_mem hx)
theorem Short.look {L : List RL} {i : Int} (h : Short L) : (lookV L i).1.text.length ≤ 131072 := by
  unfold lookV
  split
  · show (0 : Nat) ≤ _; omega
  · rename_i x hx; exact h x (at_mem hx)
theorem map_erase : ∀ (Ls : List Ltr) (n : Nat), (Ls.eraseIdx n).map dat = (Ls.map dat).eraseIdx n
  | [], _ => by simp
  | _ :: _, 0 => by simp
  | x :: Ls, n + 1 => by simp [map_erase Ls n]
section
variable {w : World} {B p c r room : Nat} {lv : Value} {L : List RL}
theorem bsend (h : Half w B p c room L) (hr4 : room ≤ 4096) (hBw : B ≤ w.heap.size) (d : Int) (A : Option Addr) (n cap : Nat) (t : List UInt8) (hl : t.length = n) (hA : A = none → n = 0) (hR : Rd w 1 A n (bvs t)) :
    Calls Try.prog 6 #[.pointer (some ⟨p, 0, none⟩), .int .i64 d, .slice A n cap] w fun e w' =>
      e = .returned (.int .i64 (sendV room L d t).1) ∧ Half w' B p c room (sendV room L d t).2 ∧ Below B w w' ∧ Kept isBag2 w w' := by
  have hlen := h.len
  have H := h
  obtain ⟨sv, Ls, h1, h2⟩ := h
  unfold sendV
  by_cases c1 : d < 0 ∨ 255 < d
  · rw [if_pos c1]
    refine (send_arg h1 d _ (by omega)).mono ?_
    rintro e w' ⟨rfl, rfl⟩
    exact ⟨rfl, H, Below.refl _ _, Kept.refl _ _⟩
  · rw [if_neg c1]
    by_cases c2 : 131072 < t.length
    · rw [if_pos c2]
      refine (send_large h1 d A n cap (by omega) (by omega) (by omega)).mono ?_
      rintro e w' ⟨rfl, rfl⟩
      exact ⟨rfl, H, Below.refl _ _, Kept.refl _ _⟩
    · rw [if_neg c2]
      by_cases c3 : L.length < room
      · rw [if_pos c3]
        refine (send_any h1 hr4 hBw d A n cap t (by omega) (by omega) (by omega) hl hA hR (by rw [← h2, List.length_map] at c3; exact c3)).mono ?_
        rintro e w' ⟨rfl, ⟨sv', v, h3⟩, h4, h5⟩
        exact ⟨rfl, ⟨sv', _, h3, by rw [List.map_append, h2]; rfl⟩, h4, h5.wider fun _ => .inl⟩
      · rw [if_neg c3]
        refine (send_full h1 d A n cap t (by omega) (by omega) (by omega) hl hA hR (by rw [← h2, List.length_map] at c3 hlen; omega)).mono ?_
        rintro e w' ⟨rfl, h3⟩
        exact ⟨rfl, H.later h3, h3.mono hBw, Kept.of_later h3⟩
theorem rsend (h : RAt w B r lv room L) (hr4 : room ≤ 4096) (hBw : B ≤ w.heap.size) (d : Int) (A : Option Addr) (n cap : Nat) (t : List UInt8) (hl : t.length = n) (hA : A = none → n = 0) (hR : Rd w 1 A n (bvs t)) :
    Calls Try.prog 7 #[.pointer (some ⟨r, 0, none⟩), .int .i64 d, .slice A n cap] w fun e w' =>
      e = .returned (.int .i64 (sendV room L d t).1) ∧ (∃ lv', RAt w' B r lv' room (sendV room L d t).2) ∧ Below B w w' ∧ Kept isRef w w' ∧ Ron w w' r lv := by
  unfold sendV
  by_cases c1 : d < 0 ∨ 255 < d
  · rw [if_pos c1]
    refine (rsend_arg h d _ (by omega)).mono ?_
    rintro e w' ⟨rfl, rfl⟩
    exact ⟨rfl, ⟨_, h⟩, Below.refl _ _, Kept.refl _ _, fun _ _ _ _ => rfl⟩
  · rw [if_neg c1]
    by_cases c2 : 131072 < t.length
    · rw [if_pos c2]
      refine (rsend_large h d A n cap (by omega) (by omega) (by omega)).mono ?_
      rintro e w' ⟨rfl, rfl⟩
      exact ⟨rfl, ⟨_, h⟩, Below.refl _ _, Kept.refl _ _, fun _ _ _ _ => rfl⟩
    · rw [if_neg c2]
      by_cases c3 : L.length < room
      · rw [if_pos c3]
        exact rsend_any h hr4 hBw d A n cap t (by omega) (by omega) (by omega) hl hA hR c3
      · rw [if_neg c3]
        refine (rsend_full h d A n cap (by omega) (by omega) (by omega) (by omega)).mono ?_
        rintro e w' ⟨rfl, h3⟩
        exact ⟨rfl, ⟨_, h.later h3⟩, h3.mono hBw, Kept.of_later h3, fun q hq _ _ => h3.block q hq⟩
theorem blook (h : Half w B p c room L) (hr4 : room ≤ 4096) (hS : Short L) (i : Int) :
    Calls Try.prog 8 #[.pointer (some ⟨p, 0, none⟩), .int .i64 i] w fun e w' =>
      ∃ v, e = .returned (.tuple #[.int .i64 (lookV L i).1.dest, v, .int .i64 (lookV L i).2]) ∧ w'.ownsRow w.heap.size 5 1 v (lookV L i).1.text.length (bvs (lookV L i).1.text) ∧ Below w.heap.size w w' := by
  obtain ⟨sv, Ls, h1, h2⟩ := h
  unfold lookV
  cases hx : at? L i with
  | none =>
    refine (look_none h1 i (by have := at_none hx; rw [← h2, List.length_map] at this; exact this)).mono ?_
    rintro e w' ⟨rfl, rfl⟩
    exact ⟨_, rfl, World.ownsRow_nil _ _ _ _, Below.refl _ _⟩
  | some x =>
    obtain ⟨n, rfl, _, h3⟩ := at_some hx
    rw [← h2] at h3
    obtain ⟨y, hy, rfl⟩ := map_at h3
    have := hS _ (at_mem hx)
    exact look_any h1 hr4 n y hy (by have h : y.text.length ≤ 131072 := this; omega)
theorem rlook (h : RAt w B r lv room L) (i : Int) :
    Calls Try.prog 9 #[.pointer (some ⟨r, 0, none⟩), .int .i64 i] w fun e w' =>
      e = .returned (.tuple #[.agg #[.int .i64 (lookV L i).1.dest, .string ⟨(lookV L i).1.text.toArray⟩, .bool (lookV L i).1.spoilt], .int .i64 (lookV L i).2]) ∧ Below w.heap.size w w' := by
  unfold lookV
  cases hx : at? L i with
  | none => exact rlook_none h i (at_none hx)
  | some x =>
    obtain ⟨n, rfl, _, h3⟩ := at_some hx
    exact rlook_any h n x h3
theorem btake (h : Half w B p c room L) (hr4 : room ≤ 4096) (hBw : B ≤ w.heap.size) (hS : Short L) (i : Int) :
    Calls Try.prog 10 #[.pointer (some ⟨p, 0, none⟩), .int .i64 i] w fun e w' =>
      ∃ v, e = .returned (.tuple #[.int .i64 (lookV L i).1.dest, v, .int .i64 (lookV L i).2]) ∧ w'.ownsRow w.heap.size 5 1 v (lookV L i).1.text.length (bvs (lookV L i).1.text) ∧ Half w' B p c room (takeL L i) ∧ Below B w w' ∧ Kept isBag2 w w' := by
  have H := h
  obtain ⟨sv, Ls, h1, h2⟩ := h
  unfold lookV takeL
  cases hx : at? L i with
  | none =>
    refine (take_none h1 i (by have := at_none hx; rw [← h2, List.length_map] at this; exact this)).mono ?_
    rintro e w' ⟨rfl, rfl⟩
    exact ⟨_, rfl, World.ownsRow_nil _ _ _ _, H, Below.refl _ _, Kept.refl _ _⟩
  | some x =>
    obtain ⟨n, rfl, _, h3⟩ := at_some hx
    rw [← h2] at h3
    obtain ⟨y, hy, rfl⟩ := map_at h3
    have := hS _ (at_mem hx)
    refine (take_any h1 hr4 hBw n y hy (by have h : y.text.length ≤ 131072 := this; omega)).mono ?_
    rintro e w' ⟨v, rfl, ho, ⟨sv', h4⟩, h5, h6⟩
    exact ⟨v, rfl, ho, ⟨sv', _, h4, by rw [← h2, Int.toNat_natCast]; exact map_erase Ls n⟩, h5, h6.wider fun _ => .inl⟩
theorem rtake (h : RAt w B r lv room L) (hr4 : room ≤ 4096) (hlen : L.length ≤ room) (hBw : B ≤ w.heap.size) (i : Int) :
    Calls Try.prog 11 #[.pointer (some ⟨r, 0, none⟩), .int .i64 i] w fun e w' =>
      e = .returned (.tuple #[.agg #[.int .i64 (lookV L i).1.dest, .string ⟨(lookV L i).1.text.toArray⟩, .bool (lookV L i).1.spoilt], .int .i64 (lookV L i).2]) ∧ (∃ lv', RAt w' B r lv' room (takeL L i) ∧ ∀ g, lv'.ownBlock = some g → lv.ownBlock = some g ∨ w.heap.size ≤ g) ∧ Below B w w' ∧ Kept isRef w w' ∧ Ron w w' r lv := by
  unfold lookV takeL
  cases hx : at? L i with
  | none =>
    refine (rtake_none h i (at_none hx)).mono ?_
    rintro e w' ⟨rfl, h3⟩
    exact ⟨rfl, ⟨_, h.later h3, fun g hg => .inl hg⟩, h3.mono hBw, Kept.of_later h3, fun q hq _ _ => h3.block q hq⟩
  | some x =>
    obtain ⟨n, rfl, _, h3⟩ := at_some hx
    refine (rtake_any h (by omega) hBw n x h3).mono ?_
    rintro e w' ⟨rfl, ⟨lv', h4, h5⟩, h6⟩
    exact ⟨rfl, ⟨lv', h4, fun g hg => .inr (h5 g hg)⟩, h6⟩
theorem btwin (h : Half w B p c room L) (hr4 : room ≤ 4096) (hBw : B ≤ w.heap.size) (hS : Short L) (i : Int) :
    Calls Try.prog 12 #[.pointer (some ⟨p, 0, none⟩), .int .i64 i] w fun e w' =>
      e = .returned (.int .i64 (twinV room L i).1) ∧ Half w' B p c room (twinV room L i).2 ∧ Below B w w' ∧ Kept isBag2 w w' := by
  have hlen := h.len
  have H := h
  obtain ⟨sv, Ls, h1, h2⟩ := h
  unfold twinV
  cases hx : at? L i with
  | none =>
    refine (twin_none h1 i (by have := at_none hx; rw [← h2, List.length_map] at this; exact this)).mono ?_
    rintro e w' ⟨rfl, rfl⟩
    exact ⟨rfl, H, Below.refl _ _, Kept.refl _ _⟩
  | some x =>
    obtain ⟨n, rfl, _, h3⟩ := at_some hx
    rw [← h2] at h3
    obtain ⟨y, hy, rfl⟩ := map_at h3
    have := hS _ (at_mem hx)
    have hyl : y.text.length ≤ 140737488351232 := by have h : y.text.length ≤ 131072 := this; omega
    by_cases c3 : L.length < room
    · simp only [if_pos c3]
      refine (twin_any h1 hr4 hBw n y hy hyl (by rw [← h2, List.length_map] at c3; exact c3)).mono ?_
      rintro e w' ⟨rfl, ⟨sv', v, h4⟩, h5, h6⟩
      exact ⟨rfl, ⟨sv', _, h4, by rw [List.map_append, h2]; rfl⟩, h5, h6.wider fun _ => .inl⟩
    · simp only [if_neg c3]
      refine (twin_full h1 hr4 hBw n y hy hyl (by rw [← h2, List.length_map] at c3 hlen; omega)).mono ?_
      rintro e w' ⟨rfl, h4⟩
      exact ⟨rfl, H.later h4, h4.mono hBw, Kept.of_later h4⟩
theorem rtwin (h : RAt w B r lv room L) (hr4 : room ≤ 4096) (hBw : B ≤ w.heap.size) (i : Int) :
    Calls Try.prog 13 #[.pointer (some ⟨r, 0, none⟩), .int .i64 i] w fun e w' =>
      e = .returned (.int .i64 (twinV room L i).1) ∧ (∃ lv', RAt w' B r lv' room (twinV room L i).2) ∧ Below B w w' ∧ Kept isRef w w' ∧ Ron w w' r lv := by
  unfold twinV
  cases hx : at? L i with
  | none =>
    refine (rtwin_none h i (at_none hx)).mono ?_
    rintro e w' ⟨rfl, h3⟩
    exact ⟨rfl, ⟨_, h.later h3⟩, h3.mono hBw, Kept.of_later h3, fun q hq _ _ => h3.block q hq⟩
  | some x =>
    obtain ⟨n, rfl, _, h3⟩ := at_some hx
    by_cases c3 : L.length < room
    · simp only [if_pos c3]; exact rtwin_any h hr4 hBw n x h3 c3
    · simp only [if_neg c3]
      refine (rtwin_full h n x h3 (by omega)).mono ?_
      rintro e w' ⟨rfl, h3⟩
      exact ⟨rfl, ⟨_, h.later h3⟩, h3.mono hBw, Kept.of_later h3, fun q hq _ _ => h3.block q hq⟩
theorem bspoil (h : Half w B p c room L) (hr4 : room ≤ 4096) (hS : Short L) (i k : Int) (u : UInt8) :
    Calls Try.prog 14 #[.pointer (some ⟨p, 0, none⟩), .int .i64 i, .int .i64 k, .int .u8 (u.toNat : Int)] w fun e w' =>
      e = .returned (.int .i64 (spoilV L i k u).1) ∧ Half w' B p c room (spoilV L i k u).2 ∧ Below B w w' ∧ Kept isBag2 w w' := by
  have H := h
  obtain ⟨sv, Ls, h1, h2⟩ := h
  unfold spoilV
  cases hx : at? L i with
  | none =>
    refine (spoil_none h1 i k _ (by have := at_none hx; rw [← h2, List.length_map] at this; exact this)).mono ?_
    rintro e w' ⟨rfl, rfl⟩
    exact ⟨rfl, H, Below.refl _ _, Kept.refl _ _⟩
  | some x =>
    obtain ⟨n, rfl, _, h3⟩ := at_some hx
    rw [← h2] at h3
    obtain ⟨y, hy, rfl⟩ := map_at h3
    by_cases c1 : k < 0 ∨ ((dat y).text.length : Int) ≤ k
    · simp only [if_pos c1]
      refine (spoil_range h1 hr4 n y hy k _ (by have h : k < 0 ∨ (y.text.length : Int) ≤ k := c1; omega)).mono ?_
      rintro e w' ⟨rfl, rfl⟩
      exact ⟨rfl, H, Below.refl _ _, Kept.refl _ _⟩
    · simp only [if_neg c1]
      have c1' : ¬ (k < 0 ∨ (y.text.length : Int) ≤ k) := c1
      by_cases c2 : (dat y).spoilt = true
      · simp only [if_pos c2]
        refine (spoil_old h1 hr4 n y hy k _ (by omega) (by omega) c2).mono ?_
        rintro e w' ⟨rfl, rfl⟩
        exact ⟨rfl, H, Below.refl _ _, Kept.refl _ _⟩
      · simp only [if_neg c2]
        obtain ⟨m, rfl⟩ : ∃ m : Nat, k = (m : Int) := ⟨k.toNat, by omega⟩
        have hm : m < y.text.length := by omega
        refine (spoil_any h1 hr4 n y hy m u hm (by simpa [dat] using c2)).mono ?_
        rintro e w' ⟨rfl, h4, h5, h6⟩
        refine ⟨rfl, ⟨_, _, h4, ?_⟩, h5, h6⟩
        rw [List.map_set, h2, Int.toNat_natCast, Int.toNat_natCast]
        simp only [dat, List.getElem?_eq_getElem hm, Option.getD_some]
theorem rspoil (h : RAt w B r lv room L) (hr4 : room ≤ 4096) (hlen : L.length ≤ room) (hBw : B ≤ w.heap.size) (hS : Short L) (i k : Int) (u : UInt8) :
    Calls Try.prog 15 #[.pointer (some ⟨r, 0, none⟩), .int .i64 i, .int .i64 k, .int .u8 (u.toNat : Int)] w fun e w' =>
      e = .returned (.int .i64 (spoilV L i k u).1) ∧ (∃ lv', RAt w' B r lv' room (spoilV L i k u).2) ∧ Below B w w' ∧ Kept isRef w w' ∧ Ron w w' r lv := by
  unfold spoilV
  cases hx : at? L i with
  | none =>
    refine (rspoil_none h i k _ (at_none hx)).mono ?_
    rintro e w' ⟨rfl, h3⟩
    exact ⟨rfl, ⟨_, h.later h3⟩, h3.mono hBw, Kept.of_later h3, fun q hq _ _ => h3.block q hq⟩
  | some x =>
    obtain ⟨n, rfl, _, h3⟩ := at_some hx
    have hxl : x.text.length ≤ maxLen := by have := hS _ (at_mem hx); unfold maxLen; omega
    by_cases c1 : k < 0 ∨ (x.text.length : Int) ≤ k
    · simp only [if_pos c1]
      refine (rspoil_range h n x h3 k _ (by omega) hxl).mono ?_
      rintro e w' ⟨rfl, h3⟩
      exact ⟨rfl, ⟨_, h.later h3⟩, h3.mono hBw, Kept.of_later h3, fun q hq _ _ => h3.block q hq⟩
    · simp only [if_neg c1]
      by_cases c2 : x.spoilt = true
      · simp only [if_pos c2]
        refine (rspoil_old h n x h3 k _ (by omega) (by omega) c2 hxl).mono ?_
        rintro e w' ⟨rfl, h3⟩
        exact ⟨rfl, ⟨_, h.later h3⟩, h3.mono hBw, Kept.of_later h3, fun q hq _ _ => h3.block q hq⟩
      · simp only [if_neg c2]
        obtain ⟨m, rfl⟩ : ∃ m : Nat, k = (m : Int) := ⟨k.toNat, by omega⟩
        have hm : m < x.text.length := by omega
        have := rspoil_any h (by omega) hBw n x h3 m u hm (by simpa using c2) hxl
        simpa only [Int.toNat_natCast, List.getElem?_eq_getElem hm, Option.getD_some] using this
end

end Go.Proofs.Ytajhogjogkfioaa
