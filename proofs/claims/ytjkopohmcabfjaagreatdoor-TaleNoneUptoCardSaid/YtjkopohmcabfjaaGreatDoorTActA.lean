/-
  tale.Act: the act of a line as one plain function; the search for its kind.
-/
import Derived.Test.YtjkopohmcabfjaaGreatDoorTLine
import Derived.Lib.SplitLaws
namespace Go.Proofs.YtjkopohmcabfjaaGreatDoor
open Go.RowKit
set_option linter.unusedVariables false
set_option linter.unusedSimpArgs false
def wordsOf (l : List UInt8) : List (List UInt8) := (Lib.splitB ⟨#[32]⟩ 0 (Lib.countB ⟨l.toArray⟩ ⟨#[32]⟩) ⟨l.toArray⟩).map (·.data.toList)
theorem wordsOf_eq (l : List UInt8) : wordsOf l = Lib.splitK [32] 0 (l.count 32) l := by
  unfold wordsOf
  rw [Lib.splitB_data]
  have e : Lib.countB ⟨l.toArray⟩ ⟨#[32]⟩ = l.count 32 := by
    have := Lib.count_one 32 l
    rw [← this]
  rw [e]
def testW (w0 k : List UInt8) : Bool := !(decide (k = [])) && Lib.hasPrefix k (w0 ++ [32])
def idxOf (p : List UInt8 → Bool) : List (List UInt8) → Int
  | [] => -1
  | x :: r => if p x = true then 0 else if idxOf p r = -1 then -1 else idxOf p r + 1
theorem idxOf_ge (p : List UInt8 → Bool) (l : List (List UInt8)) : -1 ≤ idxOf p l := by
  induction l with
  | nil => simp [idxOf]
  | cons x r ih => unfold idxOf; (split; omega); split <;> omega
theorem idxOf_none {p : List UInt8 → Bool} {l : List (List UInt8)} (h : ∀ (j : Nat) (x : List UInt8), l[j]? = some x → p x = false) : idxOf p l = -1 := by
  induction l with
  | nil => rfl
  | cons x r ih =>
    have h0 := h 0 x rfl
    have hr := ih (fun j y hy => h (j + 1) y hy)
    unfold idxOf; rw [h0, hr]; rfl
theorem idxOf_some {p : List UInt8 → Bool} {l : List (List UInt8)} {i : Nat} {x : List UInt8} (hx : l[i]? = some x) (hp : p x = true) (h : ∀ (j : Nat) (y : List UInt8), j < i → l[j]? = some y → p y = false) : idxOf p l = i := by
  induction l generalizing i with
  | nil => simp at hx
  | cons y r ih =>
    cases i with
    | zero => simp at hx; subst hx; unfold idxOf; rw [if_pos hp]; rfl
    | succ i =>
      have h0 := h 0 y (by omega) rfl
      have hr := ih (by simpa using hx) (fun j z hj hz => h (j + 1) z (by omega) hz)
      unfold idxOf; rw [h0, hr, if_neg (by decide), if_neg (by omega)]; omega
/-- The act, with a part read. -/
def putP (x : AV) (c : UInt8) (w : List UInt8) : Option AV :=
  if c = 107 then (if (unquoteV w).2 = true then some { x with key := (unquoteV w).1 } else none)
  else if c = 118 then (if (unquoteV w).2 = true then some { x with val := (unquoteV w).1 } else none)
  else match Lib.atoiAll w with
    | .ok v => some (if c = 97 then { x with a := v } else if c = 98 then { x with b := v } else { x with n := v })
    | _ => none
def putAll (x : AV) : List UInt8 → List (List UInt8) → Option AV
  | [], _ => some x
  | c :: r, ws => match putP x c (ws.headD []) with
    | some y => putAll y r ws.tail
    | none => none
def actF (l : List UInt8) : Option AV :=
  if idxOf (testW ((wordsOf l).headD [])) kindsT < 0 then none else
  if (wordsOf l).length = (partT.getD (idxOf (testW ((wordsOf l).headD [])) kindsT).toNat []).length + 1 then
    match putAll ⟨idxOf (testW ((wordsOf l).headD [])) kindsT, 0, 0, 0, [], []⟩ (partT.getD (idxOf (testW ((wordsOf l).headD [])) kindsT).toNat []) (wordsOf l).tail with
    | some x => if lineF x = some l then some x else none
    | none => none
  else none
set_option maxHeartbeats 2000000 in
set_option maxRecDepth 100000 in
theorem test_any {w : World} {t b n cap : Nat} {w0 : List UInt8} (hp : w.cell? ⟨t, 0, none⟩ = some (.slice (some ⟨b, 0, none⟩) n cap)) (h0 : w.cell? ⟨b, 0, none⟩ = some (strV w0)) (hn : 1 ≤ n) (hl : w0.length ≤ 4294967296) (k : List UInt8) :
    Calls Tryz.prog 23 #[strV k, .pointer (some ⟨t, 0, none⟩)] w fun e w' => e = .returned (.bool (testW w0 k)) ∧ Later w w' := by
  have hpd := later_drew_cell hp
  have h0d := later_drew_cell h0
  unfold strV at h0 h0d ⊢
  by_cases hk : k = []
  · have e : testW w0 k = false := by unfold testW; rw [decide_eq_true hk]; rfl
    rw [e]
    subst hk
    go_enter Tryz.func23, Tryz.ntmps23
    go_wp2_with fail
    go_ret
    exact ⟨rfl, Later.refl _⟩
  · have e : testW w0 k = Lib.hasPrefix k (w0 ++ [32]) := by unfold testW; rw [decide_eq_false hk]; rfl
    rw [e]
    have ek : (!k.isEmpty) = true := by cases k <;> simp_all
    have hpf := Tryz.strings_HasPrefix ⟨k.toArray⟩ ⟨(w0 ++ [32]).toArray⟩ w
    have e1 : Lib.hasPrefix (⟨k.toArray⟩ : ByteArray).data.toList (⟨(w0 ++ [32]).toArray⟩ : ByteArray).data.toList = Lib.hasPrefix k (w0 ++ [32]) := rfl
    rw [e1] at hpf
    generalize Lib.hasPrefix k (w0 ++ [32]) = bb at hpf ⊢
    have HPF := hide_ hpf
    clear hpf e1 e
    go_enter Tryz.func23, Tryz.ntmps23
    go_wp2_with fail
    refine HPF.out.mono ?_; rintro e w1 ⟨rfl, rfl⟩
    go_wp2_with fail
    go_ret
    exact ⟨rfl, Later.refl _⟩
set_option maxHeartbeats 2000000 in
set_option maxRecDepth 100000 in
theorem index_any {w : World} {bk : Nat} {xs : List (List UInt8)} {c : Array Value} {p : List UInt8 → Bool} (hrow : w.heap[bk]? = some (.cells (xs.map strV).toArray 9 (0, 0))) (hn : xs.length ≤ 4096)
    (hp : ∀ (W : World) (x : List UInt8), Later w W → Calls Tryz.prog 23 (#[strV x] ++ c) W fun e w' => e = .returned (.bool (p x)) ∧ Later W w') :
    Calls Tryz.prog 21 #[.slice (some ⟨bk, 0, none⟩) xs.length xs.length, .func (.func 23) #[] c] w fun e w' => e = .returned (.int .i64 (idxOf p xs)) ∧ Later w w' := by
  have HP := hide_ hp; have HROW := hide_ hrow
  clear hp hrow
  go_enter Tryz.func21, Tryz.ntmps21
  go_wp2_with fail
  go_loopw [8] (fun s8 wr => ∃ i : Nat, i ≤ xs.length ∧ s8 = .int .i64 i ∧ Hid (∀ (j : Nat) (x : List UInt8), j < i → xs[j]? = some x → p x = false) ∧ Hid (Later w wr)) (fun i _ => xs.length - (intOf i).toNat)
  case atStart => exact ⟨0, by omega, rfl, hide_ (fun j x hj => absurd hj (by omega)), hide_ (Later.refl _)⟩
  case round =>
    obtain ⟨i, hi, rfl, HB, HL⟩ := hrel
    by_cases hlt : i < xs.length
    · obtain ⟨x, hx⟩ : ∃ x, xs[i]? = some x := ⟨_, List.getElem?_eq_getElem hlt⟩
      have HX := hide_ hx
      have hrr := later_row HL.out HROW.out
      have hc0 : wr.cell? ⟨bk, i, none⟩ = some (strV x) := by rw [cell_of_row _ _ i _ _ _ hrr, List.getElem?_toArray, List.getElem?_map, hx]; rfl
      clear hrr hx
      cases hpx : p x with
      | true =>
        go_wp2_with fail
        refine (HP.out wr x HL.out).mono ?_; rintro e w1 ⟨rfl, hl1⟩
        rw [hpx]
        have HL1 := hide_ (HL.out.trans hl1)
        have HR := hide_ (idxOf_some HX.out hpx HB.out)
        clear hl1
        go_wp2_with fail
        go_ret
        exact ⟨by rw [HR.out]; rfl, HL1.out⟩
      | false =>
        go_wp2_with fail
        refine (HP.out wr x HL.out).mono ?_; rintro e w1 ⟨rfl, hl1⟩
        rw [hpx]
        have HL1 := hide_ (HL.out.trans hl1)
        have HB1 := hide_ (show ∀ (j : Nat) (y : List UInt8), j < i + 1 → xs[j]? = some y → p y = false from fun j y hj hy => by
          rcases Nat.lt_or_ge j i with h | h
          · exact HB.out j y h hy
          · obtain rfl : j = i := by omega
            rw [HX.out] at hy; injection hy with hy; subst hy; exact hpx)
        clear hl1
        go_wp2_with fail
        go_roundw
        case rel => exact ⟨i + 1, by omega, by go_num, HB1, HL1⟩
        case measure => simp only [intOf]; omega
    · have HR := hide_ (show idxOf p xs = -1 from idxOf_none (fun j x hj => HB.out j x (by have := (List.getElem?_eq_some_iff.1 hj).1; omega) hj))
      go_wp2_with fail
      go_ret
      exact ⟨by rw [HR.out]; rfl, HL.out⟩

end Go.Proofs.YtjkopohmcabfjaaGreatDoor
