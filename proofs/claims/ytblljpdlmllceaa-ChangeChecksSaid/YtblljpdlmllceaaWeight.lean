/-
  Weight.
-/
import Derived.Test.YtblljpdlmllceaaChOpen
import Derived.Test.YtblljpdlmllceaaShapeQ
import Derived.IntWalk
namespace Go.Proofs.Ytblljpdlmllceaa
open Go.RowKit
set_option linter.unusedVariables false
set_option linter.unusedSimpArgs false
/-- How many bytes changes have. -/
def wsum : List Chg → Nat
  | [] => 0
  | c :: C => c.2.1.size + c.2.2.size + 8 + wsum C
theorem wsum_append (A B : List Chg) : wsum (A ++ B) = wsum A + wsum B := by
  induction A with
  | nil => simp [wsum]
  | cons c A ih => simp only [List.cons_append, wsum, ih]; omega
theorem wsum_take_le (C : List Chg) (k : Nat) : wsum (C.take k) ≤ wsum C := by
  have h := wsum_append (C.take k) (C.drop k)
  rw [List.take_append_drop] at h
  omega
theorem wsum_small {C : List Chg} {b : Nat} (h : ∀ x, x ∈ C → x.2.1.size ≤ b ∧ x.2.2.size ≤ b) : wsum C ≤ C.length * (b + b + 8) := by
  induction C with
  | nil => simp [wsum]
  | cons c C ih =>
    have h1 := h c (List.mem_cons_self ..)
    have h2 := ih fun x hx => h x (List.mem_cons_of_mem _ hx)
    simp only [wsum, List.length_cons, Nat.succ_mul]
    omega
theorem w_rest (m T : Int) (h0 : 0 ≤ m) (h1 : 0 ≤ T) (h2 : T + m ≤ 4611686018427387904) : IntKind.i64.wrap (9223372036854775807 - m) = 9223372036854775807 - m := IntWalk.i64_in _ (by omega)
theorem w_sum (m T : Int) (h0 : 0 ≤ m) (h1 : 0 ≤ T) (h2 : T + m ≤ 4611686018427387904) : IntKind.i64.wrap (T + m) = T + m := IntWalk.i64_in _ (by omega)
theorem w_room (m T : Int) (h0 : 0 ≤ m) (h1 : 0 ≤ T) (h2 : T + m ≤ 4611686018427387904) : ¬ 9223372036854775807 - m < T := by omega
set_option maxHeartbeats 1000000 in
theorem weight_any {w : World} {A : Option Addr} {n c : Nat} {C : List Chg} (hr : Rd w 3 A n (crow C)) (hl : C.length = n) (hn : n ≤ 4398046511104) (hs : wsum C ≤ 4611686018427387904) :
    Calls Try.prog 20 #[.slice A n c] w fun e w' => e = .returned (.int .i64 (wsum C : Nat)) ∧ Later w w' := by
  have HR := hide_ hr; have HL := hide_ hl; have HS := hide_ hs
  have hn2 : (n : Int) ≤ 4398046511104 := by omega
  clear hr hl hs
  go_enter Try.func20, Try.ntmps20
  go_wp2_with fail
  go_loopw [3, 5, 6, 9] (fun s3 _ _ s9 wr => ∃ (k : Nat), k ≤ n ∧ s3 = .int .i64 (wsum (C.take k) : Nat) ∧ s9 = .int .i64 k ∧ Hid (Later w wr)) (fun _ _ _ i _ => n - (intOf i).toNat)
  case atStart => exact ⟨0, Nat.zero_le _, rfl, rfl, hide_ (Below.refl _ _)⟩
  case round =>
    obtain ⟨k, hkp, rfl, rfl, HB⟩ := hrel
    by_cases hlt : k < n
    · obtain ⟨s, hs⟩ : ∃ s, C[k]? = some s := ⟨_, List.getElem?_eq_getElem (by rw [HL.out]; exact hlt)⟩
      obtain ⟨b, o, rfl, l0, l1, l2⟩ := (HR.out.below HB.out).chg hs
      have q1 : (k : Int) < (n : Int) := by omega
      have q2 : (0 : Int) ≤ (k : Int) := by omega
      have q3 : (k : Int) ≤ 4398046511104 := by omega
      have HT := hide_ (show wsum (C.take (k + 1)) = wsum (C.take k) + (s.2.1.size + s.2.2.size + 8) by rw [take_snoc hs, wsum_append]; simp [wsum])
      have hle := wsum_take_le C (k + 1)
      have hS := HS.out
      rw [HT.out] at hle
      obtain ⟨T, hT⟩ : ∃ T, wsum (C.take k) = T := ⟨_, rfl⟩
      obtain ⟨nk, hnk⟩ : ∃ nk, s.2.1.size = nk := ⟨_, rfl⟩
      obtain ⟨nv, hnv⟩ : ∃ nv, s.2.2.size = nv := ⟨_, rfl⟩
      rw [hT] at HT hle ⊢
      rw [hnk, hnv] at HT hle
      have e1 := hide_ (show IntKind.i64.wrap ((nk : Int) + (nv : Int)) = (nk : Int) + (nv : Int) from IntWalk.i64_in _ (by omega))
      have e2 := hide_ (show IntKind.i64.wrap ((nk : Int) + (nv : Int) + 8) = (nk : Int) + (nv : Int) + 8 from IntWalk.i64_in _ (by omega))
      have hI : (T : Int) + ((nk : Int) + (nv : Int) + 8) ≤ 4611686018427387904 := by omega
      have e3 := hide_ (w_rest ((nk : Int) + (nv : Int) + 8) T (by omega) (by omega) hI)
      have e4 := hide_ (w_sum ((nk : Int) + (nv : Int) + 8) T (by omega) (by omega) hI)
      have e5 := w_room ((nk : Int) + (nv : Int) + 8) T (by omega) (by omega) hI
      clear hs hT
      go_wp2_with (simp only [hnk, hnv, e1.out, e2.out, e3.out, e4.out])
      go_roundw
      case rel => exact ⟨k + 1, by omega, by rw [HT.out]; go_num, by go_num, hide_ (HB.out.alloc HB.out.size _)⟩
      case measure => simp [intOf]; omega
    · have q1 : ¬ (k : Int) < (n : Int) := by omega
      obtain rfl : k = n := by omega
      rw [show C.take k = C by rw [← HL.out, List.take_length]]
      go_wp2_with fail
      go_ret
      exact ⟨rfl, HB.out⟩
end Go.Proofs.Ytblljpdlmllceaa
