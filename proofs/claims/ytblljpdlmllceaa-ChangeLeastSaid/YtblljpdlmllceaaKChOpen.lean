/-
  How pairs and changes come in as arguments.
-/
import Derived.Test.YtblljpdlmllceaaKRefApply
import Derived.Test.YtblljpdlmllceaaKCAwake
import Derived.Test.YtblljpdlmllceaaKFrame
import Derived.Test.YtblljpdlmllceaaG6
import Derived.Lib.SmallJoins
namespace Go.Proofs.Ytblljpdlmllceaa
open Go.ChangeShapes Go.WideShapes Go.ChangeAt Go.RowKit
set_option linter.unusedVariables false
set_option linter.unusedSimpArgs false
set_option maxRecDepth 20000
section
variable {H : Type} {enc : TypeId × Value → H} {W : World} {b base : Nat} {held : Bool} {r : Reach}
theorem opens_pairs : Opens enc Try.prog 22 (SliceSh 2 (fun w cs (a : ByteArray × ByteArray) => ∃ u0 u1, cs = [u0, u1] ∧ StringSh w [u0] a.1 ∧ StringSh w [u1] a.2)) (sumM fun a => a.1.size + a.2.size + 2) :=
  opens_slice (size := 2) Try.underlying22 (by kernel_rfl) (by omega) (opens_struct2 Try.underlying55 (by kernel_rfl) ⟨rfl, rfl⟩ ⟨by kernel_rfl, by kernel_rfl⟩ (opens_string Try.underlying9) (opens_string Try.underlying9))
theorem opens_changes : Opens enc Try.prog 23 (SliceSh 3 (fun w cs (a : Int × ByteArray × ByteArray) => ∃ u0 u1 u2, cs = [u0, u1, u2] ∧ IntSh .i64 w [u0] a.1 ∧ StringSh w [u1] a.2.1 ∧ StringSh w [u2] a.2.2)) (sumM fun a => 0 + a.2.1.size + a.2.2.size + 3) :=
  opens_slice (size := 3) Try.underlying23 (by kernel_rfl) (by omega) (opens_struct3 Try.underlying32 (by kernel_rfl) ⟨rfl, rfl, rfl⟩ ⟨by kernel_rfl, by kernel_rfl, by kernel_rfl⟩ (opens_int Try.underlying3) (opens_string Try.underlying9) (opens_string Try.underlying9))
theorem open_pairs {v : Value} {d : DataW H} {p : List MemPlace} (hv : Value.okWide Try.prog W r base 22 v) (h : DataW.Trod enc Try.prog W b (fun _ => true) held 22 v d p) :
    ∃ (A : Option Addr) (c : Nat) (L : List Pr), v = .slice A L.length c ∧ L.length ≤ c ∧ c ≤ maxLen ∧ (A = none → L.length = 0) ∧ Rd W 2 A L.length (prow L) ∧ L.length + 1 ≤ Rows.uptoBulk d := by
  obtain ⟨L, hL, hb⟩ := open_sh opens_pairs Try.underlying22 hv h
  obtain ⟨A, c, h1, h2, h3, h4, h5⟩ := rd_of_sh (enc := encP) encP_len (by omega) (fun cs x hx => by
    obtain ⟨u0, u1, rfl, ⟨e0, _⟩, ⟨e1, _⟩⟩ := hx
    injection e0 with e0; injection e1 with e1
    subst e0 e1; rfl) hL
  have := sumM_length (fun a : ByteArray × ByteArray => a.1.size + a.2.size + 2) L
  exact ⟨A, c, L, h1, h2, h3, h4, h5, by omega⟩
theorem open_changes {v : Value} {d : DataW H} {p : List MemPlace} (hv : Value.okWide Try.prog W r base 23 v) (h : DataW.Trod enc Try.prog W b (fun _ => true) held 23 v d p) :
    ∃ (A : Option Addr) (c : Nat) (L : List Chg), v = .slice A L.length c ∧ L.length ≤ c ∧ c ≤ maxLen ∧ (A = none → L.length = 0) ∧ Rd W 3 A L.length (crow L) ∧ sumM (fun a : Int × ByteArray × ByteArray => 0 + a.2.1.size + a.2.2.size + 3) L + 1 ≤ Rows.uptoBulk d ∧ (∀ x, x ∈ L → x.2.1.size ≤ maxLen ∧ x.2.2.size ≤ maxLen) := by
  obtain ⟨L, hL, hb⟩ := open_sh opens_changes Try.underlying23 hv h
  obtain ⟨A, c, h1, h2, h3, h4, h5⟩ := rd_of_sh (enc := encC) encC_len (by omega) (fun cs x hx => by
    obtain ⟨u0, u1, u2, rfl, ⟨e0, _⟩, ⟨e1, _⟩, ⟨e2, _⟩⟩ := hx
    injection e0 with e0; injection e1 with e1; injection e2 with e2
    subst e0 e1 e2; rfl) hL
  refine ⟨A, c, L, h1, h2, h3, h4, h5, hb, fun x hx => ?_⟩
  obtain ⟨i, hi⟩ := List.mem_iff_getElem?.1 hx
  subst h1
  obtain ⟨_, _, _, _, us, _, _, u0, u1, u2, _, _, ⟨_, h6⟩, ⟨_, h7⟩⟩ := SliceSh.at_ hL hi
  exact ⟨h6, h7⟩
theorem open_change {v : Value} {d : DataW H} {p : List MemPlace} (hv : Value.okWide Try.prog W r base 32 v) (h : DataW.Trod enc Try.prog W b (fun _ => true) held 32 v d p) :
    ∃ s : Chg, v = .agg #[.int .i64 s.1, .string s.2.1, .string s.2.2] ∧ s.2.1.size ≤ maxLen ∧ s.2.2.size ≤ maxLen := by
  obtain ⟨c0, c1, c2, y0, y1, y2, m, rfl, rfl, rfl, hy0, hy1, hy2⟩ := Joins.open_agg3 Try.underlying32 (by kernel_rfl) (by kernel_rfl) hv h
  obtain ⟨k, e0, rfl, _⟩ := DataW.trod_int Try.underlying3 hy0
  obtain ⟨s1, e1, rfl, w1⟩ := DataW.trod_string Try.underlying9 hy1
  obtain ⟨s2, e2, rfl, w2⟩ := DataW.trod_string Try.underlying9 hy2
  simp at e0 e1 e2
  subst e0 e1 e2
  exact ⟨(k, s1, s2), rfl, w1, w2⟩
end
end Go.Proofs.Ytblljpdlmllceaa
