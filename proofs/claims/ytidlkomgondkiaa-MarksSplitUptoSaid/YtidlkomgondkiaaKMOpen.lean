/-
  How transactions come in as arguments.
-/
import Derived.Test.YtidlkomgondkiaaKMTwo
import Derived.Test.YtidlkomgondkiaaKSpanOpen
import Derived.Test.YtidlkomgondkiaaKFrame
import Derived.Test.YtidlkomgondkiaaG6
import Derived.Lib.SmallJoins
namespace Go.Proofs.Ytidlkomgondkiaa
open Go.ChangeShapes Go.WideShapes Go.ChangeAt Go.RowKit
set_option linter.unusedVariables false
set_option linter.unusedSimpArgs false
set_option maxRecDepth 20000
section
variable {H : Type} {enc : TypeId × Value → H} {W : World} {b base : Nat} {held : Bool} {r : Reach}
theorem mopens_spans : Opens enc Try.prog 29 (SliceSh 2 (fun w cs (a : ByteArray × ByteArray) => ∃ u0 u1, cs = [u0, u1] ∧ StringSh w [u0] a.1 ∧ StringSh w [u1] a.2)) (sumM fun a => a.1.size + a.2.size + 2) :=
  opens_slice (size := 2) Try.underlying29 (by kernel_rfl) (by omega) (opens_struct2 Try.underlying24 (by kernel_rfl) ⟨rfl, rfl⟩ ⟨by kernel_rfl, by kernel_rfl⟩ (opens_string Try.underlying9) (opens_string Try.underlying9))
theorem mopens_changes : Opens enc Try.prog 30 (SliceSh 3 (fun w cs (a : Int × ByteArray × ByteArray) => ∃ u0 u1 u2, cs = [u0, u1, u2] ∧ IntSh .i64 w [u0] a.1 ∧ StringSh w [u1] a.2.1 ∧ StringSh w [u2] a.2.2)) (sumM fun a => 0 + a.2.1.size + a.2.2.size + 3) :=
  opens_slice (size := 3) Try.underlying30 (by kernel_rfl) (by omega) (opens_struct3 Try.underlying26 (by kernel_rfl) ⟨rfl, rfl, rfl⟩ ⟨by kernel_rfl, by kernel_rfl, by kernel_rfl⟩ (opens_int Try.underlying3) (opens_string Try.underlying9) (opens_string Try.underlying9))
/-- How a transaction reads. -/
def TxnSh : Sh Tx := fun w cs a => ∃ u0 u1 u2, cs = [u0, u1, u2] ∧ IntSh .i64 w [u0] a.1 ∧ SliceSh 2 (fun w cs (a : ByteArray × ByteArray) => ∃ u0 u1, cs = [u0, u1] ∧ StringSh w [u0] a.1 ∧ StringSh w [u1] a.2) w [u1] a.2.1 ∧
  SliceSh 3 (fun w cs (a : Int × ByteArray × ByteArray) => ∃ u0 u1 u2, cs = [u0, u1, u2] ∧ IntSh .i64 w [u0] a.1 ∧ StringSh w [u1] a.2.1 ∧ StringSh w [u2] a.2.2) w [u2] a.2.2
def bulkT (a : Tx) : Nat := 0 + sumM (fun a : ByteArray × ByteArray => a.1.size + a.2.size + 2) a.2.1 + sumM (fun a : Int × ByteArray × ByteArray => 0 + a.2.1.size + a.2.2.size + 3) a.2.2 + 3
theorem mopens_txn : Opens enc Try.prog 32 TxnSh bulkT :=
  opens_struct3 Try.underlying32 (by kernel_rfl) ⟨rfl, rfl, rfl⟩ ⟨by kernel_rfl, by kernel_rfl, by kernel_rfl⟩ (opens_int Try.underlying3) mopens_spans mopens_changes
theorem mopens_txns : Opens enc Try.prog 40 (SliceSh 3 TxnSh) (sumM bulkT) :=
  opens_slice (size := 3) Try.underlying40 (by kernel_rfl) (by omega) mopens_txn
theorem txnSh_reads {w : World} {cs : List Value} {t : Tx} (h : TxnSh w cs t) : ∃ (A1 A2 : Option Addr) (c1 c2 : Nat), cs = [.int .i64 t.1, .slice A1 t.2.1.length c1, .slice A2 t.2.2.length c2] ∧ Rd w 2 A1 t.2.1.length (srow t.2.1) ∧ Rd w 3 A2 t.2.2.length (crow t.2.2) := by
  obtain ⟨u0, u1, u2, rfl, ⟨e0, _⟩, h1, h2⟩ := h
  injection e0 with e0
  subst e0
  obtain ⟨A1, c1, rfl, _, _, _, r1⟩ := rd_of_sh (enc := encS) (fun _ => rfl) (by omega) (fun cs x hx => by
    obtain ⟨u0, u1, rfl, ⟨e0, _⟩, ⟨e1, _⟩⟩ := hx
    injection e0 with e0; injection e1 with e1
    subst e0 e1; rfl) h1
  obtain ⟨A2, c2, rfl, _, _, _, r2⟩ := rd_of_sh (enc := encC) encC_len (by omega) (fun cs x hx => by
    obtain ⟨u0, u1, u2, rfl, ⟨e0, _⟩, ⟨e1, _⟩, ⟨e2, _⟩⟩ := hx
    injection e0 with e0; injection e1 with e1; injection e2 with e2
    subst e0 e1 e2; rfl) h2
  exact ⟨A1, A2, c1, c2, rfl, r1, r2⟩
theorem bulkT_le (t : Tx) : t.2.1.length + t.2.2.length ≤ bulkT t := by
  have h1 := sumM_length (fun a : ByteArray × ByteArray => a.1.size + a.2.size + 2) t.2.1
  have h2 := sumM_length (fun a : Int × ByteArray × ByteArray => 0 + a.2.1.size + a.2.2.size + 3) t.2.2
  unfold bulkT; omega
theorem mopen_txns {v : Value} {d : DataW H} {p : List MemPlace} (hv : Value.okWide Try.prog W r base 40 v) (h : DataW.Trod enc Try.prog W b (fun _ => true) held 40 v d p) (hb : Rows.uptoBulk d ≤ 1048576) :
    ∃ (A : Option Addr) (c : Nat) (T : List Tx), v = .slice A T.length c ∧ T.length ≤ c ∧ T.length ≤ 1048576 ∧ (A = none → T.length = 0) ∧ TxRow W A T.length T := by
  obtain ⟨T, hL, hbl⟩ := open_sh mopens_txns Try.underlying40 hv h
  have hlen := sumM_length bulkT T
  obtain ⟨A, c, hv', hlc, hcm, hA, hx⟩ := hL
  injection hv' with hv'
  subst hv'
  refine ⟨A, c, T, rfl, hlc, by omega, hA, rfl, fun i t hi => ?_⟩
  have hi2 := (List.getElem?_eq_some_iff.1 hi).1
  obtain ⟨b, o, rfl, he⟩ := hx (by omega)
  obtain ⟨us, hul, huc, hr⟩ := he i t hi
  obtain ⟨A1, A2, c1, c2, rfl, r1, r2⟩ := txnSh_reads hr
  have hm := sumM_mem (m := bulkT) (List.mem_of_getElem? hi)
  have hbt := bulkT_le t
  exact ⟨b, o, A1, A2, _, c1, _, c2, rfl, huc 0 _ rfl, huc 1 _ rfl, huc 2 _ rfl, rfl, rfl, by omega, by omega, r1, r2⟩
theorem mopen_txn {v : Value} {d : DataW H} {p : List MemPlace} (hv : Value.okWide Try.prog W r base 32 v) (h : DataW.Trod enc Try.prog W b (fun _ => true) held 32 v d p) (hb : Rows.uptoBulk d ≤ 1048576) :
    ∃ (t : Tx) (A1 A2 : Option Addr) (c1 c2 : Nat), v = .agg #[.int .i64 t.1, .slice A1 t.2.1.length c1, .slice A2 t.2.2.length c2] ∧ t.2.1.length ≤ 1048576 ∧ t.2.2.length ≤ 1048576 ∧ Rd W 2 A1 t.2.1.length (srow t.2.1) ∧ Rd W 3 A2 t.2.2.length (crow t.2.2) := by
  obtain ⟨c0, c1, c2, y0, y1, y2, m, rfl, rfl, rfl, hy0, hy1, hy2⟩ := Joins.open_agg3 Try.underlying32 (by kernel_rfl) (by kernel_rfl) hv h
  obtain ⟨k, e0, rfl, _⟩ := DataW.trod_int Try.underlying3 hy0
  obtain ⟨R, hR, b1⟩ := mopens_spans _ _ _ _ _ _ hy1
  obtain ⟨C, hC, b2⟩ := mopens_changes _ _ _ _ _ _ hy2
  simp at e0
  subst e0
  obtain ⟨A1, c1, rfl, _, _, _, r1⟩ := rd_of_sh (enc := encS) (fun _ => rfl) (by omega) (fun cs x hx => by
    obtain ⟨u0, u1, rfl, ⟨e0, _⟩, ⟨e1, _⟩⟩ := hx
    injection e0 with e0; injection e1 with e1
    subst e0 e1; rfl) hR
  obtain ⟨A2, c2, rfl, _, _, _, r2⟩ := rd_of_sh (enc := encC) encC_len (by omega) (fun cs x hx => by
    obtain ⟨u0, u1, u2, rfl, ⟨e0, _⟩, ⟨e1, _⟩, ⟨e2, _⟩⟩ := hx
    injection e0 with e0; injection e1 with e1; injection e2 with e2
    subst e0 e1 e2; rfl) hC
  have h1 := sumM_length (fun a : ByteArray × ByteArray => a.1.size + a.2.size + 2) R
  have h2 := sumM_length (fun a : Int × ByteArray × ByteArray => 0 + a.2.1.size + a.2.2.size + 3) C
  simp only [Rows.uptoBulk, Rows.uptoBulkAll] at hb
  exact ⟨(k, R, C), A1, A2, c1, c2, rfl, by show R.length ≤ _; omega, by show C.length ≤ _; omega, r1, r2⟩
theorem mopen_change {v : Value} {d : DataW H} {p : List MemPlace} (hv : Value.okWide Try.prog W r base 26 v) (h : DataW.Trod enc Try.prog W b (fun _ => true) held 26 v d p) :
    ∃ s : Chg, v = .agg #[.int .i64 s.1, .string s.2.1, .string s.2.2] ∧ s.2.1.size ≤ maxLen ∧ s.2.2.size ≤ maxLen := by
  obtain ⟨c0, c1, c2, y0, y1, y2, m, rfl, rfl, rfl, hy0, hy1, hy2⟩ := Joins.open_agg3 Try.underlying26 (by kernel_rfl) (by kernel_rfl) hv h
  obtain ⟨k, e0, rfl, _⟩ := DataW.trod_int Try.underlying3 hy0
  obtain ⟨s1, e1, rfl, w1⟩ := DataW.trod_string Try.underlying9 hy1
  obtain ⟨s2, e2, rfl, w2⟩ := DataW.trod_string Try.underlying9 hy2
  simp at e0 e1 e2
  subst e0 e1 e2
  exact ⟨(k, s1, s2), rfl, w1, w2⟩
end
end Go.Proofs.Ytidlkomgondkiaa
