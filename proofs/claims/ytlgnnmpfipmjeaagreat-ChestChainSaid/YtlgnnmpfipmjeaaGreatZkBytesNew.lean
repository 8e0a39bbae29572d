/-
  a string as new bytes.
-/
import Derived.Test.YtlgnnmpfipmjeaaGreatProg
import Derived.Test.YtlgnnmpfipmjeaaGreatZkBytes
import Derived.Test.YtlgnnmpfipmjeaaGreatZkRegion
import Derived.Laws.IdiomStrings
namespace Go.Proofs.YtlgnnmpfipmjeaaGreat
open Go.RowKit
set_option linter.unusedVariables false
set_option linter.unusedSimpArgs false
/-- '[]byte(s)': a new row of its bytes. -/
theorem bytes_new (W : World) (s : ByteArray) : ∃ (c : Nat) (cs : Array Value) (W2 : World), (convert 9 43 (.string s)).run Tryz.prog W = .ok (.slice (some ⟨W.heap.size, 0, none⟩) s.size c) W2 ∧ Later W W2 ∧ W2.heap.size = W.heap.size + 1 ∧
    W2.heap[W.heap.size]? = some (.cells cs 5 (cs.size, cs.size + 1)) ∧ s.size ≤ cs.size ∧ s.size ≤ c ∧ (s.size ≤ maxLen → c ≤ maxLen) ∧ ∀ (j : Nat) (u : UInt8), s.data.toList[j]? = some u → cs[j]? = some (bv u) := by
  have hcv := run_bytes_of_string (P := Tryz.prog) W 9 43 5 s Tryz.underlying9 Tryz.underlying43 Tryz.underlying5
  have hsz : s.data.size = s.size := rfl
  refine ⟨_, bytesRow s _, _, hcv, (Below.refl W.heap.size W).drew.alloc (Nat.le_refl _) _, by simp, heap_alloc_new W.drew _, ?_, grownCap_ge W _ _ _, fun h => grownCap_le_maxLen W _ _ _ h, fun j u hu => ?_⟩
  · simp [bytesRow]
  · have hj := (List.getElem?_eq_some_iff.1 hu)
    have h1 : j < s.data.size := by simpa using hj.1
    have h2 : s.data[j] = u := by simpa using hj.2
    unfold bytesRow
    rw [Array.getElem?_append_left (by simpa using h1)]
    have e : s.data[j]? = some u := by rw [Array.getElem?_eq_getElem h1, h2]
    simp [e, bv]
end Go.Proofs.YtlgnnmpfipmjeaaGreat
