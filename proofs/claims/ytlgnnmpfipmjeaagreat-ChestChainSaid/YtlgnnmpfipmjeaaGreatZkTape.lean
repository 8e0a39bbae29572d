/-
  tape: New; a tape that has not gone down.
-/
import Derived.Test.YtlgnnmpfipmjeaaGreatZkKWrite
import Derived.Test.YtlgnnmpfipmjeaaGreatZkSplit
namespace Go.Proofs.YtlgnnmpfipmjeaaGreat
open Go.RowKit
set_option linter.unusedVariables false
set_option linter.unusedSimpArgs false
/-- A tape at block p that has not to go down: its bytes lie in the own row v. -/
def TapeAt (w : World) (B p : Nat) (v : Value) (l : List UInt8) (sure room : Nat) : Prop :=
  B ≤ p ∧ w.heap[p]? = some (.cells #[v, .int .i64 sure, .int .i64 room, .int .i64 (-1), .bool false] 54 (0, 0)) ∧ w.ownsRow B 5 1 v l.length (bvs l)
set_option maxHeartbeats 2000000 in
set_option maxRecDepth 100000 in
theorem tnew_any {w : World} {B : Nat} (room : Nat) (hr : room ≤ 1048576) (hB : B ≤ w.heap.size) :
    Calls Tryz.prog 7 #[.int .i64 room] w fun e w' => e = .returned (.tuple #[.pointer (some ⟨w.heap.size, 0, none⟩), .int .i64 0]) ∧ TapeAt w' B w.heap.size (.slice none 0 0) [] 0 room ∧ Later w w' := by
  have q1 : (0 : Int) ≤ (room : Int) := by omega
  have q2 : (room : Int) ≤ 1048576 := by omega
  go_enter Tryz.func7, Tryz.ntmps7
  go_wp2_with fail
  go_ret2
  exact ⟨rfl, ⟨hB, heap_alloc_new w _, World.ownsRow_nil _ _ _ _⟩, later_alloc _ _⟩
theorem TapeAt.ne {w : World} {B p : Nat} {v : Value} {l : List UInt8} {sure room : Nat} (h : TapeAt w B p v l sure room) : v.ownBlock ≠ some p := by
  intro e
  obtain ⟨_, _, cs, hc⟩ := own_block h.2.2 e
  have h1 := h.2.1
  rw [hc] at h1; injection h1 with h1; injection h1 with _ h1; exact absurd h1 (by decide)
set_option maxHeartbeats 2000000 in
set_option maxRecDepth 100000 in
theorem tready_any {w : World} {B p : Nat} {v : Value} {l : List UInt8} {sure room : Nat} (h : TapeAt w B p v l sure room) :
    Calls Tryz.prog 68 #[.pointer (some ⟨p, 0, none⟩)] w fun e w' => e = .returned (.int .i64 0) ∧ w' = w := by
  have d4 := cell_of_row _ _ 4 _ _ (0, 0) h.2.1
  clear h
  go_enter Tryz.func68, Tryz.ntmps68
  go_wp2_with fail
  go_ret
  exact ⟨rfl, rfl⟩
set_option maxHeartbeats 2000000 in
set_option maxRecDepth 100000 in
theorem twrite_any {w : World} {B p : Nat} {v : Value} {l : List UInt8} {sure room : Nat} (h : TapeAt w B p v l sure room) (size : Nat) (hs : size ≤ room) (hr : room ≤ 1048576) :
    Calls Tryz.prog 72 #[.pointer (some ⟨p, 0, none⟩), .int .i64 size] w fun e w' => e = .returned (.int .i64 0) ∧ w' = w := by
  have HR := hide_ (tready_any h)
  have d2 := cell_of_row _ _ 2 _ _ (0, 0) h.2.1
  have d3 := cell_of_row _ _ 3 _ _ (0, 0) h.2.1
  have q1 : ¬ (room : Int) < (size : Int) := by omega
  clear h
  go_enter Tryz.func72, Tryz.ntmps72
  go_wp2_with fail
  refine HR.out.mono ?_; rintro e w1 ⟨rfl, rfl⟩
  go_wp2_with fail
  go_ret
  exact ⟨rfl, rfl⟩

end Go.Proofs.YtlgnnmpfipmjeaaGreat
