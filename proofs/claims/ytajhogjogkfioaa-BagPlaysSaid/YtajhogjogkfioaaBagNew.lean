/-
  The walk of bag.New.
-/
import Derived.Test.YtajhogjogkfioaaRows
import Derived.Test.YtajhogjogkfioaaBytes
import Derived.Test.YtajhogjogkfioaaComm
import Derived.Deep.DeepCutAuto
namespace Go.Proofs.Ytajhogjogkfioaa
open Go.RowKit Go.Conc
set_option linter.unusedVariables false
/-- A letter in the bag: to whom, the slice value of its text, the text, whether it is spoilt. -/
structure Ltr where
  dest : Int
  v : Value
  text : List UInt8
  spoilt : Bool
def Ltr.cells (x : Ltr) : List Value := [.int .i64 x.dest, x.v, .bool x.spoilt]
def rowOf (L : List Ltr) : List Value := L.flatMap Ltr.cells
/-- Two letters' texts lie apart. -/
def Ltr.apart (x y : Ltr) : Prop := ∀ g, x.v.ownBlock = some g → y.v.ownBlock ≠ some g
/-- The bag at block p, its channel at c, its list sv; what it holds; all of it in blocks from B on. -/
def BagAt (w : World) (B p c : Nat) (sv : Value) (room : Nat) (L : List Ltr) : Prop :=
  w.heap[p]? = some (.cells #[sv, .chan (some c)] 49 (0, 0)) ∧ B ≤ p ∧ B ≤ c ∧
  (∃ buf s r, w.heap[c]? = some (.chan room buf false s r false) ∧ buf.size + L.length = room) ∧
  w.ownsRow B 54 3 sv L.length (rowOf L) ∧ (∀ x ∈ L, w.ownsRow B 5 1 x.v x.text.length (bvs x.text)) ∧ L.Pairwise Ltr.apart
/-- The blocks that a bag's calls may turn, its texts aside. -/
def isBag : Obj → Prop
  | .chan .. => True
  | .cells _ t _ => t = 49 ∨ t = 54
  | _ => False
/-- What is not of this sort stands as it was. -/
def Kept (S : Obj → Prop) (w w' : World) : Prop := ∀ (k : Nat) (o : Obj), w.heap[k]? = some o → ¬ S o → w'.heap[k]? = some o
theorem Kept.refl (S : Obj → Prop) (w : World) : Kept S w w := fun _ _ h _ => h
theorem Kept.trans {S : Obj → Prop} {a b c : World} (h : Kept S a b) (k : Kept S b c) : Kept S a c := fun i o hi hn => k i o (h i o hi hn) hn
theorem heap_lt {w : World} {k : Nat} {o : Obj} (h : w.heap[k]? = some o) : k < w.heap.size := by
  rcases Nat.lt_or_ge k w.heap.size with hlt | hge
  · exact hlt
  · rw [Array.getElem?_eq_none hge] at h; cases h
theorem Kept.of_later {S : Obj → Prop} {w w' : World} (h : Below w.heap.size w w') : Kept S w w' := fun k o hk _ => (h.block k (heap_lt hk)).trans hk
theorem own_of_kept {S : Obj → Prop} {w w' : World} {base : Nat} {e : TypeId} {size n : Nat} {v : Value} {xs : List Value} (h : w.ownsRow base e size v n xs) (hk : Kept S w w') (hS : ∀ cs, ¬ S (.cells cs e (0, 0))) : w'.ownsRow base e size v n xs := by
  refine ⟨h.1, ?_⟩
  rcases h.2 with h0 | ⟨g, cap, cur, hv, hb, hh, hr⟩
  · exact .inl h0
  · exact .inr ⟨g, cap, cur, hv, hb, hk g _ hh (hS _), hr⟩
theorem Kept.setChan {S : Obj → Prop} (w : World) (c cap : Nat) (b : Array Value) (cl : Bool) (s r : Nat) (tm : Bool) (hc : ∀ o, w.heap[c]? = some o → S o) : Kept S w (w.setChan c cap b cl s r tm) := fun k o hk hn => by
  have hne : c ≠ k := by rintro rfl; exact hn (hc o hk)
  simp only [World.setChan]; rw [Array.getElem?_setIfInBounds_ne hne]; exact hk
theorem Kept.grown {S : Obj → Prop} {w w' : World} {base : Nat} {e : TypeId} {size n : Nat} {v : Value} {xs : List Value} (ho : w.ownsRow base e size v n xs) (hg : w.grownBy w' v.ownBlock) (hS : ∀ cs, S (.cells cs e (0, 0))) : Kept S w w' := fun k o hk hn => by
  refine (hg.block k (heap_lt hk) ?_).trans hk
  intro h
  rcases ho.2 with ⟨rfl, _⟩ | ⟨g, cap, cur, rfl, _, hh, _⟩
  · cases h
  · have : k = g := by simpa [Value.ownBlock] using h
    subst this
    rw [hh] at hk
    injection hk with hk
    exact hn (hk ▸ hS _)
theorem Kept.setCell {S : Obj → Prop} (w : World) (a : Addr) (u : Value) (ha : ∀ o, w.heap[a.block]? = some o → S o) : Kept S w (w.setCell a u) := fun k o hk hn => by
  have hne : k ≠ a.block := by rintro rfl; exact hn (ha o hk)
  exact (Below.heap_setCell w a u k hne).trans hk
/-- The unit that a channel of nothing holds. -/
def unit0 : Value := .agg #[]
set_option maxHeartbeats 400000 in
theorem new_bad (room : Int) (w : World) (h : room < 0 ∨ (0 ≤ room ∧ 4096 < room)) :
    Calls Try.prog 4 #[.int .i64 room] w fun e w' => e = .returned (.tuple #[.pointer none, .int .i64 1]) ∧ w = w' := by
  rcases h with h | ⟨h, h2⟩
  · go_enter Try.func4, Try.ntmps4
    go_wp2
    go_ret2
    exact ⟨rfl, rfl⟩
  · go_enter Try.func4, Try.ntmps4
    go_wp2
    go_ret2
    exact ⟨rfl, rfl⟩
theorem mkchan (w : World) (n : Nat) (hn : n ≤ 4096) : (Instr.makeChan 46 (.int .i64 (n : Int))).run Try.prog w = .ok (.chan (some w.heap.size)) (w.alloc (.chan n #[] false 0 0 false)) := by
  have h : (Try.prog.info? 50).map (·.bytes) = some 0 := by kernel_rfl
  obtain ⟨i, hi, hb⟩ := Option.map_eq_some_iff.1 h
  simpa using run_makeChan (P := Try.prog) (w := w) Try.underlying46 hi .i64 n (by omega) (by rw [hb]; omega)
set_option maxHeartbeats 400000 in
theorem new_any (n : Nat) (hn : n ≤ 4096) (w : World) :
    Calls Try.prog 4 #[.int .i64 (n : Int)] w fun e w' => ∃ p c, e = .returned (.tuple #[.pointer (some ⟨p, 0, none⟩), .int .i64 0]) ∧ BagAt w' w.heap.size p c (.slice none 0 0) n [] ∧ Below w.heap.size w w' := by
  have hmk := fun W => mkchan W n hn
  go_enter Try.func4, Try.ntmps4
  go_wp2
  clear hmk
  go_loopw [16] (fun i wr => ∃ k : Nat, k ≤ n ∧ i = .int .i64 k ∧ wr.heap.size = w.heap.size + 2 ∧ wr.heap[w.heap.size]? = some (.chan n (Array.replicate k unit0) false k 0 false) ∧
    wr.heap[w.heap.size + 1]? = some (.cells #[.slice none 0 0, .chan (some w.heap.size)] 49 (0, 0)) ∧ Below w.heap.size w wr) (fun i _ => n - (intOf i).toNat)
  case atStart =>
    refine ⟨0, Nat.zero_le _, rfl, by simp, ?_, ?_, ((Below.refl _ _).alloc (Nat.le_refl _) _).alloc (by simp) _⟩
    · rw [Below.heap_alloc _ _ _ (by simp)]; exact heap_alloc_new w _
    · have := heap_alloc_new (w.alloc (.chan n #[] false 0 0 false)) (.cells #[.slice none 0 0, .chan (some w.heap.size)] 49)
      simpa using this
  case round =>
    obtain ⟨k, hk, rfl, hsz, hch, hp, hb⟩ := hrel
    by_cases hlt : k < n
    · have hcell : wr.cell? ⟨w.heap.size + 1, 1, none⟩ = some (.chan (some w.heap.size)) := cell_of_row _ _ 1 _ _ (0, 0) hp
      go_upto_region 6 with (fail)
      refine wp_of_inReg ?_
      simp only [List.size_toArray, List.length_cons, List.length_nil, Nat.reduceAdd, Nat.zero_add, List.range, List.range.loop]
      refine inReg_same 0 (v := ?_) rfl (by rfl) (by go_simp; with_reducible rfl) ?_
      simp only [Act.put, List.setIfInBounds_toArray, List.set_cons_zero, List.set_cons_succ]
      refine inReg_same 1 (v := ?_) rfl (by rfl) (by go_simp; with_reducible rfl) ?_
      simp only [Act.put, List.setIfInBounds_toArray, List.set_cons_zero, List.set_cons_succ]
      refine inReg_same 2 (v := ?_) rfl (by rfl) (by go_simp; with_reducible rfl) ?_
      simp only [Act.put, List.setIfInBounds_toArray, List.set_cons_zero, List.set_cons_succ]
      refine inReg_same 3 (v := ?_) rfl (by rfl) (by go_simp; with_reducible rfl) ?_
      simp only [Act.put, List.setIfInBounds_toArray, List.set_cons_zero, List.set_cons_succ]
      refine inReg_same 4 (v := ?_) rfl (by rfl) (by go_simp; with_reducible rfl) ?_
      simp only [Act.put, List.setIfInBounds_toArray, List.set_cons_zero, List.set_cons_succ]
      refine inReg_send 5 (c := w.heap.size) (v := unit0) (z := .tuple #[]) rfl (by rfl) (by go_simp; rfl) hch (by simp; omega) ?_
      refine inReg_nil ?_
      simp only [Act.put]
      go_wp2_with fail
      go_roundw
      case rel =>
        have hne : w.heap.size + 1 ≠ w.heap.size := by omega
        refine ⟨k + 1, by omega, by go_num, by rw [size_setChan]; exact hsz, ?_, ?_, below_setChan hb (Nat.le_refl _) _ _ _ _ _ _⟩
        · rw [heap_setChan _ _ _ _ _ _ _ _ (by omega), Array.replicate_succ]
        · simp only [World.setChan]; rw [Array.getElem?_setIfInBounds_ne (by omega)]; exact hp
      case measure => simp [intOf]; omega
    · have hk4 : k = n := by omega
      have HK := Lib.hid hk4; clear hk4
      go_wp2_with fail
      go_ret2
      refine ⟨w.heap.size + 1, w.heap.size, rfl, ⟨hp, by omega, Nat.le_refl _, ⟨_, _, _, hch, by simp [HK.out]⟩, World.ownsRow_nil _ _ _ _, by simp, List.Pairwise.nil⟩, hb⟩
end Go.Proofs.Ytajhogjogkfioaa
