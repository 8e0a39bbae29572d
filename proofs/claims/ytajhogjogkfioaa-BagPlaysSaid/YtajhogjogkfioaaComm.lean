/-
  Channels in one goroutine, for the walk: a region in which a send finds room, or a select with a default receives, sends, or takes its default.
-/
import Derived.Test.YtajhogjogkfioaaMem
import Derived.Conc.LoneCalls
namespace Go.Proofs.Ytajhogjogkfioaa
open Go.RowKit Go.Conc
section
variable {P : Program} {ops : Array Oper} {Q : Exit → Act → World → Prop}
/-- The region's operations from here on, in this order, lead to Q. -/
def InReg (P : Program) (ops : Array Oper) (l : List Nat) (Q : Exit → Act → World → Prop) (a : Act) (w : World) : Prop :=
  ∀ (b : Frame) (k : List Item) (cs : List Frame), ∃ e a' w', Q e a' w' ∧ Arrives P (lone (b.at a (.inRegion ops l :: k)) cs w) b k cs e a' w'
theorem wp_of_inReg {id : Nat} {a : Act} {w : World} (h : InReg P ops (List.range ops.size) Q a w) : (Code.region id ops false).wp P Q a w :=
  fun b k cs => let ⟨e, a', w', q, r⟩ := h b k cs; ⟨e, a', w', q, .of_steps (.one step_region) r⟩
theorem inReg_ops {l : List Nat} {a : Act} {w : World} (h : wpOps P ops Q l a w) : InReg P ops l Q a w := wp_ops l a w h
theorem inReg_nil {a : Act} {w : World} (h : Q .normal a w) : InReg P ops [] Q a w := fun _ _ _ => ⟨.normal, a, w, h, .one step_region_end⟩
theorem inReg_step {i : Nat} {rest : List Nat} {a a' : Act} {w w' : World}
    (hs : ∀ (b : Frame) (k : List Item) (cs : List Frame), step P (lone (b.at a (.inRegion ops (i :: rest) :: k)) cs w) = .next (lone (b.at a' (.inRegion ops rest :: k)) cs w'))
    (h : InReg P ops rest Q a' w') : InReg P ops (i :: rest) Q a w :=
  fun b k cs => let ⟨e, a'', w'', q, r⟩ := h b k cs; ⟨e, a'', w'', q, .of_steps (.one (hs b k cs)) r⟩
theorem at_drop {i : Nat} {o : Oper} {rest : List Oper} (h : ops.toList.drop i = o :: rest) : ops[i]? = some o := by
  have e : (ops.toList.drop i)[0]? = some o := by rw [h]; rfl
  rw [List.getElem?_drop, Nat.add_zero] at e
  rw [← Array.getElem?_toList]; exact e
/-- An operation that yields a value. -/
theorem inReg_value (i : Nat) {o : Oper} {more : List Oper} {rest : List Nat} {a : Act} {w w' : World} {v : Value} (ho : ops.toList.drop i = o :: more) (hw : Region.wanted o (yielded ops a.tmps) = true)
    (hr : (execOp a.eval o).run P w = .ok (.value v) w') (h : InReg P ops rest Q (a.put o.dst v) w') : InReg P ops (i :: rest) Q a w := by
  have ho' : ops[i]? = some o := at_drop ho
  refine inReg_step (fun b k cs => ?_) h
  have hg := stepG_op (P := P) (b := b) (k := k) (cs := cs) (w := w) (rest := rest) ho' hw
  have hfin : (b.at a (.inRegion ops (i :: rest) :: k)).finish v = b.at (a.put o.dst v) (.inRegion ops rest :: k) := by
    rw [Frame.finish_at, ho']; rfl
  refine step_lone_go ?_
  rw [hg, ← hfin]; simp [stepG.apply, hr]
theorem inReg_same (i : Nat) {o : Oper} {more : List Oper} {rest : List Nat} {a : Act} {w : World} {v : Value} (ho : ops.toList.drop i = o :: more) (hw : Region.wanted o (yielded ops a.tmps) = true)
    (hr : (execOp a.eval o).run P w = .ok (.value v) w) (h : InReg P ops rest Q (a.put o.dst v) w) : InReg P ops (i :: rest) Q a w := inReg_value i ho hw hr h
theorem comm_of {i : Nat} {o : Oper} {rest : List Nat} {a : Act} {w w' : World} {cases : Array CommCase} {blocking : Bool} {shape : CommShape} (ho : ops[i]? = some o)
    (hw : Region.wanted o (yielded ops a.tmps) = true) (hr : (execOp a.eval o).run P w = .ok (.comm cases blocking shape) w') (b : Frame) (k : List Item) (cs : List Frame) :
    ∃ es, stepG P true (G (b.at a (.inRegion ops (i :: rest) :: k)) cs) w = .comm (G (b.at a (.inRegion ops (i :: rest) :: k)) cs) cases blocking shape w' es := by
  have hg := stepG_op (P := P) (b := b) (k := k) (cs := cs) (w := w) (rest := rest) ho hw
  have hst : stepG P true (G (b.at a (.inRegion ops (i :: rest) :: k)) cs) w = stepG.apply P true (b.at a (.inRegion ops (i :: rest) :: k)) cs none (execOp a.eval o) w := hg
  rw [hst]
  simp only [stepG.apply, Sem.runT_eq, hr, G, GStep.after]
  exact ⟨_, rfl⟩
/-- A send that finds room. -/
theorem inReg_send (i : Nat) {o : Oper} {more : List Oper} {rest : List Nat} {a : Act} {w w' : World} {c cap s r : Nat} {buf : Array Value} {v z : Value} {tm : Bool} (ho : ops.toList.drop i = o :: more)
    (hw : Region.wanted o (yielded ops a.tmps) = true) (hr : (execOp a.eval o).run P w = .ok (.comm #[scase c v z] true .send) w') (hc : w'.heap[c]? = some (.chan cap buf false s r tm)) (hroom : buf.size < cap)
    (h : InReg P ops rest Q (a.put o.dst undef) (w'.setChan c cap (buf.push v) false (s + 1) r tm)) : InReg P ops (i :: rest) Q a w := by
  have ho' : ops[i]? = some o := at_drop ho
  refine inReg_step (fun b k cs => ?_) h
  obtain ⟨es, he⟩ := comm_of (P := P) (rest := rest) ho' hw hr b k cs
  have hfin : (b.at a (.inRegion ops (i :: rest) :: k)).finish undef = b.at (a.put o.dst undef) (.inRegion ops rest :: k) := by
    rw [Frame.finish_at, ho']; rfl
  rw [lone_eq_solo, step_lone_send_room he hc hroom, hfin]; rfl
theorem solo_recv {fr : Frame} {cs : List Frame} {w w₁ : World} {es : Array Event} {c cap s r : Nat} {buf : Array Value} {z : Value} {tm closed : Bool}
    (h : stepG P true (G fr cs) w = .comm (G fr cs) #[rcase c z] false .select w₁ es) (hc : w₁.heap[c]? = some (.chan cap buf closed s r tm)) (hsome : 0 < buf.size) :
    step P (solo (G fr cs) w) = .next (solo (G (fr.finish (.tuple #[goInt 0, .bool true, buf.getD 0 undef])) cs) (w₁.setChan c cap (buf.extract 1 buf.size) closed s (r + 1) tm)) := by
  have hp := partners_alone (c := c) true
  rw [step, stepT_solo rfl]
  simp [runT, solo, G, Array.swapAt!, Array.swapAt, h, GStep.es, communicate, ways, rcase, hc, hp, hsome, choose, Sem.run, Question.forced, bind, Sem.bind, pure, Goroutine.finishComm, commResult, World.setChan] at h ⊢
theorem solo_send {fr : Frame} {cs : List Frame} {w w₁ : World} {es : Array Event} {c cap s r : Nat} {buf : Array Value} {v z : Value} {tm : Bool}
    (h : stepG P true (G fr cs) w = .comm (G fr cs) #[scase c v z] false .select w₁ es) (hc : w₁.heap[c]? = some (.chan cap buf false s r tm)) (hroom : buf.size < cap) :
    step P (solo (G fr cs) w) = .next (solo (G (fr.finish (.tuple #[goInt 0, .bool false])) cs) (w₁.setChan c cap (buf.push v) false (s + 1) r tm)) := by
  have hp := partners_alone (c := c) false
  rw [step, stepT_solo rfl]
  simp [runT, solo, G, Array.swapAt!, Array.swapAt, h, GStep.es, communicate, ways, scase, hc, hp, hroom, choose, Sem.run, Question.forced, bind, Sem.bind, pure, Goroutine.finishComm, commResult, World.setChan] at h ⊢
/-- A select of one receive with a default: something is there. -/
theorem inReg_recv (i : Nat) {o : Oper} {more : List Oper} {rest : List Nat} {a : Act} {w w' : World} {c cap s r : Nat} {buf : Array Value} {z : Value} {tm closed : Bool} (ho : ops.toList.drop i = o :: more)
    (hw : Region.wanted o (yielded ops a.tmps) = true) (hr : (execOp a.eval o).run P w = .ok (.comm #[rcase c z] false .select) w') (hc : w'.heap[c]? = some (.chan cap buf closed s r tm)) (hsome : 0 < buf.size)
    (h : InReg P ops rest Q (a.put o.dst (.tuple #[goInt 0, .bool true, buf.getD 0 undef])) (w'.setChan c cap (buf.extract 1 buf.size) closed s (r + 1) tm)) : InReg P ops (i :: rest) Q a w := by
  have ho' : ops[i]? = some o := at_drop ho
  refine inReg_step (fun b k cs => ?_) h
  obtain ⟨es, he⟩ := comm_of (P := P) (rest := rest) ho' hw hr b k cs
  have hfin : ∀ v, (b.at a (.inRegion ops (i :: rest) :: k)).finish v = b.at (a.put o.dst v) (.inRegion ops rest :: k) := fun v => by
    rw [Frame.finish_at, ho']; rfl
  rw [lone_eq_solo, solo_recv he hc hsome, hfin]; rfl
/-- A select of one receive with a default: nothing is there. -/
theorem inReg_empty (i : Nat) {o : Oper} {more : List Oper} {rest : List Nat} {a : Act} {w w' : World} {c cap s r : Nat} {z : Value} {tm : Bool} (ho : ops.toList.drop i = o :: more)
    (hw : Region.wanted o (yielded ops a.tmps) = true) (hr : (execOp a.eval o).run P w = .ok (.comm #[rcase c z] false .select) w') (hc : w'.heap[c]? = some (.chan cap #[] false s r tm))
    (h : InReg P ops rest Q (a.put o.dst (.tuple #[goInt (-1), .bool false, z])) w') : InReg P ops (i :: rest) Q a w := by
  have ho' : ops[i]? = some o := at_drop ho
  refine inReg_step (fun b k cs => ?_) h
  obtain ⟨es, he⟩ := comm_of (P := P) (rest := rest) ho' hw hr b k cs
  have hfin : ∀ v, (b.at a (.inRegion ops (i :: rest) :: k)).finish v = b.at (a.put o.dst v) (.inRegion ops rest :: k) := fun v => by
    rw [Frame.finish_at, ho']; rfl
  rw [lone_eq_solo, step_lone_select_default he hc, hfin]; rfl
/-- A select of one send with a default: there is room. -/
theorem inReg_put (i : Nat) {o : Oper} {more : List Oper} {rest : List Nat} {a : Act} {w w' : World} {c cap s r : Nat} {buf : Array Value} {v z : Value} {tm : Bool} (ho : ops.toList.drop i = o :: more)
    (hw : Region.wanted o (yielded ops a.tmps) = true) (hr : (execOp a.eval o).run P w = .ok (.comm #[scase c v z] false .select) w') (hc : w'.heap[c]? = some (.chan cap buf false s r tm)) (hroom : buf.size < cap)
    (h : InReg P ops rest Q (a.put o.dst (.tuple #[goInt 0, .bool false])) (w'.setChan c cap (buf.push v) false (s + 1) r tm)) : InReg P ops (i :: rest) Q a w := by
  have ho' : ops[i]? = some o := at_drop ho
  refine inReg_step (fun b k cs => ?_) h
  obtain ⟨es, he⟩ := comm_of (P := P) (rest := rest) ho' hw hr b k cs
  have hfin : ∀ v, (b.at a (.inRegion ops (i :: rest) :: k)).finish v = b.at (a.put o.dst v) (.inRegion ops rest :: k) := fun v => by
    rw [Frame.finish_at, ho']; rfl
  rw [lone_eq_solo, solo_send he hc hroom, hfin]; rfl
end
end Go.Proofs.Ytajhogjogkfioaa
