/-
  The walk of the bag's put: a letter, if there is a place for it.
-/
import Derived.Test.YtajhogjogkfioaaBagA
import Derived.Deep.RegionLaw
import Derived.Deep.RegionWith
namespace Go.Proofs.Ytajhogjogkfioaa
open Go.RowKit Go.Conc
set_option linter.unusedVariables false
theorem letterT : ElemT Try.prog 47 54 3 40 := elem_mk (z := .agg #[.int .i64 0, .slice none 0 0, .bool false]) Try.underlying47 (by kernel_rfl) rfl (by decide)
set_option maxHeartbeats 1000000 in
theorem put_full {w : World} {B p c room : Nat} {sv : Value} {L : List Ltr} (x : Ltr) (hB : BagAt w B p c sv room L) (hf : L.length = room) :
    Calls Try.prog 17 #[.pointer (some ⟨p, 0, none⟩), .agg #[.int .i64 x.dest, x.v, .bool x.spoilt]] w fun e w' => e = .returned (.int .i64 10) ∧ Below w.heap.size w w' := by
  obtain ⟨hp, _, _, ⟨buf, s, r, hc, hroom⟩, ho, _⟩ := hB
  have hpl := heap_lt hp
  have hcl := heap_lt hc
  have hc1 : w.cell? ⟨p, 1, none⟩ = some (.chan (some c)) := cell_of_row _ _ 1 _ _ (0, 0) hp
  have hbuf : buf = #[] := Array.eq_empty_of_size_eq_zero (by omega)
  subst hbuf
  have zv : ∀ W, (zeroValue 50).run Try.prog W = .ok (.agg #[]) W := fun W => by kernel_rfl
  go_enter Try.func17, Try.ntmps17
  go_upto_region 2 with (fail)
  have hcW : (w.alloc (.cells #[.int .i64 x.dest, x.v, .bool x.spoilt] 54)).heap[c]? = some (.chan room #[] false s r false) := (Below.heap_alloc w _ c hcl).trans hc
  refine wp_of_inReg ?_
  simp only [List.size_toArray, List.length_cons, List.length_nil, Nat.reduceAdd, Nat.zero_add, List.range, List.range.loop]
  refine inReg_empty 0 (c := c) (cap := room) (z := .agg #[]) rfl (by rfl) (by simp [execOp, rcase, zv, Act.eval]) hcW ?_
  simp only [Act.put, List.setIfInBounds_toArray, List.set_cons_zero, List.set_cons_succ]
  refine inReg_same 1 (v := ?_) rfl (by rfl) (by go_simp; with_reducible rfl) ?_
  simp only [Act.put, List.setIfInBounds_toArray, List.set_cons_zero, List.set_cons_succ]
  refine inReg_same 2 (v := ?_) rfl (by rfl) (by go_simp; with_reducible rfl) ?_
  simp only [Act.put, List.setIfInBounds_toArray, List.set_cons_zero, List.set_cons_succ]
  refine inReg_nil ?_
  go_wp2
  go_ret
  exact ⟨rfl, (Below.refl _ _).alloc (Nat.le_refl _) _⟩
/-- A block that is no row of this element type stays while an own row grows. -/
theorem kept_grown {w w' : World} {base : Nat} {e : TypeId} {size n : Nat} {v : Value} {xs : List Value} (ho : w.ownsRow base e size v n xs) (hg : w.grownBy w' v.ownBlock) {k : Nat} {o : Obj} (hk : w.heap[k]? = some o)
    (hne : ∀ cs fz, o ≠ .cells cs e fz) : w'.heap[k]? = some o := by
  refine (hg.block k (heap_lt hk) ?_).trans hk
  intro h
  rcases ho.2 with ⟨rfl, _⟩ | ⟨g, cap, cur, rfl, _, hh, _⟩
  · cases h
  · have : k = g := by simpa [Value.ownBlock] using h
    subst this
    rw [hh] at hk
    injection hk with hk
    exact hne _ _ hk.symm
theorem own_setChan {w : World} {base : Nat} {e : TypeId} {size n : Nat} {v : Value} {xs : List Value} (ho : w.ownsRow base e size v n xs) {c cap0 s0 r0 : Nat} {b0 : Array Value} {cl0 tm0 : Bool} (hc : w.heap[c]? = some (.chan cap0 b0 cl0 s0 r0 tm0))
    (cap : Nat) (b : Array Value) (cl : Bool) (s r : Nat) (tm : Bool) : (w.setChan c cap b cl s r tm).ownsRow base e size v n xs := by
  refine ⟨ho.1, ?_⟩
  rcases ho.2 with h0 | ⟨g, cap', cur, hv, hbase, hh, hr⟩
  · exact .inl h0
  · have hne : g ≠ c := by rintro rfl; rw [hh] at hc; cases hc
    refine .inr ⟨g, cap', cur, hv, hbase, ?_, hr⟩
    simp only [World.setChan]; rw [Array.getElem?_setIfInBounds_ne (Ne.symm hne)]; exact hh
theorem isBag_chan (a b c d e f) : isBag (.chan a b c d e f) := trivial
theorem isBag_bag (cs fz) : isBag (.cells cs 49 fz) := .inl rfl
theorem isBag_row (cs fz) : isBag (.cells cs 54 fz) := .inr rfl
theorem not_isBag_byte (cs fz) : ¬ isBag (.cells cs 5 fz) := by rintro (h | h) <;> exact absurd h (by decide)
/-- What put leaves. -/
theorem put_close {w W1 w2 : World} {B p c room : Nat} {A : Option Addr} {cap : Nat} {L : List Ltr} {x : Ltr} {buf : Array Value} {s r : Nat} {X Y : Obj} {sv2 : Value}
    (hB : BagAt w B p c (.slice A L.length cap) room L) (hBw : B ≤ w.heap.size) (hf : L.length < room) (hbuf : buf.size + L.length = room) (hc : w.heap[c]? = some (.chan room buf false s r false))
    (hx : w.ownsRow B 5 1 x.v x.text.length (bvs x.text)) (hap : ∀ y ∈ L, y.apart x)
    (hW1 : W1 = (w.alloc X).setChan c room (buf.extract 1 buf.size) false s (r + 1) false) (hO : W1.ownsRow B 54 3 (.slice A L.length cap) L.length (rowOf L))
    (hg : (W1.alloc Y).drew.grownBy w2 (Value.slice A L.length cap).ownBlock) (ho2 : w2.ownsRow B 54 3 sv2 (L.length + 1) (rowOf L ++ x.cells)) :
    (∃ sv', BagAt (w2.setCell ⟨p, 0, none⟩ sv2) B p c sv' room (L ++ [x])) ∧ Below B w (w2.setCell ⟨p, 0, none⟩ sv2) ∧ Kept isBag w (w2.setCell ⟨p, 0, none⟩ sv2) := by
  obtain ⟨hp, hBp, hBc, _, ho, hL, hpw⟩ := hB
  have hpc : p ≠ c := by rintro rfl; rw [hp] at hc; cases hc
  have hcA : (w.alloc X).heap[c]? = some (.chan room buf false s r false) := (Below.heap_alloc w _ c (heap_lt hc)).trans hc
  have k1 : Kept isBag w W1 := by
    rw [hW1]
    refine Kept.trans (Kept.of_later ((Below.refl _ _).alloc (Nat.le_refl _) X)) (Kept.setChan _ _ _ _ _ _ _ _ fun o h => ?_)
    rw [hcA] at h; injection h with h; subst h; trivial
  have b1 : Below B w W1 := by rw [hW1]; exact below_setChan ((Below.refl _ _).alloc hBw _) hBc _ _ _ _ _ _
  have hp1 : W1.heap[p]? = some (.cells #[.slice A L.length cap, .chan (some c)] 49 (0, 0)) := by
    rw [hW1]; simp only [World.setChan]; rw [Array.getElem?_setIfInBounds_ne (Ne.symm hpc)]; exact (Below.heap_alloc w _ p (heap_lt hp)).trans hp
  have hc1 : W1.heap[c]? = some (.chan room (buf.extract 1 buf.size) false s (r + 1) false) := by
    rw [hW1]; exact heap_setChan _ _ _ _ _ _ _ _ (heap_lt hcA)
  have hB1 : B ≤ W1.heap.size := Nat.le_trans hBw b1.size
  have hO2 : (W1.alloc Y).drew.ownsRow B 54 3 (.slice A L.length cap) L.length (rowOf L) := (hO.alloc _).drew
  have k2 : Kept isBag W1 w2 := Kept.trans (Kept.of_later ((Below.refl _ _).alloc (Nat.le_refl _) Y).drew) (Kept.grown hO2 hg fun cs => isBag_row cs _)
  have b2 : Below B W1 w2 := own_grown (((Below.refl _ _).alloc hB1 Y).drew) hO2 hg (by simp; omega)
  have hp2 : w2.heap[p]? = some (.cells #[.slice A L.length cap, .chan (some c)] 49 (0, 0)) :=
    kept_grown hO2 hg ((Below.heap_alloc _ _ _ (heap_lt hp1)).trans hp1) (by intro cs fz h; injection h with _ h; cases h)
  have hc2 : w2.heap[c]? = some (.chan room (buf.extract 1 buf.size) false s (r + 1) false) :=
    kept_grown hO2 hg ((Below.heap_alloc _ _ _ (heap_lt hc1)).trans hc1) (by intro cs fz h; cases h)
  have k3 : Kept isBag w2 (w2.setCell ⟨p, 0, none⟩ sv2) := Kept.setCell _ _ _ fun o h => by
    have h' : w2.heap[p]? = some o := h
    rw [hp2] at h'; injection h' with h'; subst h'; exact isBag_bag _ _
  have kk := (k1.trans k2).trans k3
  refine ⟨⟨sv2, heap_setCell_same w2 p 0 _ _ sv2 hp2, hBp, hBc, ⟨_, _, _, (Below.heap_setCell w2 _ _ c (Ne.symm hpc)).trans hc2, ?_⟩, ?_, ?_, ?_⟩, (b1.trans b2).setCell hBp _, kk⟩
  · simp; omega
  · have h3 : (w2.setCell ⟨p, 0, none⟩ sv2).ownsRow B 54 3 sv2 (L.length + 1) (rowOf L ++ x.cells) := by
      refine ⟨ho2.1, ?_⟩
      rcases ho2.2 with h0 | ⟨g, cap', cur, hv, hb, hh, hr⟩
      · exact .inl h0
      · have hne : g ≠ p := by rintro rfl; rw [hh] at hp2; injection hp2 with hp2; injection hp2 with _ hp2; cases hp2
        exact .inr ⟨g, cap', cur, hv, hb, (Below.heap_setCell w2 _ _ g hne).trans hh, hr⟩
    simpa [rowOf] using h3
  · intro y hy
    rcases List.mem_append.1 hy with hy | hy
    · exact own_of_kept (hL y hy) kk fun cs => not_isBag_byte cs _
    · obtain rfl : y = x := by simpa using hy
      exact own_of_kept hx kk fun cs => not_isBag_byte cs _
  · rw [List.pairwise_append]
    refine ⟨hpw, List.pairwise_singleton _ _, fun y hy z hz => ?_⟩
    have hzx : z = x := by simpa using hz
    rw [hzx]
    exact hap y hy
set_option maxHeartbeats 1000000 in
theorem put_any {w : World} {B p c room : Nat} {sv : Value} {L : List Ltr} (d : Int) (V : Value) (text : List UInt8) (sp : Bool) (hB : BagAt w B p c sv room L) (hf : L.length < room) (hr4 : room ≤ 4096) (hBw : B ≤ w.heap.size)
    (hx : w.ownsRow B 5 1 V text.length (bvs text)) (hap : ∀ y ∈ L, y.apart ⟨d, V, text, sp⟩) :
    Calls Try.prog 17 #[.pointer (some ⟨p, 0, none⟩), .agg #[.int .i64 d, V, .bool sp]] w fun e w' =>
      e = .returned (.int .i64 0) ∧ (∃ sv', BagAt w' B p c sv' room (L ++ [⟨d, V, text, sp⟩])) ∧ Below B w w' ∧ Kept isBag w w' := by
  have hBB := hB
  obtain ⟨hp, hBp, hBc, ⟨buf, s, r, hc, hroom⟩, ho, hL, hpw⟩ := hB
  have HC := Lib.hid hc
  have hpl := heap_lt hp
  have hcl := heap_lt hc
  have hc1 : w.cell? ⟨p, 1, none⟩ = some (.chan (some c)) := cell_of_row _ _ 1 _ _ (0, 0) hp
  have zv : ∀ W, (zeroValue 50).run Try.prog W = .ok (.agg #[]) W := fun W => by kernel_rfl
  have hpc : p ≠ c := by rintro rfl; rw [hp] at hc; cases hc
  obtain ⟨A, cap, rfl⟩ := own_form ho
  obtain ⟨A', cap', rfl⟩ := own_form hx
  have HBB := Lib.hid hBB
  clear hBB
  go_enter Try.func17, Try.ntmps17
  go_upto_region 2 with (fail)
  have hcW : (w.alloc (.cells #[.int .i64 d, .slice A' text.length cap', .bool sp] 54)).heap[c]? = some (.chan room buf false s r false) := (Below.heap_alloc w _ c hcl).trans hc
  refine wp_of_inReg ?_
  simp only [List.size_toArray, List.length_cons, List.length_nil, Nat.reduceAdd, Nat.zero_add, List.range, List.range.loop]
  refine inReg_recv 0 (c := c) (cap := room) (z := .agg #[]) rfl (by rfl) (by simp [execOp, rcase, zv, Act.eval]) hcW (by omega) ?_
  generalize buf.getD 0 undef = got
  simp only [Act.put, List.setIfInBounds_toArray, List.set_cons_zero, List.set_cons_succ]
  refine inReg_same 1 (v := ?_) rfl (by rfl) (by go_simp; with_reducible rfl) ?_
  simp only [Act.put, List.setIfInBounds_toArray, List.set_cons_zero, List.set_cons_succ]
  refine inReg_same 2 (v := ?_) rfl (by rfl) (by go_simp; with_reducible rfl) ?_
  simp only [Act.put, List.setIfInBounds_toArray, List.set_cons_zero, List.set_cons_succ]
  refine inReg_nil ?_
  obtain ⟨W1, hW1⟩ : ∃ W1, W1 = (w.alloc (.cells #[.int .i64 d, .slice A' text.length cap', .bool sp] 54)).setChan c room (buf.extract 1 buf.size) false s (r + 1) false := ⟨_, rfl⟩
  rw [← hW1]
  have hsz1 : W1.heap.size = w.heap.size + 1 := by rw [hW1, size_setChan]; simp
  have hp1 : W1.heap[p]? = some (.cells #[.slice A L.length cap, .chan (some c)] 49 (0, 0)) := by
    rw [hW1]; simp only [World.setChan]; rw [Array.getElem?_setIfInBounds_ne (Ne.symm hpc)]; exact (Below.heap_alloc w _ p hpl).trans hp
  have hbx : W1.heap[w.heap.size]? = some (.cells #[.int .i64 d, (.slice A' text.length cap'), .bool sp] 54 (0, 0)) := by
    rw [hW1]; simp only [World.setChan]; rw [Array.getElem?_setIfInBounds_ne (by omega)]; exact heap_alloc_new w _
  have ho1 : W1.ownsRow B 54 3 (.slice A L.length cap) L.length (rowOf L) := by rw [hW1]; exact own_setChan (ho.alloc _) hcW _ _ _ _ _ _
  have hk0 : W1.cell? ⟨p, 0, none⟩ = some (.slice A L.length cap) := cell_of_row _ _ 0 _ _ (0, 0) hp1
  have hb0 : W1.cell? ⟨w.heap.size, 0, none⟩ = some (.int .i64 d) := cell_of_row _ _ 0 _ _ (0, 0) hbx
  have hb1 : W1.cell? ⟨w.heap.size, 1, none⟩ = some (.slice A' text.length cap') := cell_of_row _ _ 1 _ _ (0, 0) hbx
  have hb2 : W1.cell? ⟨w.heap.size, 2, none⟩ = some (.bool sp) := cell_of_row _ _ 2 _ _ (0, 0) hbx
  have HW1 := Lib.hid hW1
  have HP := Lib.hid hp1
  have HO := Lib.hid ho1
  clear hW1 hp1 ho1 hcW zv ho hp hc hc1 hbx
  go_wp2_with fail
  have hfz : W1.frozen? ⟨p, 0, none⟩ = false := frozen_of_row _ _ 0 _ _ HP.out
  have hk0a : ∀ o, (W1.alloc o).cell? ⟨p, 0, none⟩ = some (.slice A L.length cap) := fun o => (World.cell?_alloc_lt W1 o ⟨p, 0, none⟩ (by show p < W1.heap.size; omega)).trans hk0
  have HSZ := Lib.hid hsz1
  have hBW : B ≤ W1.heap.size := by omega
  clear hsz1
  go_region_law (first
    | (refine step_append_rd (by rfl) (.tmp 16) (.tmp 18) 47 rfl B 54 3 40 letterT _ L.length (rowOf L) rfl ((HO.out.alloc _).drew) _ 1 1 _ rfl ((Rd.new _ _ _ 1 _ rfl).drew) (by simp [Value.oneCell']) (by omega) (by unfold maxLen; omega) (by simp; omega) (by simp) ?_; intro v2 w2 hown2 hg2 hat2; have HO2 := Lib.hid hown2; have HG2 := Lib.hid hg2; obtain ⟨A2, c2, rfl⟩ := own_form HO2.out; have hk2 := kept_grown ((HO.out.alloc _).drew) HG2.out ((Below.heap_alloc _ _ _ (heap_lt HP.out)).trans HP.out) (by intro cs fz h; injection h with _ h; cases h); have hfz2 := frozen_of_row _ _ 0 _ _ hk2; have hkk2 := cell_of_row _ _ 0 _ _ (0, 0) hk2; clear hown2 hg2 hat2))
  all_goals
    go_wp2
    go_ret
    exact ⟨rfl, put_close (x := ⟨d, .slice A' text.length cap', text, sp⟩) HBB.out hBw hf hroom HC.out hx hap HW1.out HO.out HG2.out (by simpa [Ltr.cells] using HO2.out)⟩
end Go.Proofs.Ytajhogjogkfioaa
