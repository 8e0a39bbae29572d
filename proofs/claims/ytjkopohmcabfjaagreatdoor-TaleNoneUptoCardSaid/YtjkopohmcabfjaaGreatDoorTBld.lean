/-
  strings.Builder: copyCheck, WriteByte, WriteString, String, where the cut refuses the check's panic; what they turn, told by blocks.
-/
import Derived.Test.YtjkopohmcabfjaaGreatDoorCWords
import Derived.Test.YtjkopohmcabfjaaGreatDoorShelf
import Derived.Lib.Builder
import Derived.Lib.AppendStr
import Derived.Lib.UnsafeStr
namespace Go.Proofs.YtjkopohmcabfjaaGreatDoor
open Go.RowKit
set_option linter.unusedVariables false
set_option linter.unusedSimpArgs false
/-- A builder of one's own at block b: its row v, the bytes that it holds. -/
def Bld (w : World) (B b : Nat) (v : Value) (l : List UInt8) : Prop :=
  B ≤ b ∧ (∃ p, (p = .pointer none ∨ p = .pointer (some ⟨b, 0, none⟩)) ∧ w.heap[b]? = some (.cells #[p, v] 51 (0, 0))) ∧ w.ownsRow B 5 1 v l.length (bvs l)
/-- What a writer turns: the builder's block, its row, new blocks. -/
structure Wrote (w w' : World) (b : Nat) (v v' : Value) : Prop where
  os : w'.os = w.os
  tape : w'.tape = w.tape
  output : w'.output = w.output
  size : w.heap.size ≤ w'.heap.size
  block : ∀ k, k < w.heap.size → k ≠ b → v.ownBlock ≠ some k → w'.heap[k]? = w.heap[k]?
  row : ∀ g, v'.ownBlock = some g → v.ownBlock = some g ∨ w.heap.size ≤ g
theorem Bld.lt {w : World} {B b : Nat} {v : Value} {l : List UInt8} (h : Bld w B b v l) : b < w.heap.size := by obtain ⟨_, ⟨p, _, hb⟩, _⟩ := h; exact theap_lt hb
theorem Bld.ne {w : World} {B b : Nat} {v : Value} {l : List UInt8} (h : Bld w B b v l) : v.ownBlock ≠ some b := by
  obtain ⟨_, ⟨p, _, hb⟩, ho⟩ := h
  intro e
  rcases ho.2 with ⟨rfl, _⟩ | ⟨g, cap, cur, rfl, _, hg, _⟩
  · cases e
  · have : g = b := by injection e
    subst this
    rw [hg] at hb; injection hb with hb; injection hb with _ hb; cases hb
theorem Bld.fresh (w : World) {B : Nat} (hB : B ≤ w.heap.size) : Bld (w.alloc (.cells #[.pointer none, .slice none 0 0] 51)) B w.heap.size (.slice none 0 0) [] :=
  ⟨hB, ⟨_, .inl rfl, heap_alloc_new w _⟩, World.ownsRow_nil _ _ _ _⟩
theorem Bld.later {w w' : World} {B b : Nat} {v : Value} {l : List UInt8} (h : Bld w B b v l) (hb : Later w w') : Bld w' B b v l := by
  obtain ⟨h1, ⟨p, h2, h3⟩, h4⟩ := h
  refine ⟨h1, ⟨p, h2, (hb.block b (theap_lt h3)).trans h3⟩, h4.1, ?_⟩
  rcases h4.2 with h0 | ⟨g, cap, cur, hv, hg, hh, hr⟩
  · exact .inl h0
  · exact .inr ⟨g, cap, cur, hv, hg, (hb.block g (theap_lt hh)).trans hh, hr⟩
theorem Wrote.below {w0 w w' : World} {b B : Nat} {v v' : Value} {l : List UInt8} (h : Wrote w w' b v v') (hb : Bld w B b v l) (h0 : Below B w0 w) (hs : w0.heap.size ≤ w.heap.size) (hB : B ≤ w.heap.size) : Below B w0 w' :=
  ⟨h.os.trans h0.os, h.tape.trans h0.tape, h.output.trans h0.output, Nat.le_trans hs h.size, fun k hk => (h.block k (by omega) (by have := hb.1; omega) (fun e => by have := (hb.2.2.lt k e).1; omega)).trans (h0.block k hk)⟩
theorem Bld.isBuilder {w : World} {B b : Nat} {v : Value} {l : List UInt8} (h : Bld w B b v l) : Lib.IsBuilder 51 5 B b (Lib.byteCells l) w := by
  have hne := h.ne
  obtain ⟨h1, ⟨p, h2, h3⟩, h4⟩ := h
  have e : Lib.byteCells l = bvs l := rfl
  rcases h2 with rfl | rfl
  · exact .inl ⟨h1, v, h3, by rw [e, bvs_length]; exact h4, hne⟩
  · exact .inr ⟨h1, v, h3, by rw [e, bvs_length]; exact h4, hne⟩
theorem bsize : (Tryz.prog.info? 51).map (·.size) = some 2 := by kernel_rfl
set_option maxHeartbeats 1000000 in
set_option maxRecDepth 100000 in
theorem copyCheck_used (b : Nat) (w : World) (h0 : w.cell? ⟨b, 0, none⟩ = some (.pointer (some ⟨b, 0, none⟩))) :
    Calls Tryz.prog 43 #[.pointer (some ⟨b, 0, none⟩)] w fun e w' => e = .returned (.tuple #[]) ∧ w = w' := by
  obtain ⟨j, hj, _⟩ := Option.map_eq_some_iff.1 bsize
  go_enter Tryz.func43, Tryz.ntmps43
  go_wp2_with fail
  rw [Lib.run_neq_ptr_same w _ Tryz.underlying48 hj]
  go_wp2_with fail
  go_end0
  exact ⟨rfl, rfl⟩
set_option maxHeartbeats 1000000 in
set_option maxRecDepth 100000 in
theorem copyCheck_fresh (b : Nat) (v : Value) (w : World) (hb : w.heap[b]? = some (.cells #[.pointer none, v] 51 (0, 0))) :
    Calls Tryz.prog 43 #[.pointer (some ⟨b, 0, none⟩)] w fun e w' => e = .returned (.tuple #[]) ∧ w' = w.setCell ⟨b, 0, none⟩ (.pointer (some ⟨b, 0, none⟩)) := by
  obtain ⟨j, hj, hjs⟩ := Option.map_eq_some_iff.1 bsize
  have h0 := cell_of_row _ _ 0 _ _ (0, 0) hb
  have hfz := frozen_of_row _ _ 0 _ _ hb
  have hsh : w.shape? b = some (51, 2) := by simp [World.shape?, hb]
  clear hb
  go_enter Tryz.func43, Tryz.ntmps43
  go_wp2_with fail
  rw [Lib.run_to_unsafe w ⟨b, 0, none⟩ Tryz.underlying48 Tryz.underlying186 hj (by rw [hjs]; decide) hsh (Nat.zero_lt_succ 1)]
  simp only [Result.andThen]
  rw [Oper.upon_value]
  go_wp2_with fail
  rw [run_callFunc_extern Tryz.func83 (by kernel_rfl) (by kernel_rfl) (by kernel_rfl) (e := Extern.AbiNoEscape.same) (by kernel_rfl)]
  rw [Lib.run_noEscape]
  simp only [Result.andThen]
  rw [Oper.upon_value]
  go_wp2_with fail
  rw [Lib.run_from_unsafe w ⟨b, 0, none⟩ Tryz.underlying186 Tryz.underlying48 hj hsh (by kernel_rfl)]
  simp only [Result.andThen]
  rw [Oper.upon_value]
  go_wp2_with fail
  go_end0
  exact ⟨rfl, rfl⟩
theorem copyCheck_any {w : World} {B b : Nat} {v : Value} {l : List UInt8} (h : Bld w B b v l) :
    Calls Tryz.prog 43 #[.pointer (some ⟨b, 0, none⟩)] w fun e w' => e = .returned (.tuple #[]) ∧ w'.heap[b]? = some (.cells #[.pointer (some ⟨b, 0, none⟩), v] 51 (0, 0)) ∧
      w'.ownsRow B 5 1 v l.length (bvs l) ∧ w'.heap.size = w.heap.size ∧ Wrote w w' b v v := by
  have hne := h.ne
  obtain ⟨h1, ⟨p, h2, h3⟩, h4⟩ := h
  rcases h2 with rfl | rfl
  · refine (copyCheck_fresh b v w h3).mono ?_
    rintro e w' ⟨rfl, rfl⟩
    refine ⟨rfl, ?_, ?_, by simp [World.setCell], ⟨rfl, rfl, rfl, by simp [World.setCell], fun k _ hk _ => Below.heap_setCell _ _ _ _ hk, fun g hg => .inl hg⟩⟩
    · exact heap_setCell_same w b 0 _ _ _ h3
    · refine ⟨h4.1, ?_⟩
      rcases h4.2 with h0 | ⟨g, cap, cur, hv, hb, hh, hr⟩
      · exact .inl h0
      · exact .inr ⟨g, cap, cur, hv, hb, (Below.heap_setCell _ _ _ _ (fun e => hne (by rw [hv]; have e : g = b := e; rw [e]; rfl))).trans hh, hr⟩
  · refine (copyCheck_used b w (cell_of_row _ _ 0 _ _ (0, 0) h3)).mono ?_
    rintro e w' ⟨rfl, rfl⟩
    exact ⟨rfl, h3, h4, rfl, ⟨rfl, rfl, rfl, Nat.le_refl _, fun k _ _ _ => rfl, fun g hg => .inl hg⟩⟩
theorem byteT : ElemT Tryz.prog 49 5 1 1 := elem_mk (z := .int .u8 0) Tryz.underlying49 (by kernel_rfl) rfl (by decide)
/-- What an append to the builder's row, and the store behind it, leave. -/
theorem bld_close {w w1 W1 w2 : World} {B b : Nat} {v v' : Value} {l l' : List UInt8} (h : Bld w B b v l) (hr : Wrote w w1 b v v) (h1 : w1.heap[b]? = some (.cells #[.pointer (some ⟨b, 0, none⟩), v] 51 (0, 0))) (hs : w1.heap.size = w.heap.size)
    (hl : Later w1 W1) (hg : W1.grownBy w2 v.ownBlock) (ho : w2.ownsRow B 5 1 v' l'.length (bvs l')) (hat : v'.ownBlock = v.ownBlock ∨ v'.ownBlock = some W1.heap.size) :
    Bld (w2.setCell ⟨b, 1, none⟩ v') B b v' l' ∧ Wrote w (w2.setCell ⟨b, 1, none⟩ v') b v v' := by
  have hne := h.ne
  have hbl := h.lt
  have hsz : w1.heap.size ≤ W1.heap.size := hl.size
  have h2 : w2.heap[b]? = some (.cells #[.pointer (some ⟨b, 0, none⟩), v] 51 (0, 0)) := (hg.block b (by omega) (fun e => hne e.symm)).trans ((hl.block b (by omega)).trans h1)
  have hne' : v'.ownBlock ≠ some b := by
    rcases hat with e | e
    · rw [e]; exact hne
    · rw [e]; intro e2; injection e2 with e2; omega
  refine ⟨⟨h.1, ⟨_, .inr rfl, ?_⟩, ?_⟩, ⟨hg.os.trans (hl.os.trans hr.os), hg.tape.trans (hl.tape.trans hr.tape), hg.output.trans (hl.output.trans hr.output), ?_, fun k hk hkb hkv => ?_, fun g e => ?_⟩⟩
  · simpa using heap_setCell_same w2 b 1 _ _ v' h2
  · refine ⟨ho.1, ?_⟩
    rcases ho.2 with h0 | ⟨g, cap, cur, hv, hb, hh, hrr⟩
    · exact .inl h0
    · exact .inr ⟨g, cap, cur, hv, hb, (Below.heap_setCell _ _ _ _ (fun e => hne' (by rw [hv]; have e : g = b := e; rw [e]; rfl))).trans hh, hrr⟩
  · have := hg.size; simp [World.setCell]; omega
  · exact (Below.heap_setCell _ _ _ _ hkb).trans ((hg.block k (by omega) (fun e => hkv e.symm)).trans ((hl.block k (by omega)).trans (hr.block k hk hkb hkv)))
  · rcases hat with e2 | e2
    · rw [e2] at e; exact .inl e
    · rw [e2] at e; injection e with e; exact .inr (by omega)
set_option maxHeartbeats 2000000 in
set_option maxRecDepth 100000 in
theorem writeByte_any {w : World} {B b : Nat} {v : Value} {l : List UInt8} (h : Bld w B b v l) (c : UInt8) (hlen : l.length + 1 ≤ 140737488355328) (hBw : B ≤ w.heap.size) :
    Calls Tryz.prog 84 #[.pointer (some ⟨b, 0, none⟩), .int .u8 (c.toNat : Int)] w fun e w' => e = .returned .nilIface ∧ ∃ v', Bld w' B b v' (l ++ [c]) ∧ Wrote w w' b v v' := by
  have HH := hide_ h
  obtain ⟨A0, c0, hv⟩ := own_form h.2.2
  subst hv
  clear h
  go_enter Tryz.func84, Tryz.ntmps84
  go_wp2_with fail
  refine (copyCheck_any HH.out).mono ?_; rintro e w1 ⟨rfl, h1, ho1, hs1, hr1⟩
  have H1 := hide_ h1; have HO1 := hide_ ho1; have HR1 := hide_ hr1; have HS1 := hide_ hs1
  have d0 := cell_of_row _ _ 0 _ _ (0, 0) h1
  have d1 := cell_of_row _ _ 1 _ _ (0, 0) h1
  have hwb : B ≤ w1.heap.size + 1 := by omega
  clear h1 ho1 hr1 hs1
  go_wp2_with (at_builtin; go_loud (refine wpList_append_rd _ rfl _ _ 49 rfl B 5 1 1 byteT _ l.length (bvs l) rfl (HO1.out.alloc _) _ 1 1 [bv c] rfl (Rd.newAt _ #[bv c] 5 1 1 _ (0, 0) rfl rfl) (by simp [bv, Value.oneCell']) (by omega) (by unfold maxLen; omega) (by simp; omega) (fun h => nomatch h) ?_; intro v2 w2 hown2 hg2 hat2; obtain ⟨A3, c3, rfl⟩ := own_form hown2; have HB2 := hide_ (bld_close HH.out HR1.out H1.out HS1.out (later_alloc w1 (.cells #[bv c] 5)) hg2 (l' := l ++ [c]) (by simpa [bvs] using hown2) hat2); have hb2 := (hg2.block b (by simp; have := theap_lt H1.out; omega) (fun e => HH.out.ne e.symm)).trans (row_al H1.out _); have e1 := cell_of_row _ _ 1 _ _ (0, 0) hb2; have f1 := frozen_of_row _ _ 1 _ _ hb2; have e0 := cell_of_row _ _ 0 _ _ (0, 0) hb2; clear hown2 hg2 hat2 hb2))
  go_ret
  exact ⟨rfl, _, HB2.out⟩
theorem byteI : ∃ i, Tryz.prog.info? 5 = some i ∧ i.zero = some (.int .u8 0) ∧ i.size = 1 ∧ i.bytes = 1 := by
  have h : (Tryz.prog.info? 5).map (fun i => (i.zero, i.size, i.bytes)) = some (some (.int .u8 0), 1, 1) := by kernel_rfl
  obtain ⟨i, h1, h2, h3, h4⟩ := info_parts h
  exact ⟨i, h1, h2, h3, h4⟩
/-- 'append(b, s...)' of a string: which block the row is in. -/
theorem run_append_str (w : World) (base : Nat) (ty : TypeId) (v : Value) (n : Nat) (xs : List Value) (hown : w.ownsRow base 5 1 v n xs) (s : ByteArray) (hbytes : n + s.size ≤ 140737488355328) (hbase : base ≤ w.heap.size) :
    ∃ v' w', (Builtin.append_ #[49, 9] ty #[v, .string s]).run Tryz.prog w = .ok v' w' ∧ w'.ownsRow base 5 1 v' (n + s.size) (xs ++ Lib.strCells s) ∧ w.grownBy w' v.ownBlock ∧ (v'.ownBlock = v.ownBlock ∨ v'.ownBlock = some w.heap.size) := by
  obtain ⟨i, hi, hz, hsize, hby⟩ := byteI
  have ht := Tryz.underlying49
  have hu := Tryz.underlying9
  have h63 : n + s.size ≤ maxLen := by unfold maxLen; omega
  obtain ⟨v', w', hr, h2, h3, h4⟩ := Lib.run_append_own_string (P := Tryz.prog) w base 49 9 ty 5 i ht hu hi hz hsize hby v n xs hown s h63 hbytes hbase
  refine ⟨v', w', hr, h2, h3, ?_⟩
  have hxl : xs.length = n := by simpa using hown.1
  rcases hown.2 with ⟨rfl, rfl⟩ | ⟨g, cap, cur, rfl, hbg, hg, hnc, hcm, hcs, htake⟩
  · by_cases hm : s.size = 0
    · exact .inl (by rw [h4.2 ⟨rfl, hm⟩])
    · have hr2 := run_append_nil_string (P := Tryz.prog) w 49 9 ty 5 i (.int .u8 0) ht hu hi hz s (by omega) (by unfold maxLen at h63; omega) (by rw [hby]; omega)
      rw [hr] at hr2
      injection hr2 with hv _
      exact .inr (by rw [hv]; rfl)
  · by_cases hroom : n + s.size ≤ cap
    · have hcs' : cur.size = cap := by simpa using hcs
      have hr2 := Lib.run_append_room_string (P := Tryz.prog) w 49 9 ty 5 i ht hu hi hsize g n cap cur hg s hroom (by omega)
      rw [hr] at hr2
      injection hr2 with hv _
      exact .inl (by rw [hv]; rfl)
    · have holds : ∀ j u, xs[j]? = some u → w.cell? ((⟨g, 0, none⟩ : Addr).add j) = some u := hown.cells (g := g) rfl
      have hr2 := Lib.run_append_grow_string (P := Tryz.prog) w 49 9 ty 5 i (.int .u8 0) ht hu hi hz ⟨g, 0, none⟩ n cap xs (by rw [hsize]; simpa using hxl) holds s (by omega) (by unfold maxLen at h63; omega) (by rw [hby]; exact growslice_fits (by omega) (by omega))
      rw [hr] at hr2
      injection hr2 with hv _
      exact .inr (by rw [hv]; rfl)
theorem wpList_append_str {w : World} {ops : Array Oper} {rest : List Oper} {o : Oper} {a : Act} {Q : Exit → Act → World → Prop} (hgd : o.guard = none) (sl x : Operand)
    (ho : o.op = .call { callee := .builtin .append, args := #[sl, x], argTypes := #[49, 9] }) (base : Nat) (v : Value) (n : Nat) (xs : List Value) (hs : a.eval sl = v) (hown : w.ownsRow base 5 1 v n xs) (s : ByteArray) (hx : a.eval x = .string s)
    (hbytes : n + s.size ≤ 140737488355328) (hbase : base ≤ w.heap.size)
    (h : ∀ v' w', w'.ownsRow base 5 1 v' (n + s.size) (xs ++ Lib.strCells s) → w.grownBy w' v.ownBlock → (v'.ownBlock = v.ownBlock ∨ v'.ownBlock = some w.heap.size) → wpList Tryz.prog ops Q rest (a.put o.dst v') w') : wpList Tryz.prog ops Q (o :: rest) a w := by
  refine wpList_plain hgd fun K hK => ?_
  obtain ⟨v', w', hr, h2, h3, h4⟩ := run_append_str w base o.type v n xs hown s hbytes hbase
  unfold Oper.wp execOp
  simp only [ho, resolve, invoke, builtin, Sem.run_bind, Sem.run_pure, Result.andThen_ok, List.map_toArray, List.map_cons, List.map_nil, hs, hx, hr]
  exact hK _ _ (h v' w' h2 h3 h4)
theorem strCells_bvs (s : ByteArray) : Lib.strCells s = bvs s.data.toList := rfl
set_option maxHeartbeats 2000000 in
set_option maxRecDepth 100000 in
theorem writeString_any {w : World} {B b : Nat} {v : Value} {l : List UInt8} (h : Bld w B b v l) (s : ByteArray) (hlen : l.length + s.size ≤ 140737488355328) (hBw : B ≤ w.heap.size) :
    Calls Tryz.prog 14 #[.pointer (some ⟨b, 0, none⟩), .string s] w fun e w' => e = .returned (.tuple #[.int .i64 s.size, .nilIface]) ∧ ∃ v', Bld w' B b v' (l ++ s.data.toList) ∧ Wrote w w' b v v' := by
  have HH := hide_ h
  obtain ⟨A0, c0, hv⟩ := own_form h.2.2
  subst hv
  clear h
  go_enter Tryz.func14, Tryz.ntmps14
  go_wp2_with fail
  refine (copyCheck_any HH.out).mono ?_; rintro e w1 ⟨rfl, h1, ho1, hs1, hr1⟩
  have H1 := hide_ h1; have HO1 := hide_ ho1; have HR1 := hide_ hr1; have HS1 := hide_ hs1
  have d0 := cell_of_row _ _ 0 _ _ (0, 0) h1
  have d1 := cell_of_row _ _ 1 _ _ (0, 0) h1
  have hwb : B ≤ w1.heap.size := by omega
  clear h1 ho1 hr1 hs1
  go_wp2_with (at_builtin; go_loud (refine wpList_append_str rfl _ _ rfl B _ l.length (bvs l) rfl HO1.out s rfl hlen hwb ?_; intro v2 w2 hown2 hg2 hat2; obtain ⟨A3, c3, rfl⟩ := own_form hown2; have HB2 := hide_ (bld_close HH.out HR1.out H1.out HS1.out (Later.refl w1) hg2 (l' := l ++ s.data.toList) (by rw [strCells_bvs] at hown2; simpa [bvs] using hown2) hat2); have hb2 := (hg2.block b (theap_lt H1.out) (fun e => HH.out.ne e.symm)).trans H1.out; have e1 := cell_of_row _ _ 1 _ _ (0, 0) hb2; have f1 := frozen_of_row _ _ 1 _ _ hb2; have e0 := cell_of_row _ _ 0 _ _ (0, 0) hb2; clear hown2 hg2 hat2 hb2))
  go_ret2
  exact ⟨rfl, _, HB2.out⟩

end Go.Proofs.YtjkopohmcabfjaaGreatDoor
