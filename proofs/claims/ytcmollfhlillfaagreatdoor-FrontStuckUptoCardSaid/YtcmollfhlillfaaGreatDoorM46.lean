/-
  Texts of this seat in one: GBeg, GPushB.
-/
import Derived.Test.YtcmollfhlillfaaGreatDoorM45
/-
  The law's game: begin, of two chests and one referee.
-/
namespace Go.Proofs.YtcmollfhlillfaaGreatDoor
open Go.RowKit
set_option linter.unusedVariables false
set_option linter.unusedSimpArgs false
/-- A field that is an own row grows by one element. -/
theorem ObjAt.push {α : Type} {t' : TypeId} {r : Rep α} {w w9 : World} {g : Nat} {t : TypeId} {fs : List Fld} {cs : List (List Value)} {xs : List (List Nat)} (h : ObjAt w g t fs cs xs) (i j : Nat) {L' : List α} {v v' : Value} {x Xs Y : List Nat} (hx : xs[i]? = some x) (hxe : x = obL v ++ Xs)
    (hp : SliceP 0 t' r w9 v' L' (Xs ++ Y)) (hg : w.grownBy w9 v.ownBlock) (hat : v'.ownBlock = v.ownBlock ∨ v'.ownBlock = some w.heap.size) (hYX : ∀ k ∈ Y, k ∉ g :: xs.flatten ∧ k < w.heap.size) (hYn : Y.Nodup) (hYr : ∀ f ∈ fs, f.ro = [])
    (hrow : cs.flatten.toArray.setIfInBounds j v' = (cs.set i [v']).flatten.toArray) :
    ObjAt (w9.setCell ⟨g, j, none⟩ v') g t (fs.set i ((sliceR t' r).fld L')) (cs.set i [v']) (xs.set i (obL v' ++ (Xs ++ Y))) ∧ Hits (· ∈ g :: xs.flatten) w (w9.setCell ⟨g, j, none⟩ v') ∧ ∀ k ∈ g :: (xs.set i (obL v' ++ (Xs ++ Y))).flatten, k ∈ g :: xs.flatten ∨ k ∈ Y ∨ w.heap.size ≤ k := by
  have hsub : ∀ k ∈ x, k ∈ xs.flatten := fun k hk => List.mem_flatten.2 ⟨x, List.mem_of_getElem? hx, hk⟩
  have hg0 : g ∉ x := fun hm => (List.nodup_cons.1 h.nd).1 (hsub g hm)
  have hgl := theap_lt h.row
  have hin : ∀ k ∈ obL v', k ∈ x ∨ k = w.heap.size := fun k hk => by
    have h1 := mem_obL.1 hk
    rcases hat with h2 | h2
    · left; rw [hxe]; exact List.mem_append_left _ (mem_obL.2 (h2.symm.trans h1))
    · rw [h2] at h1; injection h1 with h1; exact .inr h1.symm
  have hxl : ∀ k ∈ Xs, k ∈ x := fun k hk => by rw [hxe]; exact List.mem_append_right _ hk
  have hnx : x.Nodup := by
    have h1 := List.nodup_cons.1 h.nd
    refine List.nodup_iff_count.2 fun a => ?_
    have h2 := List.nodup_iff_count.1 h1.2 a
    have h3 := fl_count (x := []) a hx
    simp only [List.count_nil] at h3
    omega
  rw [hxe] at hnx
  have hh1 : Hits (· ∈ x) w w9 := (Hits.refl _ w).grown hg fun k hk _ => by rw [hxe]; exact List.mem_append_left _ (mem_obL.2 hk)
  have hh2 : Hits (· = g) w9 (w9.setCell ⟨g, j, none⟩ v') := (Hits.refl (· = g) w9).setCell (g := g) (fun _ => rfl) j _
  have hgx : g ∉ obL v' ++ (Xs ++ Y) := fun hm => by
    rcases List.mem_append.1 hm with h4 | h4
    · rcases hin g h4 with h5 | h5
      · exact hg0 h5
      · omega
    · rcases List.mem_append.1 h4 with h5 | h5
      · exact hg0 (hxl g h5)
      · exact (hYX g h5).1 (List.mem_cons_self ..)
  have hr : (w9.setCell ⟨g, j, none⟩ v').heap[g]? = some (.cells (cs.set i [v']).flatten.toArray t (0, 0)) := by
    rw [← hrow]
    exact heap_setCell_same _ _ _ _ _ _ (hh1.row h.row hg0)
  have hc2 : (sliceR t' r).holds (w9.setCell ⟨g, j, none⟩ v') [v'] L' (obL v' ++ (Xs ++ Y)) := (sliceR t' r).frame hp.holds hh2 fun k hk e => hgx (e ▸ hk)
  have hn : (obL v' ++ (Xs ++ Y)).Nodup := by
    rw [List.nodup_append] at hnx ⊢
    refine ⟨obL_nodup _, List.nodup_append.2 ⟨hnx.2.1, hYn, fun a ha b hb e => (hYX b hb).1 (e ▸ List.mem_cons_of_mem _ (hsub _ (hxl a ha)))⟩, fun a ha b hb e => ?_⟩
    subst e
    rcases List.mem_append.1 hb with h5 | h5
    · rcases hat with h2 | h2
      · exact hnx.2.2 a (mem_obL.2 (h2.symm.trans (mem_obL.1 ha))) a h5 rfl
      · have h6 := mem_obL.1 ha
        rw [h2] at h6; injection h6 with h6
        have := h.rows.lt.1 a (hsub a (hxl a h5)); omega
    · rcases hin a ha with h6 | h6
      · exact (hYX a h5).1 (List.mem_cons_of_mem _ (hsub a h6))
      · have := (hYX a h5).2; omega
  obtain ⟨h1, h2, h3⟩ := h.turn (f' := (sliceR t' r).fld L') hx ((hh1.mono fun _ _ hk => .inr hk).trans hh2 fun _ _ hk => .inl hk) hr hc2 hn (fun k hk => by
    rcases List.mem_append.1 hk with h4 | h4
    · rcases hin k h4 with h5 | h5
      · exact .inl h5
      · right
        refine ⟨fun hm => by have := h.lt k hm; omega, fun f hf hm => by rw [hYr f hf] at hm; cases hm⟩
    · rcases List.mem_append.1 h4 with h5 | h5
      · exact .inl (hxl k h5)
      · exact .inr ⟨(hYX k h5).1, fun f hf hm => by rw [hYr f hf] at hm; cases hm⟩) (fun k hk => by cases hk)
  refine ⟨h1, h2, fun k hk => ?_⟩
  rcases h3 k hk with h4 | h4
  · exact .inl h4
  · rcases List.mem_append.1 h4 with h5 | h5
    · rcases hin k h5 with h6 | h6
      · exact .inl (List.mem_cons_of_mem _ (hsub k h6))
      · right; right; omega
    · rcases List.mem_append.1 h5 with h6 | h6
      · exact .inl (List.mem_cons_of_mem _ (hsub k (hxl k h6)))
      · exact .inr (.inl h6)
theorem lnew_any (w : World) : Calls Tryz.prog 20 #[.int .i64 50] w fun e w' => e = .returned (.pointer (some ⟨w.heap.size, 0, none⟩)) ∧ w'.heap[w.heap.size]? = some (.cells #[.slice none 0 0, .int .i64 50, .int .i64 0] 99 (0, 0)) ∧ Later w w' := by
  go_enter Tryz.func20, Tryz.ntmps20
  go_wp2_with fail
  go_ret
  exact ⟨rfl, heap_alloc_new _ _, later_alloc _ _⟩
/-- A game that has no front yet. -/
def g0Fields (C T : List Int) (M : List (Int × Int)) (J : List Int) (S : List (List Int)) : List Fld := [plainFld [.pointer none], plainFld [.int .i64 2, .int .i64 300, .int .i64 50], intsR.fld C, plainFld [.slice none 0 0], plainFld [.slice none 0 0], mksR.fld M, intsR.fld J, saidR.fld S, intsR.fld T, plainFld [.slice none 0 0], plainFld [.slice none 0 0], plainFld [.int .i64 0, .slice none 0 0, .slice none 0 0, .slice none 0 0, .bool false]]
structure G0C where
  uc : Value
  um : Value
  uj : Value
  us : Value
  ut : Value
  Xc : List Nat
  Xm : List Nat
  Xj : List Nat
  Xs : List Nat
  Xt : List Nat
def G0C.cs (c : G0C) : List (List Value) := [[.pointer none], [.int .i64 2, .int .i64 300, .int .i64 50], [c.uc], [.slice none 0 0], [.slice none 0 0], [c.um], [c.uj], [c.us], [c.ut], [.slice none 0 0], [.slice none 0 0], [.int .i64 0, .slice none 0 0, .slice none 0 0, .slice none 0 0, .bool false]]
def G0C.xs (c : G0C) : List (List Nat) := [[], [], c.Xc, [], [], c.Xm, c.Xj, c.Xs, c.Xt, [], [], []]
def G0C.row (c : G0C) : Array Value := #[.pointer none, .int .i64 2, .int .i64 300, .int .i64 50, c.uc, .slice none 0 0, .slice none 0 0, c.um, c.uj, c.us, c.ut, .slice none 0 0, .slice none 0 0, .int .i64 0, .slice none 0 0, .slice none 0 0, .slice none 0 0, .bool false]
/-- The game as it is built; the list of nodes lies apart. -/
structure BegAt (w0 w : World) (g : Nat) (C T : List Int) (M : List (Int × Int)) (J : List Int) (S : List (List Int)) (c : G0C) : Prop where
  at_ : ObjAt w g 46 (g0Fields C T M J S) c.cs c.xs
  base : ∀ k ∈ g :: c.xs.flatten, w0.heap.size ≤ k
  later : Later w0 w
theorem g0_ro {C T : List Int} {M : List (Int × Int)} {J : List Int} {S : List (List Int)} : ∀ f ∈ g0Fields C T M J S, f.ro = [] := by
  intro f hf
  simp only [g0Fields, List.mem_cons, List.not_mem_nil, or_false] at hf
  rcases hf with rfl | rfl | rfl | rfl | rfl | rfl | rfl | rfl | rfl | rfl | rfl | rfl <;> rfl
theorem BegAt.later' {w0 w w' : World} {g : Nat} {C T : List Int} {M : List (Int × Int)} {J : List Int} {S : List (List Int)} {c : G0C} (h : BegAt w0 w g C T M J S c) (hl : Later w w') : BegAt w0 w' g C T M J S c := ⟨h.at_.later hl, h.base, h.later.trans hl⟩
theorem BegAt.of {w0 w w' : World} {g : Nat} {C T C' T' : List Int} {M M' : List (Int × Int)} {J J' : List Int} {S S' : List (List Int)} {c c' : G0C} {Y : List Nat} (h : BegAt w0 w g C T M J S c) (h1 : ObjAt w' g 46 (g0Fields C' T' M' J' S') c'.cs c'.xs) (h2 : Hits (· ∈ g :: c.xs.flatten) w w')
    (h3 : ∀ k ∈ g :: c'.xs.flatten, k ∈ g :: c.xs.flatten ∨ k ∈ Y ∨ w.heap.size ≤ k) (hY : ∀ k ∈ Y, w0.heap.size ≤ k) : BegAt w0 w' g C' T' M' J' S' c' :=
  ⟨h1, fun k hk => by
    rcases h3 k hk with h4 | h4 | h4
    · exact h.base k h4
    · exact hY k h4
    · exact Nat.le_trans h.later.size h4, Below.trans h.later (h2.below (B := w0.heap.size) h.later.size h.base)⟩
def BegS (w0 w : World) (g : Nat) (nv : Value) (R C T : List Int) (M : List (Int × Int)) (J : List Int) (S : List (List Int)) : Prop := ∃ c, BegAt w0 w g C T M J S c ∧ w.ownsRow w0.heap.size 3 1 nv R.length (ints R) ∧ ∀ k, nv.ownBlock = some k → k ∉ g :: c.xs.flatten
theorem BegS.push {α : Type} {t' : TypeId} {r : Rep α} {w0 w w9 : World} {g : Nat} {nv : Value} {R C T C' T' : List Int} {M M' : List (Int × Int)} {J J' : List Int} {S S' : List (List Int)} {c c' : G0C} (h : BegAt w0 w g C T M J S c) (ho : w.ownsRow w0.heap.size 3 1 nv R.length (ints R)) (hn : ∀ k, nv.ownBlock = some k → k ∉ g :: c.xs.flatten) (i j : Nat) {L' : List α} {v v' : Value} {x Xs Y : List Nat} (hx : c.xs[i]? = some x) (hxe : x = obL v ++ Xs)
    (hp : SliceP 0 t' r w9 v' L' (Xs ++ Y)) (hg : w.grownBy w9 v.ownBlock) (hat : v'.ownBlock = v.ownBlock ∨ v'.ownBlock = some w.heap.size) (hYX : ∀ k ∈ Y, k ∉ g :: c.xs.flatten ∧ k < w.heap.size) (hYn : Y.Nodup) (hY0 : ∀ k ∈ Y, w0.heap.size ≤ k ∧ nv.ownBlock ≠ some k)
    (hrow : c.cs.flatten.toArray.setIfInBounds j v' = (c.cs.set i [v']).flatten.toArray) (hfs : (g0Fields C T M J S).set i ((sliceR t' r).fld L') = g0Fields C' T' M' J' S') (hcs : c.cs.set i [v'] = c'.cs) (hxs : c.xs.set i (obL v' ++ (Xs ++ Y)) = c'.xs) :
    BegS w0 (w9.setCell ⟨g, j, none⟩ v') g nv R C' T' M' J' S' := by
  obtain ⟨h1, h2, h3⟩ := h.at_.push i j hx hxe hp hg hat hYX hYn g0_ro hrow
  rw [hfs, hcs, hxs] at h1
  rw [hxs] at h3
  refine ⟨c', h.of h1 h2 h3 fun k hk => (hY0 k hk).1, h2.own ho hn, fun k hk hm => ?_⟩
  rcases h3 k hm with h4 | h4 | h4
  · exact hn k hk h4
  · exact (hY0 k h4).2 hk
  · have := (own_block ho hk).2.1; omega
theorem BegS.later {w0 w w' : World} {g : Nat} {nv : Value} {R C T : List Int} {M : List (Int × Int)} {J : List Int} {S : List (List Int)} (h : BegS w0 w g nv R C T M J S) (hl : Later w w') : BegS w0 w' g nv R C T M J S := by
  obtain ⟨c, h1, h2, h3⟩ := h
  exact ⟨c, h1.later' hl, own_later h2 hl, h3⟩
theorem BegAt.part {w0 w : World} {g : Nat} {C T : List Int} {M : List (Int × Int)} {J : List Int} {S : List (List Int)} {c : G0C} (h : BegAt w0 w g C T M J S c) {i : Nat} {x : List Nat} (hx : c.xs[i]? = some x) : x.Nodup := by
  have h1 := List.nodup_cons.1 h.at_.nd
  refine List.nodup_iff_count.2 fun a => ?_
  have h2 := List.nodup_iff_count.1 h1.2 a
  have h3 := fl_count (x := []) a hx
  simp only [List.count_nil] at h3
  omega
theorem intT2 : ElemT Tryz.prog 35 3 1 8 := intT
def rangeC (i : Nat) : List Int := (List.range i).map fun (k : Nat) => 20 + (k : Int)
theorem rangeC_next (i : Nat) : rangeC (i + 1) = rangeC i ++ [20 + (i : Int)] := by unfold rangeC; rw [List.range_succ, List.map_append]; rfl
theorem rangeC_len (i : Nat) : (rangeC i).length = i := by unfold rangeC; simp
theorem rep_next (i : Nat) : List.replicate (i + 1) (50 : Int) = List.replicate i 50 ++ [50] := by rw [List.replicate_succ']
theorem BegS.nodes {w0 w w9 : World} {g : Nat} {nv nv' : Value} {R R' C T : List Int} {M : List (Int × Int)} {J : List Int} {S : List (List Int)} (h : BegS w0 w g nv R C T M J S) (ho9 : w9.ownsRow w0.heap.size 3 1 nv' R'.length (ints R')) (hg : w.grownBy w9 nv.ownBlock) (hat : nv'.ownBlock = nv.ownBlock ∨ nv'.ownBlock = some w.heap.size) : BegS w0 w9 g nv' R' C T M J S := by
  obtain ⟨c, h1, h2, h3⟩ := h
  have hh : Hits (fun q => nv.ownBlock = some q) w w9 := (Hits.refl _ w).grown hg fun q hq _ => hq
  refine ⟨c, ⟨h1.at_.frame hh (fun k hk e => h3 k e hk) fun f hf k hk => (by rw [g0_ro f hf] at hk; cases hk), h1.base, Below.trans h1.later (hh.below (B := w0.heap.size) h1.later.size fun k hk => (own_block h2 hk).1)⟩, ho9, fun k hk hm => ?_⟩
  rcases hat with e | e
  · exact h3 k (e.symm.trans hk) hm
  · rw [e] at hk; injection hk with hk
    have := h1.at_.lt k hm; omega
theorem mksT : ElemT Tryz.prog 40 64 1 8 := elem_mk (z := .pointer none) Tryz.underlying40 (by kernel_rfl) rfl (by decide)
set_option maxHeartbeats 8000000 in
set_option maxRecDepth 100000 in
theorem begin_any (w : World) : Calls Tryz.prog 7 #[.int .i64 2, .int .i64 1] w fun e w' => ∃ g X fb, e = .returned (.pointer (some ⟨g, 0, none⟩)) ∧ GmH w' g (d0 fb) X ∧ (∀ k ∈ X, w.heap.size ≤ k) ∧ Later w w' := by
  go_enter Tryz.func7, Tryz.ntmps7
  go_wp2_with fail
  obtain ⟨W0, hW0⟩ : ∃ V, V = (w.alloc (.cells #[.pointer none, .int .i64 2, .int .i64 300, .int .i64 50, .slice none 0 0, .slice none 0 0, .slice none 0 0, .slice none 0 0, .slice none 0 0, .slice none 0 0, .slice none 0 0, .slice none 0 0, .slice none 0 0, .int .i64 0, .slice none 0 0, .slice none 0 0, .slice none 0 0, .bool false] 46)).alloc (.cells #[] 3) := ⟨_, rfl⟩
  have hl0 : Later w W0 := by rw [hW0]; exact (later_alloc _ _).al _
  have hg0 : W0.heap[w.heap.size]? = some (.cells #[.pointer none, .int .i64 2, .int .i64 300, .int .i64 50, .slice none 0 0, .slice none 0 0, .slice none 0 0, .slice none 0 0, .slice none 0 0, .slice none 0 0, .slice none 0 0, .slice none 0 0, .slice none 0 0, .int .i64 0, .slice none 0 0, .slice none 0 0, .slice none 0 0, .bool false] 46 (0, 0)) := by rw [hW0]; exact row_al (heap_alloc_new _ _) _
  have hn0 : W0.heap[w.heap.size + 1]? = some (.cells #[] 3 (0, 0)) := by rw [hW0]; exact row_new2 _ _ _
  have hin : ∀ W : World, intsR.holds W [.slice none 0 0] [] [] := fun W => ints_holds.2 ⟨_, rfl, World.ownsRow_nil _ _ _ _, rfl⟩
  have HB0 := hide_ (show BegS w W0 w.heap.size (.slice (some ⟨w.heap.size + 1, 0, none⟩) 0 0) [] (rangeC 0) (List.replicate 0 50) [] [] [] from
    ⟨⟨.slice none 0 0, .slice none 0 0, .slice none 0 0, .slice none 0 0, .slice none 0 0, [], [], [], [], []⟩, ⟨⟨hg0, ⟨⟨rfl, rfl⟩, ⟨rfl, rfl⟩, hin _, ⟨rfl, rfl⟩, ⟨rfl, rfl⟩, (SliceP.nil 0 _ _ _).holds, hin _, (SliceP.nil 0 _ _ _).holds, hin _, ⟨rfl, rfl⟩, ⟨rfl, rfl⟩, ⟨rfl, rfl⟩, trivial⟩, by simp [G0C.xs], fun f hf k hk => by rw [g0_ro f hf] at hk; cases hk⟩, fun k hk => by simp [G0C.xs] at hk; omega, hl0⟩,
      ⟨rfl, .inr ⟨_, 0, #[], rfl, by omega, hn0, Nat.le_refl _, Nat.zero_le _, rfl, rfl⟩⟩, fun k hk hm => by
        have e2 : (some (w.heap.size + 1) : Option Nat) = some k := hk
        injection e2 with e2
        simp [G0C.xs] at hm
        omega⟩)
  rw [← hW0]
  have HW0 := hide_ hW0
  clear hl0 hg0 hn0 hin hW0
  go_loopw [7] (fun s7 wr => ∃ i : Nat, i ≤ 2 ∧ s7 = .int .i64 i ∧ Hid (BegS w wr w.heap.size (.slice (some ⟨w.heap.size + 1, 0, none⟩) 0 0) [] (rangeC i) (List.replicate i 50) [] [] [])) (fun i _ => 2 - (intOf i).toNat)
  case atStart => exact ⟨0, by omega, rfl, HB0⟩
  case round =>
    obtain ⟨i, hi, rfl, HS⟩ := hrel
    by_cases hlt : i < 2
    · have q1 : (i : Int) < 2 := by omega
      obtain ⟨c1, hb1, ho1, hn1⟩ := HS.out
      obtain ⟨Ac1, cc1, hc1⟩ := slice_len (show intsR.holds wr [c1.uc] (rangeC i) c1.Xc from hb1.at_.rows.2.2.1)
      injection hc1 with hc1
      rw [rangeC_len] at hc1
      obtain ⟨Xs1, hsp1, hxe1⟩ := holds_slice (show intsR.holds wr [c1.uc] (rangeC i) c1.Xc from hb1.at_.rows.2.2.1) (hb1.part (i := 2) rfl)
      rw [hc1] at hsp1 hxe1
      have hgr1 : wr.heap[w.heap.size]? = some (.cells c1.row 46 (0, 0)) := hb1.at_.row
      unfold G0C.row at hgr1
      rw [hc1] at hgr1
      have cl1 : wr.cell? ⟨w.heap.size, 4, none⟩ = some (.slice Ac1 i cc1) := cell_of_row _ _ 4 _ _ (0, 0) hgr1
      have glt1 := theap_lt hgr1
      have HB1 := hide_ hb1; have HO1 := hide_ ho1; have HN1 := hide_ hn1; have HSP1 := hide_ hsp1; have HXE1 := hide_ hxe1; have HGR1 := hide_ hgr1
      clear hb1 ho1 hn1 hsp1 hxe1 hgr1 hc1
      go_wp2_with (at_builtin; refine wpList_push rfl (.tmp 26) (.tmp 29) rfl intT rfl (HSP1.out.later (later_alloc wr _)) (rangeC_len i) (b := wr.heap.size) (c := 1) (cells := [.int .i64 (20 + (i : Int))]) (el := 20 + (i : Int)) (Y := []) rfl (Rd.newAt wr #[.int .i64 (20 + (i : Int))] 3 1 1 _ (0, 0) rfl rfl) ⟨rfl, rfl⟩ (fun k hk => by cases hk) (by omega) (by unfold maxLen; omega) (Nat.zero_le _) ?c8)
      case c8 =>
        intro A91 c91 w91 hp9 hg9 hat9
        have hgr91 := (show Hits (fun q => (Value.slice Ac1 i cc1).ownBlock = some q) (wr.alloc (.cells #[.int .i64 (20 + (i : Int))] 3)) w91 from (Hits.refl _ _).grown hg9 fun q hq _ => hq).row (later_row (later_alloc wr _) HGR1.out) (fun e => (List.nodup_cons.1 HB1.out.at_.nd).1 (List.mem_flatten.2 ⟨c1.Xc, by simp [G0C.xs], by rw [HXE1.out]; exact List.mem_append_left _ (mem_obL.2 e)⟩))
        have cg1 : w91.cell? ⟨w.heap.size, 4, none⟩ = some (.slice Ac1 i cc1) := cell_of_row _ _ 4 _ _ (0, 0) hgr91
        have gf1 : w91.frozen? ⟨w.heap.size, 4, none⟩ = false := frozen_of_row _ _ 4 _ _ hgr91
        have HS1 := hide_ (show BegS w (w91.setCell ⟨w.heap.size, 4, none⟩ (.slice A91 (i + 1) c91)) w.heap.size (.slice (some ⟨w.heap.size + 1, 0, none⟩) 0 0) [] (rangeC (i + 1)) (List.replicate i 50) [] [] [] from by
          have h := BegS.push (HB1.out.later' (later_alloc wr _)) (own_later HO1.out (later_alloc wr _)) HN1.out 2 4 rfl HXE1.out (v' := .slice A91 (i + 1) c91) (Y := []) (by rw [List.append_nil]; exact hp9) hg9 (by simpa using hat9) (fun k hk => by cases hk) List.nodup_nil (fun k hk => by cases hk) (c' := { c1 with uc := .slice A91 (i + 1) c91, Xc := obL (.slice A91 (i + 1) c91) ++ (Xs1 ++ []) }) rfl rfl rfl rfl
          rw [rangeC_next]; exact h)
        clear hp9 hg9 hat9 hgr91
        obtain ⟨c2, hb2, ho2, hn2⟩ := HS1.out
        obtain ⟨Ac2, cc2, hc2⟩ := slice_len (show intsR.holds (w91.setCell ⟨w.heap.size, 4, none⟩ (.slice A91 (i + 1) c91)) [c2.ut] (List.replicate i 50) c2.Xt from hb2.at_.rows.2.2.2.2.2.2.2.2.1)
        injection hc2 with hc2
        rw [List.length_replicate] at hc2
        obtain ⟨Xs2, hsp2, hxe2⟩ := holds_slice (show intsR.holds (w91.setCell ⟨w.heap.size, 4, none⟩ (.slice A91 (i + 1) c91)) [c2.ut] (List.replicate i 50) c2.Xt from hb2.at_.rows.2.2.2.2.2.2.2.2.1) (hb2.part (i := 8) rfl)
        rw [hc2] at hsp2 hxe2
        have hgr2 : (w91.setCell ⟨w.heap.size, 4, none⟩ (.slice A91 (i + 1) c91)).heap[w.heap.size]? = some (.cells c2.row 46 (0, 0)) := hb2.at_.row
        unfold G0C.row at hgr2
        rw [hc2] at hgr2
        have cl2 : (w91.setCell ⟨w.heap.size, 4, none⟩ (.slice A91 (i + 1) c91)).cell? ⟨w.heap.size, 10, none⟩ = some (.slice Ac2 i cc2) := cell_of_row _ _ 10 _ _ (0, 0) hgr2
        have glt2 := theap_lt hgr2
        have HB2 := hide_ hb2; have HO2 := hide_ ho2; have HN2 := hide_ hn2; have HSP2 := hide_ hsp2; have HXE2 := hide_ hxe2; have HGR2 := hide_ hgr2
        clear hb2 ho2 hn2 hsp2 hxe2 hgr2 hc2
        go_wp2_with (at_builtin; refine wpList_push rfl (.tmp 38) (.tmp 39) rfl intT rfl (HSP2.out.later (later_alloc _ _)) List.length_replicate (b := w91.heap.size) (c := 1) (cells := [.int .i64 50]) (el := 50) (Y := []) rfl (Rd.newAt (w91.setCell ⟨w.heap.size, 4, none⟩ (.slice A91 (i + 1) c91)) #[.int .i64 50] 3 1 1 _ (0, 0) rfl (by simp)) ⟨rfl, rfl⟩ (fun k hk => by cases hk) (by omega) (by unfold maxLen; omega) (Nat.zero_le _) ?c9)
        case c9 =>
          intro A92 c92 w92 hp9 hg9 hat9
          have hgr92 := (show Hits (fun q => (Value.slice Ac2 i cc2).ownBlock = some q) ((w91.setCell ⟨w.heap.size, 4, none⟩ (.slice A91 (i + 1) c91)).alloc (.cells #[.int .i64 50] 3)) w92 from (Hits.refl _ _).grown hg9 fun q hq _ => hq).row (later_row (later_alloc _ _) HGR2.out) (fun e => (List.nodup_cons.1 HB2.out.at_.nd).1 (List.mem_flatten.2 ⟨c2.Xt, by simp [G0C.xs], by rw [HXE2.out]; exact List.mem_append_left _ (mem_obL.2 e)⟩))
          have cg2 : w92.cell? ⟨w.heap.size, 10, none⟩ = some (.slice Ac2 i cc2) := cell_of_row _ _ 10 _ _ (0, 0) hgr92
          have gf2 : w92.frozen? ⟨w.heap.size, 10, none⟩ = false := frozen_of_row _ _ 10 _ _ hgr92
          have HS2 := hide_ (show BegS w (w92.setCell ⟨w.heap.size, 10, none⟩ (.slice A92 (i + 1) c92)) w.heap.size (.slice (some ⟨w.heap.size + 1, 0, none⟩) 0 0) [] (rangeC (i + 1)) (List.replicate (i + 1) 50) [] [] [] from by
            have h := BegS.push (HB2.out.later' (later_alloc _ _)) (own_later HO2.out (later_alloc _ _)) HN2.out 8 10 rfl HXE2.out (v' := .slice A92 (i + 1) c92) (Y := []) (by rw [List.append_nil]; exact hp9) hg9 (by simpa using hat9) (fun k hk => by cases hk) List.nodup_nil (fun k hk => by cases hk) (c' := { c2 with ut := .slice A92 (i + 1) c92, Xt := obL (.slice A92 (i + 1) c92) ++ (Xs2 ++ []) }) rfl rfl rfl rfl
            rw [rep_next]; exact h)
          clear hp9 hg9 hat9 hgr92
          clear cl1 cl2 glt1 glt2 cg1 gf1
          go_wp2_with fail
          go_roundw
          case rel => exact ⟨i + 1, by omega, by go_num, HS2⟩
          case measure => simp [intOf]; omega
    · obtain rfl : i = 2 := by omega
      have HS := hide_ (show BegS w wr w.heap.size (.slice (some ⟨w.heap.size + 1, 0, none⟩) 0 0) [] [20, 21] [50, 50] [] [] [] from HS.out)
      go_wp2_with fail
      go_loopw [6, 8] (fun s6 s8 wr => ∃ (j : Nat) (An : Option Addr) (cn : Nat), j ≤ 1 ∧ s8 = .int .i64 j ∧ s6 = .slice An j cn ∧ Hid (BegS w wr w.heap.size (.slice An j cn) ([80].take j) [20, 21] [50, 50] ([(50, 0)].take j) ([50].take j) ([[]].take j))) (fun _ j _ => 1 - (intOf j).toNat)
      case atStart => exact ⟨0, _, 0, by omega, rfl, rfl, HS⟩
      case round =>
        obtain ⟨j, An, cn, hj, rfl, rfl, HS⟩ := hrel
        by_cases hjl : j < 1
        · obtain rfl : j = 0 := by omega
          have HS := hide_ (show BegS w wr w.heap.size (.slice An 0 cn) [] [20, 21] [50, 50] [] [] [] from HS.out)
          have HSP0 := hide_ (show SliceP w.heap.size 3 intR wr (.slice An 0 cn) [] [] by
            obtain ⟨c, h1, h2, h3⟩ := HS.out
            exact ⟨[], [], h2, trivial, rfl, fun k hk => (by cases hk)⟩)
          have HWS := hide_ (show w.heap.size ≤ wr.heap.size by obtain ⟨c, h1, h2, h3⟩ := HS.out; exact h1.later.size)
          go_wp2_with (at_builtin; refine wpList_push rfl (.tmp 48) (.tmp 51) rfl intT rfl (HSP0.out.later (later_alloc wr _)) (show ([] : List Int).length = 0 from rfl) (b := wr.heap.size) (c := 1) (cells := [.int .i64 80]) (el := 80) (Y := []) rfl (Rd.newAt wr #[.int .i64 80] 3 1 1 _ (0, 0) rfl rfl) ⟨rfl, rfl⟩ (fun k hk => by cases hk) (by omega) (by unfold maxLen; omega) (Nat.le_trans HWS.out (later_alloc wr _).size) ?c8)
          case c8 =>
            intro An9 cn9 wn9 hp9 hg9 hat9
            have HS0 := hide_ (show BegS w wn9 w.heap.size (.slice An9 1 cn9) [80] [20, 21] [50, 50] [] [] [] from by
              refine (HS.out.later (later_alloc wr _)).nodes ?_ hg9 (by simpa using hat9)
              obtain ⟨rows, xs, h1, h2, _, _⟩ := hp9
              obtain ⟨e1, _⟩ := rows_plain (show Rows intR wn9 rows [80] xs from h2)
              rw [e1] at h1
              exact h1)
            clear hp9 hg9 hat9
            obtain ⟨c3, hb3, ho3, hn3⟩ := HS0.out
            obtain ⟨Ac3, cc3, hc3⟩ := slice_len (show mksR.holds wn9 [c3.um] [] c3.Xm from hb3.at_.rows.2.2.2.2.2.1)
            injection hc3 with hc3
            rw [show ([] : List (Int × Int)).length = 0 from rfl] at hc3
            obtain ⟨Xs3, hsp3, hxe3⟩ := holds_slice (show mksR.holds wn9 [c3.um] [] c3.Xm from hb3.at_.rows.2.2.2.2.2.1) (hb3.part (i := 5) rfl)
            rw [hc3] at hsp3 hxe3
            have hgr3 : wn9.heap[w.heap.size]? = some (.cells c3.row 46 (0, 0)) := hb3.at_.row
            unfold G0C.row at hgr3
            rw [hc3] at hgr3
            have cl3 : wn9.cell? ⟨w.heap.size, 7, none⟩ = some (.slice Ac3 0 cc3) := cell_of_row _ _ 7 _ _ (0, 0) hgr3
            have glt3 := theap_lt hgr3
            have HB3 := hide_ hb3; have HO3 := hide_ ho3; have HN3 := hide_ hn3; have HSP3 := hide_ hsp3; have HXE3 := hide_ hxe3; have HGR3 := hide_ hgr3
            clear hb3 ho3 hn3 hsp3 hxe3 hgr3 hc3
            have kz := Stands.cell (X := fun q => q = w.heap.size) cl3 rfl
            go_wp2_with fail
            have hbt3 := HB3.out.at_.lt
            have HNB3 := hide_ (show ∀ q, (Value.slice Ac3 0 cc3).ownBlock = some q → q ≠ w.heap.size ∧ q < wn9.heap.size from fun q hq => by
              have h1 : q ∈ c3.xs.flatten := List.mem_flatten.2 ⟨c3.Xm, by simp [G0C.xs], by rw [HXE3.out]; exact List.mem_append_left _ (mem_obL.2 hq)⟩
              exact ⟨fun e => (List.nodup_cons.1 HB3.out.at_.nd).1 (e ▸ h1), hbt3 q (List.mem_cons_of_mem _ h1)⟩)
            clear hbt3
            refine wp_region_z (R := Stands (fun q => q = w.heap.size)) [10] (by kernel_rfl) ?_
            refine wpAnyZ_pure (Stands.steady (fun q => q = w.heap.size)) 0 (v := ?_) rfl (by kernel_rfl) (by kernel_rfl) (by kernel_rfl) (fun _ _ _ h => h) (by rfl) (by intro W; go_simp; with_reducible rfl) ?_; try simp only [Act.put, qA, qZ, qS]
            refine wpAnyZ_pure (Stands.steady (fun q => q = w.heap.size)) 1 (v := ?_) rfl (by kernel_rfl) (by kernel_rfl) (by kernel_rfl) (fun _ _ _ h => h) (by rfl) (by intro W; go_simp; with_reducible rfl) ?_; try simp only [Act.put, qA, qZ, qS]
            refine wpAnyZ_pure (Stands.steady (fun q => q = w.heap.size)) 2 (v := ?_) rfl (by kernel_rfl) (by kernel_rfl) (by kernel_rfl) (fun _ _ _ h => h) (by rfl) (by intro W; go_simp; with_reducible rfl) ?_; try simp only [Act.put, qA, qZ, qS]
            refine wpAnyZ_pure (Stands.steady (fun q => q = w.heap.size)) 3 (v := ?_) rfl (by kernel_rfl) (by kernel_rfl) (by kernel_rfl) (fun _ _ _ h => h) (by rfl) (by intro W; go_simp; with_reducible rfl) ?_; try simp only [Act.put, qA, qZ, qS]
            refine wpAnyZ_take (Stands.steady (fun q => q = w.heap.size)) 4 (v := ?_) rfl (by kernel_rfl) (by kernel_rfl) (by kernel_rfl) (by kernel_rfl) (fun _ _ _ h => h) (by rfl) (by intro W hSw; have hS0 := Stands.trans (show Stands (fun q => q = w.heap.size) wn9 _ from by repeat first | with_reducible assumption | with_reducible exact Stands.refl _ _ | with_reducible refine Stands.alloc ?_ _ | with_reducible refine Stands.drew ?_ | with_reducible refine Stands.drewL ?_ | with_reducible refine Stands.setCell ?_ (by assumption) _ _ | assumption | refine Stands.trans ?_ (by assumption)) hSw; go_simp; with_reducible rfl) ?_; try simp only [Act.put, qA, qZ, qS]
            refine wpAnyZ_one 5 (by kernel_rfl) rfl (fun K hK => ?_)
            go_simp
            refine (lnew_any _).mono ?_; rintro e w5 ⟨rfl, hm5, hl5⟩; have hs5 : Stands (fun q => q = w.heap.size) _ w5 := Stands.of_later hl5
            refine hK.out _ _ (by repeat first | with_reducible assumption | with_reducible exact Stands.refl _ _ | with_reducible refine Stands.alloc ?_ _ | with_reducible refine Stands.drew ?_ | with_reducible refine Stands.drewL ?_ | with_reducible refine Stands.setCell ?_ (by assumption) _ _ | assumption | refine Stands.of_later ?_) ?_
            clear hK K; try simp only [Act.put, qA, qZ, qS]
            refine wpAnyZ_one 6 (by kernel_rfl) rfl (fun K hK => ?_)
            go_simp
            refine hK.out _ _ (by repeat first | with_reducible assumption | with_reducible exact Stands.refl _ _ | with_reducible refine Stands.alloc ?_ _ | with_reducible refine Stands.drew ?_ | with_reducible refine Stands.drewL ?_ | with_reducible refine Stands.setCell ?_ (by assumption) _ _ | assumption | refine Stands.of_later ?_) ?_
            clear hK K; try simp only [Act.put, qA, qZ, qS]
            refine wpAnyZ_one 7 (by kernel_rfl) rfl (fun K hK => ?_)
            refine step_push (by rfl) (.tmp 57) (.tmp 59) rfl mksT rfl ((HSP3.out.later ((Later.refl wn9).dr.trans hl5)).later (later_alloc w5 _)) (show ([] : List (Int × Int)).length = 0 from rfl) (b := w5.heap.size) (c := 1) (cells := [.pointer (some ⟨wn9.heap.size, 0, none⟩)]) (el := ((50 : Int), (0 : Int))) (Y := [wn9.heap.size]) rfl (Rd.newAt w5 #[.pointer (some ⟨wn9.heap.size, 0, none⟩)] 64 1 1 _ (0, 0) rfl rfl) ⟨_, _, [], rfl, later_row (later_alloc w5 _) hm5, ⟨rfl, rfl⟩, rfl⟩ (fun k hk e => by rw [List.mem_singleton.1 hk] at e; have h1 := (HNB3.out _ e).2; omega) (by omega) (by unfold maxLen; omega) (Nat.zero_le _) ?_; intro A93 c93 w93 hp9 hg9 hat9; have hs9 : Stands (fun q => q = w.heap.size) _ w93 := ((Hits.refl (fun q => (Value.slice Ac3 0 cc3).ownBlock = some q) _).grown hg9 (fun q hq _ => hq)).stands (fun q _ hq hx => (HNB3.out q hq).1 hx); have hs89 := (((Stands.refl (fun q => q = w.heap.size) wn9).drew.thenLater hl5).alloc _).trans hs9; have gf9 : w93.frozen? ⟨w.heap.size, 7, none⟩ = false := frozen_of_row _ _ 7 _ _ (hs89.2 w.heap.size _ rfl HGR3.out); have kc9 : w93.cell? ⟨w.heap.size, 7, none⟩ = some (.slice Ac3 0 cc3) := kz _ hs89
            refine hK.out _ _ (by repeat first | with_reducible assumption | with_reducible exact Stands.refl _ _ | with_reducible refine Stands.alloc ?_ _ | with_reducible refine Stands.drew ?_ | with_reducible refine Stands.drewL ?_ | with_reducible refine Stands.setCell ?_ (by assumption) _ _ | assumption | refine Stands.of_later ?_) ?_
            clear hK K; try simp only [Act.put, qA, qZ, qS]
            refine wpAnyZ_pure (Stands.steady (fun q => q = w.heap.size)) 8 (v := ?_) rfl (by kernel_rfl) (by kernel_rfl) (by kernel_rfl) (fun _ _ _ h => h) (by rfl) (by intro W; go_simp; with_reducible rfl) ?_; try simp only [Act.put, qA, qZ, qS]
            refine wpAnyZ_pure (Stands.steady (fun q => q = w.heap.size)) 9 (v := ?_) rfl (by kernel_rfl) (by kernel_rfl) (by kernel_rfl) (fun _ _ _ h => h) (by rfl) (by intro W; go_simp; with_reducible rfl) ?_; try simp only [Act.put, qA, qZ, qS]
            refine wpAnyZ_loud 10 (by kernel_rfl) (by rfl) rfl (fun K hK => ?_)
            go_simp
            refine hK.out _ _ ?_
            clear hK K; try simp only [Act.put, qA, qZ, qS]
            refine wpAnyZ_done (by kernel_rfl) ?_ _
            have hl5' : Later wn9 (w5.alloc (.cells #[.pointer (some ⟨wn9.heap.size, 0, none⟩)] 64)) := ((Later.refl wn9).dr.trans hl5).al _
            have hmlt := theap_lt hm5
            have HS3 := hide_ (show BegS w (w93.setCell ⟨w.heap.size, 7, none⟩ (.slice A93 1 c93)) w.heap.size (.slice An9 1 cn9) [80] [20, 21] [50, 50] [(50, 0)] [] [] from by
              have h := BegS.push (HB3.out.later' hl5') (own_later HO3.out hl5') HN3.out 5 7 rfl HXE3.out (v' := .slice A93 1 c93) (Y := [wn9.heap.size]) hp9 hg9 hat9 (fun k hk => by rw [List.mem_singleton.1 hk]; refine ⟨fun hm => ?_, ?_⟩; (have h1 := HB3.out.at_.lt _ hm; omega); (have h1 : wn9.heap.size < w5.heap.size := hmlt; have h2 := (later_alloc w5 (.cells #[.pointer (some ⟨wn9.heap.size, 0, none⟩)] 64)).size; omega)) (by simp) (fun k hk => by rw [List.mem_singleton.1 hk]; exact ⟨HB3.out.later.size, fun e => by have h1 := (own_block HO3.out e).2.1; omega⟩) (c' := { c3 with um := .slice A93 1 c93, Xm := obL (.slice A93 1 c93) ++ (Xs3 ++ [wn9.heap.size]) }) rfl rfl rfl rfl
              exact h)
            clear hp9 hg9 hat9
            clear hl5' hmlt hm5 hl5 hs5 hs9 hs89 gf9 kc9 kz cl3 glt3
            obtain ⟨c4, hb4, ho4, hn4⟩ := HS3.out
            obtain ⟨Ac4, cc4, hc4⟩ := slice_len (show intsR.holds (w93.setCell ⟨w.heap.size, 7, none⟩ (.slice A93 1 c93)) [c4.uj] [] c4.Xj from hb4.at_.rows.2.2.2.2.2.2.1)
            injection hc4 with hc4
            rw [show ([] : List Int).length = 0 from rfl] at hc4
            obtain ⟨Xs4, hsp4, hxe4⟩ := holds_slice (show intsR.holds (w93.setCell ⟨w.heap.size, 7, none⟩ (.slice A93 1 c93)) [c4.uj] [] c4.Xj from hb4.at_.rows.2.2.2.2.2.2.1) (hb4.part (i := 6) rfl)
            rw [hc4] at hsp4 hxe4
            have hgr4 : (w93.setCell ⟨w.heap.size, 7, none⟩ (.slice A93 1 c93)).heap[w.heap.size]? = some (.cells c4.row 46 (0, 0)) := hb4.at_.row
            unfold G0C.row at hgr4
            rw [hc4] at hgr4
            have cl4 : (w93.setCell ⟨w.heap.size, 7, none⟩ (.slice A93 1 c93)).cell? ⟨w.heap.size, 8, none⟩ = some (.slice Ac4 0 cc4) := cell_of_row _ _ 8 _ _ (0, 0) hgr4
            have glt4 := theap_lt hgr4
            have HB4 := hide_ hb4; have HO4 := hide_ ho4; have HN4 := hide_ hn4; have HSP4 := hide_ hsp4; have HXE4 := hide_ hxe4; have HGR4 := hide_ hgr4
            clear hb4 ho4 hn4 hsp4 hxe4 hgr4 hc4
            go_wp2_with (at_builtin; refine wpList_push rfl (.tmp 67) (.tmp 68) rfl intT rfl (HSP4.out.later (later_alloc _ _)) (show ([] : List Int).length = 0 from rfl) (b := w93.heap.size) (c := 1) (cells := [.int .i64 50]) (el := 50) (Y := []) rfl (Rd.newAt (w93.setCell ⟨w.heap.size, 7, none⟩ (.slice A93 1 c93)) #[.int .i64 50] 3 1 1 _ (0, 0) rfl (by simp)) ⟨rfl, rfl⟩ (fun k hk => by cases hk) (by omega) (by unfold maxLen; omega) (Nat.zero_le _) ?c9)
            case c9 =>
              intro A94 c94 w94 hp9 hg9 hat9
              have hgr94 := (show Hits (fun q => (Value.slice Ac4 0 cc4).ownBlock = some q) ((w93.setCell ⟨w.heap.size, 7, none⟩ (.slice A93 1 c93)).alloc (.cells #[.int .i64 50] 3)) w94 from (Hits.refl _ _).grown hg9 fun q hq _ => hq).row (later_row (later_alloc _ _) HGR4.out) (fun e => (List.nodup_cons.1 HB4.out.at_.nd).1 (List.mem_flatten.2 ⟨c4.Xj, by simp [G0C.xs], by rw [HXE4.out]; exact List.mem_append_left _ (mem_obL.2 e)⟩))
              have cg4 : w94.cell? ⟨w.heap.size, 8, none⟩ = some (.slice Ac4 0 cc4) := cell_of_row _ _ 8 _ _ (0, 0) hgr94
              have gf4 : w94.frozen? ⟨w.heap.size, 8, none⟩ = false := frozen_of_row _ _ 8 _ _ hgr94
              have HS4 := hide_ (show BegS w (w94.setCell ⟨w.heap.size, 8, none⟩ (.slice A94 1 c94)) w.heap.size (.slice An9 1 cn9) [80] [20, 21] [50, 50] [(50, 0)] [50] [] from by
                have h := BegS.push (HB4.out.later' (later_alloc _ _)) (own_later HO4.out (later_alloc _ _)) HN4.out 6 8 rfl HXE4.out (v' := .slice A94 1 c94) (Y := []) (by rw [List.append_nil]; exact hp9) hg9 (by simpa using hat9) (fun k hk => by cases hk) List.nodup_nil (fun k hk => by cases hk) (c' := { c4 with uj := .slice A94 1 c94, Xj := obL (.slice A94 1 c94) ++ (Xs4 ++ []) }) rfl rfl rfl rfl
                exact h)
              clear hp9 hg9 hat9 hgr94
              obtain ⟨c5, hb5, ho5, hn5⟩ := HS4.out
              obtain ⟨Ac5, cc5, hc5⟩ := slice_len (show saidR.holds (w94.setCell ⟨w.heap.size, 8, none⟩ (.slice A94 1 c94)) [c5.us] [] c5.Xs from hb5.at_.rows.2.2.2.2.2.2.2.1)
              injection hc5 with hc5
              rw [show ([] : List (List Int)).length = 0 from rfl] at hc5
              obtain ⟨Xs5, hsp5, hxe5⟩ := holds_slice (show saidR.holds (w94.setCell ⟨w.heap.size, 8, none⟩ (.slice A94 1 c94)) [c5.us] [] c5.Xs from hb5.at_.rows.2.2.2.2.2.2.2.1) (hb5.part (i := 7) rfl)
              rw [hc5] at hsp5 hxe5
              have hgr5 : (w94.setCell ⟨w.heap.size, 8, none⟩ (.slice A94 1 c94)).heap[w.heap.size]? = some (.cells c5.row 46 (0, 0)) := hb5.at_.row
              unfold G0C.row at hgr5
              rw [hc5] at hgr5
              have cl5 : (w94.setCell ⟨w.heap.size, 8, none⟩ (.slice A94 1 c94)).cell? ⟨w.heap.size, 9, none⟩ = some (.slice Ac5 0 cc5) := cell_of_row _ _ 9 _ _ (0, 0) hgr5
              have glt5 := theap_lt hgr5
              have HB5 := hide_ hb5; have HO5 := hide_ ho5; have HN5 := hide_ hn5; have HSP5 := hide_ hsp5; have HXE5 := hide_ hxe5; have HGR5 := hide_ hgr5
              clear hb5 ho5 hn5 hsp5 hxe5 hgr5 hc5
              go_wp2_with (at_builtin; refine wpList_push rfl (.tmp 76) (.tmp 77) rfl lsT rfl (HSP5.out.later (later_alloc _ _)) (show ([] : List (List Int)).length = 0 from rfl) (b := w94.heap.size) (c := 1) (cells := [.slice none 0 0]) (el := ([] : List Int)) (Y := []) rfl (Rd.newAt (w94.setCell ⟨w.heap.size, 8, none⟩ (.slice A94 1 c94)) #[.slice none 0 0] 35 1 1 _ (0, 0) rfl (by simp)) (ints_holds.2 ⟨_, rfl, World.ownsRow_nil _ _ _ _, rfl⟩) (fun k hk => by cases hk) (by omega) (by unfold maxLen; omega) (Nat.zero_le _) ?c10)
              case c10 =>
                intro A95 c95 w95 hp9 hg9 hat9
                have hgr95 := (show Hits (fun q => (Value.slice Ac5 0 cc5).ownBlock = some q) ((w94.setCell ⟨w.heap.size, 8, none⟩ (.slice A94 1 c94)).alloc (.cells #[.slice none 0 0] 35)) w95 from (Hits.refl _ _).grown hg9 fun q hq _ => hq).row (later_row (later_alloc _ _) HGR5.out) (fun e => (List.nodup_cons.1 HB5.out.at_.nd).1 (List.mem_flatten.2 ⟨c5.Xs, by simp [G0C.xs], by rw [HXE5.out]; exact List.mem_append_left _ (mem_obL.2 e)⟩))
                have cg5 : w95.cell? ⟨w.heap.size, 9, none⟩ = some (.slice Ac5 0 cc5) := cell_of_row _ _ 9 _ _ (0, 0) hgr95
                have gf5 : w95.frozen? ⟨w.heap.size, 9, none⟩ = false := frozen_of_row _ _ 9 _ _ hgr95
                have HS5 := hide_ (show BegS w (w95.setCell ⟨w.heap.size, 9, none⟩ (.slice A95 1 c95)) w.heap.size (.slice An9 1 cn9) [80] [20, 21] [50, 50] [(50, 0)] [50] [[]] from by
                  have h := BegS.push (HB5.out.later' (later_alloc _ _)) (own_later HO5.out (later_alloc _ _)) HN5.out 7 9 rfl HXE5.out (v' := .slice A95 1 c95) (Y := []) (by rw [List.append_nil]; exact hp9) hg9 (by simpa using hat9) (fun k hk => by cases hk) List.nodup_nil (fun k hk => by cases hk) (c' := { c5 with us := .slice A95 1 c95, Xs := obL (.slice A95 1 c95) ++ (Xs5 ++ []) }) rfl rfl rfl rfl
                  exact h)
                clear hp9 hg9 hat9 hgr95
                clear cl4 cl5 glt4 glt5 cg4 gf4
                go_wp2_with fail
                go_roundw
                case rel => (repeat apply Exists.intro); exact ⟨⟨1, An9, cn9, by omega, rfl, rfl, HS5⟩, rfl⟩
                case measure => simp [intOf]
        · obtain rfl : j = 1 := by omega
          have HS := hide_ (show BegS w wr w.heap.size (.slice An 1 cn) [80] [20, 21] [50, 50] [(50, 0)] [50] [[]] from HS.out)
          go_wp2_with fail
          obtain ⟨Wz, hWz⟩ : ∃ V, V = wr := ⟨_, rfl⟩
          rw [← hWz] at HS ⊢
          clear hWz
          go_loopw [9] (fun s9 wr => s9 = .int .i64 1 ∧ Hid (wr = Wz)) (fun _ _ => 0)
          case atStart => exact ⟨rfl, hide_ rfl⟩
          case round =>
            obtain ⟨rfl, HQ⟩ := hrel
            have hq := HQ.out
            subst hq
            obtain ⟨c, hb, ho, hn⟩ := HS.out
            obtain ⟨v, ev, hov, _⟩ := ints_holds.1 (show intsR.holds wr [c.uc] [20, 21] c.Xc from hb.at_.rows.2.2.1)
            injection ev with ev
            obtain ⟨Ac, cc, rfl⟩ := own_form hov
            have hgr : wr.heap[w.heap.size]? = some (.cells c.row 46 (0, 0)) := hb.at_.row
            unfold G0C.row at hgr
            rw [ev] at hgr
            have k1 := Stands.cell (X := fun q => q = w.heap.size) (show wr.cell? ⟨w.heap.size, 1, none⟩ = some (.int .i64 2) from cell_of_row _ _ 1 _ _ (0, 0) hgr) rfl
            have k2 := Stands.cell (X := fun q => q = w.heap.size) (show wr.cell? ⟨w.heap.size, 2, none⟩ = some (.int .i64 300) from cell_of_row _ _ 2 _ _ (0, 0) hgr) rfl
            have k3 := Stands.cell (X := fun q => q = w.heap.size) (show wr.cell? ⟨w.heap.size, 3, none⟩ = some (.int .i64 50) from cell_of_row _ _ 3 _ _ (0, 0) hgr) rfl
            have k4 := Stands.cell (X := fun q => q = w.heap.size) (show wr.cell? ⟨w.heap.size, 4, none⟩ = some (.slice Ac 2 cc) from cell_of_row _ _ 4 _ _ (0, 0) hgr) rfl
            have k5 := Stands.cell (X := fun q => q = w.heap.size) (show wr.cell? ⟨w.heap.size, 5, none⟩ = some (.slice none 0 0) from cell_of_row _ _ 5 _ _ (0, 0) hgr) rfl
            have hc0 : Ac = none → ([20, 21] : List Int).length = 0 := by
              rintro rfl
              rcases hov.2 with ⟨_, h0⟩ | ⟨_, _, _, e1, _⟩
              · exact h0
              · cases e1
            have hr0 : An = none → ([80] : List Int).length = 0 := by
              rintro rfl
              rcases ho.2 with ⟨_, h0⟩ | ⟨_, _, _, e1, _⟩
              · exact h0
              · cases e1
            have hna : NewArgs wr Ac An none cc cn 0 [20, 21] [80] [] := ⟨Rd.of_own (show wr.ownsRow 0 3 1 (.slice Ac 2 cc) 2 (ints [20, 21]) from hov), Rd.of_own (show wr.ownsRow w.heap.size 3 1 (.slice An 1 cn) 1 (ints [80]) from ho), Rd.of_own (base := 0) (e := 9) (c := 0) (World.ownsRow_nil _ _ _ _), by decide, by decide, by decide, hc0, hr0, fun _ => rfl⟩
            have HNW := hide_ (new_ok (hna.later (Later.refl wr).dr) 60 2 300 50 50 (by unfold newBad; decide) (by decide))
            have HB := hide_ hb; have HGR := hide_ hgr
            have glt := theap_lt hgr
            clear hb ho hn hov hgr hna ev hc0 hr0
            go_wp2_with fail
            refine wp_region_z (R := Stands (fun q => q = w.heap.size)) [] (by kernel_rfl) ?_
            refine wpAnyZ_take0 (Stands.steady (fun q => q = w.heap.size)) 0 (v := ?_) rfl (by kernel_rfl) (by kernel_rfl) (by kernel_rfl) (fun _ _ _ h => h) (by rfl) (by intro W hSw; go_simp; with_reducible rfl) ?_; try simp only [Act.put, qA, qZ, qS]
            refine wpAnyZ_take0 (Stands.steady (fun q => q = w.heap.size)) 1 (v := ?_) rfl (by kernel_rfl) (by kernel_rfl) (by kernel_rfl) (fun _ _ _ h => h) (by rfl) (by intro W hSw; go_simp; with_reducible rfl) ?_; try simp only [Act.put, qA, qZ, qS]
            refine wpAnyZ_take0 (Stands.steady (fun q => q = w.heap.size)) 2 (v := ?_) rfl (by kernel_rfl) (by kernel_rfl) (by kernel_rfl) (fun _ _ _ h => h) (by rfl) (by intro W hSw; go_simp; with_reducible rfl) ?_; try simp only [Act.put, qA, qZ, qS]
            refine wpAnyZ_take0 (Stands.steady (fun q => q = w.heap.size)) 3 (v := ?_) rfl (by kernel_rfl) (by kernel_rfl) (by kernel_rfl) (fun _ _ _ h => h) (by rfl) (by intro W hSw; have hS0 := Stands.trans (show Stands (fun q => q = w.heap.size) wr _ from by repeat first | with_reducible assumption | with_reducible exact Stands.refl _ _ | with_reducible refine Stands.alloc ?_ _ | with_reducible refine Stands.drew ?_ | with_reducible refine Stands.drewL ?_ | with_reducible refine Stands.setCell ?_ (by assumption) _ _ | assumption | refine Stands.trans ?_ (by assumption)) hSw; go_simp; with_reducible rfl) ?_; try simp only [Act.put, qA, qZ, qS]
            refine wpAnyZ_take0 (Stands.steady (fun q => q = w.heap.size)) 4 (v := ?_) rfl (by kernel_rfl) (by kernel_rfl) (by kernel_rfl) (fun _ _ _ h => h) (by rfl) (by intro W hSw; go_simp; with_reducible rfl) ?_; try simp only [Act.put, qA, qZ, qS]
            refine wpAnyZ_take0 (Stands.steady (fun q => q = w.heap.size)) 5 (v := ?_) rfl (by kernel_rfl) (by kernel_rfl) (by kernel_rfl) (fun _ _ _ h => h) (by rfl) (by intro W hSw; go_simp; with_reducible rfl) ?_; try simp only [Act.put, qA, qZ, qS]
            refine wpAnyZ_take0 (Stands.steady (fun q => q = w.heap.size)) 6 (v := ?_) rfl (by kernel_rfl) (by kernel_rfl) (by kernel_rfl) (fun _ _ _ h => h) (by rfl) (by intro W hSw; go_simp; with_reducible rfl) ?_; try simp only [Act.put, qA, qZ, qS]
            refine wpAnyZ_take0 (Stands.steady (fun q => q = w.heap.size)) 7 (v := ?_) rfl (by kernel_rfl) (by kernel_rfl) (by kernel_rfl) (fun _ _ _ h => h) (by rfl) (by intro W hSw; go_simp; with_reducible rfl) ?_; try simp only [Act.put, qA, qZ, qS]
            refine wpAnyZ_take0 (Stands.steady (fun q => q = w.heap.size)) 8 (v := ?_) rfl (by kernel_rfl) (by kernel_rfl) (by kernel_rfl) (fun _ _ _ h => h) (by rfl) (by intro W hSw; have hS0 := Stands.trans (show Stands (fun q => q = w.heap.size) wr _ from by repeat first | with_reducible assumption | with_reducible exact Stands.refl _ _ | with_reducible refine Stands.alloc ?_ _ | with_reducible refine Stands.drew ?_ | with_reducible refine Stands.drewL ?_ | with_reducible refine Stands.setCell ?_ (by assumption) _ _ | assumption | refine Stands.trans ?_ (by assumption)) hSw; go_simp; with_reducible rfl) ?_; try simp only [Act.put, qA, qZ, qS]
            refine wpAnyZ_one 9 (by kernel_rfl) rfl (fun K hK => ?_)
            go_simp
            refine HNW.out.mono ?_; rintro e w5 ⟨f, Xf, rfl, hf, hXf, hl5⟩; have hs5 : Stands (fun q => q = w.heap.size) _ w5 := Stands.of_later hl5
            refine hK.out _ _ (by repeat first | with_reducible assumption | with_reducible exact Stands.refl _ _ | with_reducible refine Stands.alloc ?_ _ | with_reducible refine Stands.drew ?_ | with_reducible refine Stands.drewL ?_ | with_reducible refine Stands.setCell ?_ (by assumption) _ _ | assumption | refine Stands.of_later ?_) ?_
            clear hK K; try simp only [Act.put, qA, qZ, qS]
            refine wpAnyZ_take0 (Stands.steady (fun q => q = w.heap.size)) 10 (v := ?_) rfl (by kernel_rfl) (by kernel_rfl) (by kernel_rfl) (fun _ _ _ h => h) (by rfl) (by intro W hSw; go_simp; with_reducible rfl) ?_; try simp only [Act.put, qA, qZ, qS]
            refine wpAnyZ_take0 (Stands.steady (fun q => q = w.heap.size)) 11 (v := ?_) rfl (by kernel_rfl) (by kernel_rfl) (by kernel_rfl) (fun _ _ _ h => h) (by rfl) (by intro W hSw; go_simp; with_reducible rfl) ?_; try simp only [Act.put, qA, qZ, qS]
            refine wpAnyZ_take0 (Stands.steady (fun q => q = w.heap.size)) 12 (v := ?_) rfl (by kernel_rfl) (by kernel_rfl) (by kernel_rfl) (fun _ _ _ h => h) (by rfl) (by intro W hSw; go_simp; with_reducible rfl) ?_; try simp only [Act.put, qA, qZ, qS]
            refine wpAnyZ_take0 (Stands.steady (fun q => q = w.heap.size)) 13 (v := ?_) rfl (by kernel_rfl) (by kernel_rfl) (by kernel_rfl) (fun _ _ _ h => h) (by rfl) (by intro W hSw; go_simp; with_reducible rfl) ?_; try simp only [Act.put, qA, qZ, qS]
            refine wpAnyZ_take0 (Stands.steady (fun q => q = w.heap.size)) 14 (v := ?_) rfl (by kernel_rfl) (by kernel_rfl) (by kernel_rfl) (fun _ _ _ h => h) (by rfl) (by intro W hSw; go_simp; with_reducible rfl) ?_; try simp only [Act.put, qA, qZ, qS]
            refine wpAnyZ_done (by kernel_rfl) ?_ _
            have hl5' := (Later.refl wr).dr.trans hl5
            have hg5 := later_row hl5' HGR.out
            have c0 : w5.cell? ⟨w.heap.size, 0, none⟩ = some (.pointer none) := cell_of_row _ _ 0 _ _ (0, 0) hg5
            have f0 := frozen_of_row _ _ 0 _ _ hg5
            have hat5 := HB.out.at_.later hl5'
            have hXf' : ∀ k ∈ Xf, wr.heap.size ≤ k := hXf
            have hfin : GmH (w5.setCell ⟨w.heap.size, 0, none⟩ (.pointer (some ⟨f, 0, none⟩))) w.heap.size (d0 f) (w.heap.size :: (c.xs.set 0 Xf).flatten) ∧ (∀ k ∈ w.heap.size :: (c.xs.set 0 Xf).flatten, w.heap.size ≤ k) ∧ Later w (w5.setCell ⟨w.heap.size, 0, none⟩ (.pointer (some ⟨f, 0, none⟩))) := by
              have hgX : w.heap.size ∉ Xf := fun hm => by have h1 := hXf' _ hm; omega
              have hh : Hits (· = w.heap.size) w5 (w5.setCell ⟨w.heap.size, 0, none⟩ (.pointer (some ⟨f, 0, none⟩))) := (Hits.refl (· = w.heap.size) w5).setCell (g := w.heap.size) (fun _ => rfl) 0 _
              obtain ⟨h1, h2, h3⟩ := hat5.turn (i := 0) (x := []) (x' := Xf) (c' := [.pointer (some ⟨f, 0, none⟩)]) (f' := frontFld f (fr0 60 2 300 50 50 [20, 21] [80] [])) rfl (hh.mono fun _ _ h => .inl h) (heap_setCell_same _ _ 0 _ _ _ hat5.row) ⟨rfl, hf.frame hh fun k hk e => hgX (e ▸ hk)⟩ (by obtain ⟨_, _, _, h⟩ := hf; exact h)
                (fun k hk => .inr ⟨fun hm => by have h1 := HB.out.at_.lt k hm; have h2 := hXf' k hk; omega, fun f hf hm => by rw [g0_ro f hf] at hm; cases hm⟩) (fun k hk => by cases hk)
              have hsn : ∀ W : World, strsR.holds W [.slice none 0 0] [] [] := fun W => strs_holds.2 ⟨_, rfl, World.ownsRow_nil _ _ _ _, rfl⟩
              obtain ⟨r0, r1, r2, r3, r4, r5, r6, r7, r8, r9, r10, r11, _⟩ := h1.rows
              refine ⟨⟨⟨c.uc, .slice none 0 0, .slice none 0 0, c.um, c.uj, c.us, c.ut, .slice none 0 0, .slice none 0 0, Xf, c.Xc, [], [], c.Xm, c.Xj, c.Xs, c.Xt, [], []⟩, ⟨h1.row, ⟨r0, r1, r2, hsn _, ⟨_, rfl, SliceP.nil _ _ _ _, rfl⟩, r5, r6, r7, r8, (SliceP.nil 0 _ _ _).holds, (SliceP.nil 0 _ _ _).holds, r11, trivial⟩, h1.nd, fun q hq k hk => ?_⟩, rfl⟩, fun k hk => ?_, ?_⟩
              · simp only [gmFields, d0, List.mem_cons, List.not_mem_nil, or_false] at hq
                rcases hq with rfl | rfl | rfl | rfl | rfl | rfl | rfl | rfl | rfl | rfl | rfl | rfl <;> cases hk
              · rcases h3 k hk with h4 | h4
                · exact HB.out.base k h4
                · exact Nat.le_trans HB.out.later.size (hXf' k h4)
              · exact Below.trans (HB.out.later.trans hl5') (hh.below (B := w.heap.size) (HB.out.later.trans hl5').size fun k hk => by omega)
            have HF := hide_ hfin
            clear hl5' hg5 hat5 hXf' hfin hf hXf hl5 hs5 k1 k2 k3 k4 k5
            go_wp2_with fail
            go_ret
            exact ⟨_, _, f, rfl, HF.out.1, HF.out.2.1, HF.out.2.2⟩

end Go.Proofs.YtcmollfhlillfaaGreatDoor
/-
  The law's game: push of what is there already.
-/
namespace Go.Proofs.YtcmollfhlillfaaGreatDoor
open Go.RowKit
set_option linter.unusedVariables false
set_option linter.unusedSimpArgs false
set_option maxHeartbeats 8000000 in
set_option maxRecDepth 100000 in
theorem gpush_same {w : World} {g : Nat} {d : Gm} {X : List Nat} (h : GmH w g d X) {i : Nat} (ht : d.tops[i]? = some 50) (hbs : d.bats = [b1050]) {b0 : Nat} (hb : w.heap[b0]? = some (.cells #[] 142 (0, 0))) (hbX : b0 ∉ X) (hbZ : b0 ∉ d.wz) :
    Calls Tryz.prog 46 #[.pointer (some ⟨g, 0, none⟩), .int .i64 i, .agg #[.int .i64 50, .int .i64 1050, .int .i64 50, .slice (some ⟨b0, 0, none⟩) 0 0]] w (PushedPost w g X { d with tops := d.tops.set i 1050 } b0) := by
  have HXLT := hide_ h.lt
  obtain ⟨c, hat, hX⟩ := h
  obtain ⟨Wm, hW⟩ : ∃ Wm, Wm = w.alloc (.cells #[.int .i64 50, .int .i64 1050, .int .i64 50, .slice (some ⟨b0, 0, none⟩) 0 0] 91) := ⟨_, rfl⟩
  have hl : Later w Wm := by rw [hW]; exact later_alloc _ _
  have hbr : Wm.heap[w.heap.size]? = some (.cells #[.int .i64 50, .int .i64 1050, .int .i64 50, .slice (some ⟨b0, 0, none⟩) 0 0] 91 (0, 0)) := by rw [hW]; exact heap_alloc_new _ _
  have hat1 := hat.later hl
  have hgr := GmAt.cells hat1
  obtain ⟨v, e, ho, hx⟩ := ints_holds.1 (GmAt.p hat1).tops
  injection e with e
  obtain ⟨gt', ct, hv⟩ := own_form ho
  have hlt := (List.getElem?_eq_some_iff.1 ht).1
  obtain ⟨gt, orr, ev, l0⟩ := (Rd.of_own (show Wm.ownsRow 0 3 1 (.slice gt' d.tops.length ct) d.tops.length (ints d.tops) by rw [← hv]; exact ho)).int ht
  subst ev
  have horr : orr = 0 := by
    rcases ho.2 with ⟨e1, _⟩ | ⟨g2, _, _, e1, _⟩
    · rw [hv] at e1; cases e1
    · rw [hv] at e1; injection e1 with e1 _ _; injection e1 with e1; injection e1 with _ e1 _
  subst horr
  rw [Nat.zero_add] at l0
  obtain ⟨nt, hnt⟩ : ∃ nt, nt = d.tops.length := ⟨_, rfl⟩
  have hut : c.ut = .slice (some ⟨gt, 0, none⟩) nt ct := by rw [e, hv, hnt]
  unfold gmRow at hgr
  rw [hut] at hgr
  have q1 : (i : Int) < (nt : Int) := by omega
  have q2 : (0 : Int) ≤ (i : Int) := by omega
  have hgg : g ≠ gt := fun eg => by
    have h1 := (hat.part (i := 8) (x := c.Xt) rfl).2.2
    rw [hx, ← e, hut, eg] at h1
    exact h1 (by simp [obL, Value.ownBlock])
  have hub : ∃ Aa ca, c.ua = .slice Aa 1 ca := by
    obtain ⟨Aa, ca, e2⟩ := slice_len (GmAt.p hat1).bats
    injection e2 with e2
    rw [hbs] at e2
    exact ⟨Aa, ca, e2⟩
  obtain ⟨Aa, ca, hua⟩ := hub
  rw [hua] at hgr
  have glt := theap_lt hgr
  have tlt := cell_lt l0
  have blt := theap_lt hbr
  have HAT := hide_ hat1; have HB := hide_ hbr; have HGR := hide_ hgr; have HL0 := hide_ l0; have HW := hide_ hW; have HL := hide_ hl; have HUT := hide_ hut; have HUA := hide_ hua; have HX := hide_ hX; have HBS := hide_ hbs; have HBC := hide_ (later_row hl hb); have HBX := hide_ hbX; have HBZ := hide_ hbZ
  have k0 := later_drew_cell (show Wm.cell? ⟨w.heap.size, 0, none⟩ = some (.int .i64 50) from cell_of_row _ _ 0 _ _ (0, 0) hbr)
  have k1 := later_drew_cell (show Wm.cell? ⟨w.heap.size, 1, none⟩ = some (.int .i64 1050) from cell_of_row _ _ 1 _ _ (0, 0) hbr)
  have k2 := later_drew_cell (show Wm.cell? ⟨w.heap.size, 2, none⟩ = some (.int .i64 50) from cell_of_row _ _ 2 _ _ (0, 0) hbr)
  have g10 := later_drew_cell (show Wm.cell? ⟨g, 10, none⟩ = some (.slice (some ⟨gt, 0, none⟩) nt ct) from cell_of_row _ _ 10 _ _ (0, 0) hgr)
  have t0 := later_drew_cell l0
  clear hat hat1 hX hW hl hbr hgr e ho hx hv hut hua hbs hb hbX hbZ l0 ht hnt hlt
  go_enter Tryz.func46, Tryz.ntmps46
  go_wp2_with (rw [← HW.out])
  refine wp_region_k (by kernel_rfl) ?_
  refine wKt 0 (v := ?_) rfl (by intro W hSw; go_simp; with_reducible rfl) ?_; try simp only [Act.put, qA, qZ, qS]
  refine wKt 1 (v := ?_) rfl (by intro W hSw; go_simp; with_reducible rfl) ?_; try simp only [Act.put, qA, qZ, qS]
  refine wKt 2 (v := ?_) rfl (by intro W hSw; go_simp; with_reducible rfl) ?_; try simp only [Act.put, qA, qZ, qS]
  refine wKt 3 (v := ?_) rfl (by intro W hSw; go_simp; with_reducible rfl) ?_; try simp only [Act.put, qA, qZ, qS]
  refine wKt 4 (v := ?_) rfl (by intro W hSw; go_simp; with_reducible rfl) ?_; try simp only [Act.put, qA, qZ, qS]
  refine wKt 5 (v := ?_) rfl (by intro W hSw; go_simp; with_reducible rfl) ?_; try simp only [Act.put, qA, qZ, qS]
  refine wKt 6 (v := ?_) rfl (by intro W hSw; go_simp; with_reducible rfl) ?_; try simp only [Act.put, qA, qZ, qS]
  refine wKt 7 (v := ?_) rfl (by intro W hSw; go_simp; with_reducible rfl) ?_; try simp only [Act.put, qA, qZ, qS]
  refine wKt 8 (v := ?_) rfl (by intro W hSw; go_simp; with_reducible rfl) ?_; try simp only [Act.put, qA, qZ, qS]
  refine wKt 9 (v := ?_) rfl (by intro W hSw; go_simp; with_reducible rfl) ?_; try simp only [Act.put, qA, qZ, qS]
  refine wpAnyK_done (by kernel_rfl) ?_ _
  clear k0 k1 k2 g10 t0 glt tlt blt
  obtain ⟨W1, hW1⟩ : ∃ V, V = Wm.drew := ⟨_, rfl⟩
  have HB := hide_ (show W1.heap[w.heap.size]? = some (.cells #[.int .i64 50, .int .i64 1050, .int .i64 50, .slice (some ⟨b0, 0, none⟩) 0 0] 91 (0, 0)) by rw [hW1]; exact later_row (Later.refl Wm).dr HB.out)
  have HGR := hide_ (later_row (show Later Wm W1 by rw [hW1]; exact (Later.refl Wm).dr) HGR.out)
  have HL0 := hide_ (show W1.cell? ⟨gt, i, none⟩ = some (.int .i64 50) by rw [hW1]; exact ((Later.refl Wm).dr.cell (cell_lt HL0.out)).trans HL0.out)
  have HAT := hide_ (show GmAt W1 g d c by rw [hW1]; exact ObjAt.later HAT.out (Later.refl Wm).dr)
  have HBC := hide_ (show W1.heap[b0]? = some (.cells #[] 142 (0, 0)) by rw [hW1]; exact later_row (Later.refl Wm).dr HBC.out)
  have HL := hide_ (show Later w W1 by rw [hW1]; exact HL.out.trans (Later.refl Wm).dr)
  rw [← hW1]
  have glt := theap_lt HGR.out
  have tlt := cell_lt HL0.out
  have blt := theap_lt HB.out
  clear hW1
  have k0 := later_drew_cell (show W1.cell? ⟨w.heap.size, 0, none⟩ = some (.int .i64 50) from cell_of_row _ _ 0 _ _ (0, 0) HB.out)
  have k1 := later_drew_cell (show W1.cell? ⟨w.heap.size, 1, none⟩ = some (.int .i64 1050) from cell_of_row _ _ 1 _ _ (0, 0) HB.out)
  have k2 := later_drew_cell (show W1.cell? ⟨w.heap.size, 2, none⟩ = some (.int .i64 50) from cell_of_row _ _ 2 _ _ (0, 0) HB.out)
  have g10 := later_drew_cell (show W1.cell? ⟨g, 10, none⟩ = some (.slice (some ⟨gt, 0, none⟩) nt ct) from cell_of_row _ _ 10 _ _ (0, 0) HGR.out)
  have t0 := later_drew_cell HL0.out
  go_wp2_with fail
  refine wp_region_k (by kernel_rfl) ?_
  refine wKt 0 (v := ?_) rfl (by intro W hSw; go_simp; with_reducible rfl) ?_; try simp only [Act.put, qA, qZ, qS]
  refine wKt 1 (v := ?_) rfl (by intro W hSw; go_simp; with_reducible rfl) ?_; try simp only [Act.put, qA, qZ, qS]
  refine wKt 2 (v := ?_) rfl (by intro W hSw; go_simp; with_reducible rfl) ?_; try simp only [Act.put, qA, qZ, qS]
  refine wKt 3 (v := ?_) rfl (by intro W hSw; go_simp; with_reducible rfl) ?_; try simp only [Act.put, qA, qZ, qS]
  refine wKt 4 (v := ?_) rfl (by intro W hSw; go_simp; with_reducible rfl) ?_; try simp only [Act.put, qA, qZ, qS]
  refine wKt 5 (v := ?_) rfl (by intro W hSw; go_simp; with_reducible rfl) ?_; try simp only [Act.put, qA, qZ, qS]
  refine wKt 6 (v := ?_) rfl (by intro W hSw; go_simp; with_reducible rfl) ?_; try simp only [Act.put, qA, qZ, qS]
  refine wKt 7 (v := ?_) rfl (by intro W hSw; go_simp; with_reducible rfl) ?_; try simp only [Act.put, qA, qZ, qS]
  refine wKt 8 (v := ?_) rfl (by intro W hSw; go_simp; with_reducible rfl) ?_; try simp only [Act.put, qA, qZ, qS]
  refine wKt 9 (v := ?_) rfl (by intro W hSw; go_simp; with_reducible rfl) ?_; try simp only [Act.put, qA, qZ, qS]
  refine wKt 10 (v := ?_) rfl (by intro W hSw; go_simp; with_reducible rfl) ?_; try simp only [Act.put, qA, qZ, qS]
  refine wKt 11 (v := ?_) rfl (by intro W hSw; go_simp; with_reducible rfl) ?_; try simp only [Act.put, qA, qZ, qS]
  refine wKt 12 (v := ?_) rfl (by intro W hSw; go_simp; with_reducible rfl) ?_; try simp only [Act.put, qA, qZ, qS]
  refine wKt 13 (v := ?_) rfl (by intro W hSw; go_simp; with_reducible rfl) ?_; try simp only [Act.put, qA, qZ, qS]
  refine wKt 14 (v := ?_) rfl (by intro W hSw; go_simp; with_reducible rfl) ?_; try simp only [Act.put, qA, qZ, qS]
  refine wKt 15 (v := ?_) rfl (by intro W hSw; go_simp; with_reducible rfl) ?_; try simp only [Act.put, qA, qZ, qS]
  refine wKt 16 (v := ?_) rfl (by intro W hSw; go_simp; with_reducible rfl) ?_; try simp only [Act.put, qA, qZ, qS]
  refine wKt 17 (v := ?_) rfl (by intro W hSw; go_simp; with_reducible rfl) ?_; try simp only [Act.put, qA, qZ, qS]
  refine wKt 18 (v := ?_) rfl (by intro W hSw; go_simp; with_reducible rfl) ?_; try simp only [Act.put, qA, qZ, qS]
  refine wKt 19 (v := ?_) rfl (by intro W hSw; go_simp; with_reducible rfl) ?_; try simp only [Act.put, qA, qZ, qS]
  refine wKt 20 (v := ?_) rfl (by intro W hSw; go_simp; with_reducible rfl) ?_; try simp only [Act.put, qA, qZ, qS]
  refine wKt 21 (v := ?_) rfl (by intro W hSw; go_simp; with_reducible rfl) ?_; try simp only [Act.put, qA, qZ, qS]
  refine wKt 22 (v := ?_) rfl (by intro W hSw; go_simp; with_reducible rfl) ?_; try simp only [Act.put, qA, qZ, qS]
  refine wKt 23 (v := ?_) rfl (by intro W hSw; go_simp; with_reducible rfl) ?_; try simp only [Act.put, qA, qZ, qS]
  refine wKt 24 (v := ?_) rfl (by intro W hSw; go_simp; with_reducible rfl) ?_; try simp only [Act.put, qA, qZ, qS]
  refine wKt 25 (v := ?_) rfl (by intro W hSw; go_simp; with_reducible rfl) ?_; try simp only [Act.put, qA, qZ, qS]
  refine wKt 26 (v := ?_) rfl (by intro W hSw; go_simp; with_reducible rfl) ?_; try simp only [Act.put, qA, qZ, qS]
  refine wKt 27 (v := ?_) rfl (by intro W hSw; go_simp; with_reducible rfl) ?_; try simp only [Act.put, qA, qZ, qS]
  refine wKt 28 (v := ?_) rfl (by intro W hSw; go_simp; with_reducible rfl) ?_; try simp only [Act.put, qA, qZ, qS]
  refine wKt 29 (v := ?_) rfl (by intro W hSw; go_simp; with_reducible rfl) ?_; try simp only [Act.put, qA, qZ, qS]
  refine wKt 30 (v := ?_) rfl (by intro W hSw; go_simp; with_reducible rfl) ?_; try simp only [Act.put, qA, qZ, qS]
  refine wKt 31 (v := ?_) rfl (by intro W hSw; go_simp; with_reducible rfl) ?_; try simp only [Act.put, qA, qZ, qS]
  refine wKt 32 (v := ?_) rfl (by intro W hSw; go_simp; with_reducible rfl) ?_; try simp only [Act.put, qA, qZ, qS]
  refine wKt 33 (v := ?_) rfl (by intro W hSw; go_simp; with_reducible rfl) ?_; try simp only [Act.put, qA, qZ, qS]
  refine wKt 34 (v := ?_) rfl (by intro W hSw; go_simp; with_reducible rfl) ?_; try simp only [Act.put, qA, qZ, qS]
  refine wKt 35 (v := ?_) rfl (by intro W hSw; go_simp; with_reducible rfl) ?_; try simp only [Act.put, qA, qZ, qS]
  refine wKt 36 (v := ?_) rfl (by intro W hSw; go_simp; with_reducible rfl) ?_; try simp only [Act.put, qA, qZ, qS]
  refine wKt 37 (v := ?_) rfl (by intro W hSw; go_simp; with_reducible rfl) ?_; try simp only [Act.put, qA, qZ, qS]
  refine wKt 38 (v := ?_) rfl (by intro W hSw; go_simp; with_reducible rfl) ?_; try simp only [Act.put, qA, qZ, qS]
  refine wKt 39 (v := ?_) rfl (by intro W hSw; go_simp; with_reducible rfl) ?_; try simp only [Act.put, qA, qZ, qS]
  refine wpAnyK_done (by kernel_rfl) ?_ _
  clear k0 k1 k2 g10 t0 glt tlt blt
  obtain ⟨W2, hW1⟩ : ∃ V, V = W1.drew := ⟨_, rfl⟩
  have HB := hide_ (show W2.heap[w.heap.size]? = some (.cells #[.int .i64 50, .int .i64 1050, .int .i64 50, .slice (some ⟨b0, 0, none⟩) 0 0] 91 (0, 0)) by rw [hW1]; exact later_row (Later.refl W1).dr HB.out)
  have HGR := hide_ (later_row (show Later W1 W2 by rw [hW1]; exact (Later.refl W1).dr) HGR.out)
  have HL0 := hide_ (show W2.cell? ⟨gt, i, none⟩ = some (.int .i64 50) by rw [hW1]; exact ((Later.refl W1).dr.cell (cell_lt HL0.out)).trans HL0.out)
  have HAT := hide_ (show GmAt W2 g d c by rw [hW1]; exact ObjAt.later HAT.out (Later.refl W1).dr)
  have HBC := hide_ (show W2.heap[b0]? = some (.cells #[] 142 (0, 0)) by rw [hW1]; exact later_row (Later.refl W1).dr HBC.out)
  have HL := hide_ (show Later w W2 by rw [hW1]; exact HL.out.trans (Later.refl W1).dr)
  rw [← hW1]
  have glt := theap_lt HGR.out
  have tlt := cell_lt HL0.out
  have blt := theap_lt HB.out
  clear hW1
  have k1 := Stands.cell (X := fun q => q = g ∨ q = gt ∨ q = w.heap.size) (show W2.cell? ⟨w.heap.size, 1, none⟩ = some (.int .i64 1050) from cell_of_row _ _ 1 _ _ (0, 0) HB.out) (.inr (.inr rfl))
  have g10 := Stands.cell (X := fun q => q = g ∨ q = gt ∨ q = w.heap.size) (show W2.cell? ⟨g, 10, none⟩ = some (.slice (some ⟨gt, 0, none⟩) nt ct) from cell_of_row _ _ 10 _ _ (0, 0) HGR.out) (.inl rfl)
  have t0 := Stands.cell (X := fun q => q = g ∨ q = gt ∨ q = w.heap.size) HL0.out (.inr (.inl rfl))
  have tf : W2.frozen? ⟨gt, i, none⟩ = false := by
    obtain ⟨v, e, ho, hx⟩ := ints_holds.1 (GmAt.p HAT.out).tops
    injection e with e
    rw [HUT.out] at e
    exact frozen_own ho (by rw [← e]; rfl) i
  have tc := HL0.out
  have tf2 : W2.drew.frozen? ⟨gt, i, none⟩ = false := tf
  go_wp2_with fail
  refine wp_region_z (R := Stands (fun q => q = g ∨ q = gt ∨ q = w.heap.size)) [8] (by kernel_rfl) ?_
  refine wpAnyZ_pure (Stands.steady (fun q => q = g ∨ q = gt ∨ q = w.heap.size)) 0 (v := ?_) rfl (by kernel_rfl) (by kernel_rfl) (by kernel_rfl) (fun _ _ _ h => h) (by rfl) (by intro W; go_simp; with_reducible rfl) ?_; try simp only [Act.put, qA, qZ, qS]
  refine wpAnyZ_pure (Stands.steady (fun q => q = g ∨ q = gt ∨ q = w.heap.size)) 1 (v := ?_) rfl (by kernel_rfl) (by kernel_rfl) (by kernel_rfl) (fun _ _ _ h => h) (by rfl) (by intro W; go_simp; with_reducible rfl) ?_; try simp only [Act.put, qA, qZ, qS]
  refine wpAnyZ_pure (Stands.steady (fun q => q = g ∨ q = gt ∨ q = w.heap.size)) 2 (v := ?_) rfl (by kernel_rfl) (by kernel_rfl) (by kernel_rfl) (fun _ _ _ h => h) (by rfl) (by intro W; go_simp; with_reducible rfl) ?_; try simp only [Act.put, qA, qZ, qS]
  refine wpAnyZ_take (Stands.steady (fun q => q = g ∨ q = gt ∨ q = w.heap.size)) 3 (v := ?_) rfl (by kernel_rfl) (by kernel_rfl) (by kernel_rfl) (by kernel_rfl) (fun _ _ _ h => h) (by rfl) (by intro W hSw; have hS0 := Stands.trans (show Stands (fun q => q = g ∨ q = gt ∨ q = w.heap.size) W2 _ from by repeat first | with_reducible assumption | with_reducible exact Stands.refl _ _ | with_reducible refine Stands.alloc ?_ _ | with_reducible refine Stands.drew ?_ | with_reducible refine Stands.drewL ?_ | with_reducible refine Stands.setCell ?_ (by assumption) _ _ | assumption | refine Stands.trans ?_ (by assumption)) hSw; go_simp; with_reducible rfl) ?_; try simp only [Act.put, qA, qZ, qS]
  refine wpAnyZ_pure (Stands.steady (fun q => q = g ∨ q = gt ∨ q = w.heap.size)) 4 (v := ?_) rfl (by kernel_rfl) (by kernel_rfl) (by kernel_rfl) (fun _ _ _ h => h) (by rfl) (by intro W; go_simp; with_reducible rfl) ?_; try simp only [Act.put, qA, qZ, qS]
  refine wpAnyZ_pure (Stands.steady (fun q => q = g ∨ q = gt ∨ q = w.heap.size)) 5 (v := ?_) rfl (by kernel_rfl) (by kernel_rfl) (by kernel_rfl) (fun _ _ _ h => h) (by rfl) (by intro W; go_simp; with_reducible rfl) ?_; try simp only [Act.put, qA, qZ, qS]
  refine wpAnyZ_take (Stands.steady (fun q => q = g ∨ q = gt ∨ q = w.heap.size)) 6 (v := ?_) rfl (by kernel_rfl) (by kernel_rfl) (by kernel_rfl) (by kernel_rfl) (fun _ _ _ h => h) (by rfl) (by intro W hSw; have hS0 := Stands.trans (show Stands (fun q => q = g ∨ q = gt ∨ q = w.heap.size) W2 _ from by repeat first | with_reducible assumption | with_reducible exact Stands.refl _ _ | with_reducible refine Stands.alloc ?_ _ | with_reducible refine Stands.drew ?_ | with_reducible refine Stands.drewL ?_ | with_reducible refine Stands.setCell ?_ (by assumption) _ _ | assumption | refine Stands.trans ?_ (by assumption)) hSw; go_simp; with_reducible rfl) ?_; try simp only [Act.put, qA, qZ, qS]
  refine wpAnyZ_pure (Stands.steady (fun q => q = g ∨ q = gt ∨ q = w.heap.size)) 7 (v := ?_) rfl (by kernel_rfl) (by kernel_rfl) (by kernel_rfl) (fun _ _ _ h => h) (by rfl) (by intro W; go_simp; with_reducible rfl) ?_; try simp only [Act.put, qA, qZ, qS]
  refine wpAnyZ_loud 8 (by kernel_rfl) (by rfl) rfl (fun K hK => ?_)
  go_simp
  refine hK.out _ _ ?_
  clear hK K; try simp only [Act.put, qA, qZ, qS]
  refine wpAnyZ_done (by kernel_rfl) ?_ _
  have hts := tops_set HAT.out HUT.out i 1050
  have hbr2 : (W2.setCell ⟨gt, i, none⟩ (.int .i64 1050)).heap[w.heap.size]? = some (.cells #[.int .i64 50, .int .i64 1050, .int .i64 50, .slice (some ⟨b0, 0, none⟩) 0 0] 91 (0, 0)) := ((Hits.refl (· = gt) W2).setCell (g := gt) (fun _ => rfl) i _).row HB.out (fun e => by
    have h1 := HL0.out
    rw [← e] at h1
    have h2 := cell_of_row _ _ i _ _ (0, 0) HB.out
    have h3 := (GmAt.p HAT.out).tops
    obtain ⟨v, e2, ho, hx⟩ := ints_holds.1 h3
    injection e2 with e2
    rw [HUT.out] at e2
    obtain ⟨_, _, cs, hcs⟩ := own_block ho (g := gt) (by rw [← e2]; rfl)
    rw [← e, HB.out] at hcs
    injection hcs with hcs; injection hcs with _ hcs _; exact absurd hcs (by decide))
  have hbc2 : (W2.setCell ⟨gt, i, none⟩ (.int .i64 1050)).heap[b0]? = some (.cells #[] 142 (0, 0)) := ((Hits.refl (· = gt) W2).setCell (g := gt) (fun _ => rfl) i _).row HBC.out (fun e => by
    have h3 := (GmAt.p HAT.out).tops
    obtain ⟨v, e2, ho, hx⟩ := ints_holds.1 h3
    injection e2 with e2
    rw [HUT.out] at e2
    obtain ⟨_, _, cs, hcs⟩ := own_block ho (g := gt) (by rw [← e2]; rfl)
    rw [← e, HBC.out] at hcs
    injection hcs with hcs; injection hcs with _ hcs _; exact absurd hcs (by decide))
  obtain ⟨W3, hW3⟩ : ∃ V, V = (W2.setCell ⟨gt, i, none⟩ (.int .i64 1050)).drew := ⟨_, rfl⟩
  have hld := (Later.refl (W2.setCell ⟨gt, i, none⟩ (.int .i64 1050))).dr
  have HA3 := hide_ (show GmAt W3 g { d with tops := d.tops.set i 1050 } c by rw [hW3]; exact ObjAt.later hts.1 hld)
  have HH3 := hide_ (show Hits (· ∈ X) w W3 by rw [hW3, HX.out]; exact ((Hits.later HL.out).trans hts.2 fun _ _ h => h).thenLater hld)
  have HB3 := hide_ (show W3.heap[w.heap.size]? = some (.cells #[.int .i64 50, .int .i64 1050, .int .i64 50, .slice (some ⟨b0, 0, none⟩) 0 0] 91 (0, 0)) by rw [hW3]; exact later_row hld hbr2)
  have HC3 := hide_ (show W3.heap[b0]? = some (.cells #[] 142 (0, 0)) by rw [hW3]; exact later_row hld hbc2)
  rw [← hW3]
  have hgr3 := GmAt.cells HA3.out
  unfold gmRow at hgr3
  rw [HUA.out] at hgr3
  have hbt := (GmAt.p HA3.out).bats
  rw [HUA.out] at hbt
  obtain ⟨_, ga, cells, x, eA, hcl, u, ecl, hu⟩ := slice_cells hbt (i := 0) (el := b1050) (by show d.bats[0]? = _; rw [HBS.out]; rfl) (by decide)
  obtain ⟨Au, cu, eu⟩ := slice_len hu
  injection eu with eu
  rw [show b1050.chg.length = 0 from rfl] at eu
  subst eu
  rw [ecl] at hcl
  subst eA
  have hw0 : IntKind.i64.wrap 0 = 0 := rfl
  have a0 : W3.cell? ⟨ga, 0, none⟩ = some (.int .i64 50) := hcl 0 _ rfl
  have a1 : W3.cell? ⟨ga, 1, none⟩ = some (.int .i64 1050) := hcl 1 _ rfl
  have a2 : W3.cell? ⟨ga, 2, none⟩ = some (.int .i64 50) := hcl 2 _ rfl
  have a3 : W3.cell? ⟨ga, 3, none⟩ = some (.slice Au 0 cu) := hcl 3 _ rfl
  have z11 : W3.cell? ⟨g, 11, none⟩ = some (.slice (some ⟨ga, 0, none⟩) 1 ca) := cell_of_row _ _ 11 _ _ (0, 0) hgr3
  have z1 := later_drew_cell (show W3.cell? ⟨w.heap.size, 1, none⟩ = some (.int .i64 1050) from cell_of_row _ _ 1 _ _ (0, 0) HB3.out)
  have y11 := later_drew_cell z11
  have y1 := later_drew_cell a1
  have glt := theap_lt hgr3
  have blt := theap_lt HB3.out
  have alt := cell_lt a0
  have HG3 := hide_ hgr3
  have HA0 := hide_ a0; have HA1 := hide_ a1; have HA2 := hide_ a2; have HAA3 := hide_ a3
  clear hts hbr2 hbc2 hW3 hld hgr3 k1 g10 t0 tf tf2 tc HB HGR HL0 HAT HBC hbt hcl hu ecl a0 a1 a2 a3
  go_wp2_with fail
  refine wp_region_k (by kernel_rfl) ?_
  refine wKt 0 (v := ?_) rfl (by intro W hSw; go_simp; with_reducible rfl) ?_; try simp only [Act.put, qA, qZ, qS]
  refine wKt 1 (v := ?_) rfl (by intro W hSw; go_simp; with_reducible rfl) ?_; try simp only [Act.put, qA, qZ, qS]
  refine wKt 2 (v := ?_) rfl (by intro W hSw; go_simp; with_reducible rfl) ?_; try simp only [Act.put, qA, qZ, qS]
  refine wKt 3 (v := ?_) rfl (by intro W hSw; go_simp; with_reducible rfl) ?_; try simp only [Act.put, qA, qZ, qS]
  refine wKt 4 (v := ?_) rfl (by intro W hSw; go_simp; with_reducible rfl) ?_; try simp only [Act.put, qA, qZ, qS]
  refine wKt 5 (v := ?_) rfl (by intro W hSw; go_simp; with_reducible rfl) ?_; try simp only [Act.put, qA, qZ, qS]
  refine wKt 6 (v := ?_) rfl (by intro W hSw; go_simp; with_reducible rfl) ?_; try simp only [Act.put, qA, qZ, qS]
  refine wKt 7 (v := ?_) rfl (by intro W hSw; go_simp; with_reducible rfl) ?_; try simp only [Act.put, qA, qZ, qS]
  refine wKt 8 (v := ?_) rfl (by intro W hSw; go_simp; with_reducible rfl) ?_; try simp only [Act.put, qA, qZ, qS]
  refine wKt 9 (v := ?_) rfl (by intro W hSw; go_simp; with_reducible rfl) ?_; try simp only [Act.put, qA, qZ, qS]
  refine wKt 10 (v := ?_) rfl (by intro W hSw; go_simp; with_reducible rfl) ?_; try simp only [Act.put, qA, qZ, qS]
  refine wKt 11 (v := ?_) rfl (by intro W hSw; go_simp; with_reducible rfl) ?_; try simp only [Act.put, qA, qZ, qS]
  refine wKt 12 (v := ?_) rfl (by intro W hSw; go_simp; with_reducible rfl) ?_; try simp only [Act.put, qA, qZ, qS]
  refine wKt 13 (v := ?_) rfl (by intro W hSw; go_simp; with_reducible rfl) ?_; try simp only [Act.put, qA, qZ, qS]
  refine wKt 14 (v := ?_) rfl (by intro W hSw; go_simp; with_reducible rfl) ?_; try simp only [Act.put, qA, qZ, qS]
  refine wKt 15 (v := ?_) rfl (by intro W hSw; go_simp; with_reducible rfl) ?_; try simp only [Act.put, qA, qZ, qS]
  refine wpAnyK_done (by kernel_rfl) ?_ _
  clear z11 z1 y11 y1 glt blt alt
  obtain ⟨W4, hW4⟩ : ∃ V, V = W3.drew := ⟨_, rfl⟩
  have hl4 : Later W3 W4 := by rw [hW4]; exact (Later.refl W3).dr
  have HH4 := hide_ (show Hits (· ∈ X) w W4 from HH3.out.thenLater hl4)
  have HA4 := hide_ (ObjAt.later HA3.out hl4)
  have hb4 := later_row hl4 HB3.out
  have hg4 := later_row hl4 HG3.out
  rw [← hW4]
  have k0 := Stands.cell (X := fun q => q = g ∨ q = ga ∨ q = w.heap.size) (show W4.cell? ⟨w.heap.size, 0, none⟩ = some (.int .i64 50) from cell_of_row _ _ 0 _ _ (0, 0) hb4) (.inr (.inr rfl))
  have k1 := Stands.cell (X := fun q => q = g ∨ q = ga ∨ q = w.heap.size) (show W4.cell? ⟨w.heap.size, 1, none⟩ = some (.int .i64 1050) from cell_of_row _ _ 1 _ _ (0, 0) hb4) (.inr (.inr rfl))
  have k2 := Stands.cell (X := fun q => q = g ∨ q = ga ∨ q = w.heap.size) (show W4.cell? ⟨w.heap.size, 2, none⟩ = some (.int .i64 50) from cell_of_row _ _ 2 _ _ (0, 0) hb4) (.inr (.inr rfl))
  have k3 := Stands.cell (X := fun q => q = g ∨ q = ga ∨ q = w.heap.size) (show W4.cell? ⟨w.heap.size, 3, none⟩ = some (.slice (some ⟨b0, 0, none⟩) 0 0) from cell_of_row _ _ 3 _ _ (0, 0) hb4) (.inr (.inr rfl))
  have k11 := Stands.cell (X := fun q => q = g ∨ q = ga ∨ q = w.heap.size) (show W4.cell? ⟨g, 11, none⟩ = some (.slice (some ⟨ga, 0, none⟩) 1 ca) from cell_of_row _ _ 11 _ _ (0, 0) hg4) (.inl rfl)
  have a0 := Stands.cell (X := fun q => q = g ∨ q = ga ∨ q = w.heap.size) ((hl4.cell (cell_lt HA0.out)).trans HA0.out) (.inr (.inl rfl))
  have a1 := Stands.cell (X := fun q => q = g ∨ q = ga ∨ q = w.heap.size) ((hl4.cell (cell_lt HA1.out)).trans HA1.out) (.inr (.inl rfl))
  have a2 := Stands.cell (X := fun q => q = g ∨ q = ga ∨ q = w.heap.size) ((hl4.cell (cell_lt HA2.out)).trans HA2.out) (.inr (.inl rfl))
  have a3 := Stands.cell (X := fun q => q = g ∨ q = ga ∨ q = w.heap.size) ((hl4.cell (cell_lt HAA3.out)).trans HAA3.out) (.inr (.inl rfl))
  clear hl4 hb4 hg4 hW4 HA3 HH3 HB3 HG3 HC3 HA0 HA1 HA2 HAA3
  go_wp2_with fail
  refine wp_region_z (R := Stands (fun q => q = g ∨ q = ga ∨ q = w.heap.size)) [] (by kernel_rfl) ?_
  refine wpAnyZ_take0 (Stands.steady (fun q => q = g ∨ q = ga ∨ q = w.heap.size)) 0 (v := ?_) rfl (by kernel_rfl) (by kernel_rfl) (by kernel_rfl) (fun _ _ _ h => h) (by rfl) (by intro W hSw; go_simp; with_reducible rfl) ?_; try simp only [Act.put, qA, qZ, qS]
  refine wpAnyZ_take0 (Stands.steady (fun q => q = g ∨ q = ga ∨ q = w.heap.size)) 1 (v := ?_) rfl (by kernel_rfl) (by kernel_rfl) (by kernel_rfl) (fun _ _ _ h => h) (by rfl) (by intro W hSw; go_simp; with_reducible rfl) ?_; try simp only [Act.put, qA, qZ, qS]
  refine wpAnyZ_take0 (Stands.steady (fun q => q = g ∨ q = ga ∨ q = w.heap.size)) 2 (v := ?_) rfl (by kernel_rfl) (by kernel_rfl) (by kernel_rfl) (fun _ _ _ h => h) (by rfl) (by intro W hSw; go_simp; with_reducible rfl) ?_; try simp only [Act.put, qA, qZ, qS]
  refine wpAnyZ_take0 (Stands.steady (fun q => q = g ∨ q = ga ∨ q = w.heap.size)) 3 (v := ?_) rfl (by kernel_rfl) (by kernel_rfl) (by kernel_rfl) (fun _ _ _ h => h) (by rfl) (by intro W hSw; have hS0 := Stands.trans (show Stands (fun q => q = g ∨ q = ga ∨ q = w.heap.size) W4 _ from by repeat first | with_reducible assumption | with_reducible exact Stands.refl _ _ | with_reducible refine Stands.alloc ?_ _ | with_reducible refine Stands.drew ?_ | with_reducible refine Stands.drewL ?_ | with_reducible refine Stands.setCell ?_ (by assumption) _ _ | assumption | refine Stands.trans ?_ (by assumption)) hSw; go_simp; with_reducible rfl) ?_; try simp only [Act.put, qA, qZ, qS]
  refine wpAnyZ_take0 (Stands.steady (fun q => q = g ∨ q = ga ∨ q = w.heap.size)) 4 (v := ?_) rfl (by kernel_rfl) (by kernel_rfl) (by kernel_rfl) (fun _ _ _ h => h) (by rfl) (by intro W hSw; go_simp; with_reducible rfl) ?_; try simp only [Act.put, qA, qZ, qS]
  refine wpAnyZ_take0 (Stands.steady (fun q => q = g ∨ q = ga ∨ q = w.heap.size)) 5 (v := ?_) rfl (by kernel_rfl) (by kernel_rfl) (by kernel_rfl) (fun _ _ _ h => h) (by rfl) (by intro W hSw; have hS0 := Stands.trans (show Stands (fun q => q = g ∨ q = ga ∨ q = w.heap.size) W4 _ from by repeat first | with_reducible assumption | with_reducible exact Stands.refl _ _ | with_reducible refine Stands.alloc ?_ _ | with_reducible refine Stands.drew ?_ | with_reducible refine Stands.drewL ?_ | with_reducible refine Stands.setCell ?_ (by assumption) _ _ | assumption | refine Stands.trans ?_ (by assumption)) hSw; go_simp; with_reducible rfl) ?_; try simp only [Act.put, qA, qZ, qS]
  refine wpAnyZ_take0 (Stands.steady (fun q => q = g ∨ q = ga ∨ q = w.heap.size)) 6 (v := ?_) rfl (by kernel_rfl) (by kernel_rfl) (by kernel_rfl) (fun _ _ _ h => h) (by rfl) (by intro W hSw; go_simp; with_reducible rfl) ?_; try simp only [Act.put, qA, qZ, qS]
  refine wpAnyZ_take0 (Stands.steady (fun q => q = g ∨ q = ga ∨ q = w.heap.size)) 7 (v := ?_) rfl (by kernel_rfl) (by kernel_rfl) (by kernel_rfl) (fun _ _ _ h => h) (by rfl) (by intro W hSw; have hS0 := Stands.trans (show Stands (fun q => q = g ∨ q = ga ∨ q = w.heap.size) W4 _ from by repeat first | with_reducible assumption | with_reducible exact Stands.refl _ _ | with_reducible refine Stands.alloc ?_ _ | with_reducible refine Stands.drew ?_ | with_reducible refine Stands.drewL ?_ | with_reducible refine Stands.setCell ?_ (by assumption) _ _ | assumption | refine Stands.trans ?_ (by assumption)) hSw; go_simp; with_reducible rfl) ?_; try simp only [Act.put, qA, qZ, qS]
  refine wpAnyZ_take0 (Stands.steady (fun q => q = g ∨ q = ga ∨ q = w.heap.size)) 8 (v := ?_) rfl (by kernel_rfl) (by kernel_rfl) (by kernel_rfl) (fun _ _ _ h => h) (by rfl) (by intro W hSw; have hS0 := Stands.trans (show Stands (fun q => q = g ∨ q = ga ∨ q = w.heap.size) W4 _ from by repeat first | with_reducible assumption | with_reducible exact Stands.refl _ _ | with_reducible refine Stands.alloc ?_ _ | with_reducible refine Stands.drew ?_ | with_reducible refine Stands.drewL ?_ | with_reducible refine Stands.setCell ?_ (by assumption) _ _ | assumption | refine Stands.trans ?_ (by assumption)) hSw; go_simp; with_reducible rfl) ?_; try simp only [Act.put, qA, qZ, qS]
  refine wpAnyZ_one 9 (by kernel_rfl) rfl (fun K hK => ?_)
  go_simp
  refine (lsameB 50 1050 50).mono ?_; rintro e w5 ⟨rfl, hl5⟩; have hs5 : Stands (fun q => q = g ∨ q = ga ∨ q = w.heap.size) _ w5 := Stands.of_later hl5
  refine hK.out _ _ (by repeat first | with_reducible assumption | with_reducible exact Stands.refl _ _ | with_reducible refine Stands.alloc ?_ _ | with_reducible refine Stands.drew ?_ | with_reducible refine Stands.drewL ?_ | with_reducible refine Stands.setCell ?_ (by assumption) _ _ | assumption | refine Stands.of_later ?_) ?_
  clear hK K; try simp only [Act.put, qA, qZ, qS]
  refine wpAnyZ_take0 (Stands.steady (fun q => q = g ∨ q = ga ∨ q = w.heap.size)) 10 (v := ?_) rfl (by kernel_rfl) (by kernel_rfl) (by kernel_rfl) (fun _ _ _ h => h) (by rfl) (by intro W hSw; go_simp; with_reducible rfl) ?_; try simp only [Act.put, qA, qZ, qS]
  refine wpAnyZ_done (by kernel_rfl) ?_ _
  go_wp2_with fail
  go_returns
  have hl5' := (Later.refl W4).dr.trans hl5
  exact ⟨rfl, X, ⟨c, ObjAt.later HA4.out hl5', HX.out⟩, HH4.out.thenLater hl5', fun k hk => .inl hk⟩

end Go.Proofs.YtcmollfhlillfaaGreatDoor
