/-
  Texts of this seat in one: FrAlive.
-/
import Derived.Test.YtcmollfhlillfaaGreatDoorM32
import Derived.IntWalk
/-
  front: alive.
-/
namespace Go.Proofs.YtcmollfhlillfaaGreatDoor
open Go.RowKit
set_option linter.unusedVariables false
set_option linter.unusedSimpArgs false
/-- What the front asks for itself, as the program lays it. -/
structure OwnG (w : World) : Prop where
  c0 : w.cell? ⟨0, 0, none⟩ = some (.int .i64 (-1))
  c1 : w.cell? ⟨0, 1, none⟩ = some (.int .i64 0)
theorem OwnG.later {w w' : World} (h : OwnG w) (hl : Later w w') : OwnG w' := ⟨(hl.cell (cell_lt h.c0)).trans h.c0, (hl.cell (cell_lt h.c1)).trans h.c1⟩
theorem OwnG.hits {w w' : World} {F : Nat → Prop} (h : OwnG w) (hh : Hits F w w') (hF : ¬ F 0) : OwnG w' := ⟨hh.cell h.c0 hF, hh.cell h.c1 hF⟩
theorem eq_ask (a b c d : Int) (W : World) : (binOp .eql 87 (.agg #[.int .i64 a, .int .i64 b]) (.agg #[.int .i64 c, .int .i64 d])).run Tryz.prog W = .ok (.bool (decide (a = c ∧ b = d))) W := by
  have hS : Tryz.prog.underlying 87 = some (.struct (Tryz.prog.fieldsOf 87)) := by kernel_rfl
  have hp : Tryz.prog.stoodInHeld 87 = false := by kernel_rfl
  rw [run_eql_struct, show (10000 : Nat) = 9999 + 1 from rfl, run_equalIn_agg W 9999 87 _ _ hS hp]
  simp only [Program.fieldsOf, Tryz.underlying87]
  go_simp
  by_cases h1 : a = c <;> by_cases h2 : b = d <;> simp [h1, h2]
theorem guard_ask (op : BinOp) (x y : Operand) (xs ys : Array Value) (W : World) : (eqGuard op 87 x y (.agg xs) (.agg ys)).run Tryz.prog W = .ok () W := run_eqGuard_agg W op 87 x y xs ys (by kernel_rfl)
/-- One message alone. -/
theorem slice_one {w : World} {m : Msg} (hb : m.body = []) : SliceP w.heap.size 53 msgR (w.alloc (.cells #[.int .i64 m.kind, .int .i64 m.frm, .int .i64 m.to_, .int .i64 m.epoch, .int .i64 m.a, .int .i64 m.b, .int .i64 m.c, .slice none 0 0] 53)) (.slice (some ⟨w.heap.size, 0, none⟩) 1 1) [m] [] :=
  ⟨[[.int .i64 m.kind, .int .i64 m.frm, .int .i64 m.to_, .int .i64 m.epoch, .int .i64 m.a, .int .i64 m.b, .int .i64 m.c, .slice none 0 0]], [[]], own_new w _ 53 8 1 _ rfl (by unfold maxLen; omega) (Nat.le_refl _), ⟨⟨_, rfl, by rw [hb]; exact body_nil _⟩, trivial⟩, rfl, fun k hk => by cases hk⟩
def aliveF (s : Fr) (frm a : Int) : Fr × List Msg := match s.wishes.findIdx? (fun u => u.number == a) with
  | none => (s, [])
  | some i => match s.wishes[i]? with
    | none => (s, [])
    | some u => if (allF s).contains frm = false ∨ u.alive.contains frm = true then (s, []) else
      if u.alive.length + 1 < (allF s).length then ({ s with wishes := s.wishes.set i { u with alive := u.alive ++ [frm] } }, []) else
      ({ s with wishes := (s.wishes.set i { u with alive := u.alive ++ [frm] }).take i ++ (s.wishes.set i { u with alive := u.alive ++ [frm] }).drop (i + 1), stuck := 0 }, if u.guest = -1 ∧ u.seq = 0 then [] else [tellM s u.guest u.seq 0 s.known])
/-- Nothing is sent. -/
theorem turn_none {w w' : World} {f : Nat} {s' : Fr} {X X' : List Nat} (hf : FrH w' f s' X') (hh : Hits (· ∈ X) w w') (hfr : Fresh w X X') : TurnPost w f X s' [] (.returned (.slice none 0 0)) w' :=
  ⟨none, 0, 0, [], X', w'.heap.size, rfl, rfl, SliceP.nil _ _ _ _, fun k hk => (by cases hk), hh.size, hf.lt, hf, hh, hfr⟩
theorem WishAt.later {w w' : World} {f : Nat} {s : Fr} {X : List Nat} {cc : FrC} {i : Nat} {u : Ws} {g c : Nat} {Aa : Option Addr} {ca : Nat} {rows : List (List Value)} {xs : List (List Nat)} (h : WishAt w f s X cc i u g c Aa ca rows xs) (hl : Later w w') : WishAt w' f s X cc i u g c Aa ca rows xs :=
  ⟨h.p.frame (Hits.later (F := fun _ => False) hl) (fun _ _ hf => hf), h.hX, h.nd, h.uw, (Hits.later (F := fun _ => False) hl).own h.own (fun _ _ hf => hf), h.rs.frame (Hits.later (F := fun _ => False) hl) (fun _ _ hf => hf), h.xw, h.ri, h.xi, (Hits.later (F := fun _ => False) hl).own h.own2 (fun _ _ hf => hf)⟩
theorem WishAt.cell {w : World} {f : Nat} {s : Fr} {X : List Nat} {cc : FrC} {i : Nat} {u : Ws} {g c : Nat} {Aa : Option Addr} {ca : Nat} {rows : List (List Value)} {xs : List (List Nat)} (h : WishAt w f s X cc i u g c Aa ca rows xs) (j : Nat) (hj : j < 4) : w.cell? ⟨g, i * 4 + j, none⟩ = ([.int .i64 u.guest, .int .i64 u.seq, .int .i64 u.number, .slice Aa u.alive.length ca] : List Value)[j]? := by
  have hlt : i < rows.length := (List.getElem?_eq_some_iff.1 h.ri).1
  have hfl := h.rs.flat_len
  have hl := h.rs.lens
  have h4 : ∀ c ∈ rows, c.length = 4 := h.rs.each
  have hpos : 0 < rows.flatten.length := by rw [hfl]; exact Nat.mul_pos (by omega) (by decide)
  obtain ⟨b, o, e, hc⟩ := (Rd.of_own h.own).2 hpos
  injection e with e; injection e with e1 e2 _
  subst e1 e2
  have h1 := rflat_at h4 h.ri j hj
  obtain ⟨v, hv⟩ : ∃ v, ([.int .i64 u.guest, .int .i64 u.seq, .int .i64 u.number, .slice Aa u.alive.length ca] : List Value)[j]? = some v := ⟨_, List.getElem?_eq_getElem (by simpa using hj)⟩
  rw [hv] at h1 ⊢
  have := hc _ _ h1
  rwa [Nat.zero_add] at this
theorem frozen_own {w : World} {base size n g : Nat} {e : TypeId} {v : Value} {xs : List Value} (ho : w.ownsRow base e size v n xs) (hg : v.ownBlock = some g) (j : Nat) : w.frozen? ⟨g, j, none⟩ = false := by
  obtain ⟨_, _, cs, h⟩ := own_block ho hg
  exact frozen_of_row _ _ j _ _ h
theorem frozen_stands {F : Nat → Prop} {w w' : World} {base size n g : Nat} {e : TypeId} {v : Value} {xs : List Value} (ho : w.ownsRow base e size v n xs) (hg : v.ownBlock = some g) (hs : Stands F w w') (hF : F g) (j : Nat) : w'.frozen? ⟨g, j, none⟩ = false := by
  obtain ⟨_, _, cs, h⟩ := own_block ho hg
  exact frozen_of_row _ _ j _ _ (hs.2 g _ hF h)
theorem turn_step {w W W2 : World} {X X1 : List Nat} (h : Hits (· ∈ X) w W) (hf : Fresh w X X1) (h2 : Hits (· ∈ X1) W W2) : Hits (· ∈ X) w W2 := h.trans h2 fun q hq h1 => (hf q h1).elim id fun h3 => absurd h3 (by omega)
structure WishOk (s : Fr) : Prop where
  all : AllOk s
  n : s.wishes.length ≤ 1048576
  al : ∀ u ∈ s.wishes, u.alive.length ≤ 1048576
set_option maxHeartbeats 8000000 in
set_option maxRecDepth 100000 in
theorem alive_any {w : World} {f : Nat} {s : Fr} {X : List Nat} (h : FrH w f s X) (hok : WishOk s) (hG : OwnG w) (hGX : 0 ∉ X) (k frm to_ e0 a b c : Int) (Av : Option Addr) (nv cv : Nat) :
    Calls Tryz.prog 30 #[.pointer (some ⟨f, 0, none⟩), .agg #[.int .i64 k, .int .i64 frm, .int .i64 to_, .int .i64 e0, .int .i64 a, .int .i64 b, .int .i64 c, .slice Av nv cv]] w (TurnPost w f X (aliveF s frm a).1 (aliveF s frm a).2) := by
  obtain ⟨Wm, hW⟩ : ∃ Wm, Wm = w.alloc (.cells #[.int .i64 k, .int .i64 frm, .int .i64 to_, .int .i64 e0, .int .i64 a, .int .i64 b, .int .i64 c, .slice Av nv cv] 53) := ⟨_, rfl⟩
  have hl : Later w Wm := by rw [hW]; exact later_alloc _ _
  have hb : Wm.heap[w.heap.size]? = some (.cells #[.int .i64 k, .int .i64 frm, .int .i64 to_, .int .i64 e0, .int .i64 a, .int .i64 b, .int .i64 c, .slice Av nv cv] 53 (0, 0)) := by rw [hW]; exact heap_alloc_new _ _
  have hf := h.later hl
  obtain ⟨cc, hp, hX, hnd⟩ := id hf
  obtain ⟨A, cw, huw⟩ := slice_len hp.wishes
  injection huw with huw
  have hws := hp.wishes
  rw [huw] at hws
  have hrow := hp.row
  unfold frCells at hrow
  rw [huw] at hrow
  have c12 : Wm.cell? ⟨f, 12, none⟩ = some (.slice A s.wishes.length cw) := cell_of_row _ _ 12 _ _ (0, 0) hrow
  have HIX := hide_ (index_wish (mb := w.heap.size) (a := a) hws hok.n (cell_of_row _ _ 4 _ _ (0, 0) hb))
  obtain ⟨nw, hnw⟩ : ∃ n, n = s.wishes.length := ⟨_, rfl⟩
  rw [← hnw] at HIX c12
  have HNW := hide_ hnw; have HF := hide_ hf; have HH := hide_ h; have HOK := hide_ hok; have HGG := hide_ hG; have HGX := hide_ hGX; have HB := hide_ hb; have HL := hide_ hl; have HW := hide_ hW; have HRW := hide_ hrow; have HWS := hide_ hws
  have flt := theap_lt hrow
  have nw2 : nw ≤ 1048576 := by rw [hnw]; exact hok.n
  clear h hok hG hGX hl hb hf hp hX hnd huw hws hrow hW hnw
  go_enter Tryz.func30, Tryz.ntmps30
  go_wp2_with (rw [← HW.out])
  refine HIX.out.mono ?_; rintro e w5 ⟨rfl, hl5⟩
  have HL5 := hide_ hl5
  clear HIX c12 flt hl5
  cases hfi : s.wishes.findIdx? (fun u => u.number == a) with
  | none =>
    have HE := hide_ (show aliveF s frm a = (s, []) by unfold aliveF; rw [hfi])
    clear hfi
    rw [show idxI (none : Option Nat) = -1 from rfl]
    have HL6 := hide_ ((HL.out.trans HL5.out).dr)
    go_wp2_with fail
    refine wp_region_k (by kernel_rfl) ?_
    refine wKt 0 (v := ?_) rfl (by intro W hSw; go_simp; with_reducible rfl) ?_; try simp only [Act.put, qA, qZ, qS]
    refine wKt 1 (v := ?_) rfl (by intro W hSw; go_simp; with_reducible rfl) ?_; try simp only [Act.put, qA, qZ, qS]
    refine wKt 2 (v := ?_) rfl (by intro W hSw; go_simp; with_reducible rfl) ?_; try simp only [Act.put, qA, qZ, qS]
    refine wKs 3 rfl ?_; try simp only [Act.put, qA, qZ, qS]
    refine wKs 4 rfl ?_; try simp only [Act.put, qA, qZ, qS]
    refine wKs 5 rfl ?_; try simp only [Act.put, qA, qZ, qS]
    refine wKs 6 rfl ?_; try simp only [Act.put, qA, qZ, qS]
    refine wKs 7 rfl ?_; try simp only [Act.put, qA, qZ, qS]
    refine wKs 8 rfl ?_; try simp only [Act.put, qA, qZ, qS]
    refine wKt 9 (v := ?_) rfl (by intro W hSw; go_simp; with_reducible rfl) ?_; try simp only [Act.put, qA, qZ, qS]
    refine wKt 10 (v := ?_) rfl (by intro W hSw; go_simp; with_reducible rfl) ?_; try simp only [Act.put, qA, qZ, qS]
    refine wKs 11 rfl ?_; try simp only [Act.put, qA, qZ, qS]
    refine wKs 12 rfl ?_; try simp only [Act.put, qA, qZ, qS]
    refine wKs 13 rfl ?_; try simp only [Act.put, qA, qZ, qS]
    refine wKs 14 rfl ?_; try simp only [Act.put, qA, qZ, qS]
    refine wKs 15 rfl ?_; try simp only [Act.put, qA, qZ, qS]
    refine wKs 16 rfl ?_; try simp only [Act.put, qA, qZ, qS]
    refine wKs 17 rfl ?_; try simp only [Act.put, qA, qZ, qS]
    refine wKs 18 rfl ?_; try simp only [Act.put, qA, qZ, qS]
    refine wKs 19 rfl ?_; try simp only [Act.put, qA, qZ, qS]
    refine wKs 20 rfl ?_; try simp only [Act.put, qA, qZ, qS]
    refine wKs 21 rfl ?_; try simp only [Act.put, qA, qZ, qS]
    refine wKt 22 (v := ?_) rfl (by intro W hSw; go_simp; with_reducible rfl) ?_; try simp only [Act.put, qA, qZ, qS]
    refine wpAnyK_done (by kernel_rfl) ?_ _
    go_wp2_with fail
    go_ret
    rw [HE.out]
    exact turn_none (HH.out.later HL6.out) (Hits.later HL6.out) (Fresh.refl _ _)
  | some i =>
    have hilt : i < s.wishes.length := by rw [List.findIdx?_eq_some_iff_getElem] at hfi; exact hfi.1
    obtain ⟨u, hu⟩ : ∃ u, s.wishes[i]? = some u := ⟨_, List.getElem?_eq_getElem hilt⟩
    have hil : i < nw := by rw [HNW.out]; exact hilt
    have HE := hide_ (show aliveF s frm a = if (allF s).contains frm = false ∨ u.alive.contains frm = true then (s, []) else
      if u.alive.length + 1 < (allF s).length then ({ s with wishes := s.wishes.set i { u with alive := u.alive ++ [frm] } }, []) else
      ({ s with wishes := (s.wishes.set i { u with alive := u.alive ++ [frm] }).take i ++ (s.wishes.set i { u with alive := u.alive ++ [frm] }).drop (i + 1), stuck := 0 }, if u.guest = -1 ∧ u.seq = 0 then [] else [tellM s u.guest u.seq 0 s.known]) by unfold aliveF; rw [hfi]; simp only [hu])
    rw [show idxI (some i) = (i : Int) from rfl]
    obtain ⟨cc2, g, cw2, Aa, ca, rows, xs, hwa⟩ := wish_open HF.out hu
    have hwa5 := hwa.later HL5.out
    have y3 : w5.cell? ⟨g, i * 4 + 3, none⟩ = some (.slice Aa u.alive.length ca) := hwa5.cell 3 (by omega)
    have ra := Rd.of_own hwa5.own2
    obtain ⟨na, hna⟩ : ∃ n, n = u.alive.length := ⟨_, rfl⟩
    rw [← hna] at y3 ra
    have k12 := later_drew_cell (show w5.cell? ⟨f, 12, none⟩ = some (.slice (some ⟨g, 0, none⟩) nw cw2) from by
      have h1 := hwa5.p.row
      unfold frCells at h1
      rw [HNW.out, cell_of_row _ _ 12 _ _ (0, 0) h1, ← hwa.uw]; rfl)
    have HWA := hide_ hwa5
    clear hwa hwa5
    have k1 := later_drew_cell (show w5.cell? ⟨w.heap.size, 1, none⟩ = some (.int .i64 frm) from cell_of_row _ _ 1 _ _ (0, 0) (later_row HL5.out HB.out))
    have ky3 := later_drew_cell y3
    have q1 : (i : Int) < (nw : Int) := by omega
    have q2 : (i : Int) ≤ 1048576 := by omega
    have q3 : ¬ (i : Int) < 0 := by omega
    have q4 : (0 : Int) ≤ (i : Int) := by omega
    have HRA := hide_ ra; have HNA := hide_ hna; have HU := hide_ hu
    have nab := HOK.out.al u (List.mem_of_getElem? hu)
    rw [← hna] at nab
    have HAL := hide_ (fun W' (hl' : Later w5.drew W') => fall_any (w := W') (HF.out.later (HL5.out.trans (((Later.refl w5).dr).trans hl'))) HOK.out.all)
    have HC2 := hide_ (fun W' (hl' : Later w5.drew W') => contains_int (w := W') (c := ca) (HRA.out.below (((Later.refl w5).dr).trans hl')) HNA.out.symm (by omega) frm)
    have HLA := hide_ (show (allF s).length ≤ 2097152 by unfold allF; rw [List.length_append]; have h1 := HOK.out.all.c; have h2 := HOK.out.all.r; omega)
    clear ra hna hu y3 hfi hilt
    obtain ⟨b1, hb1⟩ : ∃ b, b = (allF s).contains frm := ⟨_, rfl⟩
    obtain ⟨b2, hb2⟩ : ∃ b, b = u.alive.contains frm := ⟨_, rfl⟩
    have HB1 := hide_ hb1; have HB2 := hide_ hb2
    rw [← hb2] at HC2
    clear hb1 hb2
    go_wp2_with fail
    cases b1 with
    | false =>
      refine wp_region_k (by kernel_rfl) ?_
      refine wKt 0 (v := ?_) rfl (by intro W hSw; go_simp; with_reducible rfl) ?_; try simp only [Act.put, qA, qZ, qS]
      refine wKt 1 (v := ?_) rfl (by intro W hSw; go_simp; with_reducible rfl) ?_; try simp only [Act.put, qA, qZ, qS]
      refine wKt 2 (v := ?_) rfl (by intro W hSw; go_simp; with_reducible rfl) ?_; try simp only [Act.put, qA, qZ, qS]
      refine wKt 3 (v := ?_) rfl (by intro W hSw; go_simp; with_reducible rfl) ?_; try simp only [Act.put, qA, qZ, qS]
      refine wKt 5 (v := ?_) rfl (by intro W hSw; go_simp; with_reducible rfl) ?_; try simp only [Act.put, qA, qZ, qS]
      refine wKt 6 (v := ?_) rfl (by intro W hSw; go_simp; with_reducible rfl) ?_; try simp only [Act.put, qA, qZ, qS]
      refine wpAnyK_one 4 (by kernel_rfl) rfl (fun K hK => ?_)
      go_simp
      refine (HAL.out _ (Later.refl _)).mono ?_; rintro e w6 ⟨A6, n6, c6, rfl, hL6, ho6, hl6⟩
      refine hK.out _ _ (by assumption) ?_
      clear hK K; try simp only [Act.put, qA, qZ, qS]
      refine wpAnyK_one 7 (by kernel_rfl) rfl (fun K hK => ?_)
      go_simp
      refine (contains_int (c := c6) (Rd.of_own ho6) hL6 (by have h1 := HLA.out; omega) frm).mono ?_; rintro e w7 ⟨rfl, rfl⟩; rw [← HB1.out]; have hl7 := Later.refl w7
      refine hK.out _ _ (by assumption) ?_
      clear hK K; try simp only [Act.put, qA, qZ, qS]
      refine wKt 8 (v := ?_) rfl (by intro W hSw; go_simp; with_reducible rfl) ?_; try simp only [Act.put, qA, qZ, qS]
      refine wKt 9 (v := ?_) rfl (by intro W hSw; go_simp; with_reducible rfl) ?_; try simp only [Act.put, qA, qZ, qS]
      refine wKt 10 (v := ?_) rfl (by intro W hSw; go_simp; with_reducible rfl) ?_; try simp only [Act.put, qA, qZ, qS]
      refine wKs 11 rfl ?_; try simp only [Act.put, qA, qZ, qS]
      refine wKs 12 rfl ?_; try simp only [Act.put, qA, qZ, qS]
      refine wKs 13 rfl ?_; try simp only [Act.put, qA, qZ, qS]
      refine wKs 14 rfl ?_; try simp only [Act.put, qA, qZ, qS]
      refine wKs 15 rfl ?_; try simp only [Act.put, qA, qZ, qS]
      refine wKs 16 rfl ?_; try simp only [Act.put, qA, qZ, qS]
      refine wKs 17 rfl ?_; try simp only [Act.put, qA, qZ, qS]
      refine wKs 18 rfl ?_; try simp only [Act.put, qA, qZ, qS]
      refine wKs 19 rfl ?_; try simp only [Act.put, qA, qZ, qS]
      refine wKs 20 rfl ?_; try simp only [Act.put, qA, qZ, qS]
      refine wKs 21 rfl ?_; try simp only [Act.put, qA, qZ, qS]
      refine wKt 22 (v := ?_) rfl (by intro W hSw; go_simp; with_reducible rfl) ?_; try simp only [Act.put, qA, qZ, qS]
      refine wpAnyK_done (by kernel_rfl) ?_ _
      have HL7 := hide_ (HL.out.trans (HL5.out.trans ((Later.refl w5).dr.trans hl6)))
      clear hl6 ho6 hL6 hl7 k12 k1 ky3
      have HE2 := hide_ (HE.out.trans (if_pos (.inl HB1.out.symm)))
      go_wp2_with fail
      go_ret
      rw [HE2.out]
      exact turn_none (HH.out.later HL7.out) (Hits.later HL7.out) (Fresh.refl _ _)
    | true =>
      refine wp_region_k (by kernel_rfl) ?_
      refine wKt 0 (v := ?_) rfl (by intro W hSw; go_simp; with_reducible rfl) ?_; try simp only [Act.put, qA, qZ, qS]
      refine wKt 1 (v := ?_) rfl (by intro W hSw; go_simp; with_reducible rfl) ?_; try simp only [Act.put, qA, qZ, qS]
      refine wKt 2 (v := ?_) rfl (by intro W hSw; go_simp; with_reducible rfl) ?_; try simp only [Act.put, qA, qZ, qS]
      refine wKt 3 (v := ?_) rfl (by intro W hSw; go_simp; with_reducible rfl) ?_; try simp only [Act.put, qA, qZ, qS]
      refine wKt 5 (v := ?_) rfl (by intro W hSw; go_simp; with_reducible rfl) ?_; try simp only [Act.put, qA, qZ, qS]
      refine wKt 6 (v := ?_) rfl (by intro W hSw; go_simp; with_reducible rfl) ?_; try simp only [Act.put, qA, qZ, qS]
      refine wpAnyK_one 4 (by kernel_rfl) rfl (fun K hK => ?_)
      go_simp
      refine (HAL.out _ (Later.refl _)).mono ?_; rintro e w6 ⟨A6, n6, c6, rfl, hL6, ho6, hl6⟩; have k12 := later_cell (k12 _ hl6); have k1 := later_cell (k1 _ hl6); have ky3 := later_cell (ky3 _ hl6)
      refine hK.out _ _ (by assumption) ?_
      clear hK K; try simp only [Act.put, qA, qZ, qS]
      refine wpAnyK_one 7 (by kernel_rfl) rfl (fun K hK => ?_)
      go_simp
      refine (contains_int (c := c6) (Rd.of_own ho6) hL6 (by have h1 := HLA.out; omega) frm).mono ?_; rintro e w7 ⟨rfl, rfl⟩; rw [← HB1.out]; have hl7 := Later.refl w7
      refine hK.out _ _ (by assumption) ?_
      clear hK K; try simp only [Act.put, qA, qZ, qS]
      refine wKt 8 (v := ?_) rfl (by intro W hSw; go_simp; with_reducible rfl) ?_; try simp only [Act.put, qA, qZ, qS]
      refine wKt 9 (v := ?_) rfl (by intro W hSw; go_simp; with_reducible rfl) ?_; try simp only [Act.put, qA, qZ, qS]
      refine wKt 10 (v := ?_) rfl (by intro W hSw; go_simp; with_reducible rfl) ?_; try simp only [Act.put, qA, qZ, qS]
      refine wKt 11 (v := ?_) rfl (by intro W hSw; go_simp; with_reducible rfl) ?_; try simp only [Act.put, qA, qZ, qS]
      refine wKt 12 (v := ?_) rfl (by intro W hSw; go_simp; with_reducible rfl) ?_; try simp only [Act.put, qA, qZ, qS]
      refine wKt 13 (v := ?_) rfl (by intro W hSw; go_simp; with_reducible rfl) ?_; try simp only [Act.put, qA, qZ, qS]
      refine wKt 14 (v := ?_) rfl (by intro W hSw; go_simp; with_reducible rfl) ?_; try simp only [Act.put, qA, qZ, qS]
      refine wKt 15 (v := ?_) rfl (by intro W hSw; go_simp; with_reducible rfl) ?_; try simp only [Act.put, qA, qZ, qS]
      refine wKt 16 (v := ?_) rfl (by intro W hSw; go_simp; with_reducible rfl) ?_; try simp only [Act.put, qA, qZ, qS]
      refine wKt 17 (v := ?_) rfl (by intro W hSw; go_simp; with_reducible rfl) ?_; try simp only [Act.put, qA, qZ, qS]
      refine wKt 18 (v := ?_) rfl (by intro W hSw; go_simp; with_reducible rfl) ?_; try simp only [Act.put, qA, qZ, qS]
      refine wKt 19 (v := ?_) rfl (by intro W hSw; go_simp; with_reducible rfl) ?_; try simp only [Act.put, qA, qZ, qS]
      refine wKt 20 (v := ?_) rfl (by intro W hSw; go_simp; with_reducible rfl) ?_; try simp only [Act.put, qA, qZ, qS]
      refine wpAnyK_one 21 (by kernel_rfl) rfl (fun K hK => ?_)
      go_simp
      refine (HC2.out _ hl6).mono ?_; rintro e w8 ⟨rfl, rfl⟩; have hl8 := Later.refl w8
      refine hK.out _ _ (by assumption) ?_
      clear hK K; try simp only [Act.put, qA, qZ, qS]
      refine wKt 22 (v := ?_) rfl (by intro W hSw; go_simp; with_reducible rfl) ?_; try simp only [Act.put, qA, qZ, qS]
      refine wpAnyK_done (by kernel_rfl) ?_ _
      have HL8 := hide_ ((Later.refl w5).dr.trans hl6)
      have HO6 := hide_ ho6; have HN6 := hide_ hL6
      clear hl6 ho6 hL6 k12 k1 ky3 HAL HC2
      rw [show decide ((i : Int) < 0) = false by simp, Bool.false_or]
      cases b2 with
      | true =>
        have HL9 := hide_ (HL.out.trans (HL5.out.trans HL8.out))
        have HE2 := hide_ (HE.out.trans (if_pos (.inr HB2.out.symm)))
        go_wp2_with fail
        go_ret
        rw [HE2.out]
        exact turn_none (HH.out.later HL9.out) (Hits.later HL9.out) (Fresh.refl _ _)
      | false =>
        have hwa8 := HWA.out.later HL8.out
        obtain ⟨W8, hW8⟩ : ∃ W, W = w8 := ⟨_, rfl⟩
        rw [← hW8] at hwa8 HL8 ⊢
        clear hW8
        have z12 : W8.cell? ⟨f, 12, none⟩ = some (.slice (some ⟨g, 0, none⟩) nw cw2) := by
          have h1 := hwa8.p.row
          unfold frCells at h1
          rw [HNW.out, cell_of_row _ _ 12 _ _ (0, 0) h1, ← hwa8.uw]; rfl
        have zg3 : W8.cell? ⟨g, i * 4 + 3, none⟩ = some (.slice Aa na ca) := by rw [HNA.out]; exact hwa8.cell 3 (by omega)
        have kg3 := Stands.cell (X := fun k => k = w.heap.size ∨ k = g) zg3 (.inr rfl)
        have km1 := Stands.cell (X := fun k => k = w.heap.size ∨ k = g) (show W8.cell? ⟨w.heap.size, 1, none⟩ = some (.int .i64 frm) from cell_of_row _ _ 1 _ _ (0, 0) (later_row (HL5.out.trans HL8.out) HB.out)) (.inl rfl)
        have HWB := hide_ hwa8
        have HLM := hide_ (show w.heap.size < W8.heap.size from Nat.lt_of_lt_of_le (theap_lt HB.out) (HL5.out.trans HL8.out).size)
        have HXL := hide_ HH.out.lt
        have HOA := hide_ (show W8.ownsRow 0 3 1 (.slice Aa na ca) na (ints u.alive) by rw [HNA.out]; exact hwa8.own2)
        have HNG := hide_ (show ∀ k, (Value.slice Aa na ca).ownBlock = some k → k ∈ X ∧ k ≠ g from fun k hk => by
          have hx := hwa8.hX
          have hnd := fun a => cnt_nd hwa8.nd a
          have h1 := part_count hwa8.xi k
          have h2 := mem_count (mem_obL.2 (show (Value.slice Aa u.alive.length ca).ownBlock = some k by rw [← HNA.out]; exact hk))
          rw [hx] at hnd ⊢
          refine ⟨List.count_pos_iff.1 ?_, fun e => ?_⟩
          · simp only [FrC.blocks, hwa8.xw, cnt_cons, List.count_append]; omega
          · have h3 := hnd k
            simp only [FrC.blocks, hwa8.xw, cnt_cons, List.count_append] at h3
            rw [if_pos e.symm] at h3; omega)
        have gf := frozen_own HWB.out.own (show (Value.slice (some ⟨g, 0, none⟩) s.wishes.length cw2).ownBlock = some g from rfl) (i * 4 + 3)
        have glt := cell_lt zg3
        clear hwa8 zg3
        go_wp2_with fail
        refine wp_region_z (R := Stands (fun k => k = w.heap.size ∨ k = g)) [11] (by kernel_rfl) ?_
        refine wpAnyZ_pure (Stands.steady (fun k => k = w.heap.size ∨ k = g)) 0 (v := ?_) rfl (by kernel_rfl) (by kernel_rfl) (by kernel_rfl) (fun _ _ _ h => h) (by rfl) (by intro W; go_simp; with_reducible rfl) ?_; try simp only [Act.put, qA, qZ, qS]
        refine wpAnyZ_pure (Stands.steady (fun k => k = w.heap.size ∨ k = g)) 1 (v := ?_) rfl (by kernel_rfl) (by kernel_rfl) (by kernel_rfl) (fun _ _ _ h => h) (by rfl) (by intro W; go_simp; with_reducible rfl) ?_; try simp only [Act.put, qA, qZ, qS]
        refine wpAnyZ_pure (Stands.steady (fun k => k = w.heap.size ∨ k = g)) 2 (v := ?_) rfl (by kernel_rfl) (by kernel_rfl) (by kernel_rfl) (fun _ _ _ h => h) (by rfl) (by intro W; go_simp; with_reducible rfl) ?_; try simp only [Act.put, qA, qZ, qS]
        refine wpAnyZ_pure (Stands.steady (fun k => k = w.heap.size ∨ k = g)) 3 (v := ?_) rfl (by kernel_rfl) (by kernel_rfl) (by kernel_rfl) (fun _ _ _ h => h) (by rfl) (by intro W; go_simp; with_reducible rfl) ?_; try simp only [Act.put, qA, qZ, qS]
        refine wpAnyZ_take (Stands.steady (fun k => k = w.heap.size ∨ k = g)) 4 (v := ?_) rfl (by kernel_rfl) (by kernel_rfl) (by kernel_rfl) (by kernel_rfl) (fun _ _ _ h => h) (by rfl) (by intro W hSw; have hS0 := Stands.trans (show Stands (fun k => k = w.heap.size ∨ k = g) W8 _ from by repeat first | with_reducible assumption | with_reducible exact Stands.refl _ _ | with_reducible refine Stands.alloc ?_ _ | with_reducible refine Stands.drew ?_ | with_reducible refine Stands.drewL ?_ | with_reducible refine Stands.setCell ?_ (by assumption) _ _ | assumption | refine Stands.trans ?_ (by assumption)) hSw; go_simp; with_reducible rfl) ?_; try simp only [Act.put, qA, qZ, qS]
        refine wpAnyZ_pure (Stands.steady (fun k => k = w.heap.size ∨ k = g)) 5 (v := ?_) rfl (by kernel_rfl) (by kernel_rfl) (by kernel_rfl) (fun _ _ _ h => h) (by rfl) (by intro W; go_simp; with_reducible rfl) ?_; try simp only [Act.put, qA, qZ, qS]
        refine wpAnyZ_take (Stands.steady (fun k => k = w.heap.size ∨ k = g)) 6 (v := ?_) rfl (by kernel_rfl) (by kernel_rfl) (by kernel_rfl) (by kernel_rfl) (fun _ _ _ h => h) (by rfl) (by intro W hSw; have hS0 := Stands.trans (show Stands (fun k => k = w.heap.size ∨ k = g) W8 _ from by repeat first | with_reducible assumption | with_reducible exact Stands.refl _ _ | with_reducible refine Stands.alloc ?_ _ | with_reducible refine Stands.drew ?_ | with_reducible refine Stands.drewL ?_ | with_reducible refine Stands.setCell ?_ (by assumption) _ _ | assumption | refine Stands.trans ?_ (by assumption)) hSw; go_simp; with_reducible rfl) ?_; try simp only [Act.put, qA, qZ, qS]
        refine wpAnyZ_one 7 (by kernel_rfl) rfl (fun K hK => ?_)
        go_simp
        refine hK.out _ _ (by repeat first | with_reducible assumption | with_reducible exact Stands.refl _ _ | with_reducible refine Stands.alloc ?_ _ | with_reducible refine Stands.drew ?_ | with_reducible refine Stands.drewL ?_ | with_reducible refine Stands.setCell ?_ (by assumption) _ _ | assumption | refine Stands.of_later ?_) ?_
        clear hK K; try simp only [Act.put, qA, qZ, qS]
        refine wpAnyZ_one 8 (by kernel_rfl) rfl (fun K hK => ?_)
        refine step_append_rd (by rfl) (.tmp 47) (.tmp 50) 35 rfl 0 3 1 8 intT (.slice Aa na ca) na (ints u.alive) rfl ((HOA.out.drew).alloc _) (some ⟨W8.heap.size, 0, none⟩) 1 1 [.int .i64 frm] rfl (Rd.newAt W8.drew #[.int .i64 frm] 3 1 1 _ (0, 0) rfl rfl) (fun u hu => by rw [List.mem_singleton.1 hu]; rfl) (by omega) (by unfold maxLen; omega) (Nat.zero_le _) (fun h => by cases h) ?_; intro v9 w9 hown9 hg9 hat9; obtain ⟨A9, c9, rfl⟩ := own_form hown9; have hs9 : Stands (fun k => k = w.heap.size ∨ k = g) _ w9 := (Hits.grown (F := fun k => (Value.slice Aa na ca).ownBlock = some k) (Hits.refl _ _) hg9 (fun k hk _ => hk)).stands (fun k _ hk hx => by rcases hx with e | e; (have h1 := HXL.out k (HNG.out k hk).1; omega); exact (HNG.out k hk).2 e); have hs89 := ((Stands.refl (fun k => k = w.heap.size ∨ k = g) W8).drew.alloc _).trans hs9; have gf9 : w9.frozen? ⟨g, i * 4 + 3, none⟩ = false := frozen_stands HWB.out.own (show (Value.slice (some ⟨g, 0, none⟩) s.wishes.length cw2).ownBlock = some g from rfl) hs89 (.inr rfl) _; have kc9 : w9.cell? ⟨g, i * 4 + 3, none⟩ = some (.slice Aa na ca) := kg3 _ hs89
        refine hK.out _ _ (by repeat first | with_reducible assumption | with_reducible exact Stands.refl _ _ | with_reducible refine Stands.alloc ?_ _ | with_reducible refine Stands.drew ?_ | with_reducible refine Stands.drewL ?_ | with_reducible refine Stands.setCell ?_ (by assumption) _ _ | assumption | refine Stands.of_later ?_) ?_
        clear hK K; try simp only [Act.put, qA, qZ, qS]
        refine wpAnyZ_pure (Stands.steady (fun k => k = w.heap.size ∨ k = g)) 9 (v := ?_) rfl (by kernel_rfl) (by kernel_rfl) (by kernel_rfl) (fun _ _ _ h => h) (by rfl) (by intro W; go_simp; with_reducible rfl) ?_; try simp only [Act.put, qA, qZ, qS]
        refine wpAnyZ_pure (Stands.steady (fun k => k = w.heap.size ∨ k = g)) 10 (v := ?_) rfl (by kernel_rfl) (by kernel_rfl) (by kernel_rfl) (fun _ _ _ h => h) (by rfl) (by intro W; go_simp; with_reducible rfl) ?_; try simp only [Act.put, qA, qZ, qS]
        refine wpAnyZ_loud 11 (by kernel_rfl) (by rfl) rfl (fun K hK => ?_)
        go_simp
        refine hK.out _ _ ?_
        clear hK K; try simp only [Act.put, qA, qZ, qS]
        refine wpAnyZ_done (by kernel_rfl) ?_ _
        have hput := wish_put (HWB.out.later (((Later.refl W8).dr).al (.cells #[.int .i64 frm] 3))) HU.out frm (A' := A9) (c' := c9) (by rw [ints_snoc, ← HNA.out]; exact hown9) (by rw [← HNA.out]; exact hg9) (by rw [← HNA.out]; exact hat9)
        rw [← HNA.out] at hput
        obtain ⟨X1, cc3, rows3, xs3, hwa10, hh10, hfr10⟩ := hput
        have HH10 := hide_ (show Hits (· ∈ X) w (w9.setCell ⟨g, i * 4 + 3, none⟩ (.slice A9 (na + 1) c9)) from (Hits.later (HL.out.trans (HL5.out.trans (HL8.out.trans (((Later.refl W8).dr).al _))))).trans hh10 fun _ _ h => h)
        have HF10 := hide_ (show Fresh w X X1 from fun q hq => by
          rcases hfr10 q hq with h1 | h1
          · exact .inl h1
          · exact .inr (Nat.le_trans (HL.out.trans (HL5.out.trans (HL8.out.trans (((Later.refl W8).dr).al (.cells #[.int .i64 frm] 3))))).size h1))
        have hm10 : w9.cell? ⟨w.heap.size, 1, none⟩ = some (.int .i64 frm) := km1 _ hs89
        obtain ⟨W10, hW10⟩ : ∃ W, W = w9.setCell ⟨g, i * 4 + 3, none⟩ (.slice A9 (na + 1) c9) := ⟨_, rfl⟩
        rw [← hW10] at hwa10 HH10 ⊢
        have HWC := hide_ hwa10
        have kc10 := later_drew_cell (show W10.cell? ⟨g, i * 4 + 3, none⟩ = some (.slice A9 (na + 1) c9) from by
          have h1 := hwa10.cell 3 (by omega)
          rw [h1, show (u.alive ++ [frm]).length = na + 1 by rw [HNA.out]; simp]; rfl)
        have HA3 := hide_ (fun W' (hl' : Later W10.drew W') => fall_any (w := W') (hwa10.front.later ((Later.refl W10).dr.trans hl')) (show AllOk { s with wishes := s.wishes.set i { u with alive := u.alive ++ [frm] } } from ⟨HOK.out.all.c, HOK.out.all.r⟩))
        clear hwa10 hh10 hfr10 hown9 hg9 hat9 hs9 hs89 gf9 kc9 hW10 kg3 km1 gf glt hm10 z12
        have na3 : ((na + 1 : Nat) : Int) = (na : Int) + 1 := by omega
        go_wp2_with fail
        refine wp_region_k (by kernel_rfl) ?_
        refine wKt 0 (v := ?_) rfl (by intro W hSw; go_simp; with_reducible rfl) ?_; try simp only [Act.put, qA, qZ, qS]
        refine wKt 1 (v := ?_) rfl (by intro W hSw; go_simp; with_reducible rfl) ?_; try simp only [Act.put, qA, qZ, qS]
        refine wKt 2 (v := ?_) rfl (by intro W hSw; go_simp; with_reducible rfl) ?_; try simp only [Act.put, qA, qZ, qS]
        refine wKt 3 (v := ?_) rfl (by intro W hSw; go_simp; with_reducible rfl) ?_; try simp only [Act.put, qA, qZ, qS]
        refine wKt 4 (v := ?_) rfl (by intro W hSw; go_simp; with_reducible rfl) ?_; try simp only [Act.put, qA, qZ, qS]
        refine wKt 5 (v := ?_) rfl (by intro W hSw; go_simp; with_reducible rfl) ?_; try simp only [Act.put, qA, qZ, qS]
        refine wpAnyK_one 6 (by kernel_rfl) rfl (fun K hK => ?_)
        go_simp
        refine (HA3.out _ (Later.refl _)).mono ?_; rintro e w6 ⟨A6, n6, c6, rfl, hL6, ho6, hl6⟩
        refine hK.out _ _ (by assumption) ?_
        clear hK K; try simp only [Act.put, qA, qZ, qS]
        refine wKt 7 (v := ?_) rfl (by intro W hSw; go_simp; with_reducible rfl) ?_; try simp only [Act.put, qA, qZ, qS]
        refine wKt 8 (v := ?_) rfl (by intro W hSw; go_simp; with_reducible rfl) ?_; try simp only [Act.put, qA, qZ, qS]
        refine wpAnyK_done (by kernel_rfl) ?_ _
        have HL11 := hide_ ((Later.refl W10).dr.trans hl6)
        have HN11 := hide_ (show (allF s).length = n6 from hL6)
        obtain ⟨W11, hW11⟩ : ∃ W, W = w6 := ⟨_, rfl⟩
        rw [← hW11] at HL11 ⊢
        clear hW11 hl6 ho6 hL6 kc10 HA3
        have HE2 := hide_ (HE.out.trans (if_neg (by rw [← HB1.out, ← HB2.out]; simp)))
        have hn6 : n6 ≤ 2097152 := by rw [← HN11.out]; exact HLA.out
        by_cases hlt : na + 1 < n6
        · have HE3 := hide_ (HE2.out.trans (if_pos (by rw [← HNA.out, HN11.out]; exact hlt)))
          have q6 : (na : Int) + 1 < (n6 : Int) := by omega
          clear hlt
          go_wp2_with fail
          go_ret
          rw [HE3.out]
          exact turn_none (HWC.out.front.later HL11.out) (HH10.out.thenLater HL11.out) HF10.out
        · have HE3 := hide_ (HE2.out.trans (if_neg (by rw [← HNA.out, HN11.out]; exact hlt)))
          have q6 : ¬ (na : Int) + 1 < (n6 : Int) := by omega
          clear hlt
          have hwa11 := HWC.out.later HL11.out
          have y0 : W11.cell? ⟨g, i * 4, none⟩ = some (.int .i64 u.guest) := hwa11.cell 0 (by omega)
          have y1 : W11.cell? ⟨g, i * 4 + 1, none⟩ = some (.int .i64 u.seq) := hwa11.cell 1 (by omega)
          have HWD := hide_ hwa11
          clear hwa11
          go_upto_region 9 with (fail)
          obtain ⟨W12, hW12⟩ : ∃ W, W = W11.alloc (.cells #[.int .i64 u.guest, .int .i64 u.seq] 87) := ⟨_, rfl⟩
          rw [← hW12]
          have hl12 : Later W11 W12 := by rw [hW12]; exact later_alloc _ _
          have hb12 : W12.heap[W11.heap.size]? = some (.cells #[.int .i64 u.guest, .int .i64 u.seq] 87 (0, 0)) := by rw [hW12]; exact heap_alloc_new _ _
          have hwa12 := HWD.out.later hl12
          have hlen1 : (s.wishes.set i { u with alive := u.alive ++ [frm] }).length = nw := by rw [List.length_set]; exact HNW.out.symm
          have hown12 : W12.ownsRow 0 89 4 (.slice (some ⟨g, 0, none⟩) nw cw2) nw rows3.flatten := by
            have h1 := hwa12.own
            rw [show (({ s with wishes := s.wishes.set i { u with alive := u.alive ++ [frm] } } : Fr).wishes.length) = nw from hlen1] at h1
            exact h1
          have hrow12 := hwa12.p.row
          have z12 : W12.cell? ⟨f, 12, none⟩ = some (.slice (some ⟨g, 0, none⟩) nw cw2) := by
            have h1 := hwa12.p.row
            have h2 := hwa12.uw
            rw [show (({ s with wishes := s.wishes.set i { u with alive := u.alive ++ [frm] } } : Fr).wishes.length) = nw from hlen1] at h2
            unfold frCells at h1
            rw [cell_of_row _ _ 12 _ _ (0, 0) h1, ← h2]; rfl
          have HDL := hide_ (delete_wish hown12 (Rows.one hwa12.rs) i (by omega) (by omega))
          have HWE := hide_ hwa12; have HL12 := hide_ hl12; have HB12 := hide_ hb12; have HLE := hide_ hlen1
          have hsum : IntKind.i64.wrap ((i : Int) + 1) = (i : Int) + 1 := IntWalk.i64_in _ (by omega)
          have hfg : f ≠ g := fun e => by
            have hx := hwa12.hX
            have h3 := cnt_nd hwa12.nd f
            rw [hx] at h3
            simp only [FrC.blocks, hwa12.xw, cnt_cons, List.count_append, if_true] at h3
            rw [if_pos e.symm] at h3; omega
          have HFG := hide_ hfg
          have HRW12 := hide_ hrow12
          clear hW12 hl12 hb12 hwa12 hlen1 hown12 hrow12 hfg y0 y1
          go_wp2_with fail
          refine HDL.out.mono ?_; rintro e w13 ⟨rfl, ho13, hb13, hk13, hs13⟩
          have hr13 := (hk13 f (fun e => HFG.out (by injection e))).trans HRW12.out
          have zz12 : w13.cell? ⟨f, 12, none⟩ = some cc3.uw := cell_of_row _ _ 12 _ _ (0, 0) hr13
          have ff12 := frozen_of_row _ _ 12 _ _ hr13
          have hr14 := heap_setCell_same w13 f 12 _ _ (.slice (some ⟨g, 0, none⟩) (nw - 1) cw2) hr13
          have zz15 : (w13.setCell ⟨f, 12, none⟩ (.slice (some ⟨g, 0, none⟩) (nw - 1) cw2)).cell? ⟨f, 15, none⟩ = some (.int .i64 s.stuck) := cell_of_row _ _ 15 _ _ (0, 0) hr14
          have ff15 := frozen_of_row _ _ 15 _ _ hr14
          have hdrop := wish_drop HWE.out (by show (s.wishes.set i _)[i]? = _; rw [List.getElem?_set_self (by rw [← HNW.out]; exact hil)]) (by rw [show (({ s with wishes := s.wishes.set i { u with alive := u.alive ++ [frm] } } : Fr).wishes.length) = nw from HLE.out]; exact ho13) hb13 hk13 hs13
          rw [show (({ s with wishes := s.wishes.set i { u with alive := u.alive ++ [frm] } } : Fr).wishes.length) = nw from HLE.out] at hdrop
          have HDR := hide_ hdrop
          clear hdrop hr13 hr14 ho13 hb13 hk13 hs13 HDL z12
          go_upto_region 11 with (fail)
          obtain ⟨X2, hf2, hh2, hfr2⟩ := HDR.out
          have hX1 : ∀ q ∈ X1, q < W11.heap.size := HWD.out.front.lt
          have HHZ := hide_ (turn_step ((HH10.out.thenLater HL11.out).thenLater HL12.out) HF10.out hh2)
          have HFZ := hide_ (HF10.out.trans hfr2 (((HH10.out.thenLater HL11.out).thenLater HL12.out).size))
          have hb14 := hh2.row HB12.out (fun hx => by have := hX1 _ hx; omega)
          have hog := HGG.out.hits HHZ.out HGX.out
          obtain ⟨Wz, hWz⟩ : ∃ W, W = (w13.setCell ⟨f, 12, none⟩ (.slice (some ⟨g, 0, none⟩) (nw - 1) cw2)).setCell ⟨f, 15, none⟩ (.int .i64 0) := ⟨_, rfl⟩
          rw [← hWz] at hf2 HHZ hb14 hog ⊢
          have HF2 := hide_ hf2
          have HKN := hide_ (show Wz.cell? ⟨f, 8, none⟩ = some (.int .i64 s.known) from by obtain ⟨cc4, h1, _⟩ := hf2; exact cell_of_row _ _ 8 _ _ (0, 0) h1.row)
          have a0 : Wz.cell? ⟨W11.heap.size, 0, none⟩ = some (.int .i64 u.guest) := cell_of_row _ _ 0 _ _ (0, 0) hb14
          have a1 : Wz.cell? ⟨W11.heap.size, 1, none⟩ = some (.int .i64 u.seq) := cell_of_row _ _ 1 _ _ (0, 0) hb14
          have o0 := hog.c0
          have o1 := hog.c1
          have HA0 := hide_ a0; have HA1 := hide_ a1
          have hEQ := eq_ask u.guest u.seq (-1) 0
          have hGU := fun op x y W => guard_ask op x y #[.int .i64 u.guest, .int .i64 u.seq] #[.int .i64 (-1), .int .i64 0] W
          clear hh2 hfr2 hb14 hog hWz hX1 zz12 ff12 zz15 ff15 HDR hf2
          by_cases hown : u.guest = -1 ∧ u.seq = 0
          · have HS := hide_ hown
            have hd : decide (u.guest = -1 ∧ u.seq = 0) = true := by simpa using hown
            rw [hd] at hEQ
            clear hown hd
            go_wp2_with fail
            go_ret
            rw [HE3.out]
            simp only [if_pos HS.out]
            exact turn_none HF2.out HHZ.out HFZ.out
          · have HS := hide_ hown
            have hd : decide (u.guest = -1 ∧ u.seq = 0) = false := by simpa using hown
            rw [hd] at hEQ
            clear hown hd
            have ka0 := later_drew_cell HA0.out
            have ka1 := later_drew_cell HA1.out
            have kkn := later_drew_cell HKN.out
            have HTL := hide_ (fun W' (hl' : Later Wz.drew W') => (tell_any (w := W') (HF2.out.later ((Later.refl Wz).dr.trans hl')) u.guest u.seq 0 s.known).mono (fun e w6 h => (⟨h.1, h.2⟩ : e = .returned (.agg #[.int .i64 2, .int .i64 s.node, .int .i64 u.guest, .int .i64 s.epoch, .int .i64 u.seq, .int .i64 0, .int .i64 s.known, .slice none 0 0]) ∧ Later W' w6)))
            go_wp2_with fail
            clear a0 a1 o0 o1 hEQ hGU
            refine wp_region_k (by kernel_rfl) ?_
            refine wKt 0 (v := ?_) rfl (by intro W hSw; go_simp; with_reducible rfl) ?_; try simp only [Act.put, qA, qZ, qS]
            refine wKt 1 (v := ?_) rfl (by intro W hSw; go_simp; with_reducible rfl) ?_; try simp only [Act.put, qA, qZ, qS]
            refine wKt 2 (v := ?_) rfl (by intro W hSw; go_simp; with_reducible rfl) ?_; try simp only [Act.put, qA, qZ, qS]
            refine wKt 3 (v := ?_) rfl (by intro W hSw; go_simp; with_reducible rfl) ?_; try simp only [Act.put, qA, qZ, qS]
            refine wKt 4 (v := ?_) rfl (by intro W hSw; go_simp; with_reducible rfl) ?_; try simp only [Act.put, qA, qZ, qS]
            refine wKt 5 (v := ?_) rfl (by intro W hSw; go_simp; with_reducible rfl) ?_; try simp only [Act.put, qA, qZ, qS]
            refine wpAnyK_one 6 (by kernel_rfl) rfl (fun K hK => ?_)
            go_simp
            refine (HTL.out _ (Later.refl _)).mono ?_; rintro e w6 ⟨rfl, hl6⟩
            refine hK.out _ _ (by assumption) ?_
            clear hK K; try simp only [Act.put, qA, qZ, qS]
            refine wpAnyK_one 7 (by kernel_rfl) rfl (fun K hK => ?_)
            go_simp
            refine hK.out _ _ (Below.alloc (Below.refl _ _) (Nat.le_refl _) _) ?_
            clear hK K; try simp only [Act.put, qA, qZ, qS]
            refine wKt 8 (v := ?_) rfl (by intro W hSw; go_simp; with_reducible rfl) ?_; try simp only [Act.put, qA, qZ, qS]
            refine wpAnyK_done (by kernel_rfl) ?_ _
            have HL6 := hide_ ((Later.refl Wz).dr.trans hl6)
            clear hl6 ka0 ka1 kkn HTL
            go_wp2_with fail
            go_ret
            rw [HE3.out]
            simp only [if_neg HS.out]
            have hl7 := HL6.out.al (.cells #[.int .i64 2, .int .i64 s.node, .int .i64 u.guest, .int .i64 s.epoch, .int .i64 u.seq, .int .i64 0, .int .i64 s.known, .slice none 0 0] 53)
            have hf7 := HF2.out.later hl7
            exact ⟨_, 1, 1, [], X2, _, rfl, rfl, slice_one (m := tellM s u.guest u.seq 0 s.known) rfl, fun k hk => (by cases hk), Nat.le_trans HHZ.out.size HL6.out.size, fun k hk => Nat.lt_of_lt_of_le (HF2.out.lt k hk) HL6.out.size, hf7, HHZ.out.thenLater hl7, HFZ.out⟩

end Go.Proofs.YtcmollfhlillfaaGreatDoor
