/-
  Texts of this seat in one: FrIdx, FrAlvA, FrAlvB.
-/
import Derived.Test.YtcmollfhlillfaaGreatDoorM31
import Derived.Test.YtcmollfhlillfaaGreatDoorM6
/-
  front: which wish has a number.
-/
namespace Go.Proofs.YtcmollfhlillfaaGreatDoor
open Go.RowKit
set_option linter.unusedVariables false
set_option linter.unusedSimpArgs false
theorem wish_cells {w : World} {A : Option Addr} {n c : Nat} {L : List Ws} {X : List Nat} (h : wishesR.holds w [.slice A n c] L X) {i : Nat} {u : Ws} (hi : L[i]? = some u) :
    L.length = n ∧ ∃ g Aa ca, A = some ⟨g, 0, none⟩ ∧ w.cell? ⟨g, i * 4, none⟩ = some (.int .i64 u.guest) ∧ w.cell? ⟨g, i * 4 + 1, none⟩ = some (.int .i64 u.seq) ∧ w.cell? ⟨g, i * 4 + 2, none⟩ = some (.int .i64 u.number) ∧ w.cell? ⟨g, i * 4 + 3, none⟩ = some (.slice Aa u.alive.length ca) ∧ Rd w 1 Aa u.alive.length (ints u.alive) := by
  obtain ⟨hn, g, cells, x, hA, hc, v, rfl, h1⟩ := slice_cells h hi (by decide)
  obtain ⟨v1, e1, o1, _⟩ := ints_holds.1 h1
  injection e1 with e1
  subst e1
  obtain ⟨A1, c1, rfl⟩ := own_form o1
  have z := hc 0 _ rfl
  rw [Nat.add_zero] at z
  exact ⟨hn, g, A1, c1, hA, z, hc 1 _ rfl, hc 2 _ rfl, hc 3 _ rfl, Rd.of_own o1⟩
theorem fidx_some {p : Ws → Bool} {L : List Ws} {i : Nat} {x : Ws} (hx : L[i]? = some x) (hp : p x = true) (hb : ∀ (j : Nat) (y : Ws), j < i → L[j]? = some y → p y = false) : L.findIdx? p = some i := by
  have e := List.getElem?_eq_some_iff.1 hx
  rw [List.findIdx?_eq_some_iff_getElem]
  refine ⟨e.1, by rw [e.2]; exact hp, fun j hj => ?_⟩
  have hjl : j < L.length := Nat.lt_trans hj e.1
  have := hb j L[j] hj (List.getElem?_eq_getElem hjl)
  simp [this]
theorem fidx_none {p : Ws → Bool} {L : List Ws} (hb : ∀ (j : Nat) (y : Ws), L[j]? = some y → p y = false) : L.findIdx? p = none := by
  rw [List.findIdx?_eq_none_iff]
  intro x hx
  obtain ⟨j, hj⟩ := List.getElem?_of_mem hx
  exact hb j x hj
def idxI (o : Option Nat) : Int := match o with
  | some i => (i : Int)
  | none => -1
set_option maxHeartbeats 2000000 in
set_option maxRecDepth 100000 in
theorem alive1_any (u : Ws) (Aa : Option Addr) (na ca mb : Nat) (a : Int) {w : World} (hm : w.cell? ⟨mb, 4, none⟩ = some (.int .i64 a)) :
    Calls Tryz.prog 59 #[.agg #[.int .i64 u.guest, .int .i64 u.seq, .int .i64 u.number, .slice Aa na ca], .pointer (some ⟨mb, 0, none⟩)] w fun e w' => e = .returned (.bool (u.number == a)) ∧ Later w w' := by
  obtain ⟨W1, hW1⟩ : ∃ W1, W1 = w.alloc (.cells #[.int .i64 u.guest, .int .i64 u.seq, .int .i64 u.number, .slice Aa na ca] 89) := ⟨_, rfl⟩
  have hl : Later w W1 := by rw [hW1]; exact later_alloc _ _
  have hb : W1.heap[w.heap.size]? = some (.cells #[.int .i64 u.guest, .int .i64 u.seq, .int .i64 u.number, .slice Aa na ca] 89 (0, 0)) := by rw [hW1]; exact heap_alloc_new _ _
  have z2 : W1.cell? ⟨w.heap.size, 2, none⟩ = some (.int .i64 u.number) := cell_of_row _ _ 2 _ _ (0, 0) hb
  have z4 : W1.cell? ⟨mb, 4, none⟩ = some (.int .i64 a) := (hl.cell (cell_lt hm)).trans hm
  have HL := hide_ hl; have HW := hide_ hW1
  clear hl hb hW1 hm
  go_enter Tryz.func59, Tryz.ntmps59
  go_wp2_with (rw [← HW.out])
  go_ret
  exact ⟨rfl, HL.out⟩
set_option maxHeartbeats 4000000 in
set_option maxRecDepth 100000 in
theorem index_wish {w : World} {A : Option Addr} {n c mb : Nat} {L : List Ws} {X : List Nat} (hw : wishesR.holds w [.slice A n c] L X) (hn : n ≤ 1048576) {a : Int} (hm : w.cell? ⟨mb, 4, none⟩ = some (.int .i64 a)) :
    Calls Tryz.prog 58 #[.slice A n c, .func (.func 59) #[] #[.pointer (some ⟨mb, 0, none⟩)]] w fun e w' => e = .returned (.int .i64 (idxI (L.findIdx? fun u => u.number == a))) ∧ Later w w' := by
  have HW := hide_ hw; have HM := hide_ hm
  have hL : L.length = n := by obtain ⟨A', c', e⟩ := slice_len hw; injection e with e; injection e with _ e _; exact e.symm
  have HLN := hide_ hL
  have hn2 : (n : Int) ≤ 1048576 := by omega
  clear hw hm hL
  go_enter Tryz.func58, Tryz.ntmps58
  go_wp2_with fail
  go_loopw [8] (fun s8 wr => ∃ i : Nat, i ≤ n ∧ s8 = .int .i64 i ∧ Hid (∀ (j : Nat) (x : Ws), j < i → L[j]? = some x → (x.number == a) = false) ∧ Hid (Later w wr)) (fun i _ => n - (intOf i).toNat)
  case atStart => exact ⟨0, by omega, rfl, hide_ (fun j x hj => absurd hj (by omega)), hide_ (Later.refl _)⟩
  case round =>
    obtain ⟨i, hi, rfl, HB, HL⟩ := hrel
    by_cases hlt : i < n
    · obtain ⟨x, hx⟩ : ∃ x, L[i]? = some x := ⟨_, List.getElem?_eq_getElem (by rw [HLN.out]; exact hlt)⟩
      have HX := hide_ hx
      obtain ⟨_, g, Aa, ca, e, y0, y1, y2, y3, _⟩ := wish_cells (wishesR.later HW.out HL.out) hx
      subst e
      have q1 : (i : Int) < (n : Int) := by omega
      have q2 : (i : Int) ≤ 1048576 := by omega
      have HC := hide_ (alive1_any x Aa x.alive.length ca mb a (w := wr) ((HL.out.cell (cell_lt HM.out)).trans HM.out))
      clear hx
      obtain ⟨na, hna⟩ : ∃ na, na = x.alive.length := ⟨_, rfl⟩
      rw [← hna] at y3 HC
      clear hna
      cases hpx : x.number == a with
      | true =>
        go_wp2_with fail
        refine HC.out.mono ?_; rintro e w1 ⟨rfl, hl1⟩
        rw [hpx]
        have HL1 := hide_ (HL.out.trans hl1)
        have HR := hide_ (fidx_some HX.out hpx HB.out)
        clear hl1 y0 y1 y2 y3
        go_wp2_with fail
        go_ret
        exact ⟨by rw [HR.out]; rfl, HL1.out⟩
      | false =>
        go_wp2_with fail
        refine HC.out.mono ?_; rintro e w1 ⟨rfl, hl1⟩
        rw [hpx]
        have HL1 := hide_ (HL.out.trans hl1)
        have HB1 := hide_ (show ∀ (j : Nat) (y : Ws), j < i + 1 → L[j]? = some y → (y.number == a) = false from fun j y hj hy => by
          rcases Nat.lt_or_ge j i with h | h
          · exact HB.out j y h hy
          · obtain rfl : j = i := by omega
            rw [HX.out] at hy; injection hy with hy; subst hy; exact hpx)
        clear hl1 y0 y1 y2 y3
        go_wp2_with fail
        go_roundw
        case rel => exact ⟨i + 1, by omega, by go_num, HB1, HL1⟩
        case measure => simp only [intOf]; omega
    · have HR := hide_ (show L.findIdx? (fun u => u.number == a) = none from fidx_none (fun j x hj => HB.out j x (by have := (List.getElem?_eq_some_iff.1 hj).1; have := HLN.out; omega) hj))
      go_wp2_with fail
      go_ret
      exact ⟨by rw [HR.out]; rfl, HL.out⟩

end Go.Proofs.YtcmollfhlillfaaGreatDoor
/-
  front: a wish that turns, and one that goes.
-/
namespace Go.Proofs.YtcmollfhlillfaaGreatDoor
open Go.RowKit
set_option linter.unusedVariables false
set_option linter.unusedSimpArgs false
section
variable {α : Type} {r : Rep α} {w w' : World}
theorem Rows.turn {F : Nat → Prop} (hh : Hits F w w') {c : List Value} {a : α} {x : List Nat} (hc : r.holds w' c a x) : ∀ {cs : List (List Value)} {vs : List α} {xs : List (List Nat)} (i : Nat), Rows r w cs vs xs → (∀ j y, j ≠ i → xs[j]? = some y → ∀ k ∈ y, ¬ F k) → Rows r w' (cs.set i c) (vs.set i a) (xs.set i x)
  | [], [], [], i, _, _ => trivial
  | d :: cs, b :: vs, y :: xs, 0, h, hF => ⟨hc, h.2.frame hh fun k hk => by
      obtain ⟨l, h1, h2⟩ := List.mem_flatten.1 hk
      obtain ⟨j, hj⟩ := List.getElem?_of_mem h1
      exact hF (j + 1) l (by omega) (by simpa using hj) k h2⟩
  | d :: cs, b :: vs, y :: xs, i + 1, h, hF => ⟨r.frame h.1 hh fun k hk => hF 0 y (by omega) (by simp) k hk, Rows.turn hh hc i h.2 fun j z hj hz => hF (j + 1) z (by omega) (by simpa using hz)⟩
end
theorem set_count {xs : List (List Nat)} {x y : List Nat} (a : Nat) : ∀ {i : Nat}, xs[i]? = some y → (xs.set i x).flatten.count a + y.count a = xs.flatten.count a + x.count a := by
  induction xs with
  | nil => intro i h; simp at h
  | cons z xs ih =>
    intro i h
    cases i with
    | zero =>
      have e : z = y := by simpa using h
      subst e
      simp only [List.set_cons_zero, List.flatten_cons, List.count_append]; omega
    | succ i =>
      have := ih (i := i) (by simpa using h)
      simp only [List.set_cons_succ, List.flatten_cons, List.count_append]; omega
theorem cut_count {xs : List (List Nat)} {y : List Nat} (a : Nat) {i : Nat} (h : xs[i]? = some y) : (xs.take i ++ xs.drop (i + 1)).flatten.count a + y.count a = xs.flatten.count a := by
  have e := List.getElem?_eq_some_iff.1 h
  have h2 : xs.drop i = y :: xs.drop (i + 1) := by rw [List.drop_eq_getElem_cons e.1, e.2]
  have h3 := split_count xs i a
  rw [h2, List.flatten_cons, List.count_append] at h3
  rw [List.flatten_append, List.count_append]; omega
theorem mem_count {X : List Nat} {a : Nat} (h : a ∈ X) : 0 < X.count a := List.count_pos_iff.2 h
theorem part_count {xs : List (List Nat)} {y : List Nat} {i : Nat} (h : xs[i]? = some y) (a : Nat) : y.count a ≤ xs.flatten.count a := by
  have := cut_count a h; omega
theorem two_count {xs : List (List Nat)} {x y : List Nat} {i j : Nat} (hi : xs[i]? = some x) (hj : xs[j]? = some y) (hne : j ≠ i) (a : Nat) : x.count a + y.count a ≤ xs.flatten.count a := by
  have h1 := cut_count a hi
  have h2 : y ∈ xs.take i ++ xs.drop (i + 1) := by
    rcases Nat.lt_or_ge j i with h | h
    · exact List.mem_append_left _ (List.mem_of_getElem? (by rw [List.getElem?_take_of_lt h]; exact hj))
    · exact List.mem_append_right _ (List.mem_of_getElem? (i := j - (i + 1)) (by rw [List.getElem?_drop, show i + 1 + (j - (i + 1)) = j by omega]; exact hj))
  obtain ⟨k, hk⟩ := List.getElem?_of_mem h2
  have := part_count hk a
  omega
/-- A front whose wishes are laid open at one of them. -/
structure WishAt (w : World) (f : Nat) (s : Fr) (X : List Nat) (cc : FrC) (i : Nat) (u : Ws) (g c : Nat) (Aa : Option Addr) (ca : Nat) (rows : List (List Value)) (xs : List (List Nat)) : Prop where
  p : FrP w f s cc
  hX : X = cc.blocks f
  nd : X.Nodup
  uw : cc.uw = .slice (some ⟨g, 0, none⟩) s.wishes.length c
  own : w.ownsRow 0 89 4 (.slice (some ⟨g, 0, none⟩) s.wishes.length c) s.wishes.length rows.flatten
  rs : Rows wishR w rows s.wishes xs
  xw : cc.Xw = g :: xs.flatten
  ri : rows[i]? = some [.int .i64 u.guest, .int .i64 u.seq, .int .i64 u.number, .slice Aa u.alive.length ca]
  xi : xs[i]? = some (obL (.slice Aa u.alive.length ca))
  own2 : w.ownsRow 0 3 1 (.slice Aa u.alive.length ca) u.alive.length (ints u.alive)
theorem wish_open {w : World} {f : Nat} {s : Fr} {X : List Nat} (h : FrH w f s X) {i : Nat} {u : Ws} (hi : s.wishes[i]? = some u) : ∃ cc g c Aa ca rows xs, WishAt w f s X cc i u g c Aa ca rows xs := by
  obtain ⟨cc, hp, hX, hnd⟩ := h
  obtain ⟨v, rows, xs, e, ho, hr, hx⟩ := hp.wishes
  injection e with e
  obtain ⟨cells, x, h1, h2, h3⟩ := hr.at_ hi
  obtain ⟨va, rfl, h5⟩ := h3
  obtain ⟨v2, e2, o2, rfl⟩ := ints_holds.1 h5
  injection e2 with e2
  subst e2
  obtain ⟨Aa, ca, rfl⟩ := own_form o2
  have hlt := (List.getElem?_eq_some_iff.1 hi).1
  obtain ⟨A, c, rfl⟩ := own_form ho
  have hA : ∃ g, A = some ⟨g, 0, none⟩ := by
    rcases ho.2 with ⟨hv, h0⟩ | ⟨g, cap, cur, hv, _⟩
    · omega
    · injection hv with hv; exact ⟨g, hv⟩
  obtain ⟨g, rfl⟩ := hA
  exact ⟨cc, g, c, Aa, ca, rows, xs, hp, hX, hnd, e, ho, hr, hx, h1, h2, o2⟩
theorem WishAt.front {w : World} {f : Nat} {s : Fr} {X : List Nat} {cc : FrC} {i : Nat} {u : Ws} {g c : Nat} {Aa : Option Addr} {ca : Nat} {rows : List (List Value)} {xs : List (List Nat)} (h : WishAt w f s X cc i u g c Aa ca rows xs) : FrH w f s X := ⟨cc, h.p, h.hX, h.nd⟩
/-- One more is alive of a wish. -/
theorem wish_put {w w1 : World} {f : Nat} {s : Fr} {X : List Nat} {cc : FrC} {i : Nat} {u : Ws} {g c : Nat} {Aa A' : Option Addr} {ca c' : Nat} {rows : List (List Value)} {xs : List (List Nat)} (h : WishAt w f s X cc i u g c Aa ca rows xs) (hi : s.wishes[i]? = some u) (frm : Int)
    (ho : w1.ownsRow 0 3 1 (.slice A' (u.alive.length + 1) c') (u.alive.length + 1) (ints (u.alive ++ [frm]))) (hg : w.grownBy w1 (Value.slice Aa u.alive.length ca).ownBlock) (hat : (Value.slice A' (u.alive.length + 1) c').ownBlock = (Value.slice Aa u.alive.length ca).ownBlock ∨ (Value.slice A' (u.alive.length + 1) c').ownBlock = some w.heap.size) :
    ∃ X' cc' rows' xs', WishAt (w1.setCell ⟨g, i * 4 + 3, none⟩ (.slice A' (u.alive.length + 1) c')) f { s with wishes := s.wishes.set i { u with alive := u.alive ++ [frm] } } X' cc' i { u with alive := u.alive ++ [frm] } g c A' c' rows' xs' ∧ Hits (· ∈ X) w (w1.setCell ⟨g, i * 4 + 3, none⟩ (.slice A' (u.alive.length + 1) c')) ∧ Fresh w X X' := by
  obtain ⟨hp, hX, hnd, huw, hown, hrs, hxw, hri, hxi, ho2⟩ := h
  have hndc := fun a => cnt_nd hnd a
  rw [hX] at hndc
  have hndc2 := hndc
  unfold FrC.blocks at hndc
  rw [hxw] at hndc
  have hmem : ∀ k ∈ obL (.slice Aa u.alive.length ca), k ∈ X := fun k hk => by
    rw [hX]; unfold FrC.blocks; rw [hxw]
    have : k ∈ xs.flatten := List.mem_flatten.2 ⟨_, List.mem_of_getElem? hxi, hk⟩
    simp [this]
  have hgX : g ∈ X := by rw [hX]; unfold FrC.blocks; rw [hxw]; simp
  have hh1 : Hits (fun k => k ∈ obL (.slice Aa u.alive.length ca)) w w1 := (Hits.refl _ w).grown hg fun k hk _ => mem_obL.2 hk
  have hh12 : Hits (· = g) w1 (w1.setCell ⟨g, i * 4 + 3, none⟩ (.slice A' (u.alive.length + 1) c')) := (Hits.refl (· = g) w1).setCell (g := g) (fun _ => rfl) _ _
  have hh : Hits (fun k => k = g ∨ k ∈ obL (.slice Aa u.alive.length ca)) w (w1.setCell ⟨g, i * 4 + 3, none⟩ (.slice A' (u.alive.length + 1) c')) := (hh1.mono fun _ _ h => .inr h).trans hh12 fun _ _ h => .inl h
  have hgl : g < w.heap.size := hp.lt g (by unfold FrC.blocks; rw [hxw]; simp)
  have gna : g ∉ obL (.slice Aa u.alive.length ca) := fun hm => by
    have h1 := hndc g
    have h2 := part_count hxi g
    have h3 := mem_count hm
    simp only [cnt_cons, List.count_append, if_true] at h1; omega
  have nofront : ∀ k, (k = g ∨ k ∈ obL (.slice Aa u.alive.length ca)) → ∀ Y : List Nat, (∀ a, Y.count a + (g :: xs.flatten).count a ≤ 1) → k ∉ Y := fun k hk Y hY hm => by
    have h1 := hY k
    have h2 := mem_count hm
    rw [cnt_cons] at h1
    rcases hk with rfl | hk
    · simp at h1; omega
    · have h3 := part_count hxi k
      have h4 := mem_count hk
      omega
  have nf : ∀ Y : List Nat, (∀ a, Y.count a + (g :: xs.flatten).count a ≤ 1) → ∀ k ∈ Y, ¬ (k = g ∨ k ∈ obL (.slice Aa u.alive.length ca)) := fun Y hY k hk hF => nofront k hF Y hY hk
  have hown1 : w1.ownsRow 0 89 4 (.slice (some ⟨g, 0, none⟩) s.wishes.length c) s.wishes.length rows.flatten := hh1.own hown fun k hk e => by
    have e2 : g = k := by injection hk
    subst e2; exact gna e
  have hown2 := own_setCell hown1 (i * 4 + 3) (.slice A' (u.alive.length + 1) c')
  have hlt := (List.getElem?_eq_some_iff.1 hi).1
  have hflat : rows.flatten.set (i * 4 + 3) (.slice A' (u.alive.length + 1) c') = (rows.set i [.int .i64 u.guest, .int .i64 u.seq, .int .i64 u.number, .slice A' (u.alive.length + 1) c']).flatten := by
    have gen : ∀ (R : List (List Value)) (i : Nat), (∀ c ∈ R, c.length = 4) → R[i]? = some [.int .i64 u.guest, .int .i64 u.seq, .int .i64 u.number, .slice Aa u.alive.length ca] → R.flatten.set (i * 4 + 3) (.slice A' (u.alive.length + 1) c') = (R.set i [.int .i64 u.guest, .int .i64 u.seq, .int .i64 u.number, .slice A' (u.alive.length + 1) c']).flatten := by
      intro R
      induction R with
      | nil => intro i _ h; simp at h
      | cons d R ih =>
        intro i hl h
        cases i with
        | zero =>
          rw [List.getElem?_cons_zero] at h
          injection h with e
          subst e
          simp
        | succ i =>
          have hd := hl d (List.mem_cons_self ..)
          have := ih i (fun c hc => hl c (List.mem_cons_of_mem _ hc)) (by simpa using h)
          simp only [List.flatten_cons, List.set_cons_succ]
          rw [← this, List.set_append_right _ _ (by omega), hd]
          congr 2; omega
    exact gen rows i hrs.each hri
  rw [hflat] at hown2
  have ho' : (w1.setCell ⟨g, i * 4 + 3, none⟩ (.slice A' (u.alive.length + 1) c')).ownsRow 0 3 1 (.slice A' (u.alive.length + 1) c') (u.alive.length + 1) (ints (u.alive ++ [frm])) := hh12.own ho fun k hk e => by
    subst e
    rcases hat with h1 | h1
    · rw [h1] at hk; exact gna (mem_obL.2 hk)
    · rw [h1] at hk; injection hk with hk; omega
  have hlen : (u.alive ++ [frm]).length = u.alive.length + 1 := by simp
  have hel : wishR.holds (w1.setCell ⟨g, i * 4 + 3, none⟩ (.slice A' (u.alive.length + 1) c')) [.int .i64 u.guest, .int .i64 u.seq, .int .i64 u.number, .slice A' (u.alive.length + 1) c'] { u with alive := u.alive ++ [frm] } (obL (.slice A' (u.alive.length + 1) c')) :=
    ⟨_, rfl, ints_holds.2 ⟨_, rfl, by rw [hlen]; exact ho', rfl⟩⟩
  have hrs' := hrs.turn hh hel i fun j y hj hy k hk hF => by
    rcases hF with e | hk2
    · subst e
      have h1 := hndc k
      have h2 := part_count hy k
      have h3 := mem_count hk
      simp only [cnt_cons, List.count_append, if_true] at h1; omega
    · have h1 := hndc k
      have h2 := two_count hxi hy hj k
      have h3 := mem_count hk
      have h4 := mem_count hk2
      simp only [cnt_cons, List.count_append] at h1; omega
  have hnew : ∀ a, (obL (.slice A' (u.alive.length + 1) c')).count a ≤ (obL (.slice Aa u.alive.length ca)).count a + (if a = w.heap.size then 1 else 0) := fun a => by
    unfold obL
    rcases hat with h1 | h1
    · rw [h1]; omega
    · rw [h1]
      simp only [cnt_cons, List.count_nil]
      by_cases e : w.heap.size = a
      · rw [if_pos e, if_pos e.symm]; omega
      · rw [if_neg e]; omega
  have hlts : ∀ Y : List Nat, (∀ k ∈ Y, k ∈ X) → Y.count w.heap.size = 0 := fun Y hY => List.count_eq_zero.2 fun hm => by
    have := hp.lt w.heap.size (by rw [← hX]; exact hY _ hm); omega
  have hsl : (s.wishes.set i { u with alive := u.alive ++ [frm] }).length = s.wishes.length := List.length_set
  have hxl : i < xs.length := (List.getElem?_eq_some_iff.1 hxi).1
  have hrl : i < rows.length := (List.getElem?_eq_some_iff.1 hri).1
  refine ⟨FrC.blocks f { cc with Xw := g :: (xs.set i (obL (.slice A' (u.alive.length + 1) c'))).flatten }, { cc with Xw := g :: (xs.set i (obL (.slice A' (u.alive.length + 1) c'))).flatten }, _, _, ⟨⟨?_, ?_, ?_, ?_, ?_, ?_, ⟨.slice (some ⟨g, 0, none⟩) s.wishes.length c, _, _, ?_, ?_, hrs', rfl⟩, ?_⟩, rfl, ?_, ?_, ?_, hrs', rfl, ?_, ?_, ?_⟩, ?_, ?_⟩
  · refine hh.row hp.row fun hF => ?_
    exact nofront f hF [f] (fun a => by have := hndc a; simp only [cnt_cons, List.count_append, List.count_nil] at this ⊢; omega) (by simp)
  · exact intsR.frame hp.chests hh (nf cc.Xc fun a => by have := hndc a; simp only [cnt_cons, List.count_append, List.count_nil] at this ⊢; omega)
  · exact intsR.frame hp.refs hh (nf cc.Xr fun a => by have := hndc a; simp only [cnt_cons, List.count_append, List.count_nil] at this ⊢; omega)
  · exact strsR.frame hp.bounds hh (nf cc.Xb fun a => by have := hndc a; simp only [cnt_cons, List.count_append, List.count_nil] at this ⊢; omega)
  · exact hp.seen.hits hh (nf [cc.m] (fun a => by have := hndc a; simp only [cnt_cons, List.count_append, List.count_nil] at this ⊢; omega) _ (by simp))
  · exact jobsR.frame hp.queue hh (nf cc.Xq fun a => by have := hndc a; simp only [cnt_cons, List.count_append, List.count_nil] at this ⊢; omega)
  · show [cc.uw] = _
    rw [huw]
  · show World.ownsRow _ 0 _ 4 _ (s.wishes.set i _).length _
    rw [hsl]; exact hown2
  · exact hp.cur.frame hh (nf cc.Xp fun a => by have := hndc a; simp only [cnt_cons, List.count_append, List.count_nil] at this ⊢; omega)
  · refine List.nodup_iff_count.2 fun a => ?_
    have h1 := hndc a
    have h2 := set_count (x := obL (.slice A' (u.alive.length + 1) c')) a hxi
    have h3 := hnew a
    simp only [FrC.blocks, cnt_cons, List.count_append] at h1 ⊢
    by_cases ha : a = w.heap.size
    · subst ha
      rw [if_pos rfl] at h3
      have hz : ∀ Y : List Nat, (∀ k ∈ Y, k ∈ cc.blocks f) → Y.count w.heap.size = 0 := fun Y hY => hlts Y fun k hk => by rw [hX]; exact hY k hk
      have z1 := hz cc.Xc fun k hk => by simp [FrC.blocks, hk]
      have z2 := hz cc.Xr fun k hk => by simp [FrC.blocks, hk]
      have z3 := hz cc.Xb fun k hk => by simp [FrC.blocks, hk]
      have z4 := hz cc.Xq fun k hk => by simp [FrC.blocks, hk]
      have z5 := hz cc.Xp fun k hk => by simp [FrC.blocks, hk]
      have z6 := hz xs.flatten fun k hk => by simp [FrC.blocks, hxw, hk]
      have z7 : f ≠ w.heap.size := by have := hp.lt f (by simp [FrC.blocks]); omega
      have z8 : cc.m ≠ w.heap.size := by have := hp.lt cc.m (by simp [FrC.blocks]); omega
      have z9 : g ≠ w.heap.size := by omega
      rw [z1, z2, z3, z4, z5, if_neg z7, if_neg z8, if_neg z9]
      have z10 := part_count hxi w.heap.size
      omega
    · rw [if_neg ha] at h3
      omega
  · show cc.uw = .slice _ (s.wishes.set i _).length _
    rw [hsl]; exact huw
  · show World.ownsRow _ 0 _ 4 (.slice _ (s.wishes.set i _).length _) (s.wishes.set i _).length _
    rw [hsl]; exact hown2
  · rw [List.getElem?_set_self hrl, hlen]
  · rw [List.getElem?_set_self hxl, hlen]
  · show World.ownsRow _ 0 _ 1 (.slice A' (u.alive ++ [frm]).length c') (u.alive ++ [frm]).length _
    rw [hlen]; exact ho'
  · exact hh.mono fun k _ hF => by
      rcases hF with rfl | hk
      · exact hgX
      · exact hmem k hk
  · intro k hk
    simp only [FrC.blocks, List.mem_cons, List.mem_append] at hk
    rw [hX]
    simp only [FrC.blocks, hxw, List.mem_cons, List.mem_append]
    have hset : k ∈ (xs.set i (obL (.slice A' (u.alive.length + 1) c'))).flatten → k ∈ xs.flatten ∨ w.heap.size ≤ k := fun hm => by
      have h2 := set_count (x := obL (.slice A' (u.alive.length + 1) c')) k hxi
      have h3 := hnew k
      have h4 := mem_count hm
      by_cases e : k = w.heap.size
      · exact .inr (by omega)
      · rw [if_neg e] at h3
        exact .inl (List.count_pos_iff.1 (by omega))
    rcases hk with h | h | ((((h | h) | h) | h) | h) | h
    · exact .inl (.inl h)
    · exact .inl (.inr (.inl h))
    · exact .inl (by simp [h])
    · exact .inl (by simp [h])
    · exact .inl (by simp [h])
    · exact .inl (by simp [h])
    · rcases h with h | h
      · exact .inl (by simp [h])
      · rcases hset h with h2 | h2
        · exact .inl (by simp [h2])
        · exact .inr h2
    · exact .inl (by simp [h])
end Go.Proofs.YtcmollfhlillfaaGreatDoor
/-
  front: a wish that goes.
-/
namespace Go.Proofs.YtcmollfhlillfaaGreatDoor
open Go.RowKit
set_option linter.unusedVariables false
set_option linter.unusedSimpArgs false
theorem wish_drop {w w1 : World} {f : Nat} {s : Fr} {X : List Nat} {cc : FrC} {i : Nat} {u : Ws} {g c : Nat} {Aa : Option Addr} {ca : Nat} {rows : List (List Value)} {xs : List (List Nat)} (h : WishAt w f s X cc i u g c Aa ca rows xs) (hi : s.wishes[i]? = some u)
    (ho : w1.ownsRow 0 89 4 (.slice (some ⟨g, 0, none⟩) (s.wishes.length - 1) c) (s.wishes.length - 1) (rows.flatten.take (i * 4) ++ rows.flatten.drop ((i + 1) * 4))) (hb : Below 0 w w1) (hkept : ∀ k, some k ≠ some g → w1.heap[k]? = w.heap[k]?) (hsz : w1.heap.size = w.heap.size) :
    ∃ X', FrH ((w1.setCell ⟨f, 12, none⟩ (.slice (some ⟨g, 0, none⟩) (s.wishes.length - 1) c)).setCell ⟨f, 15, none⟩ (.int .i64 0)) f { s with wishes := s.wishes.take i ++ s.wishes.drop (i + 1), stuck := 0 } X' ∧ Hits (· ∈ X) w ((w1.setCell ⟨f, 12, none⟩ (.slice (some ⟨g, 0, none⟩) (s.wishes.length - 1) c)).setCell ⟨f, 15, none⟩ (.int .i64 0)) ∧ Fresh w X X' := by
  obtain ⟨hp, hX, hnd, huw, hown, hrs, hxw, hri, hxi, ho2⟩ := h
  have hndc := fun a => cnt_nd hnd a
  rw [hX] at hndc
  unfold FrC.blocks at hndc
  rw [hxw] at hndc
  have hgX : g ∈ X := by rw [hX]; unfold FrC.blocks; rw [hxw]; simp
  have hfX : f ∈ X := by rw [hX]; unfold FrC.blocks; simp
  have hh1 : Hits (· = g) w w1 := ⟨hb.os, hb.tape, hb.output, by omega, fun k _ hk => hkept k fun e => hk (by injection e)⟩
  have hgf : g ≠ f := by
    rintro rfl
    have := hndc g
    simp only [cnt_cons, List.count_append, if_true] at this; omega
  have hr1 := hh1.row hp.row (fun e => hgf e.symm)
  have hr2 := heap_setCell_same w1 f 12 _ _ (.slice (some ⟨g, 0, none⟩) (s.wishes.length - 1) c) hr1
  have hr3 := heap_setCell_same _ f 15 _ _ (.int .i64 0) hr2
  have hh12 : Hits (· = f) w1 ((w1.setCell ⟨f, 12, none⟩ (.slice (some ⟨g, 0, none⟩) (s.wishes.length - 1) c)).setCell ⟨f, 15, none⟩ (.int .i64 0)) := ((Hits.refl (· = f) w1).setCell (g := f) (fun _ => rfl) _ _).setCell (g := f) (fun _ => rfl) _ _
  have hh : Hits (fun k => k = g ∨ k = f) w ((w1.setCell ⟨f, 12, none⟩ (.slice (some ⟨g, 0, none⟩) (s.wishes.length - 1) c)).setCell ⟨f, 15, none⟩ (.int .i64 0)) := (hh1.mono fun _ _ h => .inl h).trans hh12 fun _ _ h => .inr h
  have nf : ∀ Y : List Nat, (∀ a, Y.count a + (f :: g :: []).count a ≤ 1) → ∀ k ∈ Y, ¬ (k = g ∨ k = f) := fun Y hY k hk hF => by
    have h1 := hY k
    have h2 := mem_count hk
    simp only [cnt_cons, List.count_nil] at h1
    rcases hF with rfl | rfl
    · simp at h1; omega
    · simp at h1; omega
  have hfl : rows.flatten.take (i * 4) ++ rows.flatten.drop ((i + 1) * 4) = (rows.take i ++ rows.drop (i + 1)).flatten := by
    have h4 : ∀ c ∈ rows, c.length = 4 := hrs.each
    rw [rflat_take h4, rflat_drop h4, List.flatten_append]
  rw [hfl] at ho
  have ho3 := hh12.own ho fun k hk e => by
    have e2 : g = k := by injection hk
    subst e2; exact hgf e
  have hrs' := ((hrs.take i).append (hrs.drop (i + 1))).frame hh (nf _ fun a => by
    have h1 := hndc a
    have h2 := cut_count a hxi
    simp only [cnt_cons, List.count_append, List.count_nil] at h1 h2 ⊢; omega)
  have hlt := (List.getElem?_eq_some_iff.1 hi).1
  have hsl : (s.wishes.take i ++ s.wishes.drop (i + 1)).length = s.wishes.length - 1 := by rw [List.length_append, List.length_take, List.length_drop]; omega
  refine ⟨FrC.blocks f { cc with uw := .slice (some ⟨g, 0, none⟩) (s.wishes.length - 1) c, Xw := g :: (xs.take i ++ xs.drop (i + 1)).flatten }, ⟨_, ⟨?_, ?_, ?_, ?_, ?_, ?_, ⟨.slice (some ⟨g, 0, none⟩) (s.wishes.length - 1) c, _, _, rfl, ?_, hrs', rfl⟩, ?_⟩, rfl, ?_⟩, ?_, ?_⟩
  · exact hr3
  · exact intsR.frame hp.chests hh (nf cc.Xc fun a => by have := hndc a; simp only [cnt_cons, List.count_append, List.count_nil] at this ⊢; omega)
  · exact intsR.frame hp.refs hh (nf cc.Xr fun a => by have := hndc a; simp only [cnt_cons, List.count_append, List.count_nil] at this ⊢; omega)
  · exact strsR.frame hp.bounds hh (nf cc.Xb fun a => by have := hndc a; simp only [cnt_cons, List.count_append, List.count_nil] at this ⊢; omega)
  · exact hp.seen.hits hh (nf [cc.m] (fun a => by have := hndc a; simp only [cnt_cons, List.count_append, List.count_nil] at this ⊢; omega) _ (by simp))
  · exact jobsR.frame hp.queue hh (nf cc.Xq fun a => by have := hndc a; simp only [cnt_cons, List.count_append, List.count_nil] at this ⊢; omega)
  · show World.ownsRow _ 0 _ 4 _ (s.wishes.take i ++ s.wishes.drop (i + 1)).length _
    rw [hsl]; exact ho3
  · exact hp.cur.frame hh (nf cc.Xp fun a => by have := hndc a; simp only [cnt_cons, List.count_append, List.count_nil] at this ⊢; omega)
  · refine List.nodup_iff_count.2 fun a => ?_
    have h1 := hndc a
    have h2 := cut_count a hxi
    simp only [FrC.blocks, cnt_cons, List.count_append] at h1 h2 ⊢
    omega
  · exact hh.mono fun k _ hF => by
      rcases hF with rfl | rfl
      · exact hgX
      · exact hfX
  · intro k hk
    left
    rw [hX]
    have hk2 := mem_count hk
    refine List.count_pos_iff.1 ?_
    have h2 := cut_count k hxi
    simp only [FrC.blocks, hxw, cnt_cons, List.count_append] at hk2 h2 ⊢
    omega
end Go.Proofs.YtcmollfhlillfaaGreatDoor
