/-
  The order of bells that ring: cmp.Compare, cmp.Or, the clock's comparison, and the sort.
-/
import Derived.Test.YtinfeajbnhkkiaaClock
import Derived.Test.YtinfeajbnhkkiaaSortOwn
import Derived.Test.YtinfeajbnhkkiaaSortIntLay
namespace Go.Proofs.Ytinfeajbnhkkiaa
open Go.RowKit Go.Maps Go.Shelf Go.Sort
set_option linter.unusedVariables false
set_option linter.unusedSimpArgs false
def cmpI (a b : Int) : Int := if a < b then -1 else if b < a then 1 else 0
theorem isNaN_any (a : Int) (w : World) : Calls Try.prog 25 #[.int .i64 a] w fun e w' => e = .returned (.bool false) ∧ w = w' := by
  go_enter Try.func25, Try.ntmps25
  go_wp2_with fail
  go_ret
  exact ⟨by simp, rfl⟩
set_option maxHeartbeats 1000000 in
theorem icompare_any (a b : Int) (w : World) : Calls Try.prog 21 #[.int .i64 a, .int .i64 b] w fun e w' => e = .returned (.int .i64 (cmpI a b)) ∧ w = w' := by
  by_cases h1 : a < b
  · have HE := hide_ (show cmpI a b = -1 from if_pos h1)
    go_enter Try.func21, Try.ntmps21
    go_wp2_with (go_at_call 25; refine (isNaN_any _ _).mono ?_; rintro e w' ⟨rfl, rfl⟩)
    go_ret
    exact ⟨by rw [HE.out]; rfl, rfl⟩
  · by_cases h2 : b < a
    · have HE := hide_ (show cmpI a b = 1 from (if_neg h1).trans (if_pos h2))
      go_enter Try.func21, Try.ntmps21
      go_wp2_with (go_at_call 25; refine (isNaN_any _ _).mono ?_; rintro e w' ⟨rfl, rfl⟩)
      go_ret
      exact ⟨by rw [HE.out]; rfl, rfl⟩
    · have HE := hide_ (show cmpI a b = 0 from (if_neg h1).trans (if_neg h2))
      go_enter Try.func21, Try.ntmps21
      go_wp2_with (go_at_call 25; refine (isNaN_any _ _).mono ?_; rintro e w' ⟨rfl, rfl⟩)
      go_ret
      exact ⟨by rw [HE.out]; rfl, rfl⟩
def orI (x y : Int) : Int := if x ≠ 0 then x else y
set_option maxHeartbeats 2000000 in
theorem ior_any {w : World} {b : Nat} (x y : Int) (h0 : w.cell? ⟨b, 0, none⟩ = some (.int .i64 x)) (h1 : w.cell? ⟨b, 1, none⟩ = some (.int .i64 y)) :
    Calls Try.prog 20 #[.slice (some ⟨b, 0, none⟩) 2 2] w fun e w' => e = .returned (.int .i64 (orI x y)) ∧ w = w' := by
  go_enter Try.func20, Try.ntmps20
  go_wp2_with fail
  go_loop [8] (fun s8 => ∃ k : Nat, k ≤ 2 ∧ s8 = .int .i64 k ∧ Hid (0 < k → x = 0) ∧ Hid (1 < k → y = 0)) (fun s8 => 2 - (intOf s8).toNat)
  case atStart => exact ⟨0, by omega, rfl, hide_ (fun h => absurd h (by omega)), hide_ (fun h => absurd h (by omega))⟩
  case round =>
    obtain ⟨k, hk, rfl, HX, HY⟩ := hrel
    match k, hk with
    | 0, _ =>
      by_cases e : x = 0
      · have HE := hide_ e
        have e1 : (x == 0) = true := by simpa using e
        clear e
        go_wp2_with fail
        go_round
        case rel => exact ⟨1, by omega, by go_num, hide_ (fun _ => HE.out), hide_ (fun h => absurd h (by omega))⟩
        case measure => simp [intOf]
      · have HE := hide_ (show orI x y = x from if_pos e)
        have e1 : (x == 0) = false := by simpa using e
        go_wp2_with fail
        go_ret
        exact ⟨by rw [HE.out]; rfl, rfl⟩
    | 1, _ =>
      by_cases e : y = 0
      · have HE := hide_ e
        have e1 : (y == 0) = true := by simpa using e
        clear e
        go_wp2_with fail
        go_round
        case rel => exact ⟨2, by omega, by go_num, hide_ (fun _ => HX.out (by omega)), hide_ (fun _ => HE.out)⟩
        case measure => simp [intOf]
      · have HE := hide_ (show orI x y = y by unfold orI; rw [if_neg (by have := HX.out (by omega); simp [this])])
        have e1 : (y == 0) = false := by simpa using e
        go_wp2_with fail
        go_ret
        exact ⟨by rw [HE.out]; rfl, rfl⟩
    | 2, _ =>
      have HE := hide_ (show orI x y = 0 by unfold orI; rw [HX.out (by omega), HY.out (by omega)]; rfl)
      go_wp2_with fail
      go_ret
      exact ⟨by rw [HE.out]; rfl, rfl⟩
    | k + 3, h => exact absurd h (by omega)
/-- When a bell rings: what the map says, 0 if nothing. -/
def whenD (D : DataW Unit) (b : Int) : Int := match D.atKey (.int .i64 b) (.lit (.int .i64 0)) with | .lit (.int .i64 c) => c | _ => 0
def cfB (D : DataW Unit) (x y : Fin 4096) : Int := orI (cmpI (whenD D x.val) (whenD D y.val)) (cmpI x.val y.val)
def encF (x : Fin 4096) : Value := .int .i64 x.val
theorem fin_i64 (x : Fin 4096) : I64 (x.val : Int) := i64_iff.2 (by have := x.isLt; omega)
theorem look_when {w : World} {B n : Nat} {D : DataW Unit} (h : w.ownsMap Try.prog 3 (plainElem Try.prog 3) B n D) {b : Int} (hb : I64 b) :
    ∀ W, Later w.drew W → (Instr.lookup 47 (.map (some B)) (.int .i64 b) false).run Try.prog W = .ok (.int .i64 (whenD D b)) W := fun W hW => by
  obtain ⟨c, hrun, hat, _⟩ := (map_later (w := w.drew) h hW).lookup_int klaw Try.underlying47 Try.underlying3 (zeroI W) (ikey hb)
  have e : whenD D b = c := by unfold whenD; rw [hat]
  rw [e]; exact hrun
set_option maxRecDepth 100000 in
set_option maxHeartbeats 2000000 in
theorem corder_any {w : World} {bx C B n : Nat} {t : Int} {D : DataW Unit} (hbx : w.cell? ⟨bx, 0, none⟩ = some (.pointer (some ⟨C, 0, none⟩))) (hc : CkAt w C B t) (hm : w.ownsMap Try.prog 3 (plainElem Try.prog 3) B n D) (x y : Fin 4096) :
    Calls Try.prog 19 #[.int .i64 x.val, .int .i64 y.val, .pointer (some ⟨bx, 0, none⟩)] w fun e w' => e = .returned (.int .i64 (cfB D x y)) ∧ ∃ q os', w' = grow (w.drewN q) os' := by
  have m1 := cell_of_row _ _ 1 _ _ (0, 0) hc
  have k0 := later_drew_cell hbx
  have k1 := later_drew_cell m1
  have kx := look_when hm (fin_i64 x)
  have ky := look_when hm (fin_i64 y)
  have HE := hide_ (show cfB D x y = orI (cmpI (whenD D x.val) (whenD D y.val)) (cmpI x.val y.val) from rfl)
  generalize (x.val : Int) = a at *
  generalize (y.val : Int) = b at *
  generalize whenD D a = c at *
  generalize whenD D b = d at *
  have hnew : (w.alloc (.cells #[.int .i64 (cmpI c d), .int .i64 (cmpI a b)] 3)).heap[w.heap.size]? = some (.cells #[.int .i64 (cmpI c d), .int .i64 (cmpI a b)] 3 (0, 0)) := heap_alloc_new w _
  have hor := hide_ (ior_any (w := (w.alloc (.cells #[.int .i64 (cmpI c d), .int .i64 (cmpI a b)] 3)).drew) (b := w.heap.size) (cmpI c d) (cmpI a b) (cell_of_row _ _ 0 _ _ (0, 0) hnew) (cell_of_row _ _ 1 _ _ (0, 0) hnew))
  clear hc hm hnew
  go_enter Try.func19, Try.ntmps19
  go_wp2_with fail
  refine wp_region_k (by kernel_rfl) ?_
  refine wpAnyK_take 0 (v := ?_) rfl (by kernel_rfl) (by kernel_rfl) (by kernel_rfl) (fun _ _ _ h => h) (by rfl) (by intro W hSw; go_simp; with_reducible rfl) ?_; try simp only [Act.put, List.setIfInBounds_toArray, List.set_cons_zero, List.set_cons_succ]
  refine wpAnyK_take 1 (v := ?_) rfl (by kernel_rfl) (by kernel_rfl) (by kernel_rfl) (fun _ _ _ h => h) (by rfl) (by intro W hSw; go_simp; with_reducible rfl) ?_; try simp only [Act.put, List.setIfInBounds_toArray, List.set_cons_zero, List.set_cons_succ]
  refine wpAnyK_take 2 (v := ?_) rfl (by kernel_rfl) (by kernel_rfl) (by kernel_rfl) (fun _ _ _ h => h) (by rfl) (by intro W hSw; go_simp; with_reducible rfl) ?_; try simp only [Act.put, List.setIfInBounds_toArray, List.set_cons_zero, List.set_cons_succ]
  refine wpAnyK_take 3 (v := ?_) rfl (by kernel_rfl) (by kernel_rfl) (by kernel_rfl) (fun _ _ _ h => h) (by rfl) (by intro W hSw; go_simp; with_reducible rfl) ?_; try simp only [Act.put, List.setIfInBounds_toArray, List.set_cons_zero, List.set_cons_succ]
  refine wpAnyK_take 4 (v := ?_) rfl (by kernel_rfl) (by kernel_rfl) (by kernel_rfl) (fun _ _ _ h => h) (by rfl) (by intro W hSw; go_simp; with_reducible rfl) ?_; try simp only [Act.put, List.setIfInBounds_toArray, List.set_cons_zero, List.set_cons_succ]
  refine wpAnyK_take 5 (v := ?_) rfl (by kernel_rfl) (by kernel_rfl) (by kernel_rfl) (fun _ _ _ h => h) (by rfl) (by intro W hSw; go_simp; with_reducible rfl) ?_; try simp only [Act.put, List.setIfInBounds_toArray, List.set_cons_zero, List.set_cons_succ]
  refine wpAnyK_take 6 (v := ?_) rfl (by kernel_rfl) (by kernel_rfl) (by kernel_rfl) (fun _ _ _ h => h) (by rfl) (by intro W hSw; go_simp; with_reducible rfl) ?_; try simp only [Act.put, List.setIfInBounds_toArray, List.set_cons_zero, List.set_cons_succ]
  refine wpAnyK_take 7 (v := ?_) rfl (by kernel_rfl) (by kernel_rfl) (by kernel_rfl) (fun _ _ _ h => h) (by rfl) (by intro W hSw; go_simp; with_reducible rfl) ?_; try simp only [Act.put, List.setIfInBounds_toArray, List.set_cons_zero, List.set_cons_succ]
  refine wpAnyK_take 8 (v := ?_) rfl (by kernel_rfl) (by kernel_rfl) (by kernel_rfl) (fun _ _ _ h => h) (by rfl) (by intro W hSw; go_simp; with_reducible rfl) ?_; try simp only [Act.put, List.setIfInBounds_toArray, List.set_cons_zero, List.set_cons_succ]
  refine wpAnyK_take 9 (v := ?_) rfl (by kernel_rfl) (by kernel_rfl) (by kernel_rfl) (fun _ _ _ h => h) (by rfl) (by intro W hSw; go_simp; with_reducible rfl) ?_; try simp only [Act.put, List.setIfInBounds_toArray, List.set_cons_zero, List.set_cons_succ]
  refine wpAnyK_take 10 (v := ?_) rfl (by kernel_rfl) (by kernel_rfl) (by kernel_rfl) (fun _ _ _ h => h) (by rfl) (by intro W hSw; go_simp; with_reducible rfl) ?_; try simp only [Act.put, List.setIfInBounds_toArray, List.set_cons_zero, List.set_cons_succ]
  refine wpAnyK_take 11 (v := ?_) rfl (by kernel_rfl) (by kernel_rfl) (by kernel_rfl) (fun _ _ _ h => h) (by rfl) (by intro W hSw; go_simp; with_reducible rfl) ?_; try simp only [Act.put, List.setIfInBounds_toArray, List.set_cons_zero, List.set_cons_succ]
  refine wpAnyK_take 13 (v := ?_) rfl (by kernel_rfl) (by kernel_rfl) (by kernel_rfl) (fun _ _ _ h => h) (by rfl) (by intro W hSw; go_simp; with_reducible rfl) ?_; try simp only [Act.put, List.setIfInBounds_toArray, List.set_cons_zero, List.set_cons_succ]
  refine wpAnyK_take 14 (v := ?_) rfl (by kernel_rfl) (by kernel_rfl) (by kernel_rfl) (fun _ _ _ h => h) (by rfl) (by intro W hSw; go_simp; with_reducible rfl) ?_; try simp only [Act.put, List.setIfInBounds_toArray, List.set_cons_zero, List.set_cons_succ]
  refine wpAnyK_one 12 (by kernel_rfl) rfl (fun K hK => ?_)
  go_simp
  refine (icompare_any _ _ _).mono ?_; rintro e w' ⟨rfl, rfl⟩; have hlr := Later.refl w.drew
  refine hK.out _ _ (by assumption) ?_
  clear hK K; try simp only [Act.put, List.setIfInBounds_toArray, List.set_cons_zero, List.set_cons_succ]
  refine wpAnyK_one 15 (by kernel_rfl) rfl (fun K hK => ?_)
  go_simp
  refine (icompare_any _ _ _).mono ?_; rintro e w' ⟨rfl, rfl⟩; have hlr := Later.refl w.drew
  refine hK.out _ _ (by assumption) ?_
  clear hK K; try simp only [Act.put, List.setIfInBounds_toArray, List.set_cons_zero, List.set_cons_succ]
  refine wpAnyK_one 16 (by kernel_rfl) rfl (fun K hK => ?_)
  go_simp
  refine hK.out _ _ (Below.alloc (Below.refl _ _) (Nat.le_refl _) _) ?_
  clear hK K; try simp only [Act.put, List.setIfInBounds_toArray, List.set_cons_zero, List.set_cons_succ]
  refine wpAnyK_one 17 (by kernel_rfl) rfl (fun K hK => ?_)
  go_simp
  go_loud (refine hor.out.mono ?_); rintro e w' ⟨rfl, rfl⟩; have hlr2 := Later.refl (w.alloc (.cells #[.int .i64 (cmpI c d), .int .i64 (cmpI a b)] 3)).drew
  refine hK.out _ _ (by assumption) ?_
  clear hK K; try simp only [Act.put, List.setIfInBounds_toArray, List.set_cons_zero, List.set_cons_succ]
  refine wpAnyK_take 18 (v := ?_) rfl (by kernel_rfl) (by kernel_rfl) (by kernel_rfl) (fun _ _ _ h => h) (by rfl) (by intro W hSw; go_simp; with_reducible rfl) ?_; try simp only [Act.put, List.setIfInBounds_toArray, List.set_cons_zero, List.set_cons_succ]
  refine wpAnyK_done (by kernel_rfl) ?_ _
  go_wp2_with fail
  go_ret
  exact ⟨by rw [HE.out]; rfl, 1, _, by rw [alloc_eq_grow]; rfl⟩
theorem cmpI_cases (a b : Int) : (a < b ∧ cmpI a b = -1) ∨ (b < a ∧ cmpI a b = 1) ∨ (a = b ∧ cmpI a b = 0) := by
  unfold cmpI
  by_cases h1 : a < b
  · exact .inl ⟨h1, if_pos h1⟩
  · by_cases h2 : b < a
    · exact .inr (.inl ⟨h2, (if_neg h1).trans (if_pos h2)⟩)
    · exact .inr (.inr ⟨by omega, (if_neg h1).trans (if_neg h2)⟩)
def belD (D : DataW Unit) (x : Fin 4096) : Bel := (x.val, whenD D x.val)
theorem cfB_neg (D : DataW Unit) (x y : Fin 4096) : ltOf (cfB D) x y = decide (bless (belD D x) (belD D y)) := by
  have h : cfB D x y < 0 ↔ bless (belD D x) (belD D y) := by
    unfold cfB orI bless belD
    rcases cmpI_cases (whenD D x.val) (whenD D y.val) with ⟨h1, e1⟩ | ⟨h1, e1⟩ | ⟨h1, e1⟩ <;> rcases cmpI_cases (x.val : Int) (y.val : Int) with ⟨h2, e2⟩ | ⟨h2, e2⟩ | ⟨h2, e2⟩ <;> rw [e1, e2] <;> simp <;> omega
  unfold ltOf
  exact decide_eq_decide.2 h
theorem cfB_swo (D : DataW Unit) : SWO (ltOf (cfB D)) :=
  ⟨fun x => by rw [cfB_neg]; exact decide_eq_false (bless_irrefl _), fun x y z h1 h2 => by
    rw [cfB_neg] at *
    exact decide_eq_true (bless_trans (of_decide_eq_true h1) (of_decide_eq_true h2)), fun x y z h1 h2 => by
    rw [cfB_neg] at *
    have h1 := of_decide_eq_false h1
    have h2 := of_decide_eq_false h2
    exact decide_eq_false fun h => by unfold bless at *; omega⟩
theorem sortWorld_grown (w : World) (g m : Nat) (dk : Array (Fin 4096)) (os : Array Obj) : w.grownBy (sortWorld encF w g 0 m dk os) (some g) := by
  unfold sortWorld putRow
  refine ⟨rfl, rfl, rfl, by simp [grow, mapBlock, ahead], fun k hk hne => ?_⟩
  rw [heap_grow_old _ _ (by simpa [mapBlock, ahead] using hk)]
  simp only [mapBlock, Array.getElem?_modify]
  rw [if_neg (fun e => hne (by rw [e]))]; rfl
theorem flat1 (d : Array (Fin 4096)) (j : Nat) (hj : j < d.size) : (flatK (fun x => [encF x]) 1 d)[j]! = encF d[j]! := by
  rw [get_flatK _ _ _ _ (by omega)]
  simp [Nat.mod_one]
theorem putCells1 (d : Array (Fin 4096)) (c : Array Value) : putCells encF 0 d c = putCells id 0 (flatK (fun x => [encF x]) 1 d) c := by
  apply Array.ext
  · simp [putCells]
  · intro i h1 h2
    have hd : d.size * 1 = d.size := Nat.mul_one _
    by_cases hi : i < d.size
    · have := flat1 d i hi
      simp [putCells, hi] at this ⊢
      exact this.symm
    · simp [putCells, hi]
theorem sortWorld1 (w : World) (g m : Nat) (dk : Array (Fin 4096)) (os : Array Obj) : sortWorld encF w g 0 m dk os = sortWorldK (fun x => [encF x]) 1 w g 0 m dk os := by
  unfold sortWorld sortWorldK putRowK putRow
  rw [show putCells encF 0 dk = putCells id 0 (flatK (fun x => [encF x]) 1 dk) from funext fun c => putCells1 dk c]
theorem flatMap1 (L : List (Fin 4096)) : (L.flatMap fun x => [encF x]) = L.map encF := by
  induction L with
  | nil => rfl
  | cons x L ih => simp [ih]
/-- The sort of the bells that ring. -/
theorem csort_any {w : World} {base g cap bx C B n : Nat} {t : Int} {D : DataW Unit} {L : List (Fin 4096)} (ho : w.ownsRow base 3 1 (.slice (some ⟨g, 0, none⟩) L.length cap) L.length (L.map encF)) (hn : L.length < 4611686018427387904)
    (hbx : w.heap[bx]? = some (.cells #[.pointer (some ⟨C, 0, none⟩)] 23 (0, 0))) (hc : CkAt w C B t) (hm : w.ownsMap Try.prog 3 (plainElem Try.prog 3) B n D) :
    Calls Try.prog 18 #[.slice (some ⟨g, 0, none⟩) L.length cap, .func (.func 19) #[] #[.pointer (some ⟨bx, 0, none⟩)]] w fun e w' => e = .returned (.tuple #[]) ∧
      ∃ L' : List (Fin 4096), L'.length = L.length ∧ L'.Perm L ∧ (∀ (i j : Nat) (x y : Fin 4096), i < j → L'[i]? = some x → L'[j]? = some y → ¬ bless (belD D y) (belD D x)) ∧ w'.ownsRow base 3 1 (.slice (some ⟨g, 0, none⟩) L.length cap) L.length (L'.map encF) ∧ w.grownBy w' (some g) := by
  have eg : ∀ args w, (callFunc 19 args).run Try.prog w = .ok (.enter 19 args) w := enters_of Try.func19 (by kernel_rfl) rfl
  have hlt : g < w.heap.size := (ho.lt g rfl).2
  have hgt : ∃ cs, w.heap[g]? = some (.cells cs 3 (0, 0)) := by
    rcases ho.2 with ⟨h, _⟩ | ⟨g', cap', cur, hv, _, hh, _⟩
    · cases h
    · injection hv with h1 _ _
      injection h1 with h1
      injection h1 with h1
      subst h1
      exact ⟨cur, hh⟩
  obtain ⟨cs, hgt⟩ := hgt
  have n1 : bx ≠ g := fun e => by rw [e, hgt] at hbx; injection hbx with h; injection h with _ h; exact absurd h (by decide)
  have n2 : C ≠ g := fun e => by unfold CkAt at hc; rw [e, hgt] at hc; injection hc with h; injection h with _ h; exact absurd h (by decide)
  have n3 : B ≠ g := fun e => by obtain ⟨es, clock, hb, _⟩ := hm; rw [e, hgt] at hb; cases hb
  have ho' : w.ownsRow base 3 1 (.slice (some ⟨g, 0, none⟩) L.length cap) L.length (L.flatMap fun x => [encF x]) := by rw [flatMap1]; exact ho
  have hH : Holds encF w g 0 L.toArray := fun j hj => by
    have h := holdsK_own (k := 1) (enc := fun x => [encF x]) (fun _ => rfl) ho' j (by rw [size_flatK]; omega)
    rw [flat1 _ _ hj] at h
    exact h
  have hcmp : CmpLays1 Try.prog 19 #[.pointer (some ⟨bx, 0, none⟩)] encF (cfB D) g 0 L.toArray.size w := fun m os dk hs x y => by
    have hg := sortWorld_grown w g m dk os
    have h1 := (hg.block bx (theap_lt hbx) (fun e => n1 (Option.some.inj e))).trans hbx
    exact corder_any (cell_of_row _ _ 0 _ _ (0, 0) h1) ((hg.block C hc.lt (fun e => n2 (Option.some.inj e))).trans hc) (hm.kept hg (fun e => n3 (Option.some.inj e))) x y
  have hcon := Any.slices_SortFunc sortInts encF (fun _ => rfl) (cfB D) (cfB_swo D) 19 #[.pointer (some ⟨bx, 0, none⟩)] g 0 cap L.toArray w eg hcmp hH hlt (by simpa using hn)
  change Calls Try.prog 18 #[.slice (some ⟨g, 0, none⟩) L.length cap, .func (.func 19) #[] #[.pointer (some ⟨bx, 0, none⟩)]] w _ at hcon
  refine hcon.mono fun e w' ⟨he, d', m, os, hp, hs, hw⟩ => ⟨he, ?_⟩
  have hg := sortWorld_grown w g m d' os
  rw [← hw] at hg
  rw [sortWorld1] at hw
  obtain ⟨L', h1, h2, h3, h4, _⟩ := sort_own (k := 1) (enc := fun x => [encF x]) (fun _ => rfl) (lt := ltOf (cfB D)) ho' ⟨d', m, os, hp, hs, hw⟩
  refine ⟨L', h1, h2, fun i j x y hij hx hy => ?_, by rw [flatMap1] at h4; exact h4, hg⟩
  have := h3 i j x y hij hx hy
  rw [cfB_neg] at this
  exact of_decide_eq_false this

end Go.Proofs.Ytinfeajbnhkkiaa
