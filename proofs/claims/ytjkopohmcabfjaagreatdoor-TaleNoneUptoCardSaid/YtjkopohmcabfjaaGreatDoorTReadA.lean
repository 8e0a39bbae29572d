/-
  tale.Read: its parts: a text cut into lines, numbers that are read whatever stands there, what Read answers.
-/
import Derived.Test.YtjkopohmcabfjaaGreatDoorTScript
import Derived.Test.YtjkopohmcabfjaaGreatDoorTAwA
import Derived.Test.YtjkopohmcabfjaaGreatDoorSplit
import Derived.Laws.ResultCell
namespace Go.Proofs.YtjkopohmcabfjaaGreatDoor
open Go.RowKit
set_option linter.unusedVariables false
set_option linter.unusedSimpArgs false
theorem split10_any {B : Nat} {w : World} (h : Env B w) (l : List UInt8) (hl : l.length ≤ 1073741824) :
    Calls Tryz.prog 7 #[.string ⟨l.toArray⟩, .string ⟨#[10]⟩] w fun e w' => e = .returned (.slice (some ⟨w.heap.size, 0, none⟩) (linesOf l).length (linesOf l).length) ∧ w' = w.alloc (.cells ((linesOf l).map strV).toArray 9) := by
  obtain ⟨m, _, hm⟩ := h.most
  have hs := Tryz.strings_Split ⟨l.toArray⟩ ⟨#[10]⟩ m w (by show l.toArray.size < _; simp; omega) hm (by decide)
  have e2 : (Lib.splitB ⟨#[10]⟩ 0 (Lib.countB ⟨l.toArray⟩ ⟨#[10]⟩) ⟨l.toArray⟩).map Value.string = (linesOf l).map strV := by
    unfold linesOf; rw [List.map_map]; rfl
  rw [e2] at hs
  refine hs.mono ?_
  rintro e w' ⟨rfl, rfl⟩
  refine ⟨?_, rfl⟩
  rw [lines_size]
/-- A number that is read, whatever stands there. -/
theorem atoiR_any {B : Nat} {w : World} (h : Env B w) (s : ByteArray) (hs : s.size ≤ 281474976710656) :
    Calls Tryz.prog 8 #[.string s] w fun e w' => (∃ v x, e = .returned (.tuple #[.int .i64 v, x]) ∧ I64 v ∧ ∀ u, Lib.atoiAll s.data.toList = .ok u → v = u) ∧ Later w w' := by
  obtain ⟨t, p, s1, s2⟩ := h.syn
  obtain ⟨t', p', r1, r2⟩ := h.rng
  cases hc : Lib.atoiAll s.data.toList with
  | ok v =>
    refine (Tryz.strconv_Atoi_ok s (by omega) v hc w).mono ?_
    rintro e w' ⟨rfl, hw⟩
    refine ⟨⟨v, _, rfl, Lib.atoiAll_bounds hc, fun u hu => by injection hu⟩, ?_⟩
    rcases hw with rfl | ⟨t, rfl⟩
    · exact Later.refl _
    · exact Lib.bytesWorld_below w _ t
  | «syntax» =>
    refine (Tryz.strconv_Atoi_syntax s hs hc _ w s2 (.inr ⟨_, _, rfl⟩)).mono ?_
    rintro e w' ⟨N, rfl, h1, _, h2⟩
    exact ⟨⟨_, _, rfl, ⟨by decide, by decide⟩, fun u hu => nomatch hu⟩, h2⟩
  | range =>
    refine (Tryz.strconv_Atoi_range s hs hc _ w r2 (.inr ⟨_, _, rfl⟩)).mono ?_
    rintro e w' ⟨N, rfl, h1, _, h2⟩
    exact ⟨⟨_, _, rfl, Lib.atoiSat_bounds _, fun u hu => nomatch hu⟩, h2⟩
theorem results_cell_tmp2 {fn : Func} {p u v : Tmp} {ty : TypeId} (h : fn.results = #[.cell p ty, .tmp u, .tmp v]) (tmps : Array Value) (P : Program) (w : World) :
    (results fn tmps).run P w =
      ((asAddr (tmps.getD p undef)).run P w).andThen fun a w₁ => ((loadVar ty a).run P w₁).andThen fun x w₂ => .ok (.tuple #[x, tmps.getD u undef, tmps.getD v undef]) w₂ := by
  simp only [results, h]
  simp [Sem.run_bind, Result.andThen]
/-- What Read answers. -/
def ReadOut (t : List UInt8) (e : Ending) (w' : World) : Prop :=
  (∃ s A n c L, e = .returned (.tuple #[SV.val s, .slice A n c, .int .i64 0]) ∧ Rd w' 6 A n (arow L) ∧ L.length = n ∧ s.Ok ∧ (∀ x ∈ L, x.Mid) ∧ scriptF s L = (t, 0)) ∨
  (e = .returned (.tuple #[SV.zero.val, .slice none 0 0, .int .i64 17]) ∧ ∀ s L, (∀ x ∈ L, x.Ok) → scriptF s L ≠ (t, 0))
def ReadPost (t : List UInt8) (w : World) (e : Ending) (w' : World) : Prop := ReadOut t e w' ∧ Later w w'
theorem read_ret {t : List UInt8} {w W : World} {a : Act} {d : Nat} {s : SV} {v u : Value} (hd : a.tmps.getD 2 undef = .pointer (some ⟨d, 0, none⟩)) (hv : a.tmps.getD 3 undef = v) (he : a.tmps.getD 4 undef = u) (hD : a.defers = [])
    (hrow : W.heap[d]? = some (.cells s.row 23 (0, 0))) (h : ReadPost t w (.returned (.tuple #[s.val, v, u])) W) : bodyPost Tryz.prog Tryz.f4 (ReadPost t w) .ret a W := by
  have hl : (loadVar 23 ⟨d, 0, none⟩).run Tryz.prog W = .ok (.agg s.row) W := run_loadVar_row W d _ _ s.row _ (.struct (Tryz.prog.fieldsOf 23)) hrow (by kernel_rfl) rfl (by kernel_rfl)
  refine bodyPost_ret (v := .tuple #[s.val, v, u]) ?_ hD h
  rw [results_cell_tmp2 (fn := Tryz.f4) (p := 2) (u := 3) (v := 4) (ty := 23) rfl, hd, hv, he]
  simp only [asAddr, Sem.run_pure, Result.andThen_ok, hl]
  rfl
/-- No script of these lines. -/
theorem no_script {t : List UInt8} (h : ∀ s L ls, Parts t s L ls → (∀ x ∈ L, x.Ok) → False) : ∀ s L, (∀ x ∈ L, x.Ok) → scriptF s L ≠ (t, 0) := fun s L hL e => by
  obtain ⟨ls, p⟩ := script_parts e
  exact h s L ls p hL
theorem parts_size {t : List UInt8} {s : SV} {L : List AV} {ls : List (List UInt8)} (p : Parts t s L ls) : (linesOf t).length = L.length + 2 := by
  rw [p.lines]; simp [linesF_len p.acts]
/-- put a setting's numbers into a block. -/
def putS (w : World) (d : Nat) (s : SV) : World := (((((w.setCell ⟨d, 0, none⟩ (.int .i64 s.n0)).setCell ⟨d, 1, none⟩ (.int .i64 s.n1)).setCell ⟨d, 2, none⟩ (.int .i64 s.n2)).setCell ⟨d, 3, none⟩ (.int .i64 s.n3)).setCell ⟨d, 4, none⟩ (.int .i64 s.n4)).setCell ⟨d, 5, none⟩ (.int .i64 s.n5)
theorem putS_row {w : World} {d : Nat} {y : SV} {t : TypeId} (s : SV) (h : w.heap[d]? = some (.cells y.row t (0, 0))) : (putS w d s).heap[d]? = some (.cells s.row t (0, 0)) := by
  have h1 := heap_setCell_same _ d 0 _ _ (.int .i64 s.n0) h
  have h2 := heap_setCell_same _ d 1 _ _ (.int .i64 s.n1) h1
  have h3 := heap_setCell_same _ d 2 _ _ (.int .i64 s.n2) h2
  have h4 := heap_setCell_same _ d 3 _ _ (.int .i64 s.n3) h3
  have h5 := heap_setCell_same _ d 4 _ _ (.int .i64 s.n4) h4
  have h6 := heap_setCell_same _ d 5 _ _ (.int .i64 s.n5) h5
  exact h6
theorem putS_below {w0 w : World} {B d : Nat} (s : SV) (h : Below B w0 w) (hd : B ≤ d) : Below B w0 (putS w d s) :=
  (((((h.setCell (p := ⟨d, 0, none⟩) hd _).setCell (p := ⟨d, 1, none⟩) hd _).setCell (p := ⟨d, 2, none⟩) hd _).setCell (p := ⟨d, 3, none⟩) hd _).setCell (p := ⟨d, 4, none⟩) hd _).setCell (p := ⟨d, 5, none⟩) hd _
theorem putS_other {w : World} {d k : Nat} {o : Obj} (s : SV) (h : w.heap[k]? = some o) (hk : k ≠ d) : (putS w d s).heap[k]? = some o := by
  unfold putS
  have g : ∀ (W : World) (j : Nat) (u : Value), W.heap[k]? = some o → (W.setCell ⟨d, j, none⟩ u).heap[k]? = some o := fun W j u hW => (Below.heap_setCell W ⟨d, j, none⟩ u k hk).trans hW
  exact g _ _ _ (g _ _ _ (g _ _ _ (g _ _ _ (g _ _ _ (g _ _ _ h)))))
/-- The answer's cells set to nothing. -/
theorem zero_put {w W : World} {y : SV} (hr : W.heap[w.heap.size]? = some (.cells y.row 23 (0, 0))) (hl : Later w W) :
    ∃ Wz, (((((W.setCell ⟨w.heap.size, 0, none⟩ (.int .i64 0)).setCell ⟨w.heap.size, 1, none⟩ (.int .i64 0)).setCell ⟨w.heap.size, 2, none⟩ (.int .i64 0)).setCell ⟨w.heap.size, 3, none⟩ (.int .i64 0)).setCell ⟨w.heap.size, 4, none⟩ (.int .i64 0)).setCell ⟨w.heap.size, 5, none⟩ (.int .i64 0) = Wz ∧
      Wz.heap[w.heap.size]? = some (.cells SV.zero.row 23 (0, 0)) ∧ Later w Wz :=
  ⟨_, rfl, putS_row SV.zero hr, putS_below SV.zero hl (Nat.le_refl _)⟩
/-- A setting with one number another. -/
def SV.put (y : SV) (k : Nat) (v : Int) : SV := match k with
  | 0 => { y with n0 := v }
  | 1 => { y with n1 := v }
  | 2 => { y with n2 := v }
  | 3 => { y with n3 := v }
  | 4 => { y with n4 := v }
  | _ => { y with n5 := v }
theorem SV.put_row (y : SV) {k : Nat} (h : k < 6) (v : Int) : y.row.setIfInBounds k (.int .i64 v) = (y.put k v).row := by
  match k, h with
  | 0, _ => rfl
  | 1, _ => rfl
  | 2, _ => rfl
  | 3, _ => rfl
  | 4, _ => rfl
  | 5, _ => rfl
theorem SV.put_nums (y : SV) {k : Nat} (h : k < 6) (v : Int) : (y.put k v).nums = y.nums.set k v := by
  match k, h with
  | 0, _ => rfl
  | 1, _ => rfl
  | 2, _ => rfl
  | 3, _ => rfl
  | 4, _ => rfl
  | 5, _ => rfl
/-- The first k numbers are what the words say. -/
def Told (ws : List (List UInt8)) (y : SV) (k : Nat) : Prop := ∀ i n, i < k → y.nums[i]? = some n → I64 n ∧ ∀ u x, ws[i + 1]? = some x → Lib.atoiAll x = .ok u → n = u
theorem Told.next {ws : List (List UInt8)} {y : SV} {k : Nat} (h : Told ws y k) (hk : k < 6) {v : Int} (hv : I64 v) {x : List UInt8} (hx : ws[k + 1]? = some x) (hu : ∀ u, Lib.atoiAll x = .ok u → v = u) : Told ws (y.put k v) (k + 1) := by
  intro i n hi hn
  rw [SV.put_nums y hk] at hn
  by_cases e : i = k
  · subst e
    rw [List.getElem?_set_self (by simp [SV.nums]; omega)] at hn
    injection hn with hn
    subst hn
    exact ⟨hv, fun u z hz hz2 => by rw [hx] at hz; injection hz with hz; subst hz; exact hu u hz2⟩
  · rw [List.getElem?_set_ne (fun h => e h.symm)] at hn
    exact h i n (by omega) hn
theorem Told.ok {ws : List (List UInt8)} {y : SV} (h : Told ws y 6) : y.Ok := by
  intro n hn
  obtain ⟨i, hi, e⟩ := List.mem_iff_getElem.1 hn
  exact (h i n (by simpa [SV.nums] using hi) (by rw [List.getElem?_eq_getElem hi, e])).1
theorem Told.eq {y s : SV} (h : Told (yardW :: s.nums.map Lib.itoa) y 6) (hs : s.Ok) : y = s := by
  have key : ∀ i, i < 6 → y.nums[i]? = s.nums[i]? := fun i hi => by
    obtain ⟨n, hn⟩ : ∃ n, y.nums[i]? = some n := ⟨_, List.getElem?_eq_getElem (by simpa [SV.nums] using hi)⟩
    obtain ⟨v, hv⟩ : ∃ v, s.nums[i]? = some v := ⟨_, List.getElem?_eq_getElem (by simpa [SV.nums] using hi)⟩
    have hi64 := hs v (List.mem_of_getElem? hv)
    have := (h i n hi hn).2 v (Lib.itoa v) (by rw [List.getElem?_cons_succ, List.getElem?_map, hv]; rfl) (atoi_itoa v hi64.1 hi64.2)
    rw [hn, hv, this]
  have k0 := key 0 (by omega); have k1 := key 1 (by omega); have k2 := key 2 (by omega); have k3 := key 3 (by omega); have k4 := key 4 (by omega); have k5 := key 5 (by omega)
  obtain ⟨a0, a1, a2, a3, a4, a5⟩ := y
  obtain ⟨b0, b1, b2, b3, b4, b5⟩ := s
  simp [SV.nums] at k0 k1 k2 k3 k4 k5
  rw [k0, k1, k2, k3, k4, k5]
theorem actF_mid {l : List UInt8} {x : AV} (hl : l.length ≤ 67108864) (h : actF l = some x) : x.Mid := by
  have hok := actF_ok (by omega) h
  unfold actF at h
  split at h
  · cases h
  · split at h
    · split at h
      · rename_i y hy
        split at h
        · injection h with h
          subst h
          have hs := putAll_small _ _ _ _ (m := 67108864) ⟨by simp, by simp, by simp, Nat.zero_le _, Nat.zero_le _⟩ (fun u hu => Nat.le_trans (words_mem (List.mem_of_mem_tail hu)) hl) hy
          exact ⟨hok, hs.1.key, hs.1.val⟩
        · cases h
      · cases h
    · cases h
theorem actT : ElemT Tryz.prog 24 40 6 64 := elem_mk (z := .agg #[.int .i64 0, .int .i64 0, .int .i64 0, .int .i64 0, .string ByteArray.empty, .string ByteArray.empty]) Tryz.underlying24 (by kernel_rfl) rfl (by decide)
/-- The acts of the first k lines behind the first one. -/
def ActsOf (Ls : List (List UInt8)) (L : List AV) (k : Nat) : Prop := L.length = k ∧ (∀ x ∈ L, x.Mid) ∧ ∀ i, i < k → ∃ l x, Ls[i + 1]? = some l ∧ L[i]? = some x ∧ actF l = some x
theorem ActsOf.next {Ls : List (List UInt8)} {L : List AV} {k : Nat} (h : ActsOf Ls L k) {l : List UInt8} {x : AV} (hl : Ls[k + 1]? = some l) (hx : actF l = some x) (hm : l.length ≤ 67108864) : ActsOf Ls (L ++ [x]) (k + 1) := by
  obtain ⟨h1, h2, h3⟩ := h
  refine ⟨by simp [h1], fun y hy => ?_, fun i hi => ?_⟩
  · rcases List.mem_append.1 hy with hy | hy
    · exact h2 y hy
    · rw [List.mem_singleton] at hy; subst hy; exact actF_mid hm hx
  · by_cases e : i = k
    · subst e
      exact ⟨l, x, hl, by rw [List.getElem?_append_right (by omega), h1]; simp, hx⟩
    · obtain ⟨l', x', g1, g2, g3⟩ := h3 i (by omega)
      exact ⟨l', x', g1, by rw [List.getElem?_append_left (by omega)]; exact g2, g3⟩
/-- A script whose lines these are has these acts. -/
theorem ActsOf.eq {t : List UInt8} {s : SV} {L L' : List AV} {ls : List (List UInt8)} (p : Parts t s L' ls) (hok : ∀ x ∈ L', x.Ok) {k : Nat} (h : ActsOf (linesOf t) L k) (hk : k = L'.length) : L = L' := by
  obtain ⟨h1, h2, h3⟩ := h
  apply List.ext_getElem?
  intro i
  rcases Nat.lt_or_ge i k with hi | hi
  · obtain ⟨l, x, g1, g2, g3⟩ := h3 i hi
    rw [p.lines, List.getElem?_cons_succ, List.getElem?_append_left (by rw [linesF_len p.acts]; omega)] at g1
    obtain ⟨y, e1, e2⟩ := acts_back p.acts hok i l g1
    rw [g3] at e2; injection e2 with e2
    rw [g2, e1, e2]
  · rw [List.getElem?_eq_none (by omega), List.getElem?_eq_none (by omega)]
theorem ActsOf.bad {t : List UInt8} {s : SV} {L' : List AV} {ls : List (List UInt8)} (p : Parts t s L' ls) (hok : ∀ x ∈ L', x.Ok) {k : Nat} (hk : k < L'.length) {l : List UInt8} (hl : (linesOf t)[k + 1]? = some l) (hx : actF l = none) : False := by
  rw [p.lines, List.getElem?_cons_succ, List.getElem?_append_left (by rw [linesF_len p.acts]; omega)] at hl
  obtain ⟨y, e1, e2⟩ := acts_back p.acts hok k l hl
  rw [hx] at e2; cases e2
theorem own_other {w : World} {B n k : Nat} {v : Value} {xs : List Value} {cs : Array Value} {t e : TypeId} {size : Nat} {fz : Nat × Nat} (ho : w.ownsRow B e size v n xs) (hk : w.heap[k]? = some (.cells cs t fz)) (hn : t ≠ e) : some k ≠ v.ownBlock := fun h => by
  rcases ho.2 with ⟨rfl, _⟩ | ⟨g, cap, cur, rfl, _, hg, _⟩
  · cases h
  · have : k = g := by injection h
    subst this
    rw [hk] at hg; injection hg with hg; injection hg with _ hg; exact hn hg

end Go.Proofs.YtjkopohmcabfjaaGreatDoor
