/-
  Texts of this seat in one: FrOpA, FrOpen, FrPut.
-/
import Derived.Test.YtcmollfhlillfaaGreatDoorM28
import Derived.IntWalk
/-
  front: open: what a batch that begins turns.
-/
namespace Go.Proofs.YtcmollfhlillfaaGreatDoor
open Go.RowKit
set_option linter.unusedVariables false
set_option linter.unusedSimpArgs false
theorem jobT : ElemT Tryz.prog 71 120 5 72 := elem_mk (z := .agg #[.int .i64 0, .int .i64 0, .int .i64 0, .slice none 0 0, .slice none 0 0]) Tryz.underlying71 (by kernel_rfl) rfl (by decide)
set_option maxHeartbeats 2000000 in
set_option maxRecDepth 100000 in
theorem clone_job {w : World} {A : Option Addr} {n c : Nat} {xs : List Value} (hr : Rd w 5 A n xs) (h1 : ∀ u ∈ xs, u.oneCell' = true) (hn : n ≤ 1099511627776) (hA : A = none → n = 0) :
    Calls Tryz.prog 65 #[.slice A n c] w (ClonePost w 120 5 n A xs) := by
  have HR := hide_ hr; have H1 := hide_ h1
  rcases A with _ | a
  · have hn0 : n = 0 := hA rfl
    subst hn0
    have hx : xs = [] := List.eq_nil_of_length_eq_zero (by have := hr.1; omega)
    subst hx
    clear hr h1 hA HR H1
    have hnil := eql_slice_nil_any (P := Tryz.prog) Tryz.underlying71 w none 0 c 0 0
    go_enter Tryz.func65, Tryz.ntmps65
    go_wp2_with fail
    go_ret
    exact ⟨none, 0, rfl, World.ownsRow_nil _ _ _ _, Later.refl _, Iff.rfl⟩
  · clear hr h1 hA
    have hnil := eql_slice_nil_any (P := Tryz.prog) Tryz.underlying71 w (some a) n c 0 0
    have hn2 : (n : Int) ≤ 1099511627776 := by omega
    go_enter Tryz.func65, Tryz.ntmps65
    go_wp2_with (at_builtin; refine wpList_append_rd _ rfl (.tmp 5) (.tmp 6) 71 rfl w.heap.size 120 5 72 jobT (.slice (some ⟨w.heap.size, 0, none⟩) 0 0) 0 [] rfl (own_new w #[] 120 5 0 w.heap.size rfl (by unfold maxLen; omega) (Nat.le_refl _)) (some a) n c xs rfl (HR.out.alloc _) H1.out (by omega) (by unfold maxLen; omega) (by simp) (fun h => by cases h) ?c8)
    case c8 =>
      intro v9 w9 hown hg hat
      obtain ⟨A9, c9, hv9⟩ := own_form hown
      subst hv9
      have HN := hide_ (show A9 ≠ none from fun h => by subst h; rcases hat with h | h <;> cases h)
      have HB := hide_ (show Later w w9 from own_grown (later_alloc w (.cells #[] 120)) (own_new w #[] 120 5 0 w.heap.size rfl (by unfold maxLen; omega) (Nat.le_refl _)) hg (by simp))
      have HO := hide_ (show w9.ownsRow w.heap.size 120 5 (.slice A9 n c9) n xs by simpa using hown)
      clear hown hg hat
      go_wp2_with fail
      go_ret
      exact ⟨A9, c9, rfl, HO.out, HB.out, ⟨fun h => absurd h HN.out, fun h => by cases h⟩⟩
/-- The step from a front's version to the next. -/
def stepF (s : Fr) : Int := if s.version = s.rec_ then 1000 else 10
def openB (s : Fr) : Bt := ⟨s.version, s.version + stepF s, s.known, [], s.queue.take 4, [], none, []⟩
def openF (s : Fr) : Fr := { s with queue := s.queue.drop 4, version := s.version + stepF s, owed := false, cur := some (openB s) }
/-- A front that was turned, and messages that it sends. -/
def TurnPost (w : World) (f : Nat) (X : List Nat) (s : Fr) (L : List Msg) (e : Ending) (w' : World) : Prop :=
  ∃ A n c Y X' base, e = .returned (.slice A n c) ∧ L.length = n ∧ SliceP base 53 msgR w' (.slice A n c) L Y ∧ (∀ k ∈ Y, base ≤ k) ∧ w.heap.size ≤ base ∧ (∀ k ∈ X', k < base) ∧ FrH w' f s X' ∧ Hits (· ∈ X) w w' ∧ Fresh w X X'
/-- What must hold of a front, that it may go on. -/
structure FrOk (s : Fr) : Prop where
  bnd : bndB s.bounds = true
  len : s.refs.length = s.bounds.length + 1
  sound : ∀ j ∈ s.queue, soundT j.tx = true ∧ j.tx.1 < 9223372036854775808
  refs : ∀ r ∈ s.refs, I64 r
  many : s.queue.length ≤ 4096
  v0 : 0 ≤ s.version
  v1 : s.version ≤ 4611686018426339328
theorem openOk {s : Fr} (h : FrOk s) : ResOk (openF s) (openB s) :=
  ⟨h.bnd, h.len, by show (s.queue.take 4).length ≤ 4; rw [List.length_take]; omega, fun j hj => h.sound j (List.mem_of_mem_take hj), h.refs⟩
/-- Half way: the batch is made, the queue is still whole. -/
structure OpM (w W : World) (f bb mb : Nat) (s : Fr) (cc : FrC) (st : Int) (Aq : Option Addr) (nq cq : Nat) (A6 : Option Addr) (n c6 : Nat) (cells : List Value) : Prop where
  hh : Hits (· = f) w W
  rf : W.heap[f]? = some (.cells #[.int .i64 s.node, .int .i64 s.gen, .int .i64 s.epoch, .int .i64 s.rec_, cc.uc, cc.ur, cc.ub, .int .i64 s.version, .int .i64 s.known, .bool s.owed, .map (some cc.m), .slice Aq nq cq, cc.uw, .int .i64 s.number, .pointer (some ⟨bb, 0, none⟩), .int .i64 s.stuck, .bool s.begun] 75 (0, 0))
  rb : W.heap[bb]? = some (.cells #[.int .i64 s.version, .int .i64 (s.version + st), .int .i64 s.known, .slice none 0 0, .slice A6 n c6, .map (some mb), .slice none 0 0, .slice none 0 0] 94 (0, 0))
  mm : MapM W mb []
  own : ∃ base, w.heap.size ≤ base ∧ W.ownsRow base 120 5 (.slice A6 n c6) n cells
  b1 : w.heap.size ≤ bb
  b2 : w.heap.size ≤ mb
theorem opM_1 {w w6 : World} {f : Nat} {s : Fr} {cc : FrC} {st : Int} {Aq A6 : Option Addr} {nq cq n c6 base : Nat} {cells : List Value} (hl : Later w w6) (hr : w.heap[f]? = some (.cells #[.int .i64 s.node, .int .i64 s.gen, .int .i64 s.epoch, .int .i64 s.rec_, cc.uc, cc.ur, cc.ub, .int .i64 s.version, .int .i64 s.known, .bool s.owed, .map (some cc.m), .slice Aq nq cq, cc.uw, .int .i64 s.number, .pointer none, .int .i64 s.stuck, .bool s.begun] 75 (0, 0))) (ho : w6.ownsRow base 120 5 (.slice A6 n c6) n cells) (hb : w.heap.size ≤ base) :
    OpM w (((w6.setCell ⟨f, 14, none⟩ (.pointer (some ⟨w6.heap.size + 1, 0, none⟩))).alloc (.map #[] 0)).alloc (.cells #[.int .i64 s.version, .int .i64 (s.version + st), .int .i64 s.known, .slice none 0 0, .slice A6 n c6, .map (some w6.heap.size), .slice none 0 0, .slice none 0 0] 94)) f (w6.heap.size + 1) w6.heap.size s cc st Aq nq cq A6 n c6 cells := by
  obtain ⟨V, hV⟩ : ∃ V, V = w6.setCell ⟨f, 14, none⟩ (.pointer (some ⟨w6.heap.size + 1, 0, none⟩)) := ⟨_, rfl⟩
  have hs : V.heap.size = w6.heap.size := by rw [hV]; simp [World.setCell]
  have hhV : Hits (· = f) w6 V := by rw [hV]; exact (Hits.refl (· = f) w6).setCell (g := f) (fun _ => rfl) 14 _
  have hrV : (w6.setCell ⟨f, 14, none⟩ (.pointer (some ⟨w6.heap.size + 1, 0, none⟩))).heap[f]? = some (.cells #[.int .i64 s.node, .int .i64 s.gen, .int .i64 s.epoch, .int .i64 s.rec_, cc.uc, cc.ur, cc.ub, .int .i64 s.version, .int .i64 s.known, .bool s.owed, .map (some cc.m), .slice Aq nq cq, cc.uw, .int .i64 s.number, .pointer (some ⟨w6.heap.size + 1, 0, none⟩), .int .i64 s.stuck, .bool s.begun] 75 (0, 0)) := heap_setCell_same w6 f 14 _ _ (.pointer (some ⟨w6.heap.size + 1, 0, none⟩)) (later_row hl hr)
  rw [← hV] at hrV ⊢
  have hfl := theap_lt hr
  rw [← hs] at hrV ⊢
  have hh : Hits (· = f) w V := (Hits.later hl).trans hhV fun _ _ h => h
  refine ⟨(hh.alloc _).alloc _, row_al (row_al hrV _) _, row_new2 V _ _, (MapM.made V).later (later_alloc _ _), ⟨base, hb, ?_⟩, ?_, ?_⟩
  · exact ((hhV.own ho fun g hg e => by have := (own_block ho hg).1; omega).alloc _).alloc _
  · have := hh.size; omega
  · exact hh.size
theorem opM_2 {w w0 w6 : World} {f : Nat} {s : Fr} {cc : FrC} {st : Int} {Aq A6 : Option Addr} {nq cq n c6 base : Nat} {cells : List Value} (hl0 : Later w w0) (hl6 : Later (w0.alloc (.map #[] 0)).drew w6) (hr : w.heap[f]? = some (.cells #[.int .i64 s.node, .int .i64 s.gen, .int .i64 s.epoch, .int .i64 s.rec_, cc.uc, cc.ur, cc.ub, .int .i64 s.version, .int .i64 s.known, .bool s.owed, .map (some cc.m), .slice Aq nq cq, cc.uw, .int .i64 s.number, .pointer none, .int .i64 s.stuck, .bool s.begun] 75 (0, 0))) (ho : w6.ownsRow base 120 5 (.slice A6 n c6) n cells) (hb : w.heap.size ≤ base) {mb : Nat} (hmb : mb = w0.heap.size) :
    OpM w ((w6.setCell ⟨f, 14, none⟩ (.pointer (some ⟨w6.heap.size, 0, none⟩))).alloc (.cells #[.int .i64 s.version, .int .i64 (s.version + st), .int .i64 s.known, .slice none 0 0, .slice A6 n c6, .map (some mb), .slice none 0 0, .slice none 0 0] 94)) f w6.heap.size mb s cc st Aq nq cq A6 n c6 cells := by
  subst hmb
  have hl : Later w w6 := (hl0.al _).dr.trans hl6
  obtain ⟨V, hV⟩ : ∃ V, V = w6.setCell ⟨f, 14, none⟩ (.pointer (some ⟨w6.heap.size, 0, none⟩)) := ⟨_, rfl⟩
  have hs : V.heap.size = w6.heap.size := by rw [hV]; simp [World.setCell]
  have hhV : Hits (· = f) w6 V := by rw [hV]; exact (Hits.refl (· = f) w6).setCell (g := f) (fun _ => rfl) 14 _
  have hrV : (w6.setCell ⟨f, 14, none⟩ (.pointer (some ⟨w6.heap.size, 0, none⟩))).heap[f]? = some (.cells #[.int .i64 s.node, .int .i64 s.gen, .int .i64 s.epoch, .int .i64 s.rec_, cc.uc, cc.ur, cc.ub, .int .i64 s.version, .int .i64 s.known, .bool s.owed, .map (some cc.m), .slice Aq nq cq, cc.uw, .int .i64 s.number, .pointer (some ⟨w6.heap.size, 0, none⟩), .int .i64 s.stuck, .bool s.begun] 75 (0, 0)) := heap_setCell_same w6 f 14 _ _ (.pointer (some ⟨w6.heap.size, 0, none⟩)) (later_row hl hr)
  rw [← hV] at hrV ⊢
  have hfl := theap_lt hr
  have hm6 : MapM w6 w0.heap.size [] := (MapM.made w0).later ((Later.refl _).dr.trans hl6)
  rw [← hs] at hrV ⊢
  have hh : Hits (· = f) w V := (Hits.later hl).trans hhV fun _ _ h => h
  have hsz := hl0.size
  refine ⟨hh.alloc _, row_al hrV _, heap_alloc_new V _, (hm6.hits hhV (fun e => by omega)).later (later_alloc _ _), ⟨base, hb, ?_⟩, hh.size, hsz⟩
  exact (hhV.own ho fun g hg e => by have := (own_block ho hg).1; omega).alloc _
theorem OpM.go {w W : World} {f bb mb : Nat} {s : Fr} {cc : FrC} {st : Int} {Aq : Option Addr} {nq cq : Nat} {A6 : Option Addr} {n c6 : Nat} {cells : List Value} {P : World → Prop} (hM : OpM w W f bb mb s cc st Aq nq cq A6 n c6 cells) (h : ∀ V, OpM w V f bb mb s cc st Aq nq cq A6 n c6 cells → P V) : P W := h W hM
theorem cnt_lt {X : List Nat} {B a : Nat} (h : ∀ k ∈ X, k < B) (ha : B ≤ a) : X.count a = 0 := List.count_eq_zero.2 fun hm => by have := h a hm; omega
theorem cnt_ge {X : List Nat} {B a : Nat} (h : ∀ k ∈ X, B ≤ k) (ha : a < B) : X.count a = 0 := List.count_eq_zero.2 fun hm => by have := h a hm; omega
theorem cnt_nd {X : List Nat} (h : X.Nodup) (a : Nat) : X.count a ≤ 1 := List.nodup_iff_count.1 h a
theorem cnt_one (a k : Nat) : [k].count a = if k = a then 1 else 0 := by simp [List.count_cons]
theorem cnt_cons (k a : Nat) (X : List Nat) : (k :: X).count a = (if k = a then 1 else 0) + X.count a := by
  rw [List.count_cons]; simp only [beq_iff_eq]; omega
theorem split_count (xs : List (List Nat)) (n a : Nat) : xs.flatten.count a = (xs.take n).flatten.count a + (xs.drop n).flatten.count a := by
  rw [← List.count_append, ← List.flatten_append, List.take_append_drop]
theorem bats_ne {w : World} {j k : Nat} {cs ds : Array Value} {t t2 : TypeId} (h : w.heap[j]? = some (.cells cs t (0, 0))) (h2 : w.heap[k]? = some (.cells ds t2 (0, 0))) (ht : t ≠ t2) : j ≠ k := by
  rintro rfl; rw [h] at h2; injection h2 with h2; injection h2 with _ h2 _; exact ht h2
/-- The new blocks of the state half way. -/
theorem OpM.mb_ne {w W : World} {f bb mb : Nat} {s : Fr} {cc : FrC} {st : Int} {Aq : Option Addr} {nq cq : Nat} {A6 : Option Addr} {n c6 : Nat} {cells : List Value} (h : OpM w W f bb mb s cc st Aq nq cq A6 n c6 cells) : mb ≠ bb := by
  rintro rfl
  obtain ⟨es, ck, hm⟩ := h.mm.map
  rw [h.rb] at hm; cases hm
theorem open_end {w W w7 W3 : World} {f bb mb : Nat} {s : Fr} {cc : FrC} {X : List Nat} {Aq : Option Addr} {cq : Nat} {A6 A7 : Option Addr} {n c6 c7 base7 : Nat} {rows : List (List Value)} {xs : List (List Nat)}
    (hp : FrP w f s cc) (hX : X = cc.blocks f) (hnd : X.Nodup) (hxp : cc.Xp = []) (hxq : cc.Xq = obL (.slice Aq s.queue.length cq) ++ xs.flatten) (hrq : Rows jobR w rows s.queue xs)
    (hn : n = min s.queue.length 4) (hM : OpM w W f bb mb s cc (stepF s) Aq s.queue.length cq A6 n c6 (rows.take n).flatten) (hl7 : Later W w7) (ho7 : w7.ownsRow base7 120 5 (.slice A7 (s.queue.length - n) c7) (s.queue.length - n) (rows.drop n).flatten) (hb7 : W.heap.size ≤ base7)
    (h3 : W3 = ((w7.setCell ⟨f, 11, none⟩ (.slice A7 (s.queue.length - n) c7)).setCell ⟨f, 7, none⟩ (.int .i64 (s.version + stepF s))).setCell ⟨f, 9, none⟩ (.bool false)) :
    ∃ X', FrH W3 f (openF s) X' ∧ Hits (· ∈ X) w W3 ∧ Fresh w X X' := by
  have hfX : f ∈ X := by rw [hX]; simp [FrC.blocks]
  have hlt := hp.lt
  have hflt := hlt f (by simp [FrC.blocks])
  have hwW := hM.hh.size
  have hW7 := hl7.size
  have hs3 : W3.heap.size = w7.heap.size := by rw [h3]; simp [World.setCell]
  have hh7 : Hits (· = f) w7 W3 := by rw [h3]; exact (((Hits.refl (· = f) w7).setCell (g := f) (fun _ => rfl) 11 _).setCell (g := f) (fun _ => rfl) 7 _).setCell (g := f) (fun _ => rfl) 9 _
  have hhW : Hits (· = f) W W3 := (Hits.later hl7).trans hh7 fun _ _ h => h
  have hh : Hits (· = f) w W3 := hM.hh.trans hhW fun _ _ h => h
  have hhX : Hits (· ∈ X) w W3 := hh.mono fun i _ e => by subst e; exact hfX
  have hrf : W3.heap[f]? = some (.cells #[.int .i64 s.node, .int .i64 s.gen, .int .i64 s.epoch, .int .i64 s.rec_, cc.uc, cc.ur, cc.ub, .int .i64 (s.version + stepF s), .int .i64 s.known, .bool false, .map (some cc.m), .slice A7 (s.queue.length - n) c7, cc.uw, .int .i64 s.number, .pointer (some ⟨bb, 0, none⟩), .int .i64 s.stuck, .bool s.begun] 75 (0, 0)) := by
    rw [h3]
    have h1 := heap_setCell_same w7 f 11 _ _ (.slice A7 (s.queue.length - n) c7) (later_row hl7 hM.rf)
    have h2 := heap_setCell_same _ f 7 _ _ (.int .i64 (s.version + stepF s)) h1
    exact heap_setCell_same _ f 9 _ _ (.bool false) h2
  have hbf : bb ≠ f := by have := hM.b1; omega
  have hmf : mb ≠ f := by have := hM.b2; omega
  have hmlt := hM.mm.lt
  have hblt := theap_lt hM.rb
  have hmb := hM.mb_ne
  obtain ⟨base, hbw, ho6⟩ := hM.own
  have ho63 := hhW.own ho6 fun g hg e => by have := (own_block ho6 hg).1; omega
  have ho73 := hh7.own ho7 fun g hg e => by have := (own_block ho7 hg).1; omega
  have hn4 : (s.queue.take 4).length = n := by rw [List.length_take, hn]; omega
  have htk : s.queue.take 4 = s.queue.take n := by
    rw [hn]
    rcases Nat.le_total s.queue.length 4 with h | h
    · rw [Nat.min_eq_left h, List.take_length, List.take_of_length_le h]
    · rw [Nat.min_eq_right h]
  have hdr : s.queue.drop 4 = s.queue.drop n := by
    rw [hn]
    rcases Nat.le_total s.queue.length 4 with h | h
    · rw [Nat.min_eq_left h, List.drop_length, List.drop_of_length_le h]
    · rw [Nat.min_eq_right h]
  have hsub : ∀ k ∈ X, k ∉ [f] → ¬ (k = f) := fun k _ hk e => hk (by simp [e])
  have hndc := fun a => cnt_nd hnd a
  rw [hX] at hndc
  unfold FrC.blocks at hndc
  rw [hxq, hxp] at hndc
  have hfq : ∀ k ∈ xs.flatten, k ≠ f := by
    rintro k hk rfl
    have := hndc k
    have h1 : 0 < xs.flatten.count k := List.count_pos_iff.2 hk
    simp only [List.count_cons, List.count_append, beq_self_eq_true, if_true] at this
    omega
  have hltq := hrq.lt
  have rt : Rows jobR W3 (rows.take n) (s.queue.take n) (xs.take n) := (hrq.take n).frame hh fun k hk => hfq k (List.mem_flatten.2 (by obtain ⟨l, h1, h2⟩ := List.mem_flatten.1 hk; exact ⟨l, List.mem_of_mem_take h1, h2⟩))
  have rd : Rows jobR W3 (rows.drop n) (s.queue.drop n) (xs.drop n) := (hrq.drop n).frame hh fun k hk => hfq k (List.mem_flatten.2 (by obtain ⟨l, h1, h2⟩ := List.mem_flatten.1 hk; exact ⟨l, List.mem_of_mem_drop h1, h2⟩))
  have hbt : BtH W3 bb (openB s) ⟨mb, .slice none 0 0, .slice A6 n c6, .slice none 0 0, .slice none 0 0, [], obL (.slice A6 n c6) ++ (xs.take n).flatten, [], [], []⟩ := by
    refine ⟨hhW.row hM.rb hbf, chgs_holds.2 ⟨_, rfl, World.ownsRow_nil _ _ _ _, rfl⟩, ?_, ⟨[], [], hM.mm.hits hhW hmf, rfl, trivial, rfl⟩, ⟨rfl, rfl⟩, ints_holds.2 ⟨_, rfl, World.ownsRow_nil _ _ _ _, rfl⟩⟩
    show jobsR.holds W3 _ (s.queue.take 4) _
    refine ⟨_, rows.take n, xs.take n, rfl, ?_, by rw [htk]; exact rt, rfl⟩
    rw [hn4]; exact own_base ho63 (Nat.zero_le _)
  refine ⟨FrC.blocks f { cc with uq := .slice A7 (s.queue.length - n) c7, up := .pointer (some ⟨bb, 0, none⟩), Xq := obL (.slice A7 (s.queue.length - n) c7) ++ (xs.drop n).flatten, Xp := bb :: BtC.blocks ⟨mb, .slice none 0 0, .slice A6 n c6, .slice none 0 0, .slice none 0 0, [], obL (.slice A6 n c6) ++ (xs.take n).flatten, [], [], []⟩ }, ⟨_, ?_, rfl, ?_⟩, hhX, ?_⟩
  · have hF : ∀ Y : List Nat, (∀ k ∈ Y, k ∈ X) → (∀ k ∈ Y, k ≠ f) → ∀ k ∈ Y, ¬ k = f := fun Y _ h k hk => h k hk
    have nf : ∀ Y : List Nat, (∀ a, a = f → Y.count a = 0) → ∀ k ∈ Y, ¬ k = f := fun Y h k hk e => by
      have := h k e; exact absurd hk (List.count_eq_zero.1 this)
    have hz := hndc f
    simp only [List.count_cons, List.count_append, List.count_nil, beq_self_eq_true, if_true] at hz
    refine ⟨hrf, intsR.frame hp.chests hh (nf cc.Xc ?_), intsR.frame hp.refs hh (nf cc.Xr ?_), strsR.frame hp.bounds hh (nf cc.Xb ?_), hp.seen.hits hh (fun e => ?_), ?_, wishesR.frame hp.wishes hh (nf cc.Xw ?_), ⟨bb, _, rfl, hbt, rfl⟩⟩
    · rintro a rfl; omega
    · rintro a rfl; omega
    · rintro a rfl; omega
    · rw [show cc.m = f from e] at hz; simp at hz
    · refine ⟨_, rows.drop n, xs.drop n, rfl, ?_, by show Rows jobR W3 _ (s.queue.drop 4) _; rw [hdr]; exact rd, rfl⟩
      have : (s.queue.drop 4).length = s.queue.length - n := by rw [hdr, List.length_drop]
      show W3.ownsRow 0 _ 5 _ (s.queue.drop 4).length _
      rw [this]; exact own_base ho73 (Nat.zero_le _)
    · rintro a rfl; omega
  · refine List.nodup_iff_count.2 fun a => ?_
    have h1 := hndc a
    have hsp := split_count xs n a
    have q6 := cnt_nd (obL_nodup (.slice A6 n c6)) a
    have q7 := cnt_nd (obL_nodup (.slice A7 (s.queue.length - n) c7)) a
    have d6 : a ∈ obL (.slice A6 n c6) → w.heap.size ≤ a ∧ a < W.heap.size ∧ a ≠ bb ∧ a ≠ mb := fun h => by
      obtain ⟨g1, g2, cs, g3⟩ := own_block ho6 (mem_obL.1 h)
      refine ⟨by omega, g2, bats_ne g3 hM.rb (by decide), fun e => ?_⟩
      obtain ⟨es, ck, hm⟩ := hM.mm.map
      rw [← e, g3] at hm; cases hm
    have d7 : a ∈ obL (.slice A7 (s.queue.length - n) c7) → W.heap.size ≤ a := fun h => by
      have := (own_block ho7 (mem_obL.1 h)).1; omega
    have hb1 := hM.b1
    have hb2 := hM.b2
    simp only [FrC.blocks, BtC.blocks, cnt_cons, List.count_append, List.count_nil] at h1 ⊢
    rcases Nat.lt_or_ge a w.heap.size with hlt0 | hge
    · have e6 : (obL (.slice A6 n c6)).count a = 0 := List.count_eq_zero.2 fun h => by have := d6 h; omega
      have e7 : (obL (.slice A7 (s.queue.length - n) c7)).count a = 0 := List.count_eq_zero.2 fun h => by have := d7 h; omega
      rw [if_neg (show ¬ bb = a by omega), if_neg (show ¬ mb = a by omega), e6, e7]
      omega
    · have hall : ∀ Y : List Nat, (∀ k ∈ Y, k ∈ cc.blocks f) → Y.count a = 0 := fun Y h => List.count_eq_zero.2 fun hm => by have := hlt a (h a hm); omega
      have z1 := hall cc.Xc fun k hk => by simp [FrC.blocks, hk]
      have z2 := hall cc.Xr fun k hk => by simp [FrC.blocks, hk]
      have z3 := hall cc.Xb fun k hk => by simp [FrC.blocks, hk]
      have z4 := hall cc.Xw fun k hk => by simp [FrC.blocks, hk]
      have z5 : xs.flatten.count a = 0 := List.count_eq_zero.2 fun hm => by have := hltq a hm; omega
      have z6 : cc.m ≠ a := by have := hlt cc.m (by simp [FrC.blocks]); omega
      have z7 : f ≠ a := by omega
      rw [z1, z2, z3, z4, if_neg z6, if_neg z7]
      by_cases hb : bb = a
      · have e6 : (obL (.slice A6 n c6)).count a = 0 := List.count_eq_zero.2 fun h => by have := d6 h; omega
        have e7 : (obL (.slice A7 (s.queue.length - n) c7)).count a = 0 := List.count_eq_zero.2 fun h => by have := d7 h; omega
        rw [if_pos hb, if_neg (show ¬ mb = a by omega), e6, e7]; omega
      · by_cases hm2 : mb = a
        · have e6 : (obL (.slice A6 n c6)).count a = 0 := List.count_eq_zero.2 fun h => by have := d6 h; omega
          have e7 : (obL (.slice A7 (s.queue.length - n) c7)).count a = 0 := List.count_eq_zero.2 fun h => by have := d7 h; omega
          rw [if_neg hb, if_pos hm2, e6, e7]; omega
        · rw [if_neg hb, if_neg hm2]
          by_cases h6 : a ∈ obL (.slice A6 n c6)
          · have e7 : (obL (.slice A7 (s.queue.length - n) c7)).count a = 0 := List.count_eq_zero.2 fun h => by have := d7 h; have := d6 h6; omega
            rw [e7]; omega
          · have e6 := List.count_eq_zero.2 h6
            rw [e6]; omega
  · intro k hk
    rcases Nat.lt_or_ge k w.heap.size with hlt0 | hge
    · left
      rw [hX]
      simp only [FrC.blocks, BtC.blocks, List.mem_cons, List.mem_append, List.not_mem_nil, or_false] at hk ⊢
      rw [hxq]
      have hdm : ∀ L : List (List Nat), (∀ l ∈ L, l ∈ xs) → k ∈ L.flatten → k ∈ xs.flatten := fun L hL hk => List.mem_flatten.2 (by obtain ⟨l, h1, h2⟩ := List.mem_flatten.1 hk; exact ⟨l, hL l h1, h2⟩)
      have hb1 := hM.b1
      have hb2 := hM.b2
      have d6 : k ∉ obL (.slice A6 n c6) := fun h => by have := (own_block ho6 (mem_obL.1 h)).1; omega
      have d7 : k ∉ obL (.slice A7 (s.queue.length - n) c7) := fun h => by have := (own_block ho7 (mem_obL.1 h)).1; omega
      have d8 : k ≠ bb := by omega
      have d9 : k ≠ mb := by omega
      have e1 := hdm (xs.drop n) (fun l h => List.mem_of_mem_drop h)
      have e2 := hdm (xs.take n) (fun l h => List.mem_of_mem_take h)
      simp only [List.mem_append] at hk ⊢
      rcases hk with h | h | ((((h | h) | h) | (h | h)) | h) | (h | h | h | h)
      · exact .inl h
      · exact .inr (.inl h)
      · simp [h]
      · simp [h]
      · simp [h]
      · exact absurd h d7
      · simp [e1 h]
      · simp [h]
      · exact absurd h d8
      · exact absurd h d9
      · exact h.elim
      · rcases h with h | h
        · exact absurd h d6
        · simp [e2 h]
    · exact .inr hge
end Go.Proofs.YtcmollfhlillfaaGreatDoor
/-
  front: open: a batch begins.
-/
namespace Go.Proofs.YtcmollfhlillfaaGreatDoor
open Go.RowKit
set_option linter.unusedVariables false
set_option linter.unusedSimpArgs false
theorem open_cells {w : World} {f : Nat} {s : Fr} {cc : FrC} {u q : Value} (h : w.heap[f]? = some (.cells #[.int .i64 s.node, .int .i64 s.gen, .int .i64 s.epoch, .int .i64 s.rec_, cc.uc, cc.ur, cc.ub, .int .i64 s.version, .int .i64 s.known, .bool s.owed, .map (some cc.m), q, cc.uw, .int .i64 s.number, u, .int .i64 s.stuck, .bool s.begun] 75 (0, 0))) (x y : Value) :
    (w.setCell ⟨f, 11, none⟩ x).cell? ⟨f, 7, none⟩ = some (.int .i64 s.version) ∧ (w.setCell ⟨f, 11, none⟩ x).frozen? ⟨f, 7, none⟩ = false ∧
    ((w.setCell ⟨f, 11, none⟩ x).setCell ⟨f, 7, none⟩ y).cell? ⟨f, 9, none⟩ = some (.bool s.owed) ∧ ((w.setCell ⟨f, 11, none⟩ x).setCell ⟨f, 7, none⟩ y).frozen? ⟨f, 9, none⟩ = false := by
  have h1 := heap_setCell_same w f 11 _ _ x h
  have h2 := heap_setCell_same _ f 7 _ _ y h1
  exact ⟨cell_of_row _ _ 7 _ _ (0, 0) h1, frozen_of_row _ _ 7 _ _ h1, cell_of_row _ _ 9 _ _ (0, 0) h2, frozen_of_row _ _ 9 _ _ h2⟩
theorem open_end2 {w W w7 : World} {f bb mb : Nat} {s : Fr} {cc : FrC} {X : List Nat} {Aq : Option Addr} {cq : Nat} {A6 A7 : Option Addr} {n c6 c7 base7 nq d : Nat} {st : Int} {rows : List (List Value)} {xs : List (List Nat)}
    (hp : FrP w f s cc) (hX : X = cc.blocks f) (hnd : X.Nodup) (hxp : cc.Xp = []) (hxq : cc.Xq = obL (.slice Aq s.queue.length cq) ++ xs.flatten) (hrq : Rows jobR w rows s.queue xs) (hnq : nq = s.queue.length) (hst : st = stepF s) (hd : d = nq - n)
    (hn : n = min nq 4) (hM : OpM w W f bb mb s cc st Aq nq cq A6 n c6 (rows.take n).flatten) (hl7 : Later W w7) (ho7 : w7.ownsRow base7 120 5 (.slice A7 d c7) d (rows.drop n).flatten) (hb7 : W.heap.size ≤ base7) :
    ∃ X', FrH (((w7.setCell ⟨f, 11, none⟩ (.slice A7 d c7)).setCell ⟨f, 7, none⟩ (.int .i64 (s.version + st))).setCell ⟨f, 9, none⟩ (.bool false)) f (openF s) X' ∧ Hits (· ∈ X) w (((w7.setCell ⟨f, 11, none⟩ (.slice A7 d c7)).setCell ⟨f, 7, none⟩ (.int .i64 (s.version + st))).setCell ⟨f, 9, none⟩ (.bool false)) ∧ Fresh w X X' := by
  subst hd hnq hst
  exact open_end hp hX hnd hxp hxq hrq hn hM hl7 ho7 hb7 rfl
set_option maxHeartbeats 16000000 in
set_option maxRecDepth 100000 in
theorem open_any {w : World} {f : Nat} {s : Fr} {X : List Nat} (h : FrH w f s X) (hcur : s.cur = none) (hok : FrOk s) :
    Calls Tryz.prog 34 #[.pointer (some ⟨f, 0, none⟩)] w (TurnPost w f X (openF s) (resolveL (openF s) (openB s))) := by
  obtain ⟨cc, hp, hX, hnd⟩ := id h
  have hcu := hp.cur
  rw [hcur] at hcu
  obtain ⟨hup, hxp⟩ := hcu
  obtain ⟨Aq, cq, eq⟩ := slice_len hp.queue
  injection eq with eq
  have hq := hp.queue
  rw [eq] at hq
  obtain ⟨vq, rows, xs, evq, oq, rq, exq⟩ := hq
  injection evq with evq
  subst evq
  have hrow : w.heap[f]? = some (.cells #[.int .i64 s.node, .int .i64 s.gen, .int .i64 s.epoch, .int .i64 s.rec_, cc.uc, cc.ur, cc.ub, .int .i64 s.version, .int .i64 s.known, .bool s.owed, .map (some cc.m), .slice Aq s.queue.length cq, cc.uw, .int .i64 s.number, .pointer none, .int .i64 s.stuck, .bool s.begun] 75 (0, 0)) := by
    have := hp.row; unfold frCells at this; rw [eq, hup] at this; exact this
  obtain ⟨nq, hnq⟩ : ∃ n, n = s.queue.length := ⟨_, rfl⟩
  rw [← hnq] at hrow oq
  obtain ⟨st, hst⟩ : ∃ st, st = stepF s := ⟨_, rfl⟩
  have hst2 : st = 10 ∨ st = 1000 := by rw [hst]; unfold stepF; split <;> simp
  have b1 : nq ≤ 4096 := by rw [hnq]; exact hok.many
  have v0 := hok.v0
  have v1 := hok.v1
  have b2 : nq ≤ cq := (own_cap2 oq).2
  have HH := hide_ h; have HP := hide_ hp; have HRW := hide_ hrow; have HOQ := hide_ oq; have HRQ := hide_ rq; have HNQ := hide_ hnq; have HST := hide_ hst; have HOK := hide_ hok; have HX := hide_ hX; have HND := hide_ hnd; have HXQ := hide_ exq; have HXP := hide_ hxp
  have k3 := later_drew_cell (show w.cell? ⟨f, 3, none⟩ = some (.int .i64 s.rec_) from cell_of_row _ _ 3 _ _ (0, 0) hrow)
  have k7 := later_drew_cell (show w.cell? ⟨f, 7, none⟩ = some (.int .i64 s.version) from cell_of_row _ _ 7 _ _ (0, 0) hrow)
  clear h hcur hok hp hX hnd hup hxp eq oq rq exq hrow hnq
  have HSV := hide_ (show st = if s.version = s.rec_ then 1000 else 10 from hst)
  clear hst hst2
  go_enter Tryz.func34, Tryz.ntmps34
  go_wp2_with fail
  refine wp_region_k (by kernel_rfl) ?_
  refine wKt 0 (v := ?_) rfl (by intro W hSw; go_simp; with_reducible rfl) ?_; try simp only [Act.put, qA, qZ, qS]
  refine wKt 1 (v := ?_) rfl (by intro W hSw; go_simp; with_reducible rfl) ?_; try simp only [Act.put, qA, qZ, qS]
  refine wKt 2 (v := ?_) rfl (by intro W hSw; go_simp; with_reducible rfl) ?_; try simp only [Act.put, qA, qZ, qS]
  refine wKt 3 (v := ?_) rfl (by intro W hSw; go_simp; with_reducible rfl) ?_; try simp only [Act.put, qA, qZ, qS]
  refine wKt 4 (v := ?_) rfl (by intro W hSw; go_simp; with_reducible rfl) ?_; try simp only [Act.put, qA, qZ, qS]
  refine wKt 5 (v := ?_) rfl (by intro W hSw; go_simp; with_reducible rfl) ?_; try simp only [Act.put, qA, qZ, qS]
  refine wKt 6 (v := ?_) rfl (by intro W hSw; go_simp; with_reducible rfl) ?_; try simp only [Act.put, qA, qZ, qS]
  refine wKt 7 (v := ?_) rfl (by intro W hSw; go_simp; with_reducible rfl) ?_; try simp only [Act.put, qA, qZ, qS]
  refine wKt 8 (v := ?_) rfl (by intro W hSw; go_simp; with_reducible rfl) ?_; try simp only [Act.put, qA, qZ, qS]
  refine wKt 9 (v := ?_) rfl (by intro W hSw; go_simp; with_reducible rfl) ?_; try simp only [Act.put, qA, qZ, qS]
  refine wpAnyK_done (by kernel_rfl) ?_ _
  go_upto_if 14 with (fail)
  go_cut [3] (fun s3 wx => wx = w.drew ∧ s3 = .int .i64 st)
  case first =>
    by_cases hvr : s.version = s.rec_
    · have HE := hide_ (show st = 1000 by rw [HSV.out, if_pos hvr])
      have hb : (s.version == s.rec_) = true := by simpa using hvr
      clear hvr
      go_wp2_with fail
      go_meet
      exact ⟨rfl, by rw [HE.out]⟩
    · have HE := hide_ (show st = 10 by rw [HSV.out, if_neg hvr])
      have hb : (s.version == s.rec_) = false := by simpa using hvr
      clear hvr
      go_wp2_with fail
      go_meet
      exact ⟨rfl, by rw [HE.out]⟩
  case rest =>
    obtain ⟨hwx, rfl⟩ := hcut
    have st2 : st = 10 ∨ st = 1000 := by have := HSV.out; split at this <;> simp [this]
    have st3 : 0 ≤ st := by omega
    have st4 : st ≤ 1000 := by omega
    subst hwx
    clear st2 k3 k7
    have c11 : w.drew.cell? ⟨f, 11, none⟩ = some (.slice Aq nq cq) := cell_of_row _ _ 11 _ _ (0, 0) (show w.drew.heap[f]? = _ from HRW.out)
    obtain ⟨n, hn, hn4, hnq⟩ : ∃ n : Nat, min (nq : Int) 4 = (n : Int) ∧ n = min nq 4 ∧ n ≤ nq := ⟨min nq 4, by omega, rfl, by omega⟩
    have HN4 := hide_ hn4
    have n4 : n ≤ 4 := by omega
    have n5 : (n : Int) ≤ (cq : Int) := by omega
    have n6 : (n : Int) ≤ (nq : Int) := by omega
    have hcl := hide_ (fun W' (hl : Later w W') => clone_job (w := W') (c := cq) (A := Aq) (n := n) (xs := (rows.take n).flatten) (by have h1 := (Rd.of_own HOQ.out).take hnq; rw [rflat_take HRQ.out.each] at h1; exact h1.below hl) (Rows.one (HRQ.out.take n)) (by omega) (fun e => by have h1 := (own_cap2 HOQ.out).1 e; omega))
    have k7 := Stands.cell (X := fun g => g = f) (show w.drew.cell? ⟨f, 7, none⟩ = some (.int .i64 s.version) from cell_of_row _ _ 7 _ _ (0, 0) HRW.out) rfl
    have k8 := Stands.cell (X := fun g => g = f) (show w.drew.cell? ⟨f, 8, none⟩ = some (.int .i64 s.known) from cell_of_row _ _ 8 _ _ (0, 0) HRW.out) rfl
    have k11 := Stands.cell (X := fun g => g = f) (show w.drew.cell? ⟨f, 11, none⟩ = some (.slice Aq nq cq) from cell_of_row _ _ 11 _ _ (0, 0) HRW.out) rfl
    have hmm := @run_makeMap Tryz.prog
    have hsum : IntKind.i64.wrap (s.version + st) = s.version + st := IntWalk.i64_in _ (by omega)
    obtain ⟨w0, hw0⟩ : ∃ w0, w0 = w.drew := ⟨_, rfl⟩
    rw [← hw0] at c11 k7 k8 k11 ⊢
    have HW0 := hide_ (show Later w w0 by rw [hw0]; exact (Later.refl w).dr)
    have hw00 : w0.heap.size = w.heap.size := by rw [hw0]; rfl
    clear hn4 hw0
    go_wp2_with fail
    clear c11
    refine wp_region_z (R := Stands (fun g => g = f)) [28] (by kernel_rfl) ?_
    refine wpAnyZ_pure (Stands.steady (fun g => g = f)) 0 (v := ?_) rfl (by kernel_rfl) (by kernel_rfl) (by kernel_rfl) (fun _ _ _ h => h) (by rfl) (by intro W; go_simp; with_reducible rfl) ?_; try simp only [Act.put, qA, qZ, qS]
    refine wpAnyZ_pure (Stands.steady (fun g => g = f)) 1 (v := ?_) rfl (by kernel_rfl) (by kernel_rfl) (by kernel_rfl) (fun _ _ _ h => h) (by rfl) (by intro W; go_simp; with_reducible rfl) ?_; try simp only [Act.put, qA, qZ, qS]
    refine wpAnyZ_pure (Stands.steady (fun g => g = f)) 2 (v := ?_) rfl (by kernel_rfl) (by kernel_rfl) (by kernel_rfl) (fun _ _ _ h => h) (by rfl) (by intro W; go_simp; with_reducible rfl) ?_; try simp only [Act.put, qA, qZ, qS]
    refine wpAnyZ_pure (Stands.steady (fun g => g = f)) 3 (v := ?_) rfl (by kernel_rfl) (by kernel_rfl) (by kernel_rfl) (fun _ _ _ h => h) (by rfl) (by intro W; go_simp; with_reducible rfl) ?_; try simp only [Act.put, qA, qZ, qS]
    refine wpAnyZ_take (Stands.steady (fun g => g = f)) 4 (v := ?_) rfl (by kernel_rfl) (by kernel_rfl) (by kernel_rfl) (by kernel_rfl) (fun _ _ _ h => h) (by rfl) (by intro W hSw; have hS0 := Stands.trans (show Stands (fun g => g = f) w0 _ from by repeat first | with_reducible assumption | with_reducible exact Stands.refl _ _ | with_reducible refine Stands.alloc ?_ _ | with_reducible refine Stands.drew ?_ | with_reducible refine Stands.drewL ?_ | with_reducible refine Stands.setCell ?_ (by assumption) _ _ | assumption | refine Stands.trans ?_ (by assumption)) hSw; go_simp; with_reducible rfl) ?_; try simp only [Act.put, qA, qZ, qS]
    refine wpAnyZ_pure (Stands.steady (fun g => g = f)) 5 (v := ?_) rfl (by kernel_rfl) (by kernel_rfl) (by kernel_rfl) (fun _ _ _ h => h) (by rfl) (by intro W; go_simp; with_reducible rfl) ?_; try simp only [Act.put, qA, qZ, qS]
    refine wpAnyZ_pure (Stands.steady (fun g => g = f)) 6 (v := ?_) rfl (by kernel_rfl) (by kernel_rfl) (by kernel_rfl) (fun _ _ _ h => h) (by rfl) (by intro W; go_simp; with_reducible rfl) ?_; try simp only [Act.put, qA, qZ, qS]
    refine wpAnyZ_pure (Stands.steady (fun g => g = f)) 7 (v := ?_) rfl (by kernel_rfl) (by kernel_rfl) (by kernel_rfl) (fun _ _ _ h => h) (by rfl) (by intro W; go_simp; with_reducible rfl) ?_; try simp only [Act.put, qA, qZ, qS]
    refine wpAnyZ_take (Stands.steady (fun g => g = f)) 8 (v := ?_) rfl (by kernel_rfl) (by kernel_rfl) (by kernel_rfl) (by kernel_rfl) (fun _ _ _ h => h) (by rfl) (by intro W hSw; have hS0 := Stands.trans (show Stands (fun g => g = f) w0 _ from by repeat first | with_reducible assumption | with_reducible exact Stands.refl _ _ | with_reducible refine Stands.alloc ?_ _ | with_reducible refine Stands.drew ?_ | with_reducible refine Stands.drewL ?_ | with_reducible refine Stands.setCell ?_ (by assumption) _ _ | assumption | refine Stands.trans ?_ (by assumption)) hSw; go_simp; with_reducible rfl) ?_; try simp only [Act.put, qA, qZ, qS]
    refine wpAnyZ_pure (Stands.steady (fun g => g = f)) 9 (v := ?_) rfl (by kernel_rfl) (by kernel_rfl) (by kernel_rfl) (fun _ _ _ h => h) (by rfl) (by intro W; go_simp; with_reducible rfl) ?_; try simp only [Act.put, qA, qZ, qS]
    refine wpAnyZ_take (Stands.steady (fun g => g = f)) 10 (v := ?_) rfl (by kernel_rfl) (by kernel_rfl) (by kernel_rfl) (by kernel_rfl) (fun _ _ _ h => h) (by rfl) (by intro W hSw; have hS0 := Stands.trans (show Stands (fun g => g = f) w0 _ from by repeat first | with_reducible assumption | with_reducible exact Stands.refl _ _ | with_reducible refine Stands.alloc ?_ _ | with_reducible refine Stands.drew ?_ | with_reducible refine Stands.drewL ?_ | with_reducible refine Stands.setCell ?_ (by assumption) _ _ | assumption | refine Stands.trans ?_ (by assumption)) hSw; go_simp; with_reducible rfl) ?_; try simp only [Act.put, qA, qZ, qS]
    refine wpAnyZ_pure (Stands.steady (fun g => g = f)) 11 (v := ?_) rfl (by kernel_rfl) (by kernel_rfl) (by kernel_rfl) (fun _ _ _ h => h) (by rfl) (by intro W; go_simp; with_reducible rfl) ?_; try simp only [Act.put, qA, qZ, qS]
    refine wpAnyZ_pure (Stands.steady (fun g => g = f)) 12 (v := ?_) rfl (by kernel_rfl) (by kernel_rfl) (by kernel_rfl) (fun _ _ _ h => h) (by rfl) (by intro W; go_simp; with_reducible rfl) ?_; try simp only [Act.put, qA, qZ, qS]
    refine wpAnyZ_pure (Stands.steady (fun g => g = f)) 13 (v := ?_) rfl (by kernel_rfl) (by kernel_rfl) (by kernel_rfl) (fun _ _ _ h => h) (by rfl) (by intro W; go_simp; with_reducible rfl) ?_; try simp only [Act.put, qA, qZ, qS]
    refine wpAnyZ_take (Stands.steady (fun g => g = f)) 14 (v := ?_) rfl (by kernel_rfl) (by kernel_rfl) (by kernel_rfl) (by kernel_rfl) (fun _ _ _ h => h) (by rfl) (by intro W hSw; have hS0 := Stands.trans (show Stands (fun g => g = f) w0 _ from by repeat first | with_reducible assumption | with_reducible exact Stands.refl _ _ | with_reducible refine Stands.alloc ?_ _ | with_reducible refine Stands.drew ?_ | with_reducible refine Stands.drewL ?_ | with_reducible refine Stands.setCell ?_ (by assumption) _ _ | assumption | refine Stands.trans ?_ (by assumption)) hSw; go_simp; with_reducible rfl) ?_; try simp only [Act.put, qA, qZ, qS]
    refine wpAnyZ_pure (Stands.steady (fun g => g = f)) 15 (v := ?_) rfl (by kernel_rfl) (by kernel_rfl) (by kernel_rfl) (fun _ _ _ h => h) (by rfl) (by intro W; go_simp; with_reducible rfl) ?_; try simp only [Act.put, qA, qZ, qS]
    refine wpAnyZ_pure (Stands.steady (fun g => g = f)) 16 (v := ?_) rfl (by kernel_rfl) (by kernel_rfl) (by kernel_rfl) (fun _ _ _ h => h) (by rfl) (by intro W; go_simp; with_reducible rfl) ?_; try simp only [Act.put, qA, qZ, qS]
    refine wpAnyZ_pure (Stands.steady (fun g => g = f)) 17 (v := ?_) rfl (by kernel_rfl) (by kernel_rfl) (by kernel_rfl) (fun _ _ _ h => h) (by rfl) (by intro W; go_simp; with_reducible rfl) ?_; try simp only [Act.put, qA, qZ, qS]
    refine wpAnyZ_pure (Stands.steady (fun g => g = f)) 18 (v := ?_) rfl (by kernel_rfl) (by kernel_rfl) (by kernel_rfl) (fun _ _ _ h => h) (by rfl) (by intro W; go_simp; with_reducible rfl) ?_; try simp only [Act.put, qA, qZ, qS]
    refine wpAnyZ_take (Stands.steady (fun g => g = f)) 19 (v := ?_) rfl (by kernel_rfl) (by kernel_rfl) (by kernel_rfl) (by kernel_rfl) (fun _ _ _ h => h) (by rfl) (by intro W hSw; have hS0 := Stands.trans (show Stands (fun g => g = f) w0 _ from by repeat first | with_reducible assumption | with_reducible exact Stands.refl _ _ | with_reducible refine Stands.alloc ?_ _ | with_reducible refine Stands.drew ?_ | with_reducible refine Stands.drewL ?_ | with_reducible refine Stands.setCell ?_ (by assumption) _ _ | assumption | refine Stands.trans ?_ (by assumption)) hSw; go_simp; with_reducible rfl) ?_; try simp only [Act.put, qA, qZ, qS]
    refine wpAnyZ_pure (Stands.steady (fun g => g = f)) 20 (v := ?_) rfl (by kernel_rfl) (by kernel_rfl) (by kernel_rfl) (fun _ _ _ h => h) (by rfl) (by intro W; go_simp; with_reducible rfl) ?_; try simp only [Act.put, qA, qZ, qS]
    refine wpAnyZ_pure (Stands.steady (fun g => g = f)) 21 (v := ?_) rfl (by kernel_rfl) (by kernel_rfl) (by kernel_rfl) (fun _ _ _ h => h) (by rfl) (by intro W; go_simp; with_reducible rfl) ?_; try simp only [Act.put, qA, qZ, qS]
    refine wpAnyZ_two 22 23 (by kernel_rfl) rfl rfl (fun K hK => ?_) (fun K hK => ?_)
    rotate_right 1
    focus
      go_simp
      refine hK.out _ _ (.inr (by repeat first | with_reducible assumption | with_reducible exact Stands.refl _ _ | with_reducible refine Stands.alloc ?_ _ | with_reducible refine Stands.drew ?_ | with_reducible refine Stands.drewL ?_ | with_reducible refine Stands.setCell ?_ (by assumption) _ _ | assumption | refine Stands.of_later ?_)) ?_
      clear hK K; try simp only [Act.put, qA, qZ, qS]
      refine wpAnyZ_one 22 (by kernel_rfl) rfl (fun K hK => ?_)
      go_simp
      refine (hcl.out _ (by first | exact HW0.out.dr | exact (HW0.out.al _).dr)).mono ?_; rintro e w6 ⟨A6, c6, rfl, ho6, hl6, hn6⟩; have hs6 : Stands (fun g => g = f) _ w6 := Stands.of_later hl6; have hl06 : Later w w6 := (by first | exact HW0.out.dr.trans hl6 | exact (HW0.out.al _).dr.trans hl6); have hr6 := later_row hl06 HRW.out; have y14 : w6.cell? ⟨f, 14, none⟩ = some (.pointer none) := cell_of_row _ _ 14 _ _ (0, 0) hr6; have yf14 := frozen_of_row _ _ 14 _ _ hr6; have ylt := theap_lt hr6
      refine hK.out _ _ (by repeat first | with_reducible assumption | with_reducible exact Stands.refl _ _ | with_reducible refine Stands.alloc ?_ _ | with_reducible refine Stands.drew ?_ | with_reducible refine Stands.drewL ?_ | with_reducible refine Stands.setCell ?_ (by assumption) _ _ | assumption | refine Stands.of_later ?_) ?_
      clear hK K; try simp only [Act.put, qA, qZ, qS]
      refine wpAnyZ_pure (Stands.steady (fun g => g = f)) 24 (v := ?_) rfl (by kernel_rfl) (by kernel_rfl) (by kernel_rfl) (fun _ _ _ h => h) (by rfl) (by intro W; go_simp; with_reducible rfl) ?_; try simp only [Act.put, qA, qZ, qS]
      refine wpAnyZ_one 25 (by kernel_rfl) rfl (fun K hK => ?_)
      go_simp
      refine hK.out _ _ (by repeat first | with_reducible assumption | with_reducible exact Stands.refl _ _ | with_reducible refine Stands.alloc ?_ _ | with_reducible refine Stands.drew ?_ | with_reducible refine Stands.drewL ?_ | with_reducible refine Stands.setCell ?_ (by assumption) _ _ | assumption | refine Stands.of_later ?_) ?_
      clear hK K; try simp only [Act.put, qA, qZ, qS]
      refine wpAnyZ_pure (Stands.steady (fun g => g = f)) 26 (v := ?_) rfl (by kernel_rfl) (by kernel_rfl) (by kernel_rfl) (fun _ _ _ h => h) (by rfl) (by intro W; go_simp; with_reducible rfl) ?_; try simp only [Act.put, qA, qZ, qS]
      refine wpAnyZ_pure (Stands.steady (fun g => g = f)) 27 (v := ?_) rfl (by kernel_rfl) (by kernel_rfl) (by kernel_rfl) (fun _ _ _ h => h) (by rfl) (by intro W; go_simp; with_reducible rfl) ?_; try simp only [Act.put, qA, qZ, qS]
      refine wpAnyZ_loud 28 (by kernel_rfl) (by rfl) rfl (fun K hK => ?_)
      go_simp
      refine hK.out _ _ ?_
      clear hK K; try simp only [Act.put, qA, qZ, qS]
      refine wpAnyZ_done (by kernel_rfl) ?_ _
    rotate_right 1
    focus
      go_simp
      refine (hcl.out _ (by first | exact HW0.out.dr | exact (HW0.out.al _).dr)).mono ?_; rintro e w6 ⟨A6, c6, rfl, ho6, hl6, hn6⟩; have hs6 : Stands (fun g => g = f) _ w6 := Stands.of_later hl6; have hl06 : Later w w6 := (by first | exact HW0.out.dr.trans hl6 | exact (HW0.out.al _).dr.trans hl6); have hr6 := later_row hl06 HRW.out; have y14 : w6.cell? ⟨f, 14, none⟩ = some (.pointer none) := cell_of_row _ _ 14 _ _ (0, 0) hr6; have yf14 := frozen_of_row _ _ 14 _ _ hr6; have ylt := theap_lt hr6
      refine hK.out _ _ (.inr (by repeat first | with_reducible assumption | with_reducible exact Stands.refl _ _ | with_reducible refine Stands.alloc ?_ _ | with_reducible refine Stands.drew ?_ | with_reducible refine Stands.drewL ?_ | with_reducible refine Stands.setCell ?_ (by assumption) _ _ | assumption | refine Stands.of_later ?_)) ?_
      clear hK K; try simp only [Act.put, qA, qZ, qS]
      refine wpAnyZ_one 23 (by kernel_rfl) rfl (fun K hK => ?_)
      go_simp
      refine hK.out _ _ (by repeat first | with_reducible assumption | with_reducible exact Stands.refl _ _ | with_reducible refine Stands.alloc ?_ _ | with_reducible refine Stands.drew ?_ | with_reducible refine Stands.drewL ?_ | with_reducible refine Stands.setCell ?_ (by assumption) _ _ | assumption | refine Stands.of_later ?_) ?_
      clear hK K; try simp only [Act.put, qA, qZ, qS]
      refine wpAnyZ_pure (Stands.steady (fun g => g = f)) 24 (v := ?_) rfl (by kernel_rfl) (by kernel_rfl) (by kernel_rfl) (fun _ _ _ h => h) (by rfl) (by intro W; go_simp; with_reducible rfl) ?_; try simp only [Act.put, qA, qZ, qS]
      refine wpAnyZ_one 25 (by kernel_rfl) rfl (fun K hK => ?_)
      go_simp
      refine hK.out _ _ (by repeat first | with_reducible assumption | with_reducible exact Stands.refl _ _ | with_reducible refine Stands.alloc ?_ _ | with_reducible refine Stands.drew ?_ | with_reducible refine Stands.drewL ?_ | with_reducible refine Stands.setCell ?_ (by assumption) _ _ | assumption | refine Stands.of_later ?_) ?_
      clear hK K; try simp only [Act.put, qA, qZ, qS]
      refine wpAnyZ_pure (Stands.steady (fun g => g = f)) 26 (v := ?_) rfl (by kernel_rfl) (by kernel_rfl) (by kernel_rfl) (fun _ _ _ h => h) (by rfl) (by intro W; go_simp; with_reducible rfl) ?_; try simp only [Act.put, qA, qZ, qS]
      refine wpAnyZ_pure (Stands.steady (fun g => g = f)) 27 (v := ?_) rfl (by kernel_rfl) (by kernel_rfl) (by kernel_rfl) (fun _ _ _ h => h) (by rfl) (by intro W; go_simp; with_reducible rfl) ?_; try simp only [Act.put, qA, qZ, qS]
      refine wpAnyZ_loud 28 (by kernel_rfl) (by rfl) rfl (fun K hK => ?_)
      go_simp
      refine hK.out _ _ ?_
      clear hK K; try simp only [Act.put, qA, qZ, qS]
      refine wpAnyZ_done (by kernel_rfl) ?_ _
    all_goals (
      first
        | (have hM := opM_1 (s := s) (cc := cc) (st := st) (Aq := Aq) (nq := nq) (cq := cq) hl06 HRW.out ho6 (by have := HW0.out.size; simp; omega); refine OpM.go (P := Exit.then _ _ _ _) hM ?_; clear hM)
        | (have hM := opM_2 (s := s) (cc := cc) (st := st) (Aq := Aq) (nq := nq) (cq := cq) HW0.out hl6 HRW.out ho6 (by have := HW0.out.size; simp; omega) hw00.symm; refine OpM.go (P := Exit.then _ _ _ _) hM ?_; clear hM)
      clear k7 k8 k11 hmm
      intro Wm hM
      have c11 : Wm.cell? ⟨f, 11, none⟩ = some (.slice Aq nq cq) := cell_of_row _ _ 11 _ _ (0, 0) hM.rf
      have HM := hide_ hM
      clear hM
      have hcl2 : ∀ W', Later Wm W' → Calls Tryz.prog 65 #[.slice (if cq = n then Aq else Aq.map (·.add (n * 5))) (nq - n) (cq - n)] W' (ClonePost W' 120 5 (nq - n) (if cq = n then Aq else Aq.map (·.add (n * 5))) ((rows.drop n).flatten)) := fun W' hl => clone_job (by
        have hb := HM.out.hh.own HOQ.out fun g hg e => by
          have h1 := (own_block HOQ.out hg).2.2
          obtain ⟨cs, h1⟩ := h1
          exact bats_ne h1 HRW.out (by decide) e
        have h1 := (Rd.of_own hb).cut hnq b2
        rw [rflat_drop HRQ.out.each] at h1
        exact h1.below hl) (Rows.one (HRQ.out.drop n)) (by omega) (fun e => by
          have h1 := (own_cap2 HOQ.out).1
          split at e
          · have := h1 e; omega
          · rcases Aq with _ | a
            · have := h1 rfl; omega
            · cases e)
      have HCL2 := hide_ hcl2
      clear hcl2
      by_cases hcn : cq = n
      · subst hcn
        go_wp2_with fail
        go_at_call 65
        have h2 := HCL2.out Wm (Later.refl _)
        have hz : nq - cq = 0 := by omega
        have hz2 : cq - cq = 0 := by omega
        simp only [if_true, hz, hz2] at h2
        refine h2.mono ?_
        rintro e w7 ⟨A7, c7, rfl, ho7, hl7, hn7⟩
        have hr7 := later_row hl7 HM.out.rf
        have y11 : w7.cell? ⟨f, 11, none⟩ = some (.slice Aq nq _) := cell_of_row _ _ 11 _ _ (0, 0) hr7
        have yf11 := frozen_of_row _ _ 11 _ _ hr7
        have ylt := theap_lt hr7
        obtain ⟨hz7, hfz7, hz9, hfz9⟩ := open_cells hr7 (.slice A7 (0) c7) (.int .i64 (s.version + st))
        go_wp2_with fail
        obtain ⟨X', g1, g2, g3⟩ := open_end2 HP.out HX.out HND.out HXP.out HXQ.out HRQ.out HNQ.out HST.out hz.symm HN4.out HM.out hl7 ho7 (Nat.le_refl _)
        refine (resolve_any g1 rfl (openOk HOK.out)).mono ?_
        rintro e w9 ⟨A9, n9, c9, Y, rfl, hL, hS, hY, hl9⟩
        go_wp2_with fail
        go_ret
        exact ⟨A9, n9, c9, Y, X', _, rfl, hL, hS, hY, g2.size, g1.lt, g1.later hl9, g2.thenLater hl9, g3⟩
      · have hcl3 : ∀ W', Later Wm W' → Calls Tryz.prog 65 #[.slice (Aq.map (·.add (n * 5))) (nq - n) (cq - n)] W' (ClonePost W' 120 5 (nq - n) (Aq.map (·.add (n * 5))) ((rows.drop n).flatten)) := by
          intro W' hl; have h2 := HCL2.out W' hl; rw [if_neg hcn] at h2; exact h2
        go_wp2_with fail
        go_at_call 65
        refine (hcl3 Wm (Later.refl _)).mono ?_
        rintro e w7 ⟨A7, c7, rfl, ho7, hl7, hn7⟩
        have hr7 := later_row hl7 HM.out.rf
        have y11 : w7.cell? ⟨f, 11, none⟩ = some (.slice Aq nq _) := cell_of_row _ _ 11 _ _ (0, 0) hr7
        have yf11 := frozen_of_row _ _ 11 _ _ hr7
        have ylt := theap_lt hr7
        obtain ⟨hz7, hfz7, hz9, hfz9⟩ := open_cells hr7 (.slice A7 (nq - n) c7) (.int .i64 (s.version + st))
        go_wp2_with fail
        obtain ⟨X', g1, g2, g3⟩ := open_end2 HP.out HX.out HND.out HXP.out HXQ.out HRQ.out HNQ.out HST.out rfl HN4.out HM.out hl7 ho7 (Nat.le_refl _)
        refine (resolve_any g1 rfl (openOk HOK.out)).mono ?_
        rintro e w9 ⟨A9, n9, c9, Y, rfl, hL, hS, hY, hl9⟩
        go_wp2_with fail
        go_ret
        exact ⟨A9, n9, c9, Y, X', _, rfl, hL, hS, hY, g2.size, g1.lt, g1.later hl9, g2.thenLater hl9, g3⟩)

end Go.Proofs.YtcmollfhlillfaaGreatDoor
/-
  front: one field of a front is written.
-/
namespace Go.Proofs.YtcmollfhlillfaaGreatDoor
open Go.RowKit
set_option linter.unusedVariables false
set_option linter.unusedSimpArgs false
/-- Two fronts that differ in plain fields alone. -/
structure Plain (s s' : Fr) : Prop where
  chests : s'.chests = s.chests
  refs : s'.refs = s.refs
  bounds : s'.bounds = s.bounds
  seen : s'.seen = s.seen
  queue : s'.queue = s.queue
  wishes : s'.wishes = s.wishes
  cur : s'.cur = s.cur
theorem FrP.not_f {w : World} {f : Nat} {s : Fr} {c : FrC} (h : FrP w f s c) (hnd : (c.blocks f).Nodup) : ∀ k ∈ c.m :: (c.Xc ++ c.Xr ++ c.Xb ++ c.Xq ++ c.Xw ++ c.Xp), ¬ k = f := by
  intro k hk e
  subst e
  unfold FrC.blocks at hnd
  exact (List.nodup_cons.1 hnd).1 hk
theorem FrP.turn {w w' : World} {f : Nat} {s s' : Fr} {c : FrC} (h : FrP w f s c) (hnd : (c.blocks f).Nodup) (hs : Plain s s') (hh : Hits (· = f) w w') (hr : w'.heap[f]? = some (.cells (frCells s' c) 75 (0, 0))) : FrP w' f s' c := by
  have nf := h.not_f hnd
  refine ⟨hr, ?_, ?_, ?_, ?_, ?_, ?_, ?_⟩
  · rw [hs.chests]; exact intsR.frame h.chests hh fun k hk => nf k (by simp [hk])
  · rw [hs.refs]; exact intsR.frame h.refs hh fun k hk => nf k (by simp [hk])
  · rw [hs.bounds]; exact strsR.frame h.bounds hh fun k hk => nf k (by simp [hk])
  · rw [hs.seen]; exact h.seen.hits hh (nf _ (by simp))
  · rw [hs.queue]; exact jobsR.frame h.queue hh fun k hk => nf k (by simp [hk])
  · rw [hs.wishes]; exact wishesR.frame h.wishes hh fun k hk => nf k (by simp [hk])
  · rw [hs.cur]; exact h.cur.frame hh fun k hk => nf k (by simp [hk])
theorem FrH.memf {w : World} {f : Nat} {s : Fr} {X : List Nat} (h : FrH w f s X) : f ∈ X := by
  obtain ⟨c, h1, rfl, h2⟩ := h
  simp [FrC.blocks]
/-- One plain field is written. -/
theorem FrH.put {w : World} {f : Nat} {s s' : Fr} {X : List Nat} (h : FrH w f s X) (j : Nat) (u : Value) (hs : Plain s s') (hc : ∀ c, (frCells s c).setIfInBounds j u = frCells s' c) : FrH (w.setCell ⟨f, j, none⟩ u) f s' X ∧ Hits (· ∈ X) w (w.setCell ⟨f, j, none⟩ u) := by
  have hm := h.memf
  obtain ⟨c, h1, rfl, h2⟩ := h
  have hh : Hits (· = f) w (w.setCell ⟨f, j, none⟩ u) := (Hits.refl (· = f) w).setCell (g := f) (fun _ => rfl) j u
  refine ⟨⟨c, h1.turn h2 hs hh ?_, rfl, h2⟩, hh.mono fun i _ e => by subst e; exact hm⟩
  have := heap_setCell_same w f j _ _ u h1.row
  rwa [hc] at this
end Go.Proofs.YtcmollfhlillfaaGreatDoor
