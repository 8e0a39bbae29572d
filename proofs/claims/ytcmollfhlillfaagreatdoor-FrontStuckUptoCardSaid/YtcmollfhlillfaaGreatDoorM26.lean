/-
  Texts of this seat in one: FrAt, FrNew, FrMsg.
-/
import Derived.Test.YtcmollfhlillfaaGreatDoorM14
import Derived.Test.YtcmollfhlillfaaGreatDoorM21
import Derived.Test.YtcmollfhlillfaaGreatDoorM18
import Derived.Test.YtcmollfhlillfaaGreatDoorM25
/-
  front: a front in memory.
-/
namespace Go.Proofs.YtcmollfhlillfaaGreatDoor
open Go.RowKit
set_option linter.unusedVariables false
set_option linter.unusedSimpArgs false
/-- Elements without blocks: the row is what they write. -/
theorem rows_plain {α : Type} {enc : α → List Value} {n : Nat} {h : ∀ a, (enc a).length = n} {h1 : ∀ a, ∀ u ∈ enc a, u.oneCell' = true} {w : World} : ∀ {cs : List (List Value)} {L : List α} {xs : List (List Nat)}, Rows (plainR enc n h h1) w cs L xs → cs = L.map enc ∧ xs = L.map fun _ => []
  | [], [], [], _ => ⟨rfl, rfl⟩
  | c :: cs, a :: L, x :: xs, hr => by
    obtain ⟨e1, e2⟩ := rows_plain hr.2
    obtain ⟨e3, e4⟩ := hr.1
    rw [e1, e2, e3, e4]; exact ⟨rfl, rfl⟩
theorem plain_rows {α : Type} {enc : α → List Value} {n : Nat} {h : ∀ a, (enc a).length = n} {h1 : ∀ a, ∀ u ∈ enc a, u.oneCell' = true} (w : World) : ∀ L : List α, Rows (plainR enc n h h1) w (L.map enc) L (L.map fun _ => [])
  | [] => trivial
  | a :: L => ⟨⟨rfl, rfl⟩, plain_rows w L⟩
theorem nils_flat {α : Type} (L : List α) : (L.map fun _ => ([] : List Nat)).flatten = [] := by
  induction L with
  | nil => rfl
  | cons a L ih => rw [List.map_cons, List.flatten_cons, ih]; rfl
theorem slice_plain {α : Type} {enc : α → List Value} {n : Nat} {h : ∀ a, (enc a).length = n} {h1 : ∀ a, ∀ u ∈ enc a, u.oneCell' = true} {t : TypeId} {w : World} {cs : List Value} {L : List α} {X : List Nat} :
    (sliceR t (plainR enc n h h1)).holds w cs L X ↔ ∃ v, cs = [v] ∧ w.ownsRow 0 t n v L.length (L.flatMap enc) ∧ X = obL v := by
  constructor
  · rintro ⟨v, rows, xs, rfl, g1, g2, rfl⟩
    obtain ⟨rfl, rfl⟩ := rows_plain g2
    refine ⟨v, rfl, by rw [List.flatMap_def]; exact g1, by rw [nils_flat, List.append_nil]⟩
  · rintro ⟨v, rfl, g1, rfl⟩
    exact ⟨v, L.map enc, L.map fun _ => [], rfl, by rw [List.flatMap_def] at g1; exact g1, plain_rows w L, by rw [nils_flat, List.append_nil]⟩
def spanR : Rep Spn := plainR encS 2 encS_len encS_one
def chgR : Rep Chg := plainR encC 3 encC_len encC_one
abbrev intsR : Rep (List Int) := sliceR 3 intR
abbrev strsR : Rep (List ByteArray) := sliceR 9 strR
abbrev spansR : Rep (List Spn) := sliceR 81 spanR
abbrev chgsR : Rep (List Chg) := sliceR 142 chgR
theorem ints_holds {w : World} {cs : List Value} {L : List Int} {X : List Nat} : intsR.holds w cs L X ↔ ∃ v, cs = [v] ∧ w.ownsRow 0 3 1 v L.length (ints L) ∧ X = obL v := by
  unfold intsR intR
  rw [slice_plain]
  have e : L.flatMap (fun n => [Value.int .i64 n]) = ints L := by unfold ints; induction L with
    | nil => rfl
    | cons a L ih => rw [List.flatMap_cons, ih]; rfl
  rw [e]
theorem strs_holds {w : World} {cs : List Value} {L : List ByteArray} {X : List Nat} : strsR.holds w cs L X ↔ ∃ v, cs = [v] ∧ w.ownsRow 0 9 1 v L.length (strs L) ∧ X = obL v := by
  unfold strsR strR
  rw [slice_plain]
  have e : L.flatMap (fun n => [Value.string n]) = strs L := by unfold strs; induction L with
    | nil => rfl
    | cons a L ih => rw [List.flatMap_cons, ih]; rfl
  rw [e]
/-- A job: who asks, its number, the transaction. -/
structure Jb where
  guest : Int
  seq : Int
  tx : Tx
structure Ws where
  guest : Int
  seq : Int
  number : Int
  alive : List Int
structure Bt where
  prev : Int
  ver : Int
  known : Int
  chg : List Chg
  jobs : List Jb
  told : List (Int × List Int)
  verd : Option (List Int)
  pushed : List Int
structure Fr where
  node : Int
  gen : Int
  epoch : Int
  rec_ : Int
  chests : List Int
  refs : List Int
  bounds : List ByteArray
  version : Int
  known : Int
  owed : Bool
  seen : List (Int × Int)
  queue : List Jb
  wishes : List Ws
  number : Int
  cur : Option Bt
  stuck : Int
  begun : Bool
def jobR : Rep Jb where
  size := 5
  holds w cs j X := ∃ u1 u2 X1 X2, cs = [.int .i64 j.guest, .int .i64 j.seq, .int .i64 j.tx.1, u1, u2] ∧ spansR.holds w [u1] j.tx.2.1 X1 ∧ chgsR.holds w [u2] j.tx.2.2 X2 ∧ X = X1 ++ X2
  frame := by
    rintro w w' cs a X F ⟨u1, u2, X1, X2, rfl, h1, h2, rfl⟩ hh hF
    exact ⟨u1, u2, X1, X2, rfl, spansR.frame h1 hh fun k hk => hF k (List.mem_append_left _ hk), chgsR.frame h2 hh fun k hk => hF k (List.mem_append_right _ hk), rfl⟩
  lt := by
    rintro w cs a X ⟨u1, u2, X1, X2, rfl, h1, h2, rfl⟩ k hk
    rcases List.mem_append.1 hk with h | h
    · exact spansR.lt h1 k h
    · exact chgsR.lt h2 k h
  len := by rintro w cs a X ⟨u1, u2, X1, X2, rfl, _⟩; rfl
  one := by
    rintro w cs a X ⟨u1, u2, X1, X2, rfl, h1, h2, _⟩ u hu
    simp only [List.mem_cons, List.not_mem_nil, or_false] at hu
    rcases hu with rfl | rfl | rfl | rfl | rfl
    · rfl
    · rfl
    · rfl
    · exact spansR.one h1 u (by simp)
    · exact chgsR.one h2 u (by simp)
def wishR : Rep Ws where
  size := 4
  holds w cs j X := ∃ u, cs = [.int .i64 j.guest, .int .i64 j.seq, .int .i64 j.number, u] ∧ intsR.holds w [u] j.alive X
  frame := by
    rintro w w' cs a X F ⟨u, rfl, h1⟩ hh hF
    exact ⟨u, rfl, intsR.frame h1 hh hF⟩
  lt := by rintro w cs a X ⟨u, rfl, h1⟩; exact intsR.lt h1
  len := by rintro w cs a X ⟨u, rfl, _⟩; rfl
  one := by
    rintro w cs a X ⟨u1, rfl, h1⟩ u hu
    simp only [List.mem_cons, List.not_mem_nil, or_false] at hu
    rcases hu with rfl | rfl | rfl | rfl
    · rfl
    · rfl
    · rfl
    · exact intsR.one h1 u (by simp)
abbrev jobsR : Rep (List Jb) := sliceR 120 jobR
abbrev wishesR : Rep (List Ws) := sliceR 89 wishR
/-- What each referee told. -/
def ToldH (w : World) (b : Nat) (T : List (Int × List Int)) (X : List Nat) : Prop := ∃ M xs, MapM w b M ∧ M.map (·.1) = T.map (·.1) ∧ Rows intsR w (M.map fun x => [x.2]) (T.map (·.2)) xs ∧ X = xs.flatten
theorem ToldH.frame {w w' : World} {b : Nat} {T : List (Int × List Int)} {X : List Nat} {F : Nat → Prop} (h : ToldH w b T X) (hh : Hits F w w') (hb : ¬ F b) (hF : ∀ k ∈ X, ¬ F k) : ToldH w' b T X := by
  obtain ⟨M, xs, h1, h2, h3, rfl⟩ := h
  exact ⟨M, xs, h1.hits hh hb, h2, h3.frame hh hF, rfl⟩
/-- The verdicts, if there are. -/
def VerdH (w : World) (v : Value) (o : Option (List Int)) (X : List Nat) : Prop := match o with
  | none => v = .slice none 0 0 ∧ X = []
  | some L => intsR.holds w [v] L X ∧ ∃ a n c, v = .slice (some a) n c
theorem VerdH.frame {w w' : World} {v : Value} {o : Option (List Int)} {X : List Nat} {F : Nat → Prop} (h : VerdH w v o X) (hh : Hits F w w') (hF : ∀ k ∈ X, ¬ F k) : VerdH w' v o X := by
  cases o with
  | none => exact h
  | some L => exact ⟨intsR.frame h.1 hh hF, h.2⟩
theorem VerdH.lt {w : World} {v : Value} {o : Option (List Int)} {X : List Nat} (h : VerdH w v o X) : ∀ k ∈ X, k < w.heap.size := by
  cases o with
  | none => intro k hk; rw [h.2] at hk; cases hk
  | some L => exact intsR.lt h.1
/-- A batch that goes on. -/
structure BtC where
  m : Nat
  uc : Value
  uj : Value
  uv : Value
  up : Value
  Xc : List Nat
  Xj : List Nat
  Xm : List Nat
  Xv : List Nat
  Xp : List Nat
def BtC.blocks (c : BtC) : List Nat := c.m :: (c.Xc ++ c.Xj ++ c.Xm ++ c.Xv ++ c.Xp)
structure BtH (w : World) (b : Nat) (t : Bt) (c : BtC) : Prop where
  row : w.heap[b]? = some (.cells #[.int .i64 t.prev, .int .i64 t.ver, .int .i64 t.known, c.uc, c.uj, .map (some c.m), c.uv, c.up] 94 (0, 0))
  chg : chgsR.holds w [c.uc] t.chg c.Xc
  jobs : jobsR.holds w [c.uj] t.jobs c.Xj
  told : ToldH w c.m t.told c.Xm
  verd : VerdH w c.uv t.verd c.Xv
  pushed : intsR.holds w [c.up] t.pushed c.Xp
theorem BtH.frame {w w' : World} {b : Nat} {t : Bt} {c : BtC} {F : Nat → Prop} (h : BtH w b t c) (hh : Hits F w w') (hb : ¬ F b) (hF : ∀ k ∈ c.blocks, ¬ F k) : BtH w' b t c :=
  ⟨hh.row h.row hb, chgsR.frame h.chg hh fun k hk => hF k (by simp [BtC.blocks, hk]), jobsR.frame h.jobs hh fun k hk => hF k (by simp [BtC.blocks, hk]), h.told.frame hh (hF _ (by simp [BtC.blocks])) fun k hk => hF k (by simp [BtC.blocks, hk]),
   h.verd.frame hh fun k hk => hF k (by simp [BtC.blocks, hk]), intsR.frame h.pushed hh fun k hk => hF k (by simp [BtC.blocks, hk])⟩
theorem ToldH.lt {w : World} {b : Nat} {T : List (Int × List Int)} {X : List Nat} (h : ToldH w b T X) : b < w.heap.size ∧ ∀ k ∈ X, k < w.heap.size := by
  obtain ⟨M, xs, h1, h2, h3, rfl⟩ := h
  exact ⟨h1.lt, h3.lt⟩
theorem BtH.lt {w : World} {b : Nat} {t : Bt} {c : BtC} (h : BtH w b t c) : ∀ k ∈ c.blocks, k < w.heap.size := by
  intro k hk
  simp only [BtC.blocks, List.mem_cons, List.mem_append] at hk
  rcases hk with rfl | (((hk | hk) | hk) | hk) | hk
  · exact h.told.lt.1
  · exact chgsR.lt h.chg k hk
  · exact jobsR.lt h.jobs k hk
  · exact h.told.lt.2 k hk
  · exact h.verd.lt k hk
  · exact intsR.lt h.pushed k hk
/-- The batch that goes on, if one does. -/
def CurH (w : World) (v : Value) (o : Option Bt) (X : List Nat) : Prop := match o with
  | none => v = .pointer none ∧ X = []
  | some t => ∃ b c, v = .pointer (some ⟨b, 0, none⟩) ∧ BtH w b t c ∧ X = b :: c.blocks
theorem CurH.frame {w w' : World} {v : Value} {o : Option Bt} {X : List Nat} {F : Nat → Prop} (h : CurH w v o X) (hh : Hits F w w') (hF : ∀ k ∈ X, ¬ F k) : CurH w' v o X := by
  cases o with
  | none => exact h
  | some t =>
    obtain ⟨b, c, rfl, h1, rfl⟩ := h
    exact ⟨b, c, rfl, h1.frame hh (hF b (by simp)) fun k hk => hF k (by simp [hk]), rfl⟩
theorem CurH.lt {w : World} {v : Value} {o : Option Bt} {X : List Nat} (h : CurH w v o X) : ∀ k ∈ X, k < w.heap.size := by
  cases o with
  | none => intro k hk; rw [h.2] at hk; cases hk
  | some t =>
    obtain ⟨b, c, rfl, h1, rfl⟩ := h
    intro k hk
    rcases List.mem_cons.1 hk with rfl | hk
    · exact theap_lt h1.row
    · exact h1.lt k hk
def seenM (L : List (Int × Int)) : MP := L.map fun x => (x.1, .int .i64 x.2)
/-- Where a front lies. -/
structure FrC where
  uc : Value
  ur : Value
  ub : Value
  m : Nat
  uq : Value
  uw : Value
  up : Value
  Xc : List Nat
  Xr : List Nat
  Xb : List Nat
  Xq : List Nat
  Xw : List Nat
  Xp : List Nat
def FrC.blocks (f : Nat) (c : FrC) : List Nat := f :: c.m :: (c.Xc ++ c.Xr ++ c.Xb ++ c.Xq ++ c.Xw ++ c.Xp)
def frCells (s : Fr) (c : FrC) : Array Value := #[.int .i64 s.node, .int .i64 s.gen, .int .i64 s.epoch, .int .i64 s.rec_, c.uc, c.ur, c.ub, .int .i64 s.version, .int .i64 s.known, .bool s.owed, .map (some c.m), c.uq, c.uw, .int .i64 s.number, c.up, .int .i64 s.stuck, .bool s.begun]
structure FrP (w : World) (f : Nat) (s : Fr) (c : FrC) : Prop where
  row : w.heap[f]? = some (.cells (frCells s c) 75 (0, 0))
  chests : intsR.holds w [c.uc] s.chests c.Xc
  refs : intsR.holds w [c.ur] s.refs c.Xr
  bounds : strsR.holds w [c.ub] s.bounds c.Xb
  seen : MapM w c.m (seenM s.seen)
  queue : jobsR.holds w [c.uq] s.queue c.Xq
  wishes : wishesR.holds w [c.uw] s.wishes c.Xw
  cur : CurH w c.up s.cur c.Xp
theorem FrP.frame {w w' : World} {f : Nat} {s : Fr} {c : FrC} {F : Nat → Prop} (h : FrP w f s c) (hh : Hits F w w') (hF : ∀ k ∈ c.blocks f, ¬ F k) : FrP w' f s c :=
  ⟨hh.row h.row (hF f (by simp [FrC.blocks])), intsR.frame h.chests hh fun k hk => hF k (by simp [FrC.blocks, hk]), intsR.frame h.refs hh fun k hk => hF k (by simp [FrC.blocks, hk]), strsR.frame h.bounds hh fun k hk => hF k (by simp [FrC.blocks, hk]),
   h.seen.hits hh (hF _ (by simp [FrC.blocks])), jobsR.frame h.queue hh fun k hk => hF k (by simp [FrC.blocks, hk]), wishesR.frame h.wishes hh fun k hk => hF k (by simp [FrC.blocks, hk]), h.cur.frame hh fun k hk => hF k (by simp [FrC.blocks, hk])⟩
theorem FrP.lt {w : World} {f : Nat} {s : Fr} {c : FrC} (h : FrP w f s c) : ∀ k ∈ c.blocks f, k < w.heap.size := by
  intro k hk
  simp only [FrC.blocks, List.mem_cons, List.mem_append] at hk
  rcases hk with rfl | rfl | ((((hk | hk) | hk) | hk) | hk) | hk
  · exact theap_lt h.row
  · exact h.seen.lt
  · exact intsR.lt h.chests k hk
  · exact intsR.lt h.refs k hk
  · exact strsR.lt h.bounds k hk
  · exact jobsR.lt h.queue k hk
  · exact wishesR.lt h.wishes k hk
  · exact h.cur.lt k hk
/-- A front, in these blocks, each once. -/
def FrH (w : World) (f : Nat) (s : Fr) (X : List Nat) : Prop := ∃ c, FrP w f s c ∧ X = c.blocks f ∧ X.Nodup
theorem FrH.frame {w w' : World} {f : Nat} {s : Fr} {X : List Nat} {F : Nat → Prop} (h : FrH w f s X) (hh : Hits F w w') (hF : ∀ k ∈ X, ¬ F k) : FrH w' f s X := by
  obtain ⟨c, h1, rfl, h2⟩ := h
  exact ⟨c, h1.frame hh hF, rfl, h2⟩
theorem FrH.lt {w : World} {f : Nat} {s : Fr} {X : List Nat} (h : FrH w f s X) : ∀ k ∈ X, k < w.heap.size := by
  obtain ⟨c, h1, rfl, h2⟩ := h
  exact h1.lt
theorem FrH.later {w w' : World} {f : Nat} {s : Fr} {X : List Nat} (h : FrH w f s X) (hl : Later w w') : FrH w' f s X := h.frame (Hits.later (F := fun _ => False) hl) fun _ _ hf => hf
end Go.Proofs.YtcmollfhlillfaaGreatDoor
/-
  front: New, Ends, Stuck; what a front that is none answers.
-/
namespace Go.Proofs.YtcmollfhlillfaaGreatDoor
open Go.RowKit
set_option linter.unusedVariables false
set_option linter.unusedSimpArgs false
def newBad (node g e r version : Int) (C R : List Int) (B : List ByteArray) : Prop := node < 0 ∨ 255 < node ∨ stateB g e r C = false ∨ e < 1 ∨ C.length = 0 ∨ version < 0 ∨ R.length ≠ B.length + 1
def fr0 (node g e r version : Int) (C R : List Int) (B : List ByteArray) : Fr := ⟨node, g, e, r, C, R, B, version, version, false, [], [], [], 0, none, 0, false⟩
theorem ends_nil (w : World) : Calls Tryz.prog 10 #[.pointer none] w fun e w' => e = .returned (.tuple #[.int .i64 0, .int .i64 0]) ∧ w' = w := by
  go_enter Tryz.func10, Tryz.ntmps10
  go_wp2_with fail
  go_ret2
  exact ⟨rfl, rfl⟩
theorem stuck_nil (w : World) : Calls Tryz.prog 13 #[.pointer none] w fun e w' => e = .returned (.int .i64 0) ∧ w' = w := by
  go_enter Tryz.func13, Tryz.ntmps13
  go_wp2_with fail
  go_ret
  exact ⟨rfl, rfl⟩
set_option maxRecDepth 100000 in
theorem tick_nil (w : World) : Calls Tryz.prog 16 #[.pointer none] w fun e w' => e = .returned (.slice none 0 0) ∧ w' = w := by
  go_enter Tryz.func16, Tryz.ntmps16
  go_wp2_with fail
  go_ret
  exact ⟨rfl, rfl⟩
set_option maxRecDepth 100000 in
theorem take_nil (m : Value) (hm : ∃ a b c d e f g h, m = .agg #[a, b, c, d, e, f, g, h]) (w : World) : Calls Tryz.prog 15 #[.pointer none, m] w fun e w' => e = .returned (.slice none 0 0) ∧ Later w w' := by
  obtain ⟨a, b, c, d, e, f, g, h, rfl⟩ := hm
  have HB := hide_ (later_alloc w (.cells #[a, b, c, d, e, f, g, h] 53))
  go_enter Tryz.func15, Tryz.ntmps15
  go_wp2_with fail
  refine wp_region_k (by kernel_rfl) ?_
  refine wKt 0 (v := ?_) rfl (by intro W hSw; go_simp; with_reducible rfl) ?_; try simp only [Act.put, qA, qZ, qS]
  refine wKt 1 (v := ?_) rfl (by intro W hSw; go_simp; with_reducible rfl) ?_; try simp only [Act.put, qA, qZ, qS]
  refine wKt 2 (v := ?_) rfl (by intro W hSw; go_simp; with_reducible rfl) ?_; try simp only [Act.put, qA, qZ, qS]
  refine wKs 3 rfl ?_; try simp only [Act.put, qA, qZ, qS]
  refine wKs 4 rfl ?_; try simp only [Act.put, qA, qZ, qS]
  refine wKs 5 rfl ?_; try simp only [Act.put, qA, qZ, qS]
  refine wKs 6 rfl ?_; try simp only [Act.put, qA, qZ, qS]
  refine wKs 7 rfl ?_; try simp only [Act.put, qA, qZ, qS]
  refine wKs 8 rfl ?_; try simp only [Act.put, qA, qZ, qS]
  refine wKs 9 rfl ?_; try simp only [Act.put, qA, qZ, qS]
  refine wKt 10 (v := ?_) rfl (by intro W hSw; go_simp; with_reducible rfl) ?_; try simp only [Act.put, qA, qZ, qS]
  refine wKt 11 (v := ?_) rfl (by intro W hSw; go_simp; with_reducible rfl) ?_; try simp only [Act.put, qA, qZ, qS]
  refine wKs 12 rfl ?_; try simp only [Act.put, qA, qZ, qS]
  refine wKs 13 rfl ?_; try simp only [Act.put, qA, qZ, qS]
  refine wKs 14 rfl ?_; try simp only [Act.put, qA, qZ, qS]
  refine wKs 15 rfl ?_; try simp only [Act.put, qA, qZ, qS]
  refine wKs 16 rfl ?_; try simp only [Act.put, qA, qZ, qS]
  refine wKs 17 rfl ?_; try simp only [Act.put, qA, qZ, qS]
  refine wKs 18 rfl ?_; try simp only [Act.put, qA, qZ, qS]
  refine wKs 19 rfl ?_; try simp only [Act.put, qA, qZ, qS]
  refine wKs 20 rfl ?_; try simp only [Act.put, qA, qZ, qS]
  refine wKs 21 rfl ?_; try simp only [Act.put, qA, qZ, qS]
  refine wKs 22 rfl ?_; try simp only [Act.put, qA, qZ, qS]
  refine wKs 23 rfl ?_; try simp only [Act.put, qA, qZ, qS]
  refine wKs 24 rfl ?_; try simp only [Act.put, qA, qZ, qS]
  refine wKt 25 (v := ?_) rfl (by intro W hSw; go_simp; with_reducible rfl) ?_; try simp only [Act.put, qA, qZ, qS]
  refine wpAnyK_done (by kernel_rfl) ?_ _
  go_wp2_with fail
  go_ret
  exact ⟨rfl, HB.out.dr⟩
theorem ends_any {w : World} {f : Nat} {s : Fr} {X : List Nat} (h : FrH w f s X) : Calls Tryz.prog 10 #[.pointer (some ⟨f, 0, none⟩)] w fun e w' => e = .returned (.tuple #[.int .i64 s.version, .int .i64 s.known]) ∧ Later w w' := by
  obtain ⟨c, h1, _⟩ := h
  have c7 := later_drew_cell (show w.cell? ⟨f, 7, none⟩ = some (.int .i64 s.version) from cell_of_row _ _ 7 _ _ (0, 0) h1.row)
  have c8 := later_drew_cell (show w.cell? ⟨f, 8, none⟩ = some (.int .i64 s.known) from cell_of_row _ _ 8 _ _ (0, 0) h1.row)
  clear h1
  have HB := hide_ (Later.refl w).dr
  go_enter Tryz.func10, Tryz.ntmps10
  go_wp2_with fail
  refine wp_region_k (by kernel_rfl) ?_
  refine wKt 0 (v := ?_) rfl (by intro W hSw; go_simp; with_reducible rfl) ?_; try simp only [Act.put, qA, qZ, qS]
  refine wKt 1 (v := ?_) rfl (by intro W hSw; go_simp; with_reducible rfl) ?_; try simp only [Act.put, qA, qZ, qS]
  refine wKt 2 (v := ?_) rfl (by intro W hSw; go_simp; with_reducible rfl) ?_; try simp only [Act.put, qA, qZ, qS]
  refine wKt 3 (v := ?_) rfl (by intro W hSw; go_simp; with_reducible rfl) ?_; try simp only [Act.put, qA, qZ, qS]
  refine wKt 4 (v := ?_) rfl (by intro W hSw; go_simp; with_reducible rfl) ?_; try simp only [Act.put, qA, qZ, qS]
  refine wKt 5 (v := ?_) rfl (by intro W hSw; go_simp; with_reducible rfl) ?_; try simp only [Act.put, qA, qZ, qS]
  refine wKt 6 (v := ?_) rfl (by intro W hSw; go_simp; with_reducible rfl) ?_; try simp only [Act.put, qA, qZ, qS]
  refine wKt 7 (v := ?_) rfl (by intro W hSw; go_simp; with_reducible rfl) ?_; try simp only [Act.put, qA, qZ, qS]
  refine wKt 8 (v := ?_) rfl (by intro W hSw; go_simp; with_reducible rfl) ?_; try simp only [Act.put, qA, qZ, qS]
  refine wKt 9 (v := ?_) rfl (by intro W hSw; go_simp; with_reducible rfl) ?_; try simp only [Act.put, qA, qZ, qS]
  refine wpAnyK_done (by kernel_rfl) ?_ _
  go_wp2_with fail
  go_ret2
  exact ⟨rfl, HB.out⟩
theorem stuck_any {w : World} {f : Nat} {s : Fr} {X : List Nat} (h : FrH w f s X) : Calls Tryz.prog 13 #[.pointer (some ⟨f, 0, none⟩)] w fun e w' => e = .returned (.int .i64 s.stuck) ∧ w' = w := by
  obtain ⟨c, h1, _⟩ := h
  have c15 : w.cell? ⟨f, 15, none⟩ = some (.int .i64 s.stuck) := cell_of_row _ _ 15 _ _ (0, 0) h1.row
  clear h1
  go_enter Tryz.func13, Tryz.ntmps13
  go_wp2_with fail
  go_ret
  exact ⟨rfl, rfl⟩
/-- A front that was just made. -/
def NewPost (w : World) (s : Fr) (e : Ending) (w' : World) : Prop := ∃ f X, e = .returned (.tuple #[.pointer (some ⟨f, 0, none⟩), .int .i64 0]) ∧ FrH w' f s X ∧ (∀ k ∈ X, w.heap.size ≤ k) ∧ Later w w'
structure NewArgs (w : World) (Ac Ar Ab : Option Addr) (cc cr cb : Nat) (C R : List Int) (B : List ByteArray) : Prop where
  c : Rd w 1 Ac C.length (ints C)
  r : Rd w 1 Ar R.length (ints R)
  b : Rd w 1 Ab B.length (strs B)
  cn : C.length ≤ 1099511627776
  rn : R.length ≤ 1099511627776
  bn : B.length ≤ 1099511627776
  c0 : Ac = none → C.length = 0
  r0 : Ar = none → R.length = 0
  b0 : Ab = none → B.length = 0
theorem NewArgs.later {w w' : World} {Ac Ar Ab : Option Addr} {cc cr cb : Nat} {C R : List Int} {B : List ByteArray} (h : NewArgs w Ac Ar Ab cc cr cb C R B) (hl : Later w w') : NewArgs w' Ac Ar Ab cc cr cb C R B :=
  ⟨h.c.below hl, h.r.below hl, h.b.below hl, h.cn, h.rn, h.bn, h.c0, h.r0, h.b0⟩
set_option maxHeartbeats 4000000 in
set_option maxRecDepth 100000 in
theorem new_bad {w : World} {Ac Ar Ab : Option Addr} {cc cr cb : Nat} {C R : List Int} {B : List ByteArray} (ha : NewArgs w Ac Ar Ab cc cr cb C R B) (node g e0 r version : Int) (hbad : newBad node g e0 r version C R B) :
    Calls Tryz.prog 14 #[.int .i64 node, .agg #[.int .i64 g, .int .i64 e0, .int .i64 r, .slice Ac C.length cc], .int .i64 version, .slice Ar R.length cr, .slice Ab B.length cb] w fun e w' => e = .returned (.tuple #[.pointer none, .int .i64 1]) ∧ Later w w' := by
  obtain ⟨n1, hn1⟩ : ∃ n, n = C.length := ⟨_, rfl⟩
  obtain ⟨n2, hn2⟩ : ∃ n, n = R.length := ⟨_, rfl⟩
  obtain ⟨n3, hn3⟩ : ∃ n, n = B.length := ⟨_, rfl⟩
  have HL := hide_ (later_alloc w (.cells #[.int .i64 g, .int .i64 e0, .int .i64 r, .slice Ac n1 cc] 37))
  have HST := hide_ (state_any (w := (w.alloc (.cells #[.int .i64 g, .int .i64 e0, .int .i64 r, .slice Ac n1 cc] 37))) (c := cc) (g := g) (e0 := e0) (r := r) ((ha.c.below HL.out)) rfl (by have := ha.cn; omega))
  have b1 : n1 ≤ 1099511627776 := by have := ha.cn; omega
  have b2 : n2 ≤ 1099511627776 := by have := ha.rn; omega
  have b3 : n3 ≤ 1099511627776 := by have := ha.bn; omega
  have hbad2 : node < 0 ∨ 255 < node ∨ stateB g e0 r C = false ∨ e0 < 1 ∨ n1 = 0 ∨ version < 0 ∨ n2 ≠ n3 + 1 := by rw [hn1, hn2, hn3]; exact hbad
  rw [← hn1] at HST ⊢
  rw [← hn2, ← hn3]
  clear hbad ha hn1 hn2 hn3
  obtain ⟨sb, hsb⟩ : ∃ b, b = stateB g e0 r C := ⟨_, rfl⟩
  rw [← hsb] at HST hbad2
  clear hsb
  by_cases c1 : node < 0
  · clear hbad2
    go_enter Tryz.func14, Tryz.ntmps14
    go_wp2_with fail
    go_ret2
    exact ⟨rfl, HL.out⟩
  · by_cases c2 : 255 < node
    · clear hbad2
      go_enter Tryz.func14, Tryz.ntmps14
      go_wp2_with fail
      go_ret2
      exact ⟨rfl, HL.out⟩
    · by_cases c3 : sb = false
      · clear hbad2
        subst c3
        go_enter Tryz.func14, Tryz.ntmps14
        go_wp2_with fail
        refine HST.out.mono ?_; rintro e w2 ⟨rfl, hl2⟩
        have hrow := later_row hl2 (heap_alloc_new w _)
        have z1 : w2.cell? ⟨w.heap.size, 1, none⟩ = some (.int .i64 e0) := cell_of_row _ _ 1 _ _ (0, 0) hrow
        have z3 : w2.cell? ⟨w.heap.size, 3, none⟩ = some (.slice Ac n1 cc) := cell_of_row _ _ 3 _ _ (0, 0) hrow
        have HL2 := hide_ (HL.out.trans hl2)
        clear hrow hl2 HST
        go_wp2_with fail
        go_ret2
        exact ⟨rfl, HL2.out⟩
      · by_cases c4 : e0 < 1
        · clear hbad2
          have c3t : sb = true := by simpa using c3
          subst c3t
          go_enter Tryz.func14, Tryz.ntmps14
          go_wp2_with fail
          refine HST.out.mono ?_; rintro e w2 ⟨rfl, hl2⟩
          have hrow := later_row hl2 (heap_alloc_new w _)
          have z1 : w2.cell? ⟨w.heap.size, 1, none⟩ = some (.int .i64 e0) := cell_of_row _ _ 1 _ _ (0, 0) hrow
          have z3 : w2.cell? ⟨w.heap.size, 3, none⟩ = some (.slice Ac n1 cc) := cell_of_row _ _ 3 _ _ (0, 0) hrow
          have HL2 := hide_ (HL.out.trans hl2)
          clear hrow hl2 HST
          go_wp2_with fail
          go_ret2
          exact ⟨rfl, HL2.out⟩
        · by_cases c5 : n1 = 0
          · clear hbad2
            have c3t : sb = true := by simpa using c3
            subst c3t
            subst c5
            go_enter Tryz.func14, Tryz.ntmps14
            go_wp2_with fail
            refine HST.out.mono ?_; rintro e w2 ⟨rfl, hl2⟩
            have hrow := later_row hl2 (heap_alloc_new w _)
            have z1 : w2.cell? ⟨w.heap.size, 1, none⟩ = some (.int .i64 e0) := cell_of_row _ _ 1 _ _ (0, 0) hrow
            have z3 : w2.cell? ⟨w.heap.size, 3, none⟩ = some (.slice Ac 0 cc) := cell_of_row _ _ 3 _ _ (0, 0) hrow
            have HL2 := hide_ (HL.out.trans hl2)
            clear hrow hl2 HST
            go_wp2_with fail
            go_ret2
            exact ⟨rfl, HL2.out⟩
          · by_cases c6 : version < 0
            · clear hbad2
              have c3t : sb = true := by simpa using c3
              subst c3t
              have c5' : ((n1 : Int) == 0) = false := by simp; omega
              go_enter Tryz.func14, Tryz.ntmps14
              go_wp2_with fail
              refine HST.out.mono ?_; rintro e w2 ⟨rfl, hl2⟩
              have hrow := later_row hl2 (heap_alloc_new w _)
              have z1 : w2.cell? ⟨w.heap.size, 1, none⟩ = some (.int .i64 e0) := cell_of_row _ _ 1 _ _ (0, 0) hrow
              have z3 : w2.cell? ⟨w.heap.size, 3, none⟩ = some (.slice Ac n1 cc) := cell_of_row _ _ 3 _ _ (0, 0) hrow
              have HL2 := hide_ (HL.out.trans hl2)
              clear hrow hl2 HST
              go_wp2_with fail
              go_ret2
              exact ⟨rfl, HL2.out⟩
            · by_cases c7 : n2 ≠ n3 + 1
              · clear hbad2
                have c3t : sb = true := by simpa using c3
                subst c3t
                have c5' : ((n1 : Int) == 0) = false := by simp; omega
                have c7' : (((n2 : Int)) != (n3 : Int) + 1) = true := by rw [bne_iff_ne]; omega
                go_enter Tryz.func14, Tryz.ntmps14
                go_wp2_with fail
                refine HST.out.mono ?_; rintro e w2 ⟨rfl, hl2⟩
                have hrow := later_row hl2 (heap_alloc_new w _)
                have z1 : w2.cell? ⟨w.heap.size, 1, none⟩ = some (.int .i64 e0) := cell_of_row _ _ 1 _ _ (0, 0) hrow
                have z3 : w2.cell? ⟨w.heap.size, 3, none⟩ = some (.slice Ac n1 cc) := cell_of_row _ _ 3 _ _ (0, 0) hrow
                have HL2 := hide_ (HL.out.trans hl2)
                clear hrow hl2 HST
                go_wp2_with fail
                go_ret2
                exact ⟨rfl, HL2.out⟩
              · exfalso; rcases hbad2 with h | h | h | h | h | h | h <;> first | exact c1 h | exact c2 h | exact c3 h | exact c4 h | exact c5 h | exact c6 h | exact c7 h
set_option maxHeartbeats 8000000 in
set_option maxRecDepth 100000 in
theorem new_form {w : World} {Ac Ar Ab : Option Addr} {cc cr cb : Nat} {C R : List Int} {B : List ByteArray} (ha : NewArgs w Ac Ar Ab cc cr cb C R B) (node g e0 r version : Int) (hgood : ¬ newBad node g e0 r version C R B) (hB : bndB B = false) :
    Calls Tryz.prog 14 #[.int .i64 node, .agg #[.int .i64 g, .int .i64 e0, .int .i64 r, .slice Ac C.length cc], .int .i64 version, .slice Ar R.length cr, .slice Ab B.length cb] w fun e w' => e = .returned (.tuple #[.pointer none, .int .i64 2]) ∧ Later w w' := by
  have HA := hide_ ha
  have hx : ¬ node < 0 ∧ ¬ 255 < node ∧ stateB g e0 r C = true ∧ ¬ e0 < 1 ∧ ¬ C.length = 0 ∧ ¬ version < 0 ∧ R.length = B.length + 1 := by
    unfold newBad at hgood
    refine ⟨fun h => hgood (.inl h), fun h => hgood (.inr (.inl h)), ?_, fun h => hgood (.inr (.inr (.inr (.inl h)))), fun h => hgood (.inr (.inr (.inr (.inr (.inl h))))), fun h => hgood (.inr (.inr (.inr (.inr (.inr (.inl h)))))), ?_⟩
    · cases hs : stateB g e0 r C with
      | true => rfl
      | false => exact absurd (.inr (.inr (.inl hs))) hgood
    · refine Decidable.byContradiction fun h => hgood (.inr (.inr (.inr (.inr (.inr (.inr h))))))
  obtain ⟨c1, c2, c3, c4, c5, c6, c7⟩ := hx
  obtain ⟨n1, hn1⟩ : ∃ n, n = C.length := ⟨_, rfl⟩
  obtain ⟨n2, hn2⟩ : ∃ n, n = R.length := ⟨_, rfl⟩
  obtain ⟨n3, hn3⟩ : ∃ n, n = B.length := ⟨_, rfl⟩
  have HL := hide_ (later_alloc w (.cells #[.int .i64 g, .int .i64 e0, .int .i64 r, .slice Ac n1 cc] 37))
  have HST := hide_ (state_any (w := (w.alloc (.cells #[.int .i64 g, .int .i64 e0, .int .i64 r, .slice Ac n1 cc] 37))) (c := cc) (g := g) (e0 := e0) (r := r) ((ha.c.below HL.out)) rfl (by have := ha.cn; omega))
  have b1 : n1 ≤ 1099511627776 := by have := ha.cn; omega
  have b2 : n2 ≤ 1099511627776 := by have := ha.rn; omega
  have b3 : n3 ≤ 1099511627776 := by have := ha.bn; omega
  rw [← hn1] at c5 HST ⊢
  rw [← hn2, ← hn3]
  rw [← hn2, ← hn3] at c7
  rw [c3] at HST
  have HN1 := hide_ hn1; have HN2 := hide_ hn2; have HN3 := hide_ hn3
  have HB := hide_ hB
  have HC7 := hide_ c7
  have c5' : ((n1 : Int) == 0) = false := by simp; omega
  have c7' : (((n2 : Int)) != (n3 : Int) + 1) = false := by simp; omega
  clear hgood ha hn1 hn2 hn3 c3 c5 c7 hB
  go_enter Tryz.func14, Tryz.ntmps14
  go_wp2_with fail
  refine HST.out.mono ?_; rintro e w2 ⟨rfl, hl2⟩
  have hrow := later_row hl2 (heap_alloc_new w _)
  have z1 : w2.cell? ⟨w.heap.size, 1, none⟩ = some (.int .i64 e0) := cell_of_row _ _ 1 _ _ (0, 0) hrow
  have z3 : w2.cell? ⟨w.heap.size, 3, none⟩ = some (.slice Ac n1 cc) := cell_of_row _ _ 3 _ _ (0, 0) hrow
  have HRW := hide_ hrow
  have HL2 := hide_ (HL.out.trans hl2)
  have HP := hide_ (Piece_any (w := w2) (c := cb) (HA.out.b.below HL2.out) rfl (by have := HA.out.bn; omega) 0)
  rw [← HN3.out] at HP
  clear hrow hl2 HST
  go_wp2_with fail
  refine HP.out.mono ?_; rintro e w3 ⟨rfl, hl3⟩
  have e2 : pieceE B 0 = 2 := by unfold pieceE; rw [HB.out]; rfl
  rw [e2]
  have HL3 := hide_ (HL2.out.trans hl3)
  clear e2 hl3 HP z1 z3
  go_wp2_with fail
  go_ret2
  exact ⟨rfl, HL3.out.al _⟩
theorem new_fin {w W5 Wf : World} {node g e0 r version : Int} {C R : List Int} {B : List ByteArray} {b1 b2 b3 mb fb : Nat} {v1 v2 v3 : Value} (hl : Later w W5) (hl2 : Later W5 Wf) (h1 : W5.ownsRow b1 3 1 v1 C.length (ints C)) (hb1 : w.heap.size ≤ b1)
    (h2 : Wf.ownsRow b2 3 1 v2 R.length (ints R)) (hb2 : W5.heap.size ≤ b2) (h3 : Wf.ownsRow b3 9 1 v3 B.length (strs B)) (hb3 : w.heap.size ≤ b3) (hm : MapM Wf mb []) (hmb : w.heap.size ≤ mb)
    (hrow : Wf.heap[fb]? = some (.cells #[.int .i64 node, .int .i64 g, .int .i64 e0, .int .i64 r, v1, v2, v3, .int .i64 version, .int .i64 version, .bool false, .map (some mb), .slice none 0 0, .slice none 0 0, .int .i64 0, .pointer none, .int .i64 0, .bool false] 75 (0, 0))) (hfb : w.heap.size ≤ fb) :
    NewPost w (fr0 node g e0 r version C R B) (.returned (.tuple #[.pointer (some ⟨fb, 0, none⟩), .int .i64 0])) Wf := by
  have g1 := own_below h1 hl2
  have hC : ∀ g, v1.ownBlock = some g → w.heap.size ≤ g ∧ g < W5.heap.size ∧ ∃ cs, Wf.heap[g]? = some (.cells cs 3 (0, 0)) := fun g hg => by
    obtain ⟨x1, x2, x3⟩ := own_block h1 hg
    obtain ⟨_, _, x4⟩ := own_block g1 hg
    exact ⟨by omega, x2, x4⟩
  have hR : ∀ g, v2.ownBlock = some g → W5.heap.size ≤ g ∧ ∃ cs, Wf.heap[g]? = some (.cells cs 3 (0, 0)) := fun g hg => by
    obtain ⟨x1, x2, x3⟩ := own_block h2 hg
    exact ⟨by omega, x3⟩
  have hBs : ∀ g, v3.ownBlock = some g → w.heap.size ≤ g ∧ ∃ cs, Wf.heap[g]? = some (.cells cs 9 (0, 0)) := fun g hg => by
    obtain ⟨x1, x2, x3⟩ := own_block h3 hg
    exact ⟨by omega, x3⟩
  obtain ⟨es, ck, hmap⟩ := hm.map
  have ne : ∀ {i j : Nat} {cs cs2 : Array Value} {t t2 : TypeId} {f f2 : Nat × Nat}, Wf.heap[i]? = some (.cells cs t f) → Wf.heap[j]? = some (.cells cs2 t2 f2) → t ≠ t2 → i ≠ j := fun h k ht e => by
    subst e; rw [h] at k; injection k with k; injection k with _ k _; exact ht k
  have nem : ∀ {i : Nat} {cs : Array Value} {t : TypeId} {f : Nat × Nat}, Wf.heap[i]? = some (.cells cs t f) → i ≠ mb := fun h e => by
    subst e; rw [h] at hmap; injection hmap with hmap; cases hmap
  have hls := hl.size
  refine ⟨fb, _, rfl, ⟨⟨v1, v2, v3, mb, .slice none 0 0, .slice none 0 0, .pointer none, obL v1, obL v2, obL v3, [], [], []⟩, ⟨hrow, ints_holds.2 ⟨v1, rfl, own_base g1 (Nat.zero_le _), rfl⟩, ints_holds.2 ⟨v2, rfl, own_base h2 (Nat.zero_le _), rfl⟩, strs_holds.2 ⟨v3, rfl, own_base h3 (Nat.zero_le _), rfl⟩, hm, ⟨_, [], [], rfl, World.ownsRow_nil _ _ _ _, trivial, rfl⟩, ⟨_, [], [], rfl, World.ownsRow_nil _ _ _ _, trivial, rfl⟩, rfl, rfl⟩, rfl, ?_⟩, ?_, hl.trans hl2⟩
  · simp only [FrC.blocks, List.append_nil, List.nodup_cons, List.mem_cons, List.mem_append, mem_obL, not_or, List.nodup_append]
    refine ⟨⟨nem hrow, ⟨fun h => ?_, fun h => ?_⟩, fun h => ?_⟩, ⟨⟨fun h => ?_, fun h => ?_⟩, fun h => ?_⟩, ⟨?_, ?_, ?_⟩, ?_, ?_⟩
    · obtain ⟨_, _, cs, x⟩ := hC _ h; exact ne hrow x (by decide) rfl
    · obtain ⟨_, cs, x⟩ := hR _ h; exact ne hrow x (by decide) rfl
    · obtain ⟨_, cs, x⟩ := hBs _ h; exact ne hrow x (by decide) rfl
    · obtain ⟨_, _, cs, x⟩ := hC _ h; exact nem x rfl
    · obtain ⟨_, cs, x⟩ := hR _ h; exact nem x rfl
    · obtain ⟨_, cs, x⟩ := hBs _ h; exact nem x rfl
    · exact obL_nodup v1
    · exact obL_nodup v2
    · intro a ha b hb
      have x1 := (hC a ha).2.1
      have x2 := (hR b hb).1
      omega
    · exact obL_nodup v3
    · intro a ha b hb
      obtain ⟨_, cs, x⟩ := hBs b hb
      rcases ha with h | h
      · obtain ⟨_, _, cs2, y⟩ := hC a h; exact ne y x (by decide)
      · obtain ⟨_, cs2, y⟩ := hR a h; exact ne y x (by decide)
  · intro k hk
    simp only [FrC.blocks, List.append_nil, List.mem_cons, List.mem_append, mem_obL] at hk
    rcases hk with rfl | rfl | (hk | hk) | hk
    · exact hfb
    · exact hmb
    · exact (hC k hk).1
    · have := (hR k hk).1; omega
    · exact (hBs k hk).1
set_option maxHeartbeats 8000000 in
set_option maxRecDepth 100000 in
theorem new_ok {w : World} {Ac Ar Ab : Option Addr} {cc cr cb : Nat} {C R : List Int} {B : List ByteArray} (ha : NewArgs w Ac Ar Ab cc cr cb C R B) (node g e0 r version : Int) (hgood : ¬ newBad node g e0 r version C R B) (hB : bndB B = true) :
    Calls Tryz.prog 14 #[.int .i64 node, .agg #[.int .i64 g, .int .i64 e0, .int .i64 r, .slice Ac C.length cc], .int .i64 version, .slice Ar R.length cr, .slice Ab B.length cb] w (NewPost w (fr0 node g e0 r version C R B)) := by
  have HA := hide_ ha
  have hx : ¬ node < 0 ∧ ¬ 255 < node ∧ stateB g e0 r C = true ∧ ¬ e0 < 1 ∧ ¬ C.length = 0 ∧ ¬ version < 0 ∧ R.length = B.length + 1 := by
    unfold newBad at hgood
    refine ⟨fun h => hgood (.inl h), fun h => hgood (.inr (.inl h)), ?_, fun h => hgood (.inr (.inr (.inr (.inl h)))), fun h => hgood (.inr (.inr (.inr (.inr (.inl h))))), fun h => hgood (.inr (.inr (.inr (.inr (.inr (.inl h)))))), ?_⟩
    · cases hs : stateB g e0 r C with
      | true => rfl
      | false => exact absurd (.inr (.inr (.inl hs))) hgood
    · refine Decidable.byContradiction fun h => hgood (.inr (.inr (.inr (.inr (.inr (.inr h))))))
  obtain ⟨c1, c2, c3, c4, c5, c6, c7⟩ := hx
  obtain ⟨n1, hn1⟩ : ∃ n, n = C.length := ⟨_, rfl⟩
  obtain ⟨n2, hn2⟩ : ∃ n, n = R.length := ⟨_, rfl⟩
  obtain ⟨n3, hn3⟩ : ∃ n, n = B.length := ⟨_, rfl⟩
  have HL := hide_ (later_alloc w (.cells #[.int .i64 g, .int .i64 e0, .int .i64 r, .slice Ac n1 cc] 37))
  have HST := hide_ (state_any (w := (w.alloc (.cells #[.int .i64 g, .int .i64 e0, .int .i64 r, .slice Ac n1 cc] 37))) (c := cc) (g := g) (e0 := e0) (r := r) ((ha.c.below HL.out)) rfl (by have := ha.cn; omega))
  have b1 : n1 ≤ 1099511627776 := by have := ha.cn; omega
  have b2 : n2 ≤ 1099511627776 := by have := ha.rn; omega
  have b3 : n3 ≤ 1099511627776 := by have := ha.bn; omega
  rw [← hn1] at c5 HST ⊢
  rw [← hn2, ← hn3]
  rw [← hn2, ← hn3] at c7
  rw [c3] at HST
  have HN1 := hide_ hn1; have HN2 := hide_ hn2; have HN3 := hide_ hn3
  have HB := hide_ hB
  have HC7 := hide_ c7
  have c5' : ((n1 : Int) == 0) = false := by simp; omega
  have c7' : (((n2 : Int)) != (n3 : Int) + 1) = false := by simp; omega
  clear hgood ha hn1 hn2 hn3 c3 c5 c7 hB
  go_enter Tryz.func14, Tryz.ntmps14
  go_wp2_with fail
  refine HST.out.mono ?_; rintro e w2 ⟨rfl, hl2⟩
  have hrow := later_row hl2 (heap_alloc_new w _)
  have z1 : w2.cell? ⟨w.heap.size, 1, none⟩ = some (.int .i64 e0) := cell_of_row _ _ 1 _ _ (0, 0) hrow
  have z3 : w2.cell? ⟨w.heap.size, 3, none⟩ = some (.slice Ac n1 cc) := cell_of_row _ _ 3 _ _ (0, 0) hrow
  have HRW := hide_ hrow
  have HL2 := hide_ (HL.out.trans hl2)
  have HP := hide_ (Piece_any (w := w2) (c := cb) (HA.out.b.below HL2.out) rfl (by have := HA.out.bn; omega) 0)
  rw [← HN3.out] at HP
  clear hrow hl2 HST
  go_wp2_with fail
  refine HP.out.mono ?_; rintro e w3 ⟨rfl, hl3⟩
  have e2 : pieceE B 0 = 0 := by unfold pieceE; rw [HB.out, if_neg (by decide), if_neg (by omega)]
  rw [e2]
  have HL3 := hide_ (HL2.out.trans hl3)
  have HRW3 := hide_ (later_row hl3 HRW.out)
  clear e2 hl3 HP z1 z3 HRW
  have zlt : w.heap.size < w3.heap.size := theap_lt HRW3.out
  have z3 : w3.cell? ⟨w.heap.size, 3, none⟩ = some (.slice Ac n1 cc) := cell_of_row _ _ 3 _ _ (0, 0) HRW3.out
  go_wp2_with fail
  obtain ⟨W3, hW3⟩ : ∃ W, W = w3.alloc (.cells #[.string (pieceV B 0).1, .string (pieceV B 0).2] 81) := ⟨_, rfl⟩
  have HR4 := hide_ (show W3.heap[w.heap.size]? = some (.cells #[.int .i64 g, .int .i64 e0, .int .i64 r, .slice Ac n1 cc] 37 (0, 0)) by rw [hW3]; exact row_al HRW3.out _)
  have HL4 := hide_ (show Later w W3 by rw [hW3]; exact HL3.out.al _)
  rw [← hW3]
  have HR3 := HR4
  clear hW3 z3 zlt HRW3 HL3 HL2 HL
  have HCL := hide_ (clone_int (w := W3) (c := cc) (HA.out.c.below HL4.out) (ints_one _) HA.out.cn HA.out.c0)
  rw [← HN1.out] at HCL
  refine HCL.out.mono ?_; rintro e w4 ⟨A4, c4', rfl, ho4, hl4, hn4⟩
  have hr4 := later_row hl4 HR4.out
  have z3 : w4.cell? ⟨w.heap.size, 3, none⟩ = some (.slice Ac n1 cc) := cell_of_row _ _ 3 _ _ (0, 0) hr4
  have zf := frozen_of_row _ _ 3 _ _ hr4
  have HO4 := hide_ ho4; have HR5 := hide_ hr4; have HL5 := hide_ (HL4.out.trans hl4)
  clear ho4 hl4 hn4 hr4 HCL HR4
  go_wp2_with fail
  obtain ⟨W5, hW5⟩ : ∃ W, W = w4.setCell ⟨w.heap.size, 3, none⟩ (.slice A4 n1 c4') := ⟨_, rfl⟩
  rw [← hW5]
  have hr6 : W5.heap[w.heap.size]? = some (.cells #[.int .i64 g, .int .i64 e0, .int .i64 r, .slice A4 n1 c4'] 37 (0, 0)) := by rw [hW5]; exact heap_setCell_same w4 _ 3 _ _ _ HR5.out
  have hl6 : Later w W5 := by
    rw [hW5]
    exact Below.trans HL5.out (((Hits.refl (· = w.heap.size) w4).setCell (g := w.heap.size) (fun _ => rfl) 3 _).below (B := w.heap.size) HL5.out.size fun k hk => by omega)
  have HO6 := hide_ (show W5.ownsRow W3.heap.size 3 1 (.slice A4 n1 c4') n1 (ints C) by rw [hW5]; exact own_put HO4.out (theap_lt (later_row (Later.refl _) (show W3.heap[w.heap.size]? = _ from HR3.out))))
  have hlt6 := theap_lt hr6
  have k0 := Stands.cell (X := fun k => k < W5.heap.size) (show W5.cell? ⟨w.heap.size, 0, none⟩ = some (.int .i64 g) from cell_of_row _ _ 0 _ _ (0, 0) hr6) hlt6
  have k1 := Stands.cell (X := fun k => k < W5.heap.size) (show W5.cell? ⟨w.heap.size, 1, none⟩ = some (.int .i64 e0) from cell_of_row _ _ 1 _ _ (0, 0) hr6) hlt6
  have k2 := Stands.cell (X := fun k => k < W5.heap.size) (show W5.cell? ⟨w.heap.size, 2, none⟩ = some (.int .i64 r) from cell_of_row _ _ 2 _ _ (0, 0) hr6) hlt6
  have k3 := Stands.cell (X := fun k => k < W5.heap.size) (show W5.cell? ⟨w.heap.size, 3, none⟩ = some (.slice A4 n1 c4') from cell_of_row _ _ 3 _ _ (0, 0) hr6) hlt6
  have hmm := @run_makeMap Tryz.prog
  have HQr := hide_ (show Rd w 1 Ar n2 (ints R) by rw [HN2.out]; exact HA.out.r)
  have HQb := hide_ (show Rd w 1 Ab n3 (strs B) by rw [HN3.out]; exact HA.out.b)
  have HZr := hide_ (show Ar = none → n2 = 0 by rw [HN2.out]; exact HA.out.r0)
  have HZb := hide_ (show Ab = none → n3 = 0 by rw [HN3.out]; exact HA.out.b0)
  have HR6 := hide_ hr6
  clear hr6 hW5 z3 zf HR5 HL5 HO4
  refine wp_region_z (R := Stands (fun k => k < W5.heap.size)) [] (by kernel_rfl) ?_
  refine wpAnyZ_take0 (Stands.steady (fun k => k < W5.heap.size)) 0 (v := ?_) rfl (by kernel_rfl) (by kernel_rfl) (by kernel_rfl) (fun _ _ _ h => h) (by rfl) (by intro W hSw; go_simp; with_reducible rfl) ?_; try simp only [Act.put, qA, qZ, qS]
  refine wpAnyZ_take0 (Stands.steady (fun k => k < W5.heap.size)) 1 (v := ?_) rfl (by kernel_rfl) (by kernel_rfl) (by kernel_rfl) (fun _ _ _ h => h) (by rfl) (by intro W hSw; have hS0 := Stands.trans (show Stands (fun k => k < W5.heap.size) W5 _ from by repeat first | assumption | exact Stands.refl _ _ | refine Stands.alloc ?_ _ | refine Stands.drew ?_ | refine Stands.trans ?_ (by assumption)) hSw; go_simp; with_reducible rfl) ?_; try simp only [Act.put, qA, qZ, qS]
  refine wpAnyZ_take0 (Stands.steady (fun k => k < W5.heap.size)) 2 (v := ?_) rfl (by kernel_rfl) (by kernel_rfl) (by kernel_rfl) (fun _ _ _ h => h) (by rfl) (by intro W hSw; go_simp; with_reducible rfl) ?_; try simp only [Act.put, qA, qZ, qS]
  refine wpAnyZ_take0 (Stands.steady (fun k => k < W5.heap.size)) 4 (v := ?_) rfl (by kernel_rfl) (by kernel_rfl) (by kernel_rfl) (fun _ _ _ h => h) (by rfl) (by intro W hSw; go_simp; with_reducible rfl) ?_; try simp only [Act.put, qA, qZ, qS]
  refine wpAnyZ_take0 (Stands.steady (fun k => k < W5.heap.size)) 6 (v := ?_) rfl (by kernel_rfl) (by kernel_rfl) (by kernel_rfl) (fun _ _ _ h => h) (by rfl) (by intro W hSw; go_simp; with_reducible rfl) ?_; try simp only [Act.put, qA, qZ, qS]
  refine wpAnyZ_take0 (Stands.steady (fun k => k < W5.heap.size)) 7 (v := ?_) rfl (by kernel_rfl) (by kernel_rfl) (by kernel_rfl) (fun _ _ _ h => h) (by rfl) (by intro W hSw; go_simp; with_reducible rfl) ?_; try simp only [Act.put, qA, qZ, qS]
  refine wpAnyZ_two 3 8 (by kernel_rfl) rfl rfl (fun K hK => ?_) (fun K hK => ?_)
  rotate_right 1
  focus
    go_simp
    refine hK.out _ _ (.inr (by repeat first | assumption | exact Stands.refl _ _ | refine Stands.alloc ?_ _ | refine Stands.drew ?_ | refine Stands.of_later ?_)) ?_
    clear hK K; try simp only [Act.put, qA, qZ, qS]
    refine wpAnyZ_one 3 (by kernel_rfl) rfl (fun K hK => ?_)
    go_simp
    refine (clone_int (c := cr) (HQr.out.below (by show Later w _; repeat (first | with_reducible exact hl6 | with_reducible refine Later.al ?_ _ | with_reducible refine Later.dr ?_ | with_reducible refine Later.trans ?_ hlb6 | with_reducible refine Later.trans ?_ hlb7))) (ints_one _) b2 HZr.out).mono ?_; rintro e w6 ⟨A6, c6, rfl, ho6, hlb6, hn6⟩; have HO7 := hide_ ho6; have hs6 : Stands (fun k => k < W5.heap.size) _ w6 := Stands.of_later hlb6; clear ho6 hn6
    refine hK.out _ _ (by repeat first | assumption | exact Stands.refl _ _ | refine Stands.alloc ?_ _ | refine Stands.drew ?_ | refine Stands.of_later ?_) ?_
    clear hK K; try simp only [Act.put, qA, qZ, qS]
    refine wpAnyZ_one 5 (by kernel_rfl) rfl (fun K hK => ?_)
    go_simp
    refine (clone_str (c := cb) (HQb.out.below (by show Later w _; repeat (first | with_reducible exact hl6 | with_reducible refine Later.al ?_ _ | with_reducible refine Later.dr ?_ | with_reducible refine Later.trans ?_ hlb6 | with_reducible refine Later.trans ?_ hlb7))) (strs_one _) b3 HZb.out).mono ?_; rintro e w7 ⟨A7, c7s, rfl, ho7, hlb7, hn7⟩; have HO8 := hide_ ho7; have hs7 : Stands (fun k => k < W5.heap.size) _ w7 := Stands.of_later hlb7; clear ho7 hn7
    refine hK.out _ _ (by repeat first | assumption | exact Stands.refl _ _ | refine Stands.alloc ?_ _ | refine Stands.drew ?_ | refine Stands.of_later ?_) ?_
    clear hK K; try simp only [Act.put, qA, qZ, qS]
    refine wpAnyZ_take0 (Stands.steady (fun k => k < W5.heap.size)) 9 (v := ?_) rfl (by kernel_rfl) (by kernel_rfl) (by kernel_rfl) (fun _ _ _ h => h) (by rfl) (by intro W hSw; go_simp; with_reducible rfl) ?_; try simp only [Act.put, qA, qZ, qS]
    refine wpAnyZ_one 10 (by kernel_rfl) rfl (fun K hK => ?_)
    go_simp
    refine hK.out _ _ (by repeat first | assumption | exact Stands.refl _ _ | refine Stands.alloc ?_ _ | refine Stands.drew ?_ | refine Stands.of_later ?_) ?_
    clear hK K; try simp only [Act.put, qA, qZ, qS]
    refine wpAnyZ_take0 (Stands.steady (fun k => k < W5.heap.size)) 11 (v := ?_) rfl (by kernel_rfl) (by kernel_rfl) (by kernel_rfl) (fun _ _ _ h => h) (by rfl) (by intro W hSw; go_simp; with_reducible rfl) ?_; try simp only [Act.put, qA, qZ, qS]
    refine wpAnyZ_take0 (Stands.steady (fun k => k < W5.heap.size)) 12 (v := ?_) rfl (by kernel_rfl) (by kernel_rfl) (by kernel_rfl) (fun _ _ _ h => h) (by rfl) (by intro W hSw; go_simp; with_reducible rfl) ?_; try simp only [Act.put, qA, qZ, qS]
    refine wpAnyZ_done (by kernel_rfl) ?_ _
  rotate_right 1
  focus
    go_simp
    refine (clone_int (c := cr) (HQr.out.below (by show Later w _; repeat (first | with_reducible exact hl6 | with_reducible refine Later.al ?_ _ | with_reducible refine Later.dr ?_ | with_reducible refine Later.trans ?_ hlb6 | with_reducible refine Later.trans ?_ hlb7))) (ints_one _) b2 HZr.out).mono ?_; rintro e w6 ⟨A6, c6, rfl, ho6, hlb6, hn6⟩; have HO7 := hide_ ho6; have hs6 : Stands (fun k => k < W5.heap.size) _ w6 := Stands.of_later hlb6; clear ho6 hn6
    refine hK.out _ _ (.inr (by repeat first | assumption | exact Stands.refl _ _ | refine Stands.alloc ?_ _ | refine Stands.drew ?_ | refine Stands.of_later ?_)) ?_
    clear hK K; try simp only [Act.put, qA, qZ, qS]
    refine wpAnyZ_two 5 8 (by kernel_rfl) rfl rfl (fun K hK => ?_) (fun K hK => ?_)
    rotate_right 1
    focus
      go_simp
      refine hK.out _ _ (.inr (by repeat first | assumption | exact Stands.refl _ _ | refine Stands.alloc ?_ _ | refine Stands.drew ?_ | refine Stands.of_later ?_)) ?_
      clear hK K; try simp only [Act.put, qA, qZ, qS]
      refine wpAnyZ_one 5 (by kernel_rfl) rfl (fun K hK => ?_)
      go_simp
      refine (clone_str (c := cb) (HQb.out.below (by show Later w _; repeat (first | with_reducible exact hl6 | with_reducible refine Later.al ?_ _ | with_reducible refine Later.dr ?_ | with_reducible refine Later.trans ?_ hlb6 | with_reducible refine Later.trans ?_ hlb7))) (strs_one _) b3 HZb.out).mono ?_; rintro e w7 ⟨A7, c7s, rfl, ho7, hlb7, hn7⟩; have HO8 := hide_ ho7; have hs7 : Stands (fun k => k < W5.heap.size) _ w7 := Stands.of_later hlb7; clear ho7 hn7
      refine hK.out _ _ (by repeat first | assumption | exact Stands.refl _ _ | refine Stands.alloc ?_ _ | refine Stands.drew ?_ | refine Stands.of_later ?_) ?_
      clear hK K; try simp only [Act.put, qA, qZ, qS]
      refine wpAnyZ_take0 (Stands.steady (fun k => k < W5.heap.size)) 9 (v := ?_) rfl (by kernel_rfl) (by kernel_rfl) (by kernel_rfl) (fun _ _ _ h => h) (by rfl) (by intro W hSw; go_simp; with_reducible rfl) ?_; try simp only [Act.put, qA, qZ, qS]
      refine wpAnyZ_one 10 (by kernel_rfl) rfl (fun K hK => ?_)
      go_simp
      refine hK.out _ _ (by repeat first | assumption | exact Stands.refl _ _ | refine Stands.alloc ?_ _ | refine Stands.drew ?_ | refine Stands.of_later ?_) ?_
      clear hK K; try simp only [Act.put, qA, qZ, qS]
      refine wpAnyZ_take0 (Stands.steady (fun k => k < W5.heap.size)) 11 (v := ?_) rfl (by kernel_rfl) (by kernel_rfl) (by kernel_rfl) (fun _ _ _ h => h) (by rfl) (by intro W hSw; go_simp; with_reducible rfl) ?_; try simp only [Act.put, qA, qZ, qS]
      refine wpAnyZ_take0 (Stands.steady (fun k => k < W5.heap.size)) 12 (v := ?_) rfl (by kernel_rfl) (by kernel_rfl) (by kernel_rfl) (fun _ _ _ h => h) (by rfl) (by intro W hSw; go_simp; with_reducible rfl) ?_; try simp only [Act.put, qA, qZ, qS]
      refine wpAnyZ_done (by kernel_rfl) ?_ _
    rotate_right 1
    focus
      go_simp
      refine (clone_str (c := cb) (HQb.out.below (by show Later w _; repeat (first | with_reducible exact hl6 | with_reducible refine Later.al ?_ _ | with_reducible refine Later.dr ?_ | with_reducible refine Later.trans ?_ hlb6 | with_reducible refine Later.trans ?_ hlb7))) (strs_one _) b3 HZb.out).mono ?_; rintro e w7 ⟨A7, c7s, rfl, ho7, hlb7, hn7⟩; have HO8 := hide_ ho7; have hs7 : Stands (fun k => k < W5.heap.size) _ w7 := Stands.of_later hlb7; clear ho7 hn7
      refine hK.out _ _ (.inr (by repeat first | assumption | exact Stands.refl _ _ | refine Stands.alloc ?_ _ | refine Stands.drew ?_ | refine Stands.of_later ?_)) ?_
      clear hK K; try simp only [Act.put, qA, qZ, qS]
      refine wpAnyZ_one 8 (by kernel_rfl) rfl (fun K hK => ?_)
      go_simp
      refine hK.out _ _ (by repeat first | assumption | exact Stands.refl _ _ | refine Stands.alloc ?_ _ | refine Stands.drew ?_ | refine Stands.of_later ?_) ?_
      clear hK K; try simp only [Act.put, qA, qZ, qS]
      refine wpAnyZ_take0 (Stands.steady (fun k => k < W5.heap.size)) 9 (v := ?_) rfl (by kernel_rfl) (by kernel_rfl) (by kernel_rfl) (fun _ _ _ h => h) (by rfl) (by intro W hSw; go_simp; with_reducible rfl) ?_; try simp only [Act.put, qA, qZ, qS]
      refine wpAnyZ_one 10 (by kernel_rfl) rfl (fun K hK => ?_)
      go_simp
      refine hK.out _ _ (by repeat first | assumption | exact Stands.refl _ _ | refine Stands.alloc ?_ _ | refine Stands.drew ?_ | refine Stands.of_later ?_) ?_
      clear hK K; try simp only [Act.put, qA, qZ, qS]
      refine wpAnyZ_take0 (Stands.steady (fun k => k < W5.heap.size)) 11 (v := ?_) rfl (by kernel_rfl) (by kernel_rfl) (by kernel_rfl) (fun _ _ _ h => h) (by rfl) (by intro W hSw; go_simp; with_reducible rfl) ?_; try simp only [Act.put, qA, qZ, qS]
      refine wpAnyZ_take0 (Stands.steady (fun k => k < W5.heap.size)) 12 (v := ?_) rfl (by kernel_rfl) (by kernel_rfl) (by kernel_rfl) (fun _ _ _ h => h) (by rfl) (by intro W hSw; go_simp; with_reducible rfl) ?_; try simp only [Act.put, qA, qZ, qS]
      refine wpAnyZ_done (by kernel_rfl) ?_ _
  all_goals (
    go_wp2_with fail
    have e1 := HN1.out; have e2 := HN2.out; have e3 := HN3.out
    subst e1 e2 e3
    go_ret2
    have s4 := hl6.size
    have s5 := HL4.out.size
    have L56 : Later W5 w6 := by first | exact (Later.refl W5).dr.trans hlb6 | exact ((Later.refl W5).al _).dr.trans hlb6
    have L67 : Later w6 w7 := by first | exact hlb7 | exact ((Later.refl w6).al _).trans hlb7
    have s6 := L56.size
    have s7 := L67.size
    first
      | exact new_fin (W5 := W5) (Wf := (w7.alloc _).alloc _) hl6 ((((L56.trans L67).al _)).al _) HO6.out (by omega) (own_below HO7.out ((L67.al _).al _)) (by simp) (own_below HO8.out (((Later.refl w7).al _).al _)) (by omega) ((MapM.made w7).later (later_alloc _ _)) (by omega) (row_new2 w7 _ _) (by omega)
      | exact new_fin (W5 := W5) (Wf := w7.alloc _) hl6 ((L56.trans L67).al _) HO6.out (by omega) (own_below HO7.out (L67.al _)) (by simp) (own_below HO8.out (later_alloc _ _)) (by simp; omega) ((MapM.made w6).later (hlb7.al _)) (by omega) (heap_alloc_new w7 _) (by omega)
      | exact new_fin (W5 := W5) (Wf := w7.alloc _) hl6 ((L56.trans L67).al _) HO6.out (by omega) (own_below HO7.out (L67.al _)) (by simp) (own_below HO8.out (later_alloc _ _)) (by omega) ((MapM.made W5).later ((Later.refl (W5.alloc (.map #[] 0))).dr.trans (hlb6.trans (L67.al _)))) (by omega) (heap_alloc_new w7 _) (by omega))

end Go.Proofs.YtcmollfhlillfaaGreatDoor
/-
  front: message, tell, all.
-/
namespace Go.Proofs.YtcmollfhlillfaaGreatDoor
open Go.RowKit
set_option linter.unusedVariables false
set_option linter.unusedSimpArgs false
def put8 (w : World) (b : Nat) (u0 u1 u2 u3 u4 u5 u6 u7 : Value) : World := (((((((w.setCell ⟨b, 0, none⟩ u0).setCell ⟨b, 1, none⟩ u1).setCell ⟨b, 2, none⟩ u2).setCell ⟨b, 3, none⟩ u3).setCell ⟨b, 4, none⟩ u4).setCell ⟨b, 5, none⟩ u5).setCell ⟨b, 6, none⟩ u6).setCell ⟨b, 7, none⟩ u7
theorem put8_row {w : World} {b : Nat} {x0 x1 x2 x3 x4 x5 x6 x7 : Value} {t : TypeId} (h : w.heap[b]? = some (.cells #[x0, x1, x2, x3, x4, x5, x6, x7] t (0, 0))) (u0 u1 u2 u3 u4 u5 u6 u7 : Value) : (put8 w b u0 u1 u2 u3 u4 u5 u6 u7).heap[b]? = some (.cells #[u0, u1, u2, u3, u4, u5, u6, u7] t (0, 0)) := by
  unfold put8
  have h0 : (w.setCell ⟨b, 0, none⟩ u0).heap[b]? = some (.cells #[u0, x1, x2, x3, x4, x5, x6, x7] t (0, 0)) := heap_setCell_same _ b 0 _ _ u0 h
  have h1 : ((w.setCell ⟨b, 0, none⟩ u0).setCell ⟨b, 1, none⟩ u1).heap[b]? = some (.cells #[u0, u1, x2, x3, x4, x5, x6, x7] t (0, 0)) := heap_setCell_same _ b 1 _ _ u1 h0
  have h2 : (((w.setCell ⟨b, 0, none⟩ u0).setCell ⟨b, 1, none⟩ u1).setCell ⟨b, 2, none⟩ u2).heap[b]? = some (.cells #[u0, u1, u2, x3, x4, x5, x6, x7] t (0, 0)) := heap_setCell_same _ b 2 _ _ u2 h1
  have h3 : ((((w.setCell ⟨b, 0, none⟩ u0).setCell ⟨b, 1, none⟩ u1).setCell ⟨b, 2, none⟩ u2).setCell ⟨b, 3, none⟩ u3).heap[b]? = some (.cells #[u0, u1, u2, u3, x4, x5, x6, x7] t (0, 0)) := heap_setCell_same _ b 3 _ _ u3 h2
  have h4 : (((((w.setCell ⟨b, 0, none⟩ u0).setCell ⟨b, 1, none⟩ u1).setCell ⟨b, 2, none⟩ u2).setCell ⟨b, 3, none⟩ u3).setCell ⟨b, 4, none⟩ u4).heap[b]? = some (.cells #[u0, u1, u2, u3, u4, x5, x6, x7] t (0, 0)) := heap_setCell_same _ b 4 _ _ u4 h3
  have h5 : ((((((w.setCell ⟨b, 0, none⟩ u0).setCell ⟨b, 1, none⟩ u1).setCell ⟨b, 2, none⟩ u2).setCell ⟨b, 3, none⟩ u3).setCell ⟨b, 4, none⟩ u4).setCell ⟨b, 5, none⟩ u5).heap[b]? = some (.cells #[u0, u1, u2, u3, u4, u5, x6, x7] t (0, 0)) := heap_setCell_same _ b 5 _ _ u5 h4
  have h6 : (((((((w.setCell ⟨b, 0, none⟩ u0).setCell ⟨b, 1, none⟩ u1).setCell ⟨b, 2, none⟩ u2).setCell ⟨b, 3, none⟩ u3).setCell ⟨b, 4, none⟩ u4).setCell ⟨b, 5, none⟩ u5).setCell ⟨b, 6, none⟩ u6).heap[b]? = some (.cells #[u0, u1, u2, u3, u4, u5, u6, x7] t (0, 0)) := heap_setCell_same _ b 6 _ _ u6 h5
  have h7 : ((((((((w.setCell ⟨b, 0, none⟩ u0).setCell ⟨b, 1, none⟩ u1).setCell ⟨b, 2, none⟩ u2).setCell ⟨b, 3, none⟩ u3).setCell ⟨b, 4, none⟩ u4).setCell ⟨b, 5, none⟩ u5).setCell ⟨b, 6, none⟩ u6).setCell ⟨b, 7, none⟩ u7).heap[b]? = some (.cells #[u0, u1, u2, u3, u4, u5, u6, u7] t (0, 0)) := heap_setCell_same _ b 7 _ _ u7 h6
  exact h7
theorem put8_hits (w : World) (b : Nat) (u0 u1 u2 u3 u4 u5 u6 u7 : Value) : Hits (· = b) w (put8 w b u0 u1 u2 u3 u4 u5 u6 u7) := by
  have h0 := (Hits.refl (· = b) w).setCell (g := b) (fun _ => rfl) 0 u0
  have h1 := (h0).setCell (g := b) (fun _ => rfl) 1 u1
  have h2 := (h1).setCell (g := b) (fun _ => rfl) 2 u2
  have h3 := (h2).setCell (g := b) (fun _ => rfl) 3 u3
  have h4 := (h3).setCell (g := b) (fun _ => rfl) 4 u4
  have h5 := (h4).setCell (g := b) (fun _ => rfl) 5 u5
  have h6 := (h5).setCell (g := b) (fun _ => rfl) 6 u6
  have h7 := (h6).setCell (g := b) (fun _ => rfl) 7 u7
  exact h7
theorem results_cell1 {fn : Func} {p : Tmp} {ty : TypeId} (h : fn.results = #[.cell p ty]) (tmps : Array Value) (P : Program) (w : World) :
    (results fn tmps).run P w = ((asAddr (tmps.getD p undef)).run P w).andThen fun a w1 => (loadVar ty a).run P w1 := by
  simp only [results, h]
  simp [Sem.run_bind, Result.andThen]
theorem message_ret {R : Ending → World → Prop} {W : World} {b : Nat} {u0 u1 u2 u3 u4 u5 u6 u7 : Value} (hp : W.heap[b]? = some (.cells #[u0, u1, u2, u3, u4, u5, u6, u7] 53 (0, 0))) {a : Act} (hd : a.tmps.getD 8 undef = .pointer (some ⟨b, 0, none⟩)) (hD : a.defers = [])
    (hR : R (.returned (.agg #[u0, u1, u2, u3, u4, u5, u6, u7])) W) : bodyPost Tryz.prog Tryz.f70 R .ret a W := by
  have hl : (loadVar 53 ⟨b, 0, none⟩).run Tryz.prog W = .ok (.agg #[u0, u1, u2, u3, u4, u5, u6, u7]) W := run_loadVar_row W b _ _ #[u0, u1, u2, u3, u4, u5, u6, u7] _ (.struct (Tryz.prog.fieldsOf 53)) hp (by kernel_rfl) rfl (by kernel_rfl)
  refine bodyPost_ret (v := .agg #[u0, u1, u2, u3, u4, u5, u6, u7]) ?_ hD hR
  rw [results_cell1 (fn := Tryz.f70) (p := 8) (ty := 53) rfl, hd]
  simp only [asAddr, Sem.run_pure, Result.andThen_ok, hl]
set_option maxHeartbeats 4000000 in
set_option maxRecDepth 100000 in
theorem message_any {w : World} {f : Nat} {s : Fr} {X : List Nat} (h : FrH w f s X) (kind to_ m0 m1 m2 m3 a b c : Int) (Av : Option Addr) (nv cv : Nat) :
    Calls Tryz.prog 70 #[.pointer (some ⟨f, 0, none⟩), .int .i64 kind, .int .i64 to_, .agg #[.int .i64 m0, .int .i64 m1, .int .i64 m2, .int .i64 m3, .int .i64 a, .int .i64 b, .int .i64 c, .slice Av nv cv]] w fun e w' => e = .returned (.agg #[.int .i64 kind, .int .i64 s.node, .int .i64 to_, .int .i64 s.epoch, .int .i64 a, .int .i64 b, .int .i64 c, .slice Av nv cv]) ∧ Later w w' := by
  obtain ⟨cc, h1, _⟩ := h
  obtain ⟨Wm, hW⟩ : ∃ Wm, Wm = (w.alloc (.cells #[.int .i64 m0, .int .i64 m1, .int .i64 m2, .int .i64 m3, .int .i64 a, .int .i64 b, .int .i64 c, .slice Av nv cv] 53)).alloc (.cells #[.int .i64 0, .int .i64 0, .int .i64 0, .int .i64 0, .int .i64 0, .int .i64 0, .int .i64 0, .slice none 0 0] 53) := ⟨_, rfl⟩
  have hl : Later w Wm := by rw [hW]; exact (later_alloc _ _).al _
  have hr := later_row hl h1.row
  have hb : Wm.heap[w.heap.size]? = some (.cells #[.int .i64 m0, .int .i64 m1, .int .i64 m2, .int .i64 m3, .int .i64 a, .int .i64 b, .int .i64 c, .slice Av nv cv] 53 (0, 0)) := by rw [hW]; exact row_al (heap_alloc_new _ _) _
  have hd : Wm.heap[w.heap.size + 1]? = some (.cells #[.int .i64 0, .int .i64 0, .int .i64 0, .int .i64 0, .int .i64 0, .int .i64 0, .int .i64 0, .slice none 0 0] 53 (0, 0)) := by rw [hW]; exact row_new2 _ _ _
  have c0 := Stands.cell (X := fun k => k = f) (show Wm.cell? ⟨f, 0, none⟩ = some (.int .i64 s.node) from cell_of_row _ _ 0 _ _ (0, 0) hr) rfl
  have c2 := Stands.cell (X := fun k => k = f) (show Wm.cell? ⟨f, 2, none⟩ = some (.int .i64 s.epoch) from cell_of_row _ _ 2 _ _ (0, 0) hr) rfl
  have y0 : Wm.cell? ⟨w.heap.size, 0, none⟩ = some (.int .i64 m0) := cell_of_row _ _ 0 _ _ (0, 0) hb
  have y1 : Wm.cell? ⟨w.heap.size, 1, none⟩ = some (.int .i64 m1) := cell_of_row _ _ 1 _ _ (0, 0) hb
  have y2 : Wm.cell? ⟨w.heap.size, 2, none⟩ = some (.int .i64 m2) := cell_of_row _ _ 2 _ _ (0, 0) hb
  have y3 : Wm.cell? ⟨w.heap.size, 3, none⟩ = some (.int .i64 m3) := cell_of_row _ _ 3 _ _ (0, 0) hb
  have f0 := frozen_of_row _ _ 0 _ _ hb
  have f1 := frozen_of_row _ _ 1 _ _ hb
  have f2 := frozen_of_row _ _ 2 _ _ hb
  have f3 := frozen_of_row _ _ 3 _ _ hb
  have HW := hide_ hW
  have HB := hide_ hb; have HD := hide_ hd; have HL := hide_ hl
  have hne : ¬ w.heap.size = f := by have := theap_lt h1.row; omega
  clear h1 hW hl hr hb hd
  go_enter Tryz.func70, Tryz.ntmps70
  go_wp2_with fail
  rw [← HW.out]
  refine wp_region_z (R := Stands (fun k => k = f)) [] (by kernel_rfl) ?_
  refine wpAnyZ_take0 (Stands.steady (fun k => k = f)) 0 (v := ?_) rfl (by kernel_rfl) (by kernel_rfl) (by kernel_rfl) (fun _ _ _ h => h) (by rfl) (by intro W hSw; go_simp; with_reducible rfl) ?_; try simp only [Act.put, qA, qZ, qS]
  refine wpAnyZ_take0 (Stands.steady (fun k => k = f)) 1 (v := ?_) rfl (by kernel_rfl) (by kernel_rfl) (by kernel_rfl) (fun _ _ _ h => h) (by rfl) (by intro W hSw; go_simp; with_reducible rfl) ?_; try simp only [Act.put, qA, qZ, qS]
  refine wpAnyZ_take0 (Stands.steady (fun k => k = f)) 2 (v := ?_) rfl (by kernel_rfl) (by kernel_rfl) (by kernel_rfl) (fun _ _ _ h => h) (by rfl) (by intro W hSw; go_simp; with_reducible rfl) ?_; try simp only [Act.put, qA, qZ, qS]
  refine wpAnyZ_take0 (Stands.steady (fun k => k = f)) 3 (v := ?_) rfl (by kernel_rfl) (by kernel_rfl) (by kernel_rfl) (fun _ _ _ h => h) (by rfl) (by intro W hSw; go_simp; with_reducible rfl) ?_; try simp only [Act.put, qA, qZ, qS]
  refine wpAnyZ_take0 (Stands.steady (fun k => k = f)) 4 (v := ?_) rfl (by kernel_rfl) (by kernel_rfl) (by kernel_rfl) (fun _ _ _ h => h) (by rfl) (by intro W hSw; have hS0 := Stands.trans (show Stands (fun k => k = f) Wm _ from by repeat first | with_reducible assumption | with_reducible exact Stands.refl _ _ | with_reducible refine Stands.alloc ?_ _ | with_reducible refine Stands.drew ?_ | with_reducible refine Stands.drewL ?_ | with_reducible refine Stands.setCell ?_ (by assumption) _ _ | assumption | refine Stands.trans ?_ (by assumption)) hSw; go_simp; with_reducible rfl) ?_; try simp only [Act.put, qA, qZ, qS]
  refine wpAnyZ_take0 (Stands.steady (fun k => k = f)) 5 (v := ?_) rfl (by kernel_rfl) (by kernel_rfl) (by kernel_rfl) (fun _ _ _ h => h) (by rfl) (by intro W hSw; go_simp; with_reducible rfl) ?_; try simp only [Act.put, qA, qZ, qS]
  refine wpAnyZ_take0 (Stands.steady (fun k => k = f)) 6 (v := ?_) rfl (by kernel_rfl) (by kernel_rfl) (by kernel_rfl) (fun _ _ _ h => h) (by rfl) (by intro W hSw; go_simp; with_reducible rfl) ?_; try simp only [Act.put, qA, qZ, qS]
  refine wpAnyZ_take0 (Stands.steady (fun k => k = f)) 7 (v := ?_) rfl (by kernel_rfl) (by kernel_rfl) (by kernel_rfl) (fun _ _ _ h => h) (by rfl) (by intro W hSw; go_simp; with_reducible rfl) ?_; try simp only [Act.put, qA, qZ, qS]
  refine wpAnyZ_take0 (Stands.steady (fun k => k = f)) 8 (v := ?_) rfl (by kernel_rfl) (by kernel_rfl) (by kernel_rfl) (fun _ _ _ h => h) (by rfl) (by intro W hSw; go_simp; with_reducible rfl) ?_; try simp only [Act.put, qA, qZ, qS]
  refine wpAnyZ_take0 (Stands.steady (fun k => k = f)) 9 (v := ?_) rfl (by kernel_rfl) (by kernel_rfl) (by kernel_rfl) (fun _ _ _ h => h) (by rfl) (by intro W hSw; go_simp; with_reducible rfl) ?_; try simp only [Act.put, qA, qZ, qS]
  refine wpAnyZ_take0 (Stands.steady (fun k => k = f)) 10 (v := ?_) rfl (by kernel_rfl) (by kernel_rfl) (by kernel_rfl) (fun _ _ _ h => h) (by rfl) (by intro W hSw; have hS0 := Stands.trans (show Stands (fun k => k = f) Wm _ from by repeat first | with_reducible assumption | with_reducible exact Stands.refl _ _ | with_reducible refine Stands.alloc ?_ _ | with_reducible refine Stands.drew ?_ | with_reducible refine Stands.drewL ?_ | with_reducible refine Stands.setCell ?_ (by assumption) _ _ | assumption | refine Stands.trans ?_ (by assumption)) hSw; go_simp; with_reducible rfl) ?_; try simp only [Act.put, qA, qZ, qS]
  refine wpAnyZ_take0 (Stands.steady (fun k => k = f)) 11 (v := ?_) rfl (by kernel_rfl) (by kernel_rfl) (by kernel_rfl) (fun _ _ _ h => h) (by rfl) (by intro W hSw; go_simp; with_reducible rfl) ?_; try simp only [Act.put, qA, qZ, qS]
  refine wpAnyZ_one 12 (by kernel_rfl) rfl (fun K hK => ?_)
  go_simp
  refine hK.out _ _ (by repeat first | with_reducible assumption | with_reducible exact Stands.refl _ _ | with_reducible refine Stands.alloc ?_ _ | with_reducible refine Stands.drew ?_ | with_reducible refine Stands.drewL ?_ | with_reducible refine Stands.setCell ?_ (by assumption) _ _ | assumption | refine Stands.of_later ?_) ?_
  clear hK K; try simp only [Act.put, qA, qZ, qS]
  refine wpAnyZ_take0 (Stands.steady (fun k => k = f)) 13 (v := ?_) rfl (by kernel_rfl) (by kernel_rfl) (by kernel_rfl) (fun _ _ _ h => h) (by rfl) (by intro W hSw; go_simp; with_reducible rfl) ?_; try simp only [Act.put, qA, qZ, qS]
  refine wpAnyZ_one 14 (by kernel_rfl) rfl (fun K hK => ?_)
  go_simp
  refine hK.out _ _ (by repeat first | with_reducible assumption | with_reducible exact Stands.refl _ _ | with_reducible refine Stands.alloc ?_ _ | with_reducible refine Stands.drew ?_ | with_reducible refine Stands.drewL ?_ | with_reducible refine Stands.setCell ?_ (by assumption) _ _ | assumption | refine Stands.of_later ?_) ?_
  clear hK K; try simp only [Act.put, qA, qZ, qS]
  refine wpAnyZ_take0 (Stands.steady (fun k => k = f)) 15 (v := ?_) rfl (by kernel_rfl) (by kernel_rfl) (by kernel_rfl) (fun _ _ _ h => h) (by rfl) (by intro W hSw; go_simp; with_reducible rfl) ?_; try simp only [Act.put, qA, qZ, qS]
  refine wpAnyZ_one 16 (by kernel_rfl) rfl (fun K hK => ?_)
  go_simp
  refine hK.out _ _ (by repeat first | with_reducible assumption | with_reducible exact Stands.refl _ _ | with_reducible refine Stands.alloc ?_ _ | with_reducible refine Stands.drew ?_ | with_reducible refine Stands.drewL ?_ | with_reducible refine Stands.setCell ?_ (by assumption) _ _ | assumption | refine Stands.of_later ?_) ?_
  clear hK K; try simp only [Act.put, qA, qZ, qS]
  refine wpAnyZ_take0 (Stands.steady (fun k => k = f)) 17 (v := ?_) rfl (by kernel_rfl) (by kernel_rfl) (by kernel_rfl) (fun _ _ _ h => h) (by rfl) (by intro W hSw; go_simp; with_reducible rfl) ?_; try simp only [Act.put, qA, qZ, qS]
  refine wpAnyZ_one 18 (by kernel_rfl) rfl (fun K hK => ?_)
  go_simp
  refine hK.out _ _ (by repeat first | with_reducible assumption | with_reducible exact Stands.refl _ _ | with_reducible refine Stands.alloc ?_ _ | with_reducible refine Stands.drew ?_ | with_reducible refine Stands.drewL ?_ | with_reducible refine Stands.setCell ?_ (by assumption) _ _ | assumption | refine Stands.of_later ?_) ?_
  clear hK K; try simp only [Act.put, qA, qZ, qS]
  refine wpAnyZ_done (by kernel_rfl) ?_ _
  obtain ⟨W2, hW2⟩ : ∃ V, V = (((Wm.setCell ⟨w.heap.size, 0, none⟩ (.int .i64 kind)).setCell ⟨w.heap.size, 1, none⟩ (.int .i64 s.node)).setCell ⟨w.heap.size, 2, none⟩ (.int .i64 to_)).setCell ⟨w.heap.size, 3, none⟩ (.int .i64 s.epoch) := ⟨_, rfl⟩
  rw [← hW2]
  have hb2 : W2.heap[w.heap.size]? = some (.cells #[.int .i64 kind, .int .i64 s.node, .int .i64 to_, .int .i64 s.epoch, .int .i64 a, .int .i64 b, .int .i64 c, .slice Av nv cv] 53 (0, 0)) := by
    rw [hW2]
    have h0 := heap_setCell_same Wm _ 0 _ _ (.int .i64 kind) HB.out
    have h1 := heap_setCell_same _ _ 1 _ _ (.int .i64 s.node) h0
    have h2 := heap_setCell_same _ _ 2 _ _ (.int .i64 to_) h1
    exact heap_setCell_same _ _ 3 _ _ (.int .i64 s.epoch) h2
  have hh2 : Hits (· = w.heap.size) Wm W2 := by rw [hW2]; exact ((((Hits.refl (· = w.heap.size) Wm).setCell (g := w.heap.size) (fun _ => rfl) 0 _).setCell (g := w.heap.size) (fun _ => rfl) 1 _).setCell (g := w.heap.size) (fun _ => rfl) 2 _).setCell (g := w.heap.size) (fun _ => rfl) 3 _
  have hd2 := hh2.row HD.out (by omega)
  have HL2 := hide_ (show Later w W2 from Below.trans HL.out (hh2.below (B := w.heap.size) HL.out.size fun k hk => by omega))
  have HD2 := hide_ hd2
  have z0 : W2.cell? ⟨w.heap.size, 0, none⟩ = some (.int .i64 kind) := cell_of_row _ _ 0 _ _ (0, 0) hb2
  have z1 : W2.cell? ⟨w.heap.size, 1, none⟩ = some (.int .i64 s.node) := cell_of_row _ _ 1 _ _ (0, 0) hb2
  have z2 : W2.cell? ⟨w.heap.size, 2, none⟩ = some (.int .i64 to_) := cell_of_row _ _ 2 _ _ (0, 0) hb2
  have z3 : W2.cell? ⟨w.heap.size, 3, none⟩ = some (.int .i64 s.epoch) := cell_of_row _ _ 3 _ _ (0, 0) hb2
  have z4 : W2.cell? ⟨w.heap.size, 4, none⟩ = some (.int .i64 a) := cell_of_row _ _ 4 _ _ (0, 0) hb2
  have z5 : W2.cell? ⟨w.heap.size, 5, none⟩ = some (.int .i64 b) := cell_of_row _ _ 5 _ _ (0, 0) hb2
  have z6 : W2.cell? ⟨w.heap.size, 6, none⟩ = some (.int .i64 c) := cell_of_row _ _ 6 _ _ (0, 0) hb2
  have z7 : W2.cell? ⟨w.heap.size, 7, none⟩ = some (.slice Av nv cv) := cell_of_row _ _ 7 _ _ (0, 0) hb2
  have v0 : W2.cell? ⟨w.heap.size + 1, 0, none⟩ = some (.int .i64 0) := cell_of_row _ _ 0 _ _ (0, 0) hd2
  have v1 : W2.cell? ⟨w.heap.size + 1, 1, none⟩ = some (.int .i64 0) := cell_of_row _ _ 1 _ _ (0, 0) hd2
  have v2 : W2.cell? ⟨w.heap.size + 1, 2, none⟩ = some (.int .i64 0) := cell_of_row _ _ 2 _ _ (0, 0) hd2
  have v3 : W2.cell? ⟨w.heap.size + 1, 3, none⟩ = some (.int .i64 0) := cell_of_row _ _ 3 _ _ (0, 0) hd2
  have v4 : W2.cell? ⟨w.heap.size + 1, 4, none⟩ = some (.int .i64 0) := cell_of_row _ _ 4 _ _ (0, 0) hd2
  have v5 : W2.cell? ⟨w.heap.size + 1, 5, none⟩ = some (.int .i64 0) := cell_of_row _ _ 5 _ _ (0, 0) hd2
  have v6 : W2.cell? ⟨w.heap.size + 1, 6, none⟩ = some (.int .i64 0) := cell_of_row _ _ 6 _ _ (0, 0) hd2
  have v7 : W2.cell? ⟨w.heap.size + 1, 7, none⟩ = some (.slice none 0 0) := cell_of_row _ _ 7 _ _ (0, 0) hd2
  have g0 := frozen_of_row _ _ 0 _ _ hd2
  have g1 := frozen_of_row _ _ 1 _ _ hd2
  have g2 := frozen_of_row _ _ 2 _ _ hd2
  have g3 := frozen_of_row _ _ 3 _ _ hd2
  have g4 := frozen_of_row _ _ 4 _ _ hd2
  have g5 := frozen_of_row _ _ 5 _ _ hd2
  have g6 := frozen_of_row _ _ 6 _ _ hd2
  have g7 := frozen_of_row _ _ 7 _ _ hd2
  clear hW2 hb2 hh2 hd2 c0 c2 y0 y1 y2 y3 f0 f1 f2 f3
  go_wp2_with fail
  obtain ⟨W3, hW3⟩ : ∃ V, V = put8 W2 (w.heap.size + 1) (.int .i64 kind) (.int .i64 s.node) (.int .i64 to_) (.int .i64 s.epoch) (.int .i64 a) (.int .i64 b) (.int .i64 c) (.slice Av nv cv) := ⟨_, rfl⟩
  have hr3 := put8_row HD2.out (.int .i64 kind) (.int .i64 s.node) (.int .i64 to_) (.int .i64 s.epoch) (.int .i64 a) (.int .i64 b) (.int .i64 c) (.slice Av nv cv)
  have hl3 := Below.trans HL2.out ((put8_hits W2 (w.heap.size + 1) (.int .i64 kind) (.int .i64 s.node) (.int .i64 to_) (.int .i64 s.epoch) (.int .i64 a) (.int .i64 b) (.int .i64 c) (.slice Av nv cv)).below (B := w.heap.size) HL2.out.size fun k hk => by omega)
  rw [← hW3] at hr3 hl3
  unfold put8 at hW3
  rw [← hW3]
  exact message_ret (W := W3.drew) hr3 rfl rfl ⟨rfl, hl3.drew⟩

end Go.Proofs.YtcmollfhlillfaaGreatDoor
