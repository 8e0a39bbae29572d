/-
  front: a front in memory.
-/
import Derived.Test.YtcmollfhlillfaaGreatDoorReps
import Derived.Test.YtcmollfhlillfaaGreatDoorMapV
import Derived.Test.YtcmollfhlillfaaGreatDoorFTxn
import Derived.Test.YtcmollfhlillfaaGreatDoorFrC
namespace Go.Proofs.YtcmollfhlillfaaGreatDoor
open Go.RowKit
set_option linter.unusedVariables false
set_option linter.unusedSimpArgs false
/-- Elements without blocks: the row is what they write. -/
theorem rows_plain {α : Type} {enc : α → List Value} {n : Nat} {h : ∀ a, (enc a).length = n} {h1 : ∀ a, ∀ u ∈ enc a, u.oneCell' = true} {w : World} : ∀ {cs : List (List Value)} {L : List α} {xs : List (List Nat)}, Rows (plainR enc n h h1) w cs L xs → cs = L.map enc ∧ xs = L.map fun _ => []
  | [], [], [], _ => ⟨rfl, rfl⟩
  | c :: cs, a :: L, x :: xs, hr => by
    obtain ⟨e1, e2⟩ := rows_plain hr.2
    obtain ⟨e3, e4⟩ := hr.1
    rw [e1, e2, e3, e4]; exact ⟨rfl, rfl⟩
theorem plain_rows {α : Type} {enc : α → List Value} {n : Nat} {h : ∀ a, (enc a).length = n} {h1 : ∀ a, ∀ u ∈ enc a, u.oneCell' = true} (w : World) : ∀ L : List α, Rows (plainR enc n h h1) w (L.map enc) L (L.map fun _ => [])
  | [] => trivial
  | a :: L => ⟨⟨rfl, rfl⟩, plain_rows w L⟩
theorem nils_flat {α : Type} (L : List α) : (L.map fun _ => ([] : List Nat)).flatten = [] := by
  induction L with
  | nil => rfl
  | cons a L ih => rw [List.map_cons, List.flatten_cons, ih]; rfl
theorem slice_plain {α : Type} {enc : α → List Value} {n : Nat} {h : ∀ a, (enc a).length = n} {h1 : ∀ a, ∀ u ∈ enc a, u.oneCell' = true} {t : TypeId} {w : World} {cs : List Value} {L : List α} {X : List Nat} :
    (sliceR t (plainR enc n h h1)).holds w cs L X ↔ ∃ v, cs = [v] ∧ w.ownsRow 0 t n v L.length (L.flatMap enc) ∧ X = obL v := by
  constructor
  · rintro ⟨v, rows, xs, rfl, g1, g2, rfl⟩
    obtain ⟨rfl, rfl⟩ := rows_plain g2
    refine ⟨v, rfl, by rw [List.flatMap_def]; exact g1, by rw [nils_flat, List.append_nil]⟩
  · rintro ⟨v, rfl, g1, rfl⟩
    exact ⟨v, L.map enc, L.map fun _ => [], rfl, by rw [List.flatMap_def] at g1; exact g1, plain_rows w L, by rw [nils_flat, List.append_nil]⟩
def spanR : Rep Spn := plainR encS 2 encS_len encS_one
def chgR : Rep Chg := plainR encC 3 encC_len encC_one
abbrev intsR : Rep (List Int) := sliceR 3 intR
abbrev strsR : Rep (List ByteArray) := sliceR 9 strR
abbrev spansR : Rep (List Spn) := sliceR 81 spanR
abbrev chgsR : Rep (List Chg) := sliceR 142 chgR
theorem ints_holds {w : World} {cs : List Value} {L : List Int} {X : List Nat} : intsR.holds w cs L X ↔ ∃ v, cs = [v] ∧ w.ownsRow 0 3 1 v L.length (ints L) ∧ X = obL v := by
  unfold intsR intR
  rw [slice_plain]
  have e : L.flatMap (fun n => [Value.int .i64 n]) = ints L := by unfold ints; induction L with
    | nil => rfl
    | cons a L ih => rw [List.flatMap_cons, ih]; rfl
  rw [e]
theorem strs_holds {w : World} {cs : List Value} {L : List ByteArray} {X : List Nat} : strsR.holds w cs L X ↔ ∃ v, cs = [v] ∧ w.ownsRow 0 9 1 v L.length (strs L) ∧ X = obL v := by
  unfold strsR strR
  rw [slice_plain]
  have e : L.flatMap (fun n => [Value.string n]) = strs L := by unfold strs; induction L with
    | nil => rfl
    | cons a L ih => rw [List.flatMap_cons, ih]; rfl
  rw [e]
/-- A job: who asks, its number, the transaction. -/
structure Jb where
  guest : Int
  seq : Int
  tx : Tx
structure Ws where
  guest : Int
  seq : Int
  number : Int
  alive : List Int
structure Bt where
  prev : Int
  ver : Int
  known : Int
  chg : List Chg
  jobs : List Jb
  told : List (Int × List Int)
  verd : Option (List Int)
  pushed : List Int
structure Fr where
  node : Int
  gen : Int
  epoch : Int
  rec_ : Int
  chests : List Int
  refs : List Int
  bounds : List ByteArray
  version : Int
  known : Int
  owed : Bool
  seen : List (Int × Int)
  queue : List Jb
  wishes : List Ws
  number : Int
  cur : Option Bt
  stuck : Int
  begun : Bool
def jobR : Rep Jb where
  size := 5
  holds w cs j X := ∃ u1 u2 X1 X2, cs = [.int .i64 j.guest, .int .i64 j.seq, .int .i64 j.tx.1, u1, u2] ∧ spansR.holds w [u1] j.tx.2.1 X1 ∧ chgsR.holds w [u2] j.tx.2.2 X2 ∧ X = X1 ++ X2
  frame := by
    rintro w w' cs a X F ⟨u1, u2, X1, X2, rfl, h1, h2, rfl⟩ hh hF
    exact ⟨u1, u2, X1, X2, rfl, spansR.frame h1 hh fun k hk => hF k (List.mem_append_left _ hk), chgsR.frame h2 hh fun k hk => hF k (List.mem_append_right _ hk), rfl⟩
  lt := by
    rintro w cs a X ⟨u1, u2, X1, X2, rfl, h1, h2, rfl⟩ k hk
    rcases List.mem_append.1 hk with h | h
    · exact spansR.lt h1 k h
    · exact chgsR.lt h2 k h
  len := by rintro w cs a X ⟨u1, u2, X1, X2, rfl, _⟩; rfl
  one := by
    rintro w cs a X ⟨u1, u2, X1, X2, rfl, h1, h2, _⟩ u hu
    simp only [List.mem_cons, List.not_mem_nil, or_false] at hu
    rcases hu with rfl | rfl | rfl | rfl | rfl
    · rfl
    · rfl
    · rfl
    · exact spansR.one h1 u (by simp)
    · exact chgsR.one h2 u (by simp)
def wishR : Rep Ws where
  size := 4
  holds w cs j X := ∃ u, cs = [.int .i64 j.guest, .int .i64 j.seq, .int .i64 j.number, u] ∧ intsR.holds w [u] j.alive X
  frame := by
    rintro w w' cs a X F ⟨u, rfl, h1⟩ hh hF
    exact ⟨u, rfl, intsR.frame h1 hh hF⟩
  lt := by rintro w cs a X ⟨u, rfl, h1⟩; exact intsR.lt h1
  len := by rintro w cs a X ⟨u, rfl, _⟩; rfl
  one := by
    rintro w cs a X ⟨u1, rfl, h1⟩ u hu
    simp only [List.mem_cons, List.not_mem_nil, or_false] at hu
    rcases hu with rfl | rfl | rfl | rfl
    · rfl
    · rfl
    · rfl
    · exact intsR.one h1 u (by simp)
abbrev jobsR : Rep (List Jb) := sliceR 120 jobR
abbrev wishesR : Rep (List Ws) := sliceR 89 wishR
/-- What each referee told. -/
def ToldH (w : World) (b : Nat) (T : List (Int × List Int)) (X : List Nat) : Prop := ∃ M xs, MapM w b M ∧ M.map (·.1) = T.map (·.1) ∧ Rows intsR w (M.map fun x => [x.2]) (T.map (·.2)) xs ∧ X = xs.flatten
theorem ToldH.frame {w w' : World} {b : Nat} {T : List (Int × List Int)} {X : List Nat} {F : Nat → Prop} (h : ToldH w b T X) (hh : Hits F w w') (hb : ¬ F b) (hF : ∀ k ∈ X, ¬ F k) : ToldH w' b T X := by
  obtain ⟨M, xs, h1, h2, h3, rfl⟩ := h
  exact ⟨M, xs, h1.hits hh hb, h2, h3.frame hh hF, rfl⟩
/-- The verdicts, if there are. -/
def VerdH (w : World) (v : Value) (o : Option (List Int)) (X : List Nat) : Prop := match o with
  | none => v = .slice none 0 0 ∧ X = []
  | some L => intsR.holds w [v] L X ∧ ∃ a n c, v = .slice (some a) n c
theorem VerdH.frame {w w' : World} {v : Value} {o : Option (List Int)} {X : List Nat} {F : Nat → Prop} (h : VerdH w v o X) (hh : Hits F w w') (hF : ∀ k ∈ X, ¬ F k) : VerdH w' v o X := by
  cases o with
  | none => exact h
  | some L => exact ⟨intsR.frame h.1 hh hF, h.2⟩
theorem VerdH.lt {w : World} {v : Value} {o : Option (List Int)} {X : List Nat} (h : VerdH w v o X) : ∀ k ∈ X, k < w.heap.size := by
  cases o with
  | none => intro k hk; rw [h.2] at hk; cases hk
  | some L => exact intsR.lt h.1
/-- A batch that goes on. -/
structure BtC where
  m : Nat
  uc : Value
  uj : Value
  uv : Value
  up : Value
  Xc : List Nat
  Xj : List Nat
  Xm : List Nat
  Xv : List Nat
  Xp : List Nat
def BtC.blocks (c : BtC) : List Nat := c.m :: (c.Xc ++ c.Xj ++ c.Xm ++ c.Xv ++ c.Xp)
structure BtH (w : World) (b : Nat) (t : Bt) (c : BtC) : Prop where
  row : w.heap[b]? = some (.cells #[.int .i64 t.prev, .int .i64 t.ver, .int .i64 t.known, c.uc, c.uj, .map (some c.m), c.uv, c.up] 94 (0, 0))
  chg : chgsR.holds w [c.uc] t.chg c.Xc
  jobs : jobsR.holds w [c.uj] t.jobs c.Xj
  told : ToldH w c.m t.told c.Xm
  verd : VerdH w c.uv t.verd c.Xv
  pushed : intsR.holds w [c.up] t.pushed c.Xp
theorem BtH.frame {w w' : World} {b : Nat} {t : Bt} {c : BtC} {F : Nat → Prop} (h : BtH w b t c) (hh : Hits F w w') (hb : ¬ F b) (hF : ∀ k ∈ c.blocks, ¬ F k) : BtH w' b t c :=
  ⟨hh.row h.row hb, chgsR.frame h.chg hh fun k hk => hF k (by simp [BtC.blocks, hk]), jobsR.frame h.jobs hh fun k hk => hF k (by simp [BtC.blocks, hk]), h.told.frame hh (hF _ (by simp [BtC.blocks])) fun k hk => hF k (by simp [BtC.blocks, hk]),
   h.verd.frame hh fun k hk => hF k (by simp [BtC.blocks, hk]), intsR.frame h.pushed hh fun k hk => hF k (by simp [BtC.blocks, hk])⟩
theorem ToldH.lt {w : World} {b : Nat} {T : List (Int × List Int)} {X : List Nat} (h : ToldH w b T X) : b < w.heap.size ∧ ∀ k ∈ X, k < w.heap.size := by
  obtain ⟨M, xs, h1, h2, h3, rfl⟩ := h
  exact ⟨h1.lt, h3.lt⟩
theorem BtH.lt {w : World} {b : Nat} {t : Bt} {c : BtC} (h : BtH w b t c) : ∀ k ∈ c.blocks, k < w.heap.size := by
  intro k hk
  simp only [BtC.blocks, List.mem_cons, List.mem_append] at hk
  rcases hk with rfl | (((hk | hk) | hk) | hk) | hk
  · exact h.told.lt.1
  · exact chgsR.lt h.chg k hk
  · exact jobsR.lt h.jobs k hk
  · exact h.told.lt.2 k hk
  · exact h.verd.lt k hk
  · exact intsR.lt h.pushed k hk
/-- The batch that goes on, if one does. -/
def CurH (w : World) (v : Value) (o : Option Bt) (X : List Nat) : Prop := match o with
  | none => v = .pointer none ∧ X = []
  | some t => ∃ b c, v = .pointer (some ⟨b, 0, none⟩) ∧ BtH w b t c ∧ X = b :: c.blocks
theorem CurH.frame {w w' : World} {v : Value} {o : Option Bt} {X : List Nat} {F : Nat → Prop} (h : CurH w v o X) (hh : Hits F w w') (hF : ∀ k ∈ X, ¬ F k) : CurH w' v o X := by
  cases o with
  | none => exact h
  | some t =>
    obtain ⟨b, c, rfl, h1, rfl⟩ := h
    exact ⟨b, c, rfl, h1.frame hh (hF b (by simp)) fun k hk => hF k (by simp [hk]), rfl⟩
theorem CurH.lt {w : World} {v : Value} {o : Option Bt} {X : List Nat} (h : CurH w v o X) : ∀ k ∈ X, k < w.heap.size := by
  cases o with
  | none => intro k hk; rw [h.2] at hk; cases hk
  | some t =>
    obtain ⟨b, c, rfl, h1, rfl⟩ := h
    intro k hk
    rcases List.mem_cons.1 hk with rfl | hk
    · exact theap_lt h1.row
    · exact h1.lt k hk
def seenM (L : List (Int × Int)) : MP := L.map fun x => (x.1, .int .i64 x.2)
/-- Where a front lies. -/
structure FrC where
  uc : Value
  ur : Value
  ub : Value
  m : Nat
  uq : Value
  uw : Value
  up : Value
  Xc : List Nat
  Xr : List Nat
  Xb : List Nat
  Xq : List Nat
  Xw : List Nat
  Xp : List Nat
def FrC.blocks (f : Nat) (c : FrC) : List Nat := f :: c.m :: (c.Xc ++ c.Xr ++ c.Xb ++ c.Xq ++ c.Xw ++ c.Xp)
def frCells (s : Fr) (c : FrC) : Array Value := #[.int .i64 s.node, .int .i64 s.gen, .int .i64 s.epoch, .int .i64 s.rec_, c.uc, c.ur, c.ub, .int .i64 s.version, .int .i64 s.known, .bool s.owed, .map (some c.m), c.uq, c.uw, .int .i64 s.number, c.up, .int .i64 s.stuck, .bool s.begun]
structure FrP (w : World) (f : Nat) (s : Fr) (c : FrC) : Prop where
  row : w.heap[f]? = some (.cells (frCells s c) 75 (0, 0))
  chests : intsR.holds w [c.uc] s.chests c.Xc
  refs : intsR.holds w [c.ur] s.refs c.Xr
  bounds : strsR.holds w [c.ub] s.bounds c.Xb
  seen : MapM w c.m (seenM s.seen)
  queue : jobsR.holds w [c.uq] s.queue c.Xq
  wishes : wishesR.holds w [c.uw] s.wishes c.Xw
  cur : CurH w c.up s.cur c.Xp
theorem FrP.frame {w w' : World} {f : Nat} {s : Fr} {c : FrC} {F : Nat → Prop} (h : FrP w f s c) (hh : Hits F w w') (hF : ∀ k ∈ c.blocks f, ¬ F k) : FrP w' f s c :=
  ⟨hh.row h.row (hF f (by simp [FrC.blocks])), intsR.frame h.chests hh fun k hk => hF k (by simp [FrC.blocks, hk]), intsR.frame h.refs hh fun k hk => hF k (by simp [FrC.blocks, hk]), strsR.frame h.bounds hh fun k hk => hF k (by simp [FrC.blocks, hk]),
   h.seen.hits hh (hF _ (by simp [FrC.blocks])), jobsR.frame h.queue hh fun k hk => hF k (by simp [FrC.blocks, hk]), wishesR.frame h.wishes hh fun k hk => hF k (by simp [FrC.blocks, hk]), h.cur.frame hh fun k hk => hF k (by simp [FrC.blocks, hk])⟩
theorem FrP.lt {w : World} {f : Nat} {s : Fr} {c : FrC} (h : FrP w f s c) : ∀ k ∈ c.blocks f, k < w.heap.size := by
  intro k hk
  simp only [FrC.blocks, List.mem_cons, List.mem_append] at hk
  rcases hk with rfl | rfl | ((((hk | hk) | hk) | hk) | hk) | hk
  · exact theap_lt h.row
  · exact h.seen.lt
  · exact intsR.lt h.chests k hk
  · exact intsR.lt h.refs k hk
  · exact strsR.lt h.bounds k hk
  · exact jobsR.lt h.queue k hk
  · exact wishesR.lt h.wishes k hk
  · exact h.cur.lt k hk
/-- A front, in these blocks, each once. -/
def FrH (w : World) (f : Nat) (s : Fr) (X : List Nat) : Prop := ∃ c, FrP w f s c ∧ X = c.blocks f ∧ X.Nodup
theorem FrH.frame {w w' : World} {f : Nat} {s : Fr} {X : List Nat} {F : Nat → Prop} (h : FrH w f s X) (hh : Hits F w w') (hF : ∀ k ∈ X, ¬ F k) : FrH w' f s X := by
  obtain ⟨c, h1, rfl, h2⟩ := h
  exact ⟨c, h1.frame hh hF, rfl, h2⟩
theorem FrH.lt {w : World} {f : Nat} {s : Fr} {X : List Nat} (h : FrH w f s X) : ∀ k ∈ X, k < w.heap.size := by
  obtain ⟨c, h1, rfl, h2⟩ := h
  exact h1.lt
theorem FrH.later {w w' : World} {f : Nat} {s : Fr} {X : List Nat} (h : FrH w f s X) (hl : Later w w') : FrH w' f s X := h.frame (Hits.later (F := fun _ => False) hl) fun _ _ hf => hf
end Go.Proofs.YtcmollfhlillfaaGreatDoor
