/-
  Texts of this seat in one: Ch1, Ch2, Ch3, Ch4.
-/
import Derived.Test.YtlgnnmpfipmjeaaGreatZkBook3
import Derived.Test.YtlgnnmpfipmjeaaGreatZkFPutB
import Derived.Test.YtlgnnmpfipmjeaaGreatZkFGetB
import Derived.Test.YtlgnnmpfipmjeaaGreatZkZone
/-
  chest: its memory; ready, find, record, text, top, live.
-/
namespace Go.Proofs.YtlgnnmpfipmjeaaGreat
open Go.RowKit
set_option linter.unusedVariables false
set_option linter.unusedSimpArgs false
/-- A batch in memory: its changes lie at A. -/
structure BV where
  prev : Nat
  ver : Nat
  known : Nat
  A : Option Addr
  n : Nat
  c : Nat
  chg : List Chg
def BV.bp (x : BV) : BP := ⟨x.prev, x.ver, x.known, x.chg⟩
def encV (x : BV) : List Value := [.int .i64 x.prev, .int .i64 x.ver, .int .i64 x.known, .slice x.A x.n x.c]
def brow (L : List BV) : List Value := L.flatMap encV
theorem encV_len (x : BV) : (encV x).length = 4 := rfl
theorem encV_one (x : BV) : ∀ u ∈ encV x, u.oneCell' = true := by
  intro u hu
  simp only [encV, List.mem_cons, List.not_mem_nil, or_false] at hu
  rcases hu with rfl | rfl | rfl | rfl <;> rfl
theorem brow_len (L : List BV) : (brow L).length = L.length * 4 := rec_len encV_len L
theorem brow_one (L : List BV) : ∀ u ∈ brow L, u.oneCell' = true := rec_one encV_one L
theorem brow_snoc (L : List BV) (x : BV) : brow (L ++ [x]) = brow L ++ encV x := by unfold brow; rw [List.flatMap_append]; simp
theorem batT : ElemT Tryz.prog 31 38 4 48 := elem_mk (z := .agg #[.int .i64 0, .int .i64 0, .int .i64 0, .slice none 0 0]) Tryz.underlying31 (by kernel_rfl) rfl (by decide)
theorem Rd.bat {w : World} {A : Option Addr} {n : Nat} {L : List BV} (h : Rd w 4 A n (brow L)) {i : Nat} {x : BV} (hi : L[i]? = some x) :
    ∃ b o, A = some ⟨b, o, none⟩ ∧ w.cell? ⟨b, o + i * 4, none⟩ = some (.int .i64 x.prev) ∧ w.cell? ⟨b, o + i * 4 + 1, none⟩ = some (.int .i64 x.ver) ∧ w.cell? ⟨b, o + i * 4 + 2, none⟩ = some (.int .i64 x.known) ∧ w.cell? ⟨b, o + i * 4 + 3, none⟩ = some (.slice x.A x.n x.c) := by
  have g : ∀ j u, j < 4 → (encV x)[j]? = some u → (brow L)[i * 4 + j]? = some u := fun j u hj hu => by
    have := rec_at encV_len hi j hj; unfold brow; rw [this]; exact hu
  have h0 := g 0 _ (by omega) rfl
  have hl := (List.getElem?_eq_some_iff.1 h0).1
  obtain ⟨b, o, e, hc⟩ := h.2 (by omega)
  exact ⟨b, o, e, hc _ _ h0, hc _ _ (g 1 _ (by omega) rfl), hc _ _ (g 2 _ (by omega) rfl), hc _ _ (g 3 _ (by omega) rfl)⟩
/-- A batch's changes stand in memory, and it is sound. -/
structure BvOk (w : World) (x : BV) : Prop where
  len : x.chg.length = x.n
  rd : Rd w 3 x.A x.n (crow x.chg)
  at_ : ∀ a, x.A = some a → ∃ cs fz, w.heap[a.block]? = some (.cells cs 45 fz)
  ok : x.bp.Ok
theorem BvOk.later {w w' : World} {x : BV} (h : BvOk w x) (hl : Later w w') : BvOk w' x := ⟨h.len, h.rd.below hl, fun a ha => by obtain ⟨cs, fz, h⟩ := h.at_ a ha; exact ⟨cs, fz, later_row hl h⟩, h.ok⟩
/-- No block of changes is among F. -/
def NoChg (w : World) (F : Nat → Prop) : Prop := ∀ k, F k → ∃ cs t fz, w.heap[k]? = some (.cells cs t fz) ∧ t ≠ 45
theorem BvOk.hits {F : Nat → Prop} {w w' : World} {x : BV} (h : BvOk w x) (hh : Hits F w w') (hF : NoChg w F) : BvOk w' x := by
  have hn : ∀ a, x.A = some a → ¬ F a.block := fun a ha hf => by
    obtain ⟨cs, fz, h1⟩ := h.at_ a ha
    obtain ⟨cs2, t2, fz2, h2, h3⟩ := hF _ hf
    rw [h1] at h2; injection h2 with h2; injection h2 with _ h2; exact h3 h2.symm
  exact ⟨h.len, hh.rd h.rd hn, fun a ha => by obtain ⟨cs, fz, h1⟩ := h.at_ a ha; exact ⟨cs, fz, hh.row h1 (hn a ha)⟩, h.ok⟩
/-- The batches of an epoch. -/
structure LV where
  epoch : Nat
  base : Nat
  gone : Nat
  known : Nat
  first : List BV
  list : List BV
def logRow (v1 v2 : Value) (L : LV) : Array Value := #[.int .i64 L.epoch, .int .i64 L.base, .int .i64 L.gone, v1, v2, .int .i64 L.known]
structure LogAt (w : World) (B p : Nat) (v1 v2 : Value) (L : LV) : Prop where
  base : B ≤ p
  row : w.heap[p]? = some (.cells (logRow v1 v2 L) 75 (0, 0))
  own1 : w.ownsRow B 38 4 v1 L.first.length (brow L.first)
  own2 : w.ownsRow B 38 4 v2 L.list.length (brow L.list)
  apart : ∀ k, v1.ownBlock = some k → v2.ownBlock ≠ some k
  ok1 : ∀ x ∈ L.first, BvOk w x
  ok2 : ∀ x ∈ L.list, BvOk w x
  e : L.epoch < 1000000000
  g : L.gone < 1000000000000000
  k : L.known < 1000000000000000
  n1 : L.first.length ≤ 24
  n2 : L.list.length ≤ 24
  v : ∀ x ∈ L.list, x.ver < 1000000000000000
/-- The highest version of a log. -/
def LV.top (L : LV) : Nat := match L.list.getLast? with
  | some x => x.ver
  | none => L.gone
/-- A chest with no log. -/
def Ch0 (w : World) (B c b t : Nat) (v vr : Value) (used room lock : Nat) : Prop :=
  B ≤ c ∧ w.heap[c]? = some (.cells #[.pointer (some ⟨b, 0, none⟩), .slice none 0 0, .int .i64 lock] 60 (0, 0)) ∧ BookAt w B b t v vr used room
/-- A chest with one log. -/
structure Ch1 (w : World) (B c b t : Nat) (v vr : Value) (g cap p : Nat) (v1 v2 : Value) (used room lock : Nat) (L : LV) : Prop where
  base : B ≤ c
  row : w.heap[c]? = some (.cells #[.pointer (some ⟨b, 0, none⟩), .slice (some ⟨g, 0, none⟩) 1 cap, .int .i64 lock] 60 (0, 0))
  book : BookAt w B b t v vr used room
  logs : w.ownsRow B 72 1 (.slice (some ⟨g, 0, none⟩) 1 cap) 1 [.pointer (some ⟨p, 0, none⟩)]
  log : LogAt w B p v1 v2 L
/-- What a chest's calls turn. -/
def lFp (p : Nat) (v2 : Value) (k : Nat) : Prop := k = p ∨ v2.ownBlock = some k
def cFp (c b t : Nat) (v vr : Value) (g p : Nat) (v2 : Value) (k : Nat) : Prop := k = c ∨ k = g ∨ bFp b t v vr k ∨ lFp p v2 k
theorem BookAt.noChg {w : World} {B b t : Nat} {v vr : Value} {used room : Nat} (h : BookAt w B b t v vr used room) : ∀ k, bFp b t v vr k → ∃ cs ty fz, w.heap[k]? = some (.cells cs ty fz) ∧ (ty = 86 ∨ ty = 54 ∨ ty = 5 ∨ ty = 43) := by
  obtain ⟨h1, h2, ⟨l, sure, h3, h4⟩, nr, xr, h5, h6⟩ := h
  rintro k (rfl | rfl | hk | hk)
  · exact ⟨_, _, _, h2, .inl rfl⟩
  · exact ⟨_, _, _, h3.2.1, .inr (.inl rfl)⟩
  · obtain ⟨_, _, cs, hc⟩ := own_block h3.2.2 hk; exact ⟨_, _, _, hc, .inr (.inr (.inl rfl))⟩
  · obtain ⟨_, _, cs, hc⟩ := own_block h5 hk; exact ⟨_, _, _, hc, .inr (.inr (.inr rfl))⟩
theorem LogAt.sort {w : World} {B p : Nat} {v1 v2 : Value} {L : LV} (h : LogAt w B p v1 v2 L) : ∀ k, lFp p v2 k → ∃ cs ty fz, w.heap[k]? = some (.cells cs ty fz) ∧ (ty = 75 ∨ ty = 38) := by
  rintro k (rfl | hk)
  · exact ⟨_, _, _, h.row, .inl rfl⟩
  · obtain ⟨_, _, cs, hc⟩ := own_block h.own2 hk; exact ⟨_, _, _, hc, .inr rfl⟩
theorem sort_ne {w : World} {k k' : Nat} {cs cs' : Array Value} {t t' : TypeId} {fz fz' : Nat × Nat} (h : w.heap[k]? = some (.cells cs t fz)) (h' : w.heap[k']? = some (.cells cs' t' fz')) (hn : t ≠ t') : k ≠ k' := fun e => by
  subst e; rw [h] at h'; injection h' with h'; injection h' with _ h'; exact hn h'
theorem LogAt.later {w w' : World} {B p : Nat} {v1 v2 : Value} {L : LV} (h : LogAt w B p v1 v2 L) (hl : Later w w') : LogAt w' B p v1 v2 L :=
  { h with row := later_row hl h.row, own1 := own_below h.own1 hl, own2 := own_below h.own2 hl, ok1 := fun x hx => (h.ok1 x hx).later hl, ok2 := fun x hx => (h.ok2 x hx).later hl }
theorem LogAt.hits {F : Nat → Prop} {w w' : World} {B p : Nat} {v1 v2 : Value} {L : LV} (h : LogAt w B p v1 v2 L) (hh : Hits F w w') (hn : NoChg w F) (h0 : ¬ F p) (h1 : ∀ k, v1.ownBlock = some k → ¬ F k) (h2 : ∀ k, v2.ownBlock = some k → ¬ F k) : LogAt w' B p v1 v2 L :=
  { h with row := hh.row h.row h0, own1 := hh.own h.own1 h1, own2 := hh.own h.own2 h2, ok1 := fun x hx => (h.ok1 x hx).hits hh hn, ok2 := fun x hx => (h.ok2 x hx).hits hh hn }
theorem Ch1.later {w w' : World} {B c b t : Nat} {v vr : Value} {g cap p : Nat} {v1 v2 : Value} {used room lock : Nat} {L : LV} (h : Ch1 w B c b t v vr g cap p v1 v2 used room lock L) (hl : Later w w') : Ch1 w' B c b t v vr g cap p v1 v2 used room lock L :=
  ⟨h.base, later_row hl h.row, h.book.later hl, own_below h.logs hl, h.log.later hl⟩
theorem Ch0.later {w w' : World} {B c b t : Nat} {v vr : Value} {used room lock : Nat} (h : Ch0 w B c b t v vr used room lock) (hl : Later w w') : Ch0 w' B c b t v vr used room lock :=
  ⟨h.1, later_row hl h.2.1, h.2.2.later hl⟩
/-- What ready needs of a chest. -/
structure ChB (w : World) (c b : Nat) (lock : Nat) (vl : Value) : Prop where
  row : w.heap[c]? = some (.cells #[.pointer (some ⟨b, 0, none⟩), vl, .int .i64 lock] 60 (0, 0))
  book : ∃ B t v vr used room, BookAt w B b t v vr used room
theorem Ch0.b {w : World} {B c b t : Nat} {v vr : Value} {used room lock : Nat} (h : Ch0 w B c b t v vr used room lock) : ChB w c b lock (.slice none 0 0) := ⟨h.2.1, B, t, v, vr, used, room, h.2.2⟩
theorem Ch1.b {w : World} {B c b t : Nat} {v vr : Value} {g cap p : Nat} {v1 v2 : Value} {used room lock : Nat} {L : LV} (h : Ch1 w B c b t v vr g cap p v1 v2 used room lock L) : ChB w c b lock (.slice (some ⟨g, 0, none⟩) 1 cap) := ⟨h.row, B, t, v, vr, used, room, h.book⟩
theorem ChB.later {w w' : World} {c b lock : Nat} {vl : Value} (h : ChB w c b lock vl) (hl : Later w w') : ChB w' c b lock vl := by
  obtain ⟨h1, B, t, v, vr, used, room, h2⟩ := h
  exact ⟨later_row hl h1, B, t, v, vr, used, room, h2.later hl⟩
set_option maxHeartbeats 1000000 in
theorem neg_any (n : Nat) (w : World) : Calls Tryz.prog 59 #[.int .i64 n] w fun e w' => e = .returned (.bool false) ∧ w' = w := by
  have q : ¬ (n : Int) < 0 := by omega
  go_enter Tryz.func59, Tryz.ntmps59
  go_wp2_with fail
  go_ret
  exact ⟨rfl, rfl⟩
set_option maxHeartbeats 2000000 in
set_option maxRecDepth 100000 in
theorem index_none {w : World} {A : Option Addr} {n c : Nat} {L : List Nat} (hr : Rd w 1 A n (L.map fun (x : Nat) => Value.int .i64 (x : Int))) (hl : L.length = n) (hn : n ≤ 1000) :
    Calls Tryz.prog 80 #[.slice A n c, .func (.func 59) #[] #[]] w fun e w' => e = .returned (.int .i64 (-1)) ∧ w' = w := by
  have HR := hide_ hr; have HL := hide_ hl
  have hn2 : (n : Int) ≤ 1000 := by omega
  clear hr hl
  go_enter Tryz.func80, Tryz.ntmps80
  go_wp2_with fail
  go_loopw [8] (fun s8 wr => ∃ k : Nat, k ≤ n ∧ s8 = .int .i64 k ∧ Hid (wr = w)) (fun i _ => n - (intOf i).toNat)
  case atStart => exact ⟨0, Nat.zero_le _, rfl, hide_ rfl⟩
  case round =>
    obtain ⟨k, hkn, rfl, HW⟩ := hrel
    obtain rfl := HW.out
    by_cases hlt : k < n
    · obtain ⟨x, hx⟩ : ∃ x, L[k]? = some x := ⟨_, List.getElem?_eq_getElem (by rw [HL.out]; exact hlt)⟩
      obtain ⟨b, o, rfl, hc⟩ : ∃ b o, A = some ⟨b, o, none⟩ ∧ wr.cell? ⟨b, o + k, none⟩ = some (.int .i64 x) := by
        obtain ⟨b, o, e, hc⟩ := HR.out.2 (by rw [List.length_map, HL.out]; omega)
        exact ⟨b, o, e, hc k _ (by rw [List.getElem?_map, hx]; rfl)⟩
      have q1 : (k : Int) < (n : Int) := by omega
      have q2 : (0 : Int) ≤ (k : Int) := by omega
      clear hx
      go_wp2_with fail
      refine (neg_any x wr).mono ?_; rintro e w2 ⟨rfl, rfl⟩
      go_wp2_with fail
      go_roundw
      case rel => exact ⟨k + 1, by omega, by go_num, hide_ trivial⟩
      case measure => simp [intOf]; omega
    · have q1 : ¬ (k : Int) < (n : Int) := by omega
      go_wp2_with fail
      go_ret
      exact ⟨rfl, rfl⟩
set_option maxHeartbeats 2000000 in
set_option maxRecDepth 100000 in
theorem ready_any {w : World} {c b lock : Nat} {vl : Value} (h : ChB w c b lock vl) (epoch : Nat) (he : 1 ≤ epoch) {A : Option Addr} {n cc : Nat} {L : List Nat} (hr : Rd w 1 A n (L.map fun (x : Nat) => Value.int .i64 (x : Int))) (hl : L.length = n) (hn : n ≤ 1000) :
    Calls Tryz.prog 22 #[.pointer (some ⟨c, 0, none⟩), .int .i64 epoch, .slice A n cc] w fun e w' => e = .returned (.int .i64 0) ∧ w' = w := by
  obtain ⟨h1, B, t, v, vr, used, room, h2⟩ := h
  have HR := hide_ (bready_any h2)
  have HI := hide_ (index_none (c := cc) hr hl hn)
  have d0 := cell_of_row _ _ 0 _ _ (0, 0) h1
  have q1 : ¬ (epoch : Int) < 1 := by omega
  clear h1 h2 hr hl
  go_enter Tryz.func22, Tryz.ntmps22
  go_wp2_with fail
  refine HR.out.mono ?_; rintro e w2 ⟨rfl, rfl⟩
  go_wp2_with (go_at_call 58; go_in)
  refine HI.out.mono ?_; rintro e w3 ⟨rfl, rfl⟩
  go_wp2_with fail
  go_ret
  exact ⟨rfl, rfl⟩

end Go.Proofs.YtlgnnmpfipmjeaaGreat
/-
  chest: find, record, text, top, live.
-/
namespace Go.Proofs.YtlgnnmpfipmjeaaGreat
open Go.RowKit
set_option linter.unusedVariables false
set_option linter.unusedSimpArgs false
set_option maxHeartbeats 2000000 in
set_option maxRecDepth 100000 in
theorem find_0 {w : World} {c b lock : Nat} (h : ChB w c b lock (.slice none 0 0)) (epoch : Nat) :
    Calls Tryz.prog 28 #[.pointer (some ⟨c, 0, none⟩), .int .i64 epoch] w fun e w' => e = .returned (.pointer none) ∧ w' = w := by
  have d1 := cell_of_row _ _ 1 _ _ (0, 0) h.row
  clear h
  go_enter Tryz.func28, Tryz.ntmps28
  go_wp2_with fail
  go_loopw [12] (fun s wr => s = .int .i64 0 ∧ Hid (wr = w)) (fun _ _ => 0)
  case atStart => exact ⟨rfl, hide_ rfl⟩
  case round =>
    obtain ⟨rfl, HW⟩ := hrel
    obtain rfl := HW.out
    go_wp2_with fail
    go_ret
    exact ⟨rfl, rfl⟩
set_option maxHeartbeats 2000000 in
set_option maxRecDepth 100000 in
theorem find_1 {w : World} {B c b t : Nat} {v vr : Value} {g cap p : Nat} {v1 v2 : Value} {used room lock : Nat} {L : LV} (h : Ch1 w B c b t v vr g cap p v1 v2 used room lock L) (epoch : Nat) :
    Calls Tryz.prog 28 #[.pointer (some ⟨c, 0, none⟩), .int .i64 epoch] w fun e w' => e = .returned (.pointer (if L.epoch = epoch then some ⟨p, 0, none⟩ else none)) ∧ w' = w := by
  have d1 := cell_of_row _ _ 1 _ _ (0, 0) h.row
  have g0 : w.cell? ⟨g, 0, none⟩ = some (.pointer (some ⟨p, 0, none⟩)) := by have := h.logs.cells (g := g) rfl 0 _ rfl; simpa [add_plain] using this
  have p0 := cell_of_row _ _ 0 _ _ (0, 0) h.log.row
  simp only [logRow] at p0
  clear h
  by_cases he : L.epoch = epoch
  · rw [if_pos he]
    have hb : ((L.epoch : Int) == (epoch : Int)) = true := by rw [he]; simp
    have hb2 : (L.epoch : Int) = (epoch : Int) := by rw [he]
    have HE := hide_ he
    clear he
    go_enter Tryz.func28, Tryz.ntmps28
    go_wp2_with fail
    go_loopw [12] (fun s wr => s = .int .i64 0 ∧ Hid (wr = w)) (fun _ _ => 0)
    case atStart => exact ⟨rfl, hide_ rfl⟩
    case round =>
      obtain ⟨rfl, HW⟩ := hrel
      obtain rfl := HW.out
      go_wp2_with fail
      go_ret
      exact ⟨rfl, rfl⟩
  · rw [if_neg he]
    have hb : ((L.epoch : Int) == (epoch : Int)) = false := by simpa using fun h => he (by omega)
    have hb2 : ¬ (L.epoch : Int) = (epoch : Int) := fun h => he (by omega)
    clear he
    go_enter Tryz.func28, Tryz.ntmps28
    go_wp2_with fail
    go_loopw [12] (fun s wr => ∃ k : Nat, k ≤ 1 ∧ s = .int .i64 k ∧ Hid (wr = w)) (fun s _ => 1 - (intOf s).toNat)
    case atStart => exact ⟨0, by omega, rfl, hide_ rfl⟩
    case round =>
      obtain ⟨k, hk, rfl, HW⟩ := hrel
      obtain rfl := HW.out
      by_cases h0 : k = 0
      · subst h0
        go_wp2_with fail
        go_roundw
        case rel => exact ⟨1, by omega, rfl, hide_ trivial⟩
        case measure => simp [intOf]
      · obtain rfl : k = 1 := by omega
        go_wp2_with fail
        go_ret
        exact ⟨rfl, rfl⟩
set_option maxHeartbeats 2000000 in
set_option maxRecDepth 100000 in
/-- A record's head. -/
theorem record_any (w : World) (kind epoch n : Nat) (hk : kind < 1000000000000000) (he : epoch < 1000000000000000) (hn : n < 1000000000000000) :
    Calls Tryz.prog 23 #[.int .i64 kind, .int .i64 epoch, .int .i64 n] w fun e w' => e = .returned (.pointer (some ⟨w.heap.size, 0, none⟩)) ∧ (∃ v, WrAt w' w.heap.size w.heap.size v (putN kind ++ putN epoch ++ putN n, 0)) ∧ Later w w' := by
  have HWR := hide_ (WrAt.fresh w (B := w.heap.size) (Nat.le_refl _))
  go_enter Tryz.func23, Tryz.ntmps23
  go_wp2_with fail
  refine (nums_any (HWR.out.later (later_alloc _ _)) (n := 3) (L := [(kind : Int), (epoch : Int), (n : Int)]) (by exact Rd.fresh3 (by simp)) rfl (by omega) (by intro y hy; simp only [List.mem_cons, List.not_mem_nil, or_false] at hy; rcases hy with rfl | rfl | rfl <;> omega) (by intro a ha; injection ha with ha; subst ha; rintro (hf | hf); (simp at hf); (cases hf)) (by simp) (by simp; omega)).mono ?_
  rintro e w2 ⟨rfl, hp2⟩; rw [wNums3] at hp2; obtain ⟨v2, ht2, hh2, hd2⟩ := hp2
  have HT2 := hide_ ht2
  have HB2 := hide_ (show Later w w2 from Below.trans ((Later.refl w).al _ |>.al _) (hh2.below (B := w.heap.size) (by simp; omega) (by rintro k (hk | hk); omega; cases hk)))
  clear ht2 hh2 hd2
  go_wp2_with fail
  go_ret
  exact ⟨rfl, ⟨v2, by simpa using HT2.out⟩, HB2.out⟩
theorem encB_ne {b : BP} : (encB b).length ≠ 0 := by
  unfold encB; simp only [List.length_append]; have := putN_pos b.prev; omega
set_option maxHeartbeats 2000000 in
set_option maxRecDepth 100000 in
theorem ctext_any {w : World} {x : BV} (hx : BvOk w x) (hlen : (encB x.bp).length ≤ 2400) :
    Calls Tryz.prog 25 #[.agg #[.int .i64 x.prev, .int .i64 x.ver, .int .i64 x.known, .slice x.A x.n x.c]] w fun e w' => e = .returned (.tuple #[.string ⟨(encB x.bp).toArray⟩, .int .i64 0]) ∧ Later w w' := by
  have HX := hide_ (hx.later (later_alloc w (.cells #[.int .i64 x.prev, .int .i64 x.ver, .int .i64 x.known, .slice x.A x.n x.c] 38)))
  have HP := hide_ (putBatch_any (c := x.c) HX.out.rd HX.out.len (fun a ha => by obtain ⟨cs, fz, h⟩ := HX.out.at_ a ha; exact theap_lt h) HX.out.ok)
  have HLEN := hide_ hlen
  obtain ⟨m, hm⟩ : ∃ m, (encB x.bp).length = m := ⟨_, rfl⟩
  have q : ¬ (2400 : Int) < (m : Int) := by omega
  have HM := hide_ hm
  clear hx hlen hm
  go_enter Tryz.func25, Tryz.ntmps25
  go_wp2_with fail
  refine HP.out.mono ?_; rintro e w2 ⟨v2, rfl, ho2, hl2⟩
  have ho3 : w2.ownsRow (w.alloc (.cells #[.int .i64 x.prev, .int .i64 x.ver, .int .i64 x.known, .slice x.A x.n x.c] 38)).heap.size 5 1 v2 m (bvs (encB x.bp)) := by rw [← HM.out]; exact ho2
  obtain ⟨A2, c2, hv2⟩ := own_form ho3
  subst hv2
  have hs : (convert 43 9 (.slice A2 m c2)).run Tryz.prog w2 = .ok (.string ⟨(encB x.bp).toArray⟩) w2 := run_str_n _ _ 5 c2 HM.out Tryz.underlying43 Tryz.underlying5 Tryz.underlying9 (own_nil ho3) (Rd.of_own ho3)
  have HL := hide_ (show Later w w2 from (later_alloc w _).trans hl2)
  clear ho2 ho3 hl2
  go_wp2_with fail
  go_ret2
  exact ⟨rfl, HL.out⟩
theorem brow_get {L : List BV} {x : BV} (h : L.getLast? = some x) : L[L.length - 1]? = some x := by rw [← List.getLast?_eq_getElem?]; exact h
set_option maxHeartbeats 2000000 in
set_option maxRecDepth 100000 in
theorem top_any {w : World} {B p : Nat} {v1 v2 : Value} {L : LV} (h : LogAt w B p v1 v2 L) :
    Calls Tryz.prog 34 #[.pointer (some ⟨p, 0, none⟩)] w fun e w' => e = .returned (.int .i64 L.top) ∧ w' = w := by
  obtain ⟨A2, c2, hv2⟩ := own_form h.own2
  subst hv2
  have hrow := h.row
  simp only [logRow] at hrow
  have p4 := cell_of_row _ _ 4 _ _ (0, 0) hrow
  have p2 := cell_of_row _ _ 2 _ _ (0, 0) hrow
  have hr := Rd.of_own h.own2
  have hn2 := h.n2
  cases hlast : L.list.getLast? with
  | none =>
    have HT := hide_ (show L.top = L.gone by unfold LV.top; rw [hlast])
    have hnil : L.list = [] := List.getLast?_eq_none_iff.1 hlast
    have hz : L.list.length = 0 := by rw [hnil]; rfl
    rw [hz] at p4
    clear h hrow hr hlast hnil hz hn2
    go_enter Tryz.func34, Tryz.ntmps34
    go_wp2_with fail
    go_ret
    exact ⟨by rw [HT.out]; rfl, rfl⟩
  | some x =>
    have HT := hide_ (show L.top = x.ver by unfold LV.top; rw [hlast])
    have hget := brow_get hlast
    have hpos : 0 < L.list.length := by
      cases hL : L.list with
      | nil => rw [hL] at hlast; cases hlast
      | cons a r => simp
    obtain ⟨b, o, rfl, l0, l1, l2, l3⟩ := hr.bat hget
    obtain ⟨m, hm⟩ : ∃ m, L.list.length = m + 1 := ⟨L.list.length - 1, by omega⟩
    rw [hm] at p4 l1 hn2
    simp only [Nat.add_sub_cancel] at l1
    have q1 : (0 : Int) < ((m + 1 : Nat) : Int) := by omega
    have q2 : ((m + 1 : Nat) : Int) - 1 = (m : Int) := by omega
    have q3 : (m : Int) < ((m + 1 : Nat) : Int) := by omega
    have q4 : (0 : Int) ≤ (m : Int) := by omega
    have q5 : (m : Int) ≤ 24 := by omega
    clear h hrow hr hlast hget hpos hm l0 l2 l3
    go_enter Tryz.func34, Tryz.ntmps34
    go_wp2_with fail
    go_ret
    exact ⟨by rw [HT.out]; rfl, rfl⟩

end Go.Proofs.YtlgnnmpfipmjeaaGreat
/-
  chest: clones of changes and batches; a log's add.
-/
namespace Go.Proofs.YtlgnnmpfipmjeaaGreat
open Go.RowKit
set_option linter.unusedVariables false
set_option linter.unusedSimpArgs false
set_option maxHeartbeats 2000000 in
set_option maxRecDepth 100000 in
theorem chClone_any {w : World} {A : Option Addr} {n c : Nat} {L : List Chg} (hr : Rd w 3 A n (crow L)) (hl : L.length = n) (hn : n ≤ 4096) :
    Calls Tryz.prog 66 #[.slice A n c] w fun e w' => ∃ A' c', e = .returned (.slice A' n c') ∧ w'.ownsRow w.heap.size 45 3 (.slice A' n c') n (crow L) ∧ Later w w' := by
  have hE := fun W => eql_slice_nil_any (P := Tryz.prog) Tryz.underlying36 W A n c 0 0
  have HR := hide_ hr; have HL := hide_ hl
  cases A with
  | none =>
    have hn0 : n = 0 := by
      rcases Nat.eq_zero_or_pos n with h0 | h0
      · exact h0
      · obtain ⟨b, o, e, _⟩ := hr.2 (by rw [crow_len]; omega)
        cases e
    subst hn0
    have hL : L = [] := List.eq_nil_of_length_eq_zero hl
    subst hL
    clear hr hl
    go_enter Tryz.func66, Tryz.ntmps66
    go_wp2_with fail
    go_ret
    exact ⟨none, 0, rfl, World.ownsRow_nil _ _ _ _, Later.refl w⟩
  | some a =>
    clear hr hl
    go_enter Tryz.func66, Tryz.ntmps66
    go_wp2_with (at_builtin; refine wpList_append_rd _ rfl (.tmp 5) (.tmp 6) 36 rfl w.heap.size 45 3 40 chgT (.slice (some ⟨w.heap.size, 0, none⟩) 0 0) 0 [] rfl ?c1 (some a) n c (crow L) rfl (HR.out.alloc _) (crow_one _) (by omega) (by unfold maxLen; omega) (by simp) (fun h => by cases h) ?c8)
    case c1 => exact own_new w #[] 45 3 0 w.heap.size rfl (by unfold maxLen; omega) (Nat.le_refl _)
    case c8 =>
      intro v9 w9 hown hg hat
      have hown2 : w9.ownsRow w.heap.size 45 3 v9 n (crow L) := by simpa using hown
      obtain ⟨A9, c9, hv9⟩ := own_form hown2
      subst hv9
      have HO := hide_ hown2
      have HB := hide_ (show Later w w9 from own_grown ((Below.refl _ w).alloc (Nat.le_refl _) _) (own_new w #[] 45 3 0 w.heap.size rfl (by unfold maxLen; omega) (Nat.le_refl _)) hg (by simp))
      clear hown hown2 hg hat
      go_wp2_with fail
      go_ret
      exact ⟨A9, c9, rfl, HO.out, HB.out⟩
set_option maxHeartbeats 2000000 in
set_option maxRecDepth 100000 in
theorem btClone_any {w : World} {A : Option Addr} {n c : Nat} {L : List BV} (hr : Rd w 4 A n (brow L)) (hl : L.length = n) (hn : n ≤ 4096) :
    Calls Tryz.prog 48 #[.slice A n c] w fun e w' => ∃ A' c', e = .returned (.slice A' n c') ∧ w'.ownsRow w.heap.size 38 4 (.slice A' n c') n (brow L) ∧ Later w w' := by
  have hE := fun W => eql_slice_nil_any (P := Tryz.prog) Tryz.underlying31 W A n c 0 0
  have HR := hide_ hr; have HL := hide_ hl
  cases A with
  | none =>
    have hn0 : n = 0 := by
      rcases Nat.eq_zero_or_pos n with h0 | h0
      · exact h0
      · obtain ⟨b, o, e, _⟩ := hr.2 (by rw [brow_len]; omega)
        cases e
    subst hn0
    have hL : L = [] := List.eq_nil_of_length_eq_zero hl
    subst hL
    clear hr hl
    go_enter Tryz.func48, Tryz.ntmps48
    go_wp2_with fail
    go_ret
    exact ⟨none, 0, rfl, World.ownsRow_nil _ _ _ _, Later.refl w⟩
  | some a =>
    clear hr hl
    go_enter Tryz.func48, Tryz.ntmps48
    go_wp2_with (at_builtin; refine wpList_append_rd _ rfl (.tmp 5) (.tmp 6) 31 rfl w.heap.size 38 4 48 batT (.slice (some ⟨w.heap.size, 0, none⟩) 0 0) 0 [] rfl ?c1 (some a) n c (brow L) rfl (HR.out.alloc _) (brow_one _) (by omega) (by unfold maxLen; omega) (by simp) (fun h => by cases h) ?c8)
    case c1 => exact own_new w #[] 38 4 0 w.heap.size rfl (by unfold maxLen; omega) (Nat.le_refl _)
    case c8 =>
      intro v9 w9 hown hg hat
      have hown2 : w9.ownsRow w.heap.size 38 4 v9 n (brow L) := by simpa using hown
      obtain ⟨A9, c9, hv9⟩ := own_form hown2
      subst hv9
      have HO := hide_ hown2
      have HB := hide_ (show Later w w9 from own_grown ((Below.refl _ w).alloc (Nat.le_refl _) _) (own_new w #[] 38 4 0 w.heap.size rfl (by unfold maxLen; omega) (Nat.le_refl _)) hg (by simp))
      clear hown hown2 hg hat
      go_wp2_with fail
      go_ret
      exact ⟨A9, c9, rfl, HO.out, HB.out⟩
set_option maxHeartbeats 4000000 in
set_option maxRecDepth 100000 in
theorem ladd_any {w : World} {B p : Nat} {v1 v2 : Value} {L : LV} (h : LogAt w B p v1 v2 L) (hB : B ≤ w.heap.size) {x : BV} (hx : BvOk w x) (hroom : L.list.length < 24) (hk : x.known < 1000000000000000) (hv : x.ver < 1000000000000000) :
    Calls Tryz.prog 47 #[.pointer (some ⟨p, 0, none⟩), .agg #[.int .i64 x.prev, .int .i64 x.ver, .int .i64 x.known, .slice x.A x.n x.c]] w fun e w' => e = .returned (.tuple #[]) ∧ ∃ v2' x', x'.bp = x.bp ∧ (∀ a : Addr, x'.A = some a → w.heap.size ≤ a.block) ∧ LogAt w' B p v1 v2' { L with list := L.list ++ [x'], known := max L.known x.known } ∧ Hits (lFp p v2) w w' ∧ NS w v2 v2' := by
  have HH := hide_ h
  obtain ⟨A2, c2, hv2⟩ := own_form h.own2
  subst hv2
  obtain ⟨W0, hW0⟩ : ∃ W0, W0 = w.alloc (.cells #[.int .i64 x.prev, .int .i64 x.ver, .int .i64 x.known, .slice x.A x.n x.c] 38) := ⟨_, rfl⟩
  have HW := hide_ hW0.symm
  have HL0 := hide_ (show Later w W0 by rw [hW0]; exact later_alloc _ _)
  have hrow : W0.heap[w.heap.size]? = some (.cells #[.int .i64 x.prev, .int .i64 x.ver, .int .i64 x.known, .slice x.A x.n x.c] 38 (0, 0)) := by rw [hW0]; exact heap_alloc_new w _
  have HROW := hide_ hrow
  have d3 := cell_of_row _ _ 3 _ _ (0, 0) hrow
  have HX := hide_ hx
  have HKK := hide_ (And.intro hk hv)
  have HRM := hide_ hroom
  have hn4 : x.n ≤ 4096 := by rw [← hx.len]; exact hx.ok.len
  have HC := hide_ (chClone_any (c := x.c) (hx.rd.below HL0.out) hx.len hn4)
  clear h hx hW0 hrow hk hv hroom
  go_enter Tryz.func47, Tryz.ntmps47
  go_wp2_with (rw [HW.out])
  refine HC.out.mono ?_; rintro e w1 ⟨A1, c1, rfl, ho1, hl1⟩
  have HO1 := hide_ ho1
  have HL1 := hide_ (HL0.out.trans hl1)
  have hrow1 := later_row hl1 HROW.out
  have e3 := cell_of_row _ _ 3 _ _ (0, 0) hrow1
  have f3 := frozen_of_row _ _ 3 _ _ hrow1
  obtain ⟨W2, hW2⟩ : ∃ W2, W2 = w1.setCell ⟨w.heap.size, 3, none⟩ (.slice A1 x.n c1) := ⟨_, rfl⟩
  have hh2 : Hits (· = w.heap.size) w1 W2 := by rw [hW2]; exact (Hits.refl (· = w.heap.size) w1).setCell (g := w.heap.size) (fun _ => rfl) 3 _
  have hrow2 : W2.heap[w.heap.size]? = some (.cells #[.int .i64 x.prev, .int .i64 x.ver, .int .i64 x.known, .slice A1 x.n c1] 38 (0, 0)) := by rw [hW2]; exact heap_setCell_same w1 _ 3 _ _ _ hrow1
  have HLG1 := hide_ (HH.out.later HL1.out)
  have hplt : p < w.heap.size := theap_lt HH.out.row
  have HLT := hide_ (show ∀ k, lFp p (.slice A2 L.list.length c2) k → k < w.heap.size from fun k hk => by rcases hk with rfl | hk; exact hplt; exact (HH.out.own2.lt _ hk).2)
  have hl12 : Below w.heap.size w1 W2 := hh2.below (B := w.heap.size) HL1.out.size (fun k hk => by omega)
  have HL2 := hide_ (show Later w W2 from Below.trans HL1.out hl12)
  have HLG2 := hide_ (HH.out.later HL2.out)
  have HO2 := hide_ (hh2.own HO1.out (fun k hk e => by have := (HO1.out.lt _ hk).1; have := theap_lt HROW.out; omega))
  have HHE2 := hide_ hrow2
  have y0 := cell_of_row _ _ 0 _ _ (0, 0) hrow2
  have y1 := cell_of_row _ _ 1 _ _ (0, 0) hrow2
  have y2 := cell_of_row _ _ 2 _ _ (0, 0) hrow2
  have y3 := cell_of_row _ _ 3 _ _ (0, 0) hrow2
  have z0 := Stands.cell (X := (fun k => k = w.heap.size ∨ k = p)) y0 (.inl rfl)
  have z1 := Stands.cell (X := (fun k => k = w.heap.size ∨ k = p)) y1 (.inl rfl)
  have z2 := Stands.cell (X := (fun k => k = w.heap.size ∨ k = p)) y2 (.inl rfl)
  have z3 := Stands.cell (X := (fun k => k = w.heap.size ∨ k = p)) y3 (.inl rfl)
  have hlr := HLG2.out.row
  simp only [logRow] at hlr
  have z4 := Stands.cell (X := (fun k => k = w.heap.size ∨ k = p)) (cell_of_row _ _ 4 _ _ (0, 0) hlr) (.inr rfl)
  have HW2 := hide_ hW2.symm
  clear ho1 hl1 hrow1 hh2 hrow2 hW2 hl12 d3 y0 y1 y2 y3 hlr
  go_wp2_with (rw [HW2.out])
  refine wp_region_z (R := Stands (fun k => k = w.heap.size ∨ k = p)) [10] (by kernel_rfl) ?_
  refine wpAnyZ_pure (Stands.steady (fun k => k = w.heap.size ∨ k = p)) 0 (v := ?_) rfl (by kernel_rfl) (by kernel_rfl) (by kernel_rfl) (fun _ _ _ h => h) (by rfl) (by intro W; go_simp; with_reducible rfl) ?_; try simp only [Act.put, List.setIfInBounds_toArray, List.set_cons_zero, List.set_cons_succ]
  refine wpAnyZ_pure (Stands.steady (fun k => k = w.heap.size ∨ k = p)) 1 (v := ?_) rfl (by kernel_rfl) (by kernel_rfl) (by kernel_rfl) (fun _ _ _ h => h) (by rfl) (by intro W; go_simp; with_reducible rfl) ?_; try simp only [Act.put, List.setIfInBounds_toArray, List.set_cons_zero, List.set_cons_succ]
  refine wpAnyZ_pure (Stands.steady (fun k => k = w.heap.size ∨ k = p)) 2 (v := ?_) rfl (by kernel_rfl) (by kernel_rfl) (by kernel_rfl) (fun _ _ _ h => h) (by rfl) (by intro W; go_simp; with_reducible rfl) ?_; try simp only [Act.put, List.setIfInBounds_toArray, List.set_cons_zero, List.set_cons_succ]
  refine wpAnyZ_pure (Stands.steady (fun k => k = w.heap.size ∨ k = p)) 3 (v := ?_) rfl (by kernel_rfl) (by kernel_rfl) (by kernel_rfl) (fun _ _ _ h => h) (by rfl) (by intro W; go_simp; with_reducible rfl) ?_; try simp only [Act.put, List.setIfInBounds_toArray, List.set_cons_zero, List.set_cons_succ]
  refine wpAnyZ_take (Stands.steady (fun k => k = w.heap.size ∨ k = p)) 4 (v := ?_) rfl (by kernel_rfl) (by kernel_rfl) (by kernel_rfl) (by kernel_rfl) (fun _ _ _ h => h) (by rfl) (by intro W hSw; have hS0 := Stands.trans (show Stands (fun k => k = w.heap.size ∨ k = p) W2 _ from by repeat first | assumption | exact Stands.refl _ _ | refine Stands.alloc ?_ _ | refine Stands.drew ?_ | refine Stands.trans ?_ (by assumption)) hSw; go_simp; with_reducible rfl) ?_; try simp only [Act.put, List.setIfInBounds_toArray, List.set_cons_zero, List.set_cons_succ]
  refine wpAnyZ_take (Stands.steady (fun k => k = w.heap.size ∨ k = p)) 5 (v := ?_) rfl (by kernel_rfl) (by kernel_rfl) (by kernel_rfl) (by kernel_rfl) (fun _ _ _ h => h) (by rfl) (by intro W hSw; have hS0 := Stands.trans (show Stands (fun k => k = w.heap.size ∨ k = p) W2 _ from by repeat first | assumption | exact Stands.refl _ _ | refine Stands.alloc ?_ _ | refine Stands.drew ?_ | refine Stands.trans ?_ (by assumption)) hSw; go_simp; with_reducible rfl) ?_; try simp only [Act.put, List.setIfInBounds_toArray, List.set_cons_zero, List.set_cons_succ]
  refine wpAnyZ_one 6 (by kernel_rfl) rfl (fun K hK => ?_)
  go_simp
  refine hK.out _ _ (by repeat first | assumption | exact Stands.refl _ _ | refine Stands.alloc ?_ _ | refine Stands.drew ?_ | refine Stands.of_later ?_) ?_
  clear hK K; try simp only [Act.put, List.setIfInBounds_toArray, List.set_cons_zero, List.set_cons_succ]
  refine wpAnyZ_one 7 (by kernel_rfl) rfl (fun K hK => ?_)
  refine step_append_rd (by rfl) (.tmp 12) (.tmp 14) 31 rfl B 38 4 48 batT (.slice A2 L.list.length c2) L.list.length (brow L.list) rfl (by exact own_below HLG2.out.own2 (by repeat first | exact Later.refl _ | refine Later.al ?_ _ | refine Later.dr ?_)) (some ⟨W2.heap.size, 0, none⟩) 1 1 (encV { x with A := A1, c := c1 }) rfl (by exact Rd.newAt _ #[.int .i64 x.prev, .int .i64 x.ver, .int .i64 x.known, .slice A1 x.n c1] 38 1 4 _ (0, 0) rfl rfl) (encV_one _) (by have := HRM.out; omega) (by have := HRM.out; unfold maxLen; omega) (by have := HL2.out.size; simp; omega) (fun h => by cases h) ?_; intro v9 w9 hown hg9 hat; obtain ⟨A9, c9, hv9⟩ := own_form hown; subst hv9; have HO9 := hide_ hown; have HG9 := hide_ hg9; have HAT := hide_ hat; have hp9 := (hg9.block p (by have := HL2.out.size; simp; omega) (fun e => by obtain ⟨_, _, cs, hc⟩ := own_block HLG2.out.own2 e.symm; exact sort_ne hc HLG2.out.row (by decide) rfl)).trans (later_row (by repeat first | exact Later.refl _ | refine Later.al ?_ _ | refine Later.dr ?_) HLG2.out.row); have HP9 := hide_ hp9; simp only [logRow] at hp9; have k9 := cell_of_row _ _ 4 _ _ (0, 0) hp9; have f9 := frozen_of_row _ _ 4 _ _ hp9; have hb9 : Stands (fun k => k = w.heap.size ∨ k = p) _ w9 := ((Hits.refl (fun k => (Value.slice A2 L.list.length c2).ownBlock = some k) _).grown hg9 (fun g hg _ => hg)).stands (by intro k _ hk hx; rcases hx with hx | hx; (subst hx; have := HLT.out _ (.inr hk); omega); (obtain ⟨_, _, cs, hc⟩ := own_block HLG2.out.own2 hk; exact sort_ne hc HLG2.out.row (by decide) hx)); clear hown hg9 hat hp9
  refine hK.out _ _ (by repeat first | assumption | exact Stands.refl _ _ | refine Stands.alloc ?_ _ | refine Stands.drew ?_ | refine Stands.of_later ?_) ?_
  clear hK K; try simp only [Act.put, List.setIfInBounds_toArray, List.set_cons_zero, List.set_cons_succ]
  refine wpAnyZ_pure (Stands.steady (fun k => k = w.heap.size ∨ k = p)) 8 (v := ?_) rfl (by kernel_rfl) (by kernel_rfl) (by kernel_rfl) (fun _ _ _ h => h) (by rfl) (by intro W; go_simp; with_reducible rfl) ?_; try simp only [Act.put, List.setIfInBounds_toArray, List.set_cons_zero, List.set_cons_succ]
  refine wpAnyZ_pure (Stands.steady (fun k => k = w.heap.size ∨ k = p)) 9 (v := ?_) rfl (by kernel_rfl) (by kernel_rfl) (by kernel_rfl) (fun _ _ _ h => h) (by rfl) (by intro W; go_simp; with_reducible rfl) ?_; try simp only [Act.put, List.setIfInBounds_toArray, List.set_cons_zero, List.set_cons_succ]
  refine wpAnyZ_loud 10 (by kernel_rfl) (by rfl) rfl (fun K hK => ?_)
  go_simp
  refine hK.out _ _ ?_
  clear hK K; try simp only [Act.put, List.setIfInBounds_toArray, List.set_cons_zero, List.set_cons_succ]
  refine wpAnyZ_done (by kernel_rfl) ?_ _
  obtain ⟨W5, hW5⟩ : ∃ W5, W5 = w9.setCell ⟨p, 4, none⟩ (Value.slice A9 (L.list.length + 1) c9) := ⟨_, rfl⟩
  have HW5 := hide_ hW5.symm
  have hrow5 : W5.heap[p]? = some (.cells #[.int .i64 L.epoch, .int .i64 L.base, .int .i64 L.gone, v1, Value.slice A9 (L.list.length + 1) c9, .int .i64 L.known] 75 (0, 0)) := by
    have h := HP9.out; simp only [logRow] at h; rw [hW5]; exact heap_setCell_same w9 p 4 _ _ _ h
  have hh9 : Hits (fun k => (Value.slice A2 L.list.length c2).ownBlock = some k) W2 w9 := (Hits.later (F := fun k => (Value.slice A2 L.list.length c2).ownBlock = some k) (show Later W2 _ from ((Later.refl W2).al _).dr)).trans ((Hits.refl (fun k => (Value.slice A2 L.list.length c2).ownBlock = some k) _).grown HG9.out (fun g hg _ => hg)) (fun _ _ h => h)
  have hh5 : Hits (· = p) w9 W5 := by rw [hW5]; exact (Hits.refl (· = p) w9).setCell (g := p) (fun _ => rfl) 4 _
  have hbox5 := hh5.row (hh9.row HHE2.out (fun h => by have := HLT.out _ (.inr h); omega)) (by omega)
  have m5 := Stands.cell (X := (fun k => k = w.heap.size ∨ k = p)) (cell_of_row _ _ 5 _ _ (0, 0) hrow5) (.inr rfl)
  have m2 := Stands.cell (X := (fun k => k = w.heap.size ∨ k = p)) (cell_of_row _ _ 2 _ _ (0, 0) hbox5) (.inl rfl)
  have k5 := cell_of_row _ _ 5 _ _ (0, 0) hrow5
  have f5 := frozen_of_row _ _ 5 _ _ hrow5
  have HROW5 := hide_ hrow5
  have HH5 := hide_ hh5; have HH9 := hide_ hh9
  clear hW5 hrow5 hh9 hh5 hbox5 z0 z1 z2 z3 z4 k9 f9 hb9 e3 f3
  rw [HW5.out]
  have MX := hide_ (show (if L.known < x.known then (x.known : Int) else (L.known : Int)) = ((max L.known x.known : Nat) : Int) by split <;> omega)
  go_wp2_with fail
  refine wp_region_z (R := Stands (fun k => k = w.heap.size ∨ k = p)) [10] (by kernel_rfl) ?_
  refine wpAnyZ_pure (Stands.steady (fun k => k = w.heap.size ∨ k = p)) 0 (v := ?_) rfl (by kernel_rfl) (by kernel_rfl) (by kernel_rfl) (fun _ _ _ h => h) (by rfl) (by intro W; go_simp; with_reducible rfl) ?_; try simp only [Act.put, List.setIfInBounds_toArray, List.set_cons_zero, List.set_cons_succ]
  refine wpAnyZ_pure (Stands.steady (fun k => k = w.heap.size ∨ k = p)) 1 (v := ?_) rfl (by kernel_rfl) (by kernel_rfl) (by kernel_rfl) (fun _ _ _ h => h) (by rfl) (by intro W; go_simp; with_reducible rfl) ?_; try simp only [Act.put, List.setIfInBounds_toArray, List.set_cons_zero, List.set_cons_succ]
  refine wpAnyZ_pure (Stands.steady (fun k => k = w.heap.size ∨ k = p)) 2 (v := ?_) rfl (by kernel_rfl) (by kernel_rfl) (by kernel_rfl) (fun _ _ _ h => h) (by rfl) (by intro W; go_simp; with_reducible rfl) ?_; try simp only [Act.put, List.setIfInBounds_toArray, List.set_cons_zero, List.set_cons_succ]
  refine wpAnyZ_pure (Stands.steady (fun k => k = w.heap.size ∨ k = p)) 3 (v := ?_) rfl (by kernel_rfl) (by kernel_rfl) (by kernel_rfl) (fun _ _ _ h => h) (by rfl) (by intro W; go_simp; with_reducible rfl) ?_; try simp only [Act.put, List.setIfInBounds_toArray, List.set_cons_zero, List.set_cons_succ]
  refine wpAnyZ_take (Stands.steady (fun k => k = w.heap.size ∨ k = p)) 4 (v := ?_) rfl (by kernel_rfl) (by kernel_rfl) (by kernel_rfl) (by kernel_rfl) (fun _ _ _ h => h) (by rfl) (by intro W hSw; have hS0 := Stands.trans (show Stands (fun k => k = w.heap.size ∨ k = p) W5 _ from by repeat first | assumption | exact Stands.refl _ _ | refine Stands.alloc ?_ _ | refine Stands.drew ?_ | refine Stands.trans ?_ (by assumption)) hSw; go_simp; with_reducible rfl) ?_; try simp only [Act.put, List.setIfInBounds_toArray, List.set_cons_zero, List.set_cons_succ]
  refine wpAnyZ_pure (Stands.steady (fun k => k = w.heap.size ∨ k = p)) 5 (v := ?_) rfl (by kernel_rfl) (by kernel_rfl) (by kernel_rfl) (fun _ _ _ h => h) (by rfl) (by intro W; go_simp; with_reducible rfl) ?_; try simp only [Act.put, List.setIfInBounds_toArray, List.set_cons_zero, List.set_cons_succ]
  refine wpAnyZ_take (Stands.steady (fun k => k = w.heap.size ∨ k = p)) 6 (v := ?_) rfl (by kernel_rfl) (by kernel_rfl) (by kernel_rfl) (by kernel_rfl) (fun _ _ _ h => h) (by rfl) (by intro W hSw; have hS0 := Stands.trans (show Stands (fun k => k = w.heap.size ∨ k = p) W5 _ from by repeat first | assumption | exact Stands.refl _ _ | refine Stands.alloc ?_ _ | refine Stands.drew ?_ | refine Stands.trans ?_ (by assumption)) hSw; go_simp; with_reducible rfl) ?_; try simp only [Act.put, List.setIfInBounds_toArray, List.set_cons_zero, List.set_cons_succ]
  refine wpAnyZ_one 7 (by kernel_rfl) rfl (fun K hK => ?_)
  go_simp
  refine hK.out _ _ (by repeat first | assumption | exact Stands.refl _ _ | refine Stands.alloc ?_ _ | refine Stands.drew ?_ | refine Stands.of_later ?_) ?_
  clear hK K; try simp only [Act.put, List.setIfInBounds_toArray, List.set_cons_zero, List.set_cons_succ]
  refine wpAnyZ_pure (Stands.steady (fun k => k = w.heap.size ∨ k = p)) 8 (v := ?_) rfl (by kernel_rfl) (by kernel_rfl) (by kernel_rfl) (fun _ _ _ h => h) (by rfl) (by intro W; go_simp; with_reducible rfl) ?_; try simp only [Act.put, List.setIfInBounds_toArray, List.set_cons_zero, List.set_cons_succ]
  refine wpAnyZ_pure (Stands.steady (fun k => k = w.heap.size ∨ k = p)) 9 (v := ?_) rfl (by kernel_rfl) (by kernel_rfl) (by kernel_rfl) (fun _ _ _ h => h) (by rfl) (by intro W; go_simp; with_reducible rfl) ?_; try simp only [Act.put, List.setIfInBounds_toArray, List.set_cons_zero, List.set_cons_succ]
  refine wpAnyZ_loud 10 (by kernel_rfl) (by rfl) rfl (fun K hK => ?_)
  go_simp
  refine hK.out _ _ ?_
  clear hK K; try simp only [Act.put, List.setIfInBounds_toArray, List.set_cons_zero, List.set_cons_succ]
  refine wpAnyZ_done (by kernel_rfl) ?_ _
  rw [MX.out]
  obtain ⟨W6, hW6⟩ : ∃ W6, W6 = W5.setCell ⟨p, 5, none⟩ (.int .i64 ((max L.known x.known : Nat) : Int)) := ⟨_, rfl⟩
  have hrow6 : W6.heap[p]? = some (.cells (logRow v1 (Value.slice A9 (L.list.length + 1) c9) { L with list := L.list ++ [{ x with A := A1, c := c1 }], known := max L.known x.known }) 75 (0, 0)) := by
    rw [hW6]; exact heap_setCell_same W5 p 5 _ _ _ HROW5.out
  have hh6 : Hits (· = p) W5 W6 := by rw [hW6]; exact (Hits.refl (· = p) W5).setCell (g := p) (fun _ => rfl) 5 _
  have hhl : Hits (lFp p (.slice A2 L.list.length c2)) W2 W6 := ((HH9.out.mono (fun k _ h => .inr h)).trans HH5.out (fun k _ h => .inl h)).trans hh6 (fun k _ h => .inl h)
  have HHF := hide_ (show Hits (lFp p (.slice A2 L.list.length c2)) w W6 from (Hits.later HL2.out).trans hhl (fun _ _ h => h))
  have hnc : NoChg W2 (lFp p (.slice A2 L.list.length c2)) := fun k hk => by
    obtain ⟨cs, ty, fz, h1, h2⟩ := HLG2.out.sort k hk
    exact ⟨cs, ty, fz, h1, by rcases h2 with rfl | rfl <;> decide⟩
  have hns : NS W2 (.slice A2 L.list.length c2) (Value.slice A9 (L.list.length + 1) c9) := NS.of_at HAT.out (by simp)
  have hp9 : (Value.slice A9 (L.list.length + 1) c9).ownBlock ≠ some p := hns.ne (theap_lt HLG2.out.row) (fun e => by
    obtain ⟨_, _, cs, hc⟩ := own_block HLG2.out.own2 e; exact sort_ne hc HLG2.out.row (by decide) rfl)
  have HNSF := hide_ (show NS w (.slice A2 L.list.length c2) (Value.slice A9 (L.list.length + 1) c9) from by
    rcases hns with h | ⟨g, h, hg⟩
    · exact .inl h
    · exact .inr ⟨g, h, Nat.le_trans HL2.out.size hg⟩)
  have hxok : BvOk W2 { x with A := A1, c := c1 } := ⟨HX.out.len, Rd.of_own HO2.out, fun a ha => by
    subst ha
    obtain ⟨h0, cs, fz, hc⟩ : ∃ (h0 : True) (cs : Array Value) (fz : Nat × Nat), W2.heap[a.block]? = some (.cells cs 45 fz) := by
      rcases HO2.out.2 with ⟨hv, _⟩ | ⟨g, cap, cur, hv, _, hg, _⟩
      · cases hv
      · injection hv with hv; injection hv with hv; subst hv; exact ⟨trivial, _, _, hg⟩
    exact ⟨cs, fz, hc⟩, HX.out.ok⟩
  have HLF := hide_ (show LogAt W6 B p v1 (Value.slice A9 (L.list.length + 1) c9) { L with list := L.list ++ [{ x with A := A1, c := c1 }], known := max L.known x.known } from
    { base := HLG2.out.base
      row := hrow6
      own1 := hhl.own HLG2.out.own1 (fun k hk h => by
        rcases h with h | h
        · subst h; obtain ⟨_, _, cs, hc⟩ := own_block HLG2.out.own1 hk; exact sort_ne hc HLG2.out.row (by decide) rfl
        · exact HLG2.out.apart k hk h)
      own2 := by
        show W6.ownsRow B 38 4 _ (L.list ++ [{ x with A := A1, c := c1 }]).length (brow (L.list ++ [{ x with A := A1, c := c1 }]))
        rw [brow_snoc, List.length_append]
        exact hh6.own (HH5.out.own HO9.out (fun k hk h => hp9 (by rw [hk, h]))) (fun k hk h => hp9 (by rw [hk, h]))
      apart := fun k hk h => by
        rcases hns with h2 | ⟨g, h2, hg⟩
        · rw [h2] at h; exact HLG2.out.apart k hk h
        · rw [h2] at h; injection h with h; have := (HLG2.out.own1.lt _ hk).2; omega
      ok1 := fun y hy => (HLG2.out.ok1 y hy).hits hhl hnc
      ok2 := fun y hy => by
        rcases List.mem_append.1 hy with hy | hy
        · exact (HLG2.out.ok2 y hy).hits hhl hnc
        · rw [List.mem_singleton] at hy; subst hy; exact hxok.hits hhl hnc
      e := HLG2.out.e
      g := HLG2.out.g
      k := by have := HLG2.out.k; have := HKK.out.1; show max L.known x.known < _; omega
      n1 := HLG2.out.n1
      n2 := by rw [List.length_append]; have := HRM.out; simp; omega
      v := fun y hy => by
        rcases List.mem_append.1 hy with hy | hy
        · exact HLG2.out.v y hy
        · rw [List.mem_singleton] at hy; subst hy; exact HKK.out.2 })
  have HNA := hide_ (show ∀ a : Addr, A1 = some a → w.heap.size ≤ a.block from fun a ha => by
    subst ha
    rcases HO1.out.2 with ⟨hv, _⟩ | ⟨g, cap, cur, hv, hb, hg, _⟩
    · cases hv
    · injection hv with hv; injection hv with hv; subst hv; exact Nat.le_trans HL0.out.size hb)
  have HW6 := hide_ hW6.symm
  clear hW6 hrow6 hh6 hhl hnc hns hp9 hxok m5 m2 k5 f5
  rw [HW6.out]
  go_wp2_with fail
  go_returns
  exact ⟨rfl, _, { x with A := A1, c := c1 }, rfl, HNA.out, HLF.out.later (Later.refl _).dr, HHF.out.thenLater (Later.refl _).dr, HNSF.out⟩

end Go.Proofs.YtlgnnmpfipmjeaaGreat
/-
  chest: one log, or two that rise, are sorted already.
-/
namespace Go.Proofs.YtlgnnmpfipmjeaaGreat
open Go.RowKit
set_option linter.unusedVariables false
set_option linter.unusedSimpArgs false
set_option maxHeartbeats 4000000 in
set_option maxRecDepth 100000 in
theorem ins_one (w : World) (A : Option Addr) (c : Nat) (f : Value) :
    Calls Tryz.prog 92 #[.slice A 1 c, .int .i64 0, .int .i64 1, f] w fun e w' => e = .returned (.tuple #[]) ∧ w' = w := by
  go_enter Tryz.func92, Tryz.ntmps92
  go_wp2_with fail
  go_loopw [8] (fun s wr => s = .int .i64 1 ∧ Hid (wr = w)) (fun _ _ => 0)
  case atStart => exact ⟨rfl, hide_ rfl⟩
  case round =>
    obtain ⟨rfl, HW⟩ := hrel
    obtain rfl := HW.out
    go_wp2_with fail
    go_returns
    exact ⟨rfl, rfl⟩
set_option maxHeartbeats 4000000 in
set_option maxRecDepth 100000 in
theorem pdq_one (w : World) (A : Option Addr) (c : Nat) (f lim : Value) :
    Calls Tryz.prog 75 #[.slice A 1 c, .int .i64 0, .int .i64 1, lim, f] w fun e w' => e = .returned (.tuple #[]) ∧ w' = w := by
  go_enter Tryz.func75, Tryz.ntmps75
  go_wp2_with fail
  go_loopw [1, 2] (fun s1 s2 wr => s1 = .int .i64 0 ∧ s2 = .int .i64 1 ∧ Hid (wr = w)) (fun _ _ _ => 0)
  case atStart => exact ⟨rfl, rfl, hide_ rfl⟩
  case round =>
    obtain ⟨rfl, rfl, HW⟩ := hrel
    obtain rfl := HW.out
    go_wp2_with fail
    refine (ins_one wr A c f).mono ?_; rintro e w2 ⟨rfl, rfl⟩
    go_wp2_with fail
    go_returns
    exact ⟨rfl, rfl⟩
set_option maxHeartbeats 4000000 in
set_option maxRecDepth 100000 in
theorem sort_one (w : World) (A : Option Addr) (c : Nat) (f : Value) :
    Calls Tryz.prog 49 #[.slice A 1 c, f] w fun e w' => e = .returned (.tuple #[]) ∧ w' = w := by
  go_enter Tryz.func49, Tryz.ntmps49
  go_wp2_with (first | (go_at_call 76; go_in) | (go_at_call 101; go_in))
  refine (pdq_one w A c f _).mono ?_; rintro e w2 ⟨rfl, rfl⟩
  go_wp2_with fail
  go_returns
  exact ⟨rfl, rfl⟩
set_option maxHeartbeats 2000000 in
set_option maxRecDepth 100000 in
theorem order_logs {w : World} {p q : Nat} {a b : Nat} (hp : w.cell? ⟨p, 0, none⟩ = some (.int .i64 a)) (hq : w.cell? ⟨q, 0, none⟩ = some (.int .i64 b)) (hab : b < a) :
    Calls Tryz.prog 50 #[.pointer (some ⟨p, 0, none⟩), .pointer (some ⟨q, 0, none⟩)] w fun e w' => e = .returned (.int .i64 1) ∧ Later w w' := by
  have hp' : ∀ W, Later w.drew W → W.cell? ⟨p, 0, none⟩ = some (.int .i64 a) := later_drew_cell hp
  have hq' : ∀ W, Later w.drew W → W.cell? ⟨q, 0, none⟩ = some (.int .i64 b) := later_drew_cell hq
  have q1 : ¬ (a : Int) < (b : Int) := by omega
  have q2 : (b : Int) < (a : Int) := by omega
  have HC : Hid (∀ W, Calls Tryz.prog 51 #[.int .i64 a, .int .i64 b] W fun e w' => e = .returned (.int .i64 1) ∧ Later W w') := by
    intro W
    go_enter Tryz.func51, Tryz.ntmps51
    go_wp2
    go_ret
    exact ⟨rfl, Later.refl _⟩
  clear hp hq
  go_enter Tryz.func50, Tryz.ntmps50
  go_wp2_with fail
  refine wp_region_k (by kernel_rfl) ?_
  refine wpAnyK_take 0 (v := ?_) rfl (by kernel_rfl) (by kernel_rfl) (by kernel_rfl) (fun _ _ _ h => h) (by rfl) (by intro W hSw; go_simp; with_reducible rfl) ?_; try simp only [Act.put, List.setIfInBounds_toArray, List.set_cons_zero, List.set_cons_succ]
  refine wpAnyK_take 1 (v := ?_) rfl (by kernel_rfl) (by kernel_rfl) (by kernel_rfl) (fun _ _ _ h => h) (by rfl) (by intro W hSw; go_simp; with_reducible rfl) ?_; try simp only [Act.put, List.setIfInBounds_toArray, List.set_cons_zero, List.set_cons_succ]
  refine wpAnyK_take 2 (v := ?_) rfl (by kernel_rfl) (by kernel_rfl) (by kernel_rfl) (fun _ _ _ h => h) (by rfl) (by intro W hSw; go_simp; with_reducible rfl) ?_; try simp only [Act.put, List.setIfInBounds_toArray, List.set_cons_zero, List.set_cons_succ]
  refine wpAnyK_take 3 (v := ?_) rfl (by kernel_rfl) (by kernel_rfl) (by kernel_rfl) (fun _ _ _ h => h) (by rfl) (by intro W hSw; go_simp; with_reducible rfl) ?_; try simp only [Act.put, List.setIfInBounds_toArray, List.set_cons_zero, List.set_cons_succ]
  refine wpAnyK_take 4 (v := ?_) rfl (by kernel_rfl) (by kernel_rfl) (by kernel_rfl) (fun _ _ _ h => h) (by rfl) (by intro W hSw; go_simp; with_reducible rfl) ?_; try simp only [Act.put, List.setIfInBounds_toArray, List.set_cons_zero, List.set_cons_succ]
  refine wpAnyK_take 5 (v := ?_) rfl (by kernel_rfl) (by kernel_rfl) (by kernel_rfl) (fun _ _ _ h => h) (by rfl) (by intro W hSw; go_simp; with_reducible rfl) ?_; try simp only [Act.put, List.setIfInBounds_toArray, List.set_cons_zero, List.set_cons_succ]
  refine wpAnyK_take 6 (v := ?_) rfl (by kernel_rfl) (by kernel_rfl) (by kernel_rfl) (fun _ _ _ h => h) (by rfl) (by intro W hSw; go_simp; with_reducible rfl) ?_; try simp only [Act.put, List.setIfInBounds_toArray, List.set_cons_zero, List.set_cons_succ]
  refine wpAnyK_take 7 (v := ?_) rfl (by kernel_rfl) (by kernel_rfl) (by kernel_rfl) (fun _ _ _ h => h) (by rfl) (by intro W hSw; go_simp; with_reducible rfl) ?_; try simp only [Act.put, List.setIfInBounds_toArray, List.set_cons_zero, List.set_cons_succ]
  refine wpAnyK_one 8 (by kernel_rfl) rfl (fun K hK => ?_)
  go_simp
  refine (HC.out _).mono ?_; rintro e w2 ⟨rfl, hb2⟩
  refine hK.out _ _ (by assumption) ?_
  clear hK K; try simp only [Act.put, List.setIfInBounds_toArray, List.set_cons_zero, List.set_cons_succ]
  refine wpAnyK_take 9 (v := ?_) rfl (by kernel_rfl) (by kernel_rfl) (by kernel_rfl) (fun _ _ _ h => h) (by rfl) (by intro W hSw; go_simp; with_reducible rfl) ?_; try simp only [Act.put, List.setIfInBounds_toArray, List.set_cons_zero, List.set_cons_succ]
  refine wpAnyK_done (by kernel_rfl) ?_ _
  have HB2 := hide_ ((Later.refl w).dr.trans hb2)
  clear hb2
  go_wp2_with fail
  go_ret
  exact ⟨rfl, HB2.out⟩
set_option maxHeartbeats 4000000 in
set_option maxRecDepth 100000 in
theorem ins_two {w : World} {g c p q a b : Nat} (hg0 : w.cell? ⟨g, 0, none⟩ = some (.pointer (some ⟨p, 0, none⟩))) (hg1 : w.cell? ⟨g, 1, none⟩ = some (.pointer (some ⟨q, 0, none⟩))) (hp : w.cell? ⟨p, 0, none⟩ = some (.int .i64 a)) (hq : w.cell? ⟨q, 0, none⟩ = some (.int .i64 b)) (hab : a < b) :
    Calls Tryz.prog 92 #[.slice (some ⟨g, 0, none⟩) 2 c, .int .i64 0, .int .i64 2, .func (.func 50) #[] #[]] w fun e w' => e = .returned (.tuple #[]) ∧ Later w w' := by
  have HG0 := hide_ hg0; have HG1 := hide_ hg1; have HP := hide_ hp; have HQ := hide_ hq
  clear hg0 hg1 hp hq
  go_enter Tryz.func92, Tryz.ntmps92
  go_wp2_with fail
  go_loopw [8] (fun s wr => ∃ k : Nat, 1 ≤ k ∧ k ≤ 2 ∧ s = .int .i64 k ∧ Hid (Later w wr)) (fun s _ => 2 - (intOf s).toNat)
  case atStart => exact ⟨1, by omega, by omega, rfl, Later.refl w⟩
  case round =>
    obtain ⟨k, hk1, hk2, rfl, HL⟩ := hrel
    by_cases h2 : k = 2
    · subst h2
      go_wp2_with fail
      go_returns
      exact ⟨rfl, HL.out⟩
    · obtain rfl : k = 1 := by omega
      obtain ⟨wo, e3⟩ : ∃ wo, wo = wr := ⟨_, rfl⟩
      subst e3
      go_wp2_with fail
      go_loopw [9] (fun s wi => s = .int .i64 1 ∧ Hid (Later wo wi)) (fun _ _ => 0)
      case atStart => exact ⟨rfl, Later.refl wo⟩
      case round =>
        obtain ⟨rfl, HL2⟩ := hrel
        have HL3 := hide_ (HL.out.trans HL2.out)
        have hg0' : ∀ W, Later wr.drew W → W.cell? ⟨g, 0, none⟩ = some (.pointer (some ⟨p, 0, none⟩)) := later_drew_cell (later_cell HG0.out _ HL3.out)
        have hg1' : ∀ W, Later wr.drew W → W.cell? ⟨g, 1, none⟩ = some (.pointer (some ⟨q, 0, none⟩)) := later_drew_cell (later_cell HG1.out _ HL3.out)
        have HO := hide_ (fun (W : World) (hW : Later wr W) => order_logs (w := W) (later_cell HQ.out _ (HL3.out.trans hW)) (later_cell HP.out _ (HL3.out.trans hW)) hab)
        go_wp2_with fail
        have hw0 : IntKind.i64.wrap 0 = 0 := by decide
        refine wp_region_k (by kernel_rfl) ?_
        refine wpAnyK_take 0 (v := ?_) rfl (by kernel_rfl) (by kernel_rfl) (by kernel_rfl) (fun _ _ _ h => h) (by rfl) (by intro W hSw; go_simp; with_reducible rfl) ?_; try simp only [Act.put, List.setIfInBounds_toArray, List.set_cons_zero, List.set_cons_succ]
        refine wpAnyK_take 1 (v := ?_) rfl (by kernel_rfl) (by kernel_rfl) (by kernel_rfl) (fun _ _ _ h => h) (by rfl) (by intro W hSw; go_simp; with_reducible rfl) ?_; try simp only [Act.put, List.setIfInBounds_toArray, List.set_cons_zero, List.set_cons_succ]
        refine wpAnyK_take 2 (v := ?_) rfl (by kernel_rfl) (by kernel_rfl) (by kernel_rfl) (fun _ _ _ h => h) (by rfl) (by intro W hSw; go_simp; with_reducible rfl) ?_; try simp only [Act.put, List.setIfInBounds_toArray, List.set_cons_zero, List.set_cons_succ]
        refine wpAnyK_take 3 (v := ?_) rfl (by kernel_rfl) (by kernel_rfl) (by kernel_rfl) (fun _ _ _ h => h) (by rfl) (by intro W hSw; go_simp; with_reducible rfl) ?_; try simp only [Act.put, List.setIfInBounds_toArray, List.set_cons_zero, List.set_cons_succ]
        refine wpAnyK_take 4 (v := ?_) rfl (by kernel_rfl) (by kernel_rfl) (by kernel_rfl) (fun _ _ _ h => h) (by rfl) (by intro W hSw; go_simp; with_reducible rfl) ?_; try simp only [Act.put, List.setIfInBounds_toArray, List.set_cons_zero, List.set_cons_succ]
        refine wpAnyK_take 5 (v := ?_) rfl (by kernel_rfl) (by kernel_rfl) (by kernel_rfl) (fun _ _ _ h => h) (by rfl) (by intro W hSw; go_simp; with_reducible rfl) ?_; try simp only [Act.put, List.setIfInBounds_toArray, List.set_cons_zero, List.set_cons_succ]
        refine wpAnyK_take 6 (v := ?_) rfl (by kernel_rfl) (by kernel_rfl) (by kernel_rfl) (fun _ _ _ h => h) (by rfl) (by intro W hSw; go_simp; with_reducible rfl) ?_; try simp only [Act.put, List.setIfInBounds_toArray, List.set_cons_zero, List.set_cons_succ]
        refine wpAnyK_take 7 (v := ?_) rfl (by kernel_rfl) (by kernel_rfl) (by kernel_rfl) (fun _ _ _ h => h) (by rfl) (by intro W hSw; go_simp; with_reducible rfl) ?_; try simp only [Act.put, List.setIfInBounds_toArray, List.set_cons_zero, List.set_cons_succ]
        refine wpAnyK_take 8 (v := ?_) rfl (by kernel_rfl) (by kernel_rfl) (by kernel_rfl) (fun _ _ _ h => h) (by rfl) (by intro W hSw; go_simp; with_reducible rfl) ?_; try simp only [Act.put, List.setIfInBounds_toArray, List.set_cons_zero, List.set_cons_succ]
        refine wpAnyK_take 9 (v := ?_) rfl (by kernel_rfl) (by kernel_rfl) (by kernel_rfl) (fun _ _ _ h => h) (by rfl) (by intro W hSw; go_simp; with_reducible rfl) ?_; try simp only [Act.put, List.setIfInBounds_toArray, List.set_cons_zero, List.set_cons_succ]
        refine wpAnyK_take 10 (v := ?_) rfl (by kernel_rfl) (by kernel_rfl) (by kernel_rfl) (fun _ _ _ h => h) (by rfl) (by intro W hSw; go_simp; with_reducible rfl) ?_; try simp only [Act.put, List.setIfInBounds_toArray, List.set_cons_zero, List.set_cons_succ]
        refine wpAnyK_take 11 (v := ?_) rfl (by kernel_rfl) (by kernel_rfl) (by kernel_rfl) (fun _ _ _ h => h) (by rfl) (by intro W hSw; go_simp; with_reducible rfl) ?_; try simp only [Act.put, List.setIfInBounds_toArray, List.set_cons_zero, List.set_cons_succ]
        refine wpAnyK_take 12 (v := ?_) rfl (by kernel_rfl) (by kernel_rfl) (by kernel_rfl) (fun _ _ _ h => h) (by rfl) (by intro W hSw; go_simp; with_reducible rfl) ?_; try simp only [Act.put, List.setIfInBounds_toArray, List.set_cons_zero, List.set_cons_succ]
        refine wpAnyK_take 13 (v := ?_) rfl (by kernel_rfl) (by kernel_rfl) (by kernel_rfl) (fun _ _ _ h => h) (by rfl) (by intro W hSw; go_simp; with_reducible rfl) ?_; try simp only [Act.put, List.setIfInBounds_toArray, List.set_cons_zero, List.set_cons_succ]
        refine wpAnyK_one 14 (by kernel_rfl) rfl (fun K hK => ?_)
        go_simp
        refine (HO.out _ (Later.refl _).dr).mono ?_; rintro e w2 ⟨rfl, hb2⟩
        refine hK.out _ _ (by assumption) ?_
        clear hK K; try simp only [Act.put, List.setIfInBounds_toArray, List.set_cons_zero, List.set_cons_succ]
        refine wpAnyK_take 15 (v := ?_) rfl (by kernel_rfl) (by kernel_rfl) (by kernel_rfl) (fun _ _ _ h => h) (by rfl) (by intro W hSw; go_simp; with_reducible rfl) ?_; try simp only [Act.put, List.setIfInBounds_toArray, List.set_cons_zero, List.set_cons_succ]
        refine wpAnyK_take 16 (v := ?_) rfl (by kernel_rfl) (by kernel_rfl) (by kernel_rfl) (fun _ _ _ h => h) (by rfl) (by intro W hSw; go_simp; with_reducible rfl) ?_; try simp only [Act.put, List.setIfInBounds_toArray, List.set_cons_zero, List.set_cons_succ]
        refine wpAnyK_done (by kernel_rfl) ?_ _
        have HB2 := hide_ (HL2.out.trans ((Later.refl wr).dr.trans hb2))
        clear hb2 hg0' hg1'
        go_wp2_with fail
        go_roundw
        case rel => exact ⟨2, by omega, by omega, rfl, HL.out.trans HB2.out⟩
        case measure => simp [intOf]
set_option maxHeartbeats 4000000 in
set_option maxRecDepth 100000 in
theorem sort_two {w : World} {g c p q a b : Nat} (hg0 : w.cell? ⟨g, 0, none⟩ = some (.pointer (some ⟨p, 0, none⟩))) (hg1 : w.cell? ⟨g, 1, none⟩ = some (.pointer (some ⟨q, 0, none⟩))) (hp : w.cell? ⟨p, 0, none⟩ = some (.int .i64 a)) (hq : w.cell? ⟨q, 0, none⟩ = some (.int .i64 b)) (hab : a < b) :
    Calls Tryz.prog 49 #[.slice (some ⟨g, 0, none⟩) 2 c, .func (.func 50) #[] #[]] w fun e w' => e = .returned (.tuple #[]) ∧ Later w w' := by
  have HI := hide_ (ins_two (c := c) hg0 hg1 hp hq hab)
  clear hg0 hg1 hp hq
  have HP : Hid (∀ lim, Calls Tryz.prog 75 #[.slice (some ⟨g, 0, none⟩) 2 c, .int .i64 0, .int .i64 2, lim, .func (.func 50) #[] #[]] w fun e w' => e = .returned (.tuple #[]) ∧ Later w w') := by
    intro lim
    go_enter Tryz.func75, Tryz.ntmps75
    go_wp2_with fail
    go_loopw [1, 2] (fun s1 s2 wr => s1 = .int .i64 0 ∧ s2 = .int .i64 2 ∧ Hid (wr = w)) (fun _ _ _ => 0)
    case atStart => exact ⟨rfl, rfl, hide_ rfl⟩
    case round =>
      obtain ⟨rfl, rfl, HW⟩ := hrel
      obtain rfl := HW.out
      go_wp2_with fail
      refine HI.out.mono ?_; rintro e w2 ⟨rfl, hl2⟩
      have HL2 := hide_ hl2
      clear hl2
      go_wp2_with fail
      go_returns
      exact ⟨rfl, HL2.out⟩
  go_enter Tryz.func49, Tryz.ntmps49
  go_wp2_with (first | (go_at_call 76; go_in) | (go_at_call 101; go_in))
  refine (HP.out _).mono ?_; rintro e w2 ⟨rfl, hl2⟩
  have HL2 := hide_ hl2
  clear hl2
  go_wp2_with fail
  go_returns
  exact ⟨rfl, HL2.out⟩

end Go.Proofs.YtlgnnmpfipmjeaaGreat
