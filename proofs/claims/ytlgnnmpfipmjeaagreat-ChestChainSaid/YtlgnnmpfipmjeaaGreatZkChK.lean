/-
  chest: all that was laid since a world w0; the calls on it, in one form. X: the blocks that the calls must leave.
-/
import Derived.Test.YtlgnnmpfipmjeaaGreatG6
import Derived.Test.YtlgnnmpfipmjeaaGreatZkZone
namespace Go.Proofs.YtlgnnmpfipmjeaaGreat
open Go.RowKit
set_option linter.unusedVariables false
set_option linter.unusedSimpArgs false
/-- A chest of one log, of blocks that are younger than w0 and not among X. -/
def KX (w0 : World) (X : Nat → Prop) (w : World) (c used room lock : Nat) (S : LB) : Prop :=
  ∃ F, ChS w F c used room lock S ∧ (∀ k, F k → w0.heap.size ≤ k ∧ ¬ X k ∧ k < w.heap.size) ∧ (∀ k, X k → k < w.heap.size) ∧ Later w0 w
theorem KX.below {w0 w : World} {X : Nat → Prop} {c used room lock : Nat} {S : LB} (h : KX w0 X w c used room lock S) : Later w0 w := by obtain ⟨F, _, _, _, h⟩ := h; exact h
theorem KX.later {w0 w w' : World} {X : Nat → Prop} {c used room lock : Nat} {S : LB} (h : KX w0 X w c used room lock S) (hl : Later w w') : KX w0 X w' c used room lock S := by
  obtain ⟨F, h1, h2, h3, h4⟩ := h
  exact ⟨F, h1.later hl, fun k hk => ⟨(h2 k hk).1, (h2 k hk).2.1, Nat.lt_of_lt_of_le (h2 k hk).2.2 hl.size⟩, fun k hk => Nat.lt_of_lt_of_le (h3 k hk) hl.size, h4.trans hl⟩
/-- New blocks join X. -/
theorem KX.more {w0 w w' : World} {X : Nat → Prop} {c used room lock : Nat} {S : LB} (h : KX w0 X w c used room lock S) (hl : Later w w') (Y : Nat → Prop) (hY : ∀ k, Y k → X k ∨ (w.heap.size ≤ k ∧ k < w'.heap.size)) : KX w0 Y w' c used room lock S := by
  obtain ⟨F, h1, h2, h3, h4⟩ := h
  refine ⟨F, h1.later hl, fun k hk => ⟨(h2 k hk).1, fun hy => ?_, Nat.lt_of_lt_of_le (h2 k hk).2.2 hl.size⟩, fun k hk => ?_, h4.trans hl⟩
  · rcases hY k hy with hx | hx
    · exact (h2 k hk).2.1 hx
    · have := (h2 k hk).2.2; omega
  · rcases hY k hk with hx | hx
    · exact Nat.lt_of_lt_of_le (h3 k hx) hl.size
    · exact hx.2
/-- A call turned the chest. -/
theorem kx_turn {w0 w w' : World} {X F F' : Nat → Prop} {c used' room lock' : Nat} {S' : LB} (h2 : ∀ k, F k → w0.heap.size ≤ k ∧ ¬ X k ∧ k < w.heap.size) (h3 : ∀ k, X k → k < w.heap.size) (h4 : Later w0 w)
    (hs : ChS w' F' c used' room lock' S') (hh : Hits F w w') (hg : Grown w F F') : KX w0 X w' c used' room lock' S' ∧ Stands X w w' := by
  refine ⟨⟨fun k => F' k ∧ k < w'.heap.size, ?_, fun k hk => ?_, fun k hk => Nat.lt_of_lt_of_le (h3 k hk) hh.size, Below.trans h4 (hh.below (B := w0.heap.size) h4.size fun k hk => (h2 k hk).1)⟩, hh.stands fun k _ hk hx => (h2 k hk).2.1 hx⟩
  · obtain ⟨B, b, t, v, vr, g, cap, p, v1, v2, L, g1, g2, g3, g4⟩ := hs
    exact ⟨B, b, t, v, vr, g, cap, p, v1, v2, L, g1, fun k hk => ⟨g2 k hk, g1.kept_lt k hk⟩, g3, g4⟩
  · rcases hg k hk.1 with h | h
    · exact ⟨(h2 k h).1, (h2 k h).2.1, hk.2⟩
    · exact ⟨Nat.le_trans h4.size h, fun hx => by have := h3 k hx; omega, hk.2⟩
/-- A chest of none. -/
def K0 (w0 : World) (X : Nat → Prop) (w : World) (c room : Nat) : Prop :=
  ∃ b t, Ch0 w w0.heap.size c b t (.slice none 0 0) (.slice none 0 0) 0 room 0 ∧ (∀ k, (k = c ∨ k = b ∨ k = t) → w0.heap.size ≤ k ∧ ¬ X k ∧ k < w.heap.size) ∧ (∀ k, X k → k < w.heap.size) ∧ Later w0 w
theorem K0.below {w0 w : World} {X : Nat → Prop} {c room : Nat} (h : K0 w0 X w c room) : Later w0 w := by obtain ⟨_, _, _, _, _, h⟩ := h; exact h
theorem K0.later {w0 w w' : World} {X : Nat → Prop} {c room : Nat} (h : K0 w0 X w c room) (hl : Later w w') : K0 w0 X w' c room := by
  obtain ⟨b, t, h1, h2, h3, h4⟩ := h
  exact ⟨b, t, h1.later hl, fun k hk => ⟨(h2 k hk).1, (h2 k hk).2.1, Nat.lt_of_lt_of_le (h2 k hk).2.2 hl.size⟩, fun k hk => Nat.lt_of_lt_of_le (h3 k hk) hl.size, h4.trans hl⟩
theorem K0.more {w0 w w' : World} {X : Nat → Prop} {c room : Nat} (h : K0 w0 X w c room) (hl : Later w w') (Y : Nat → Prop) (hY : ∀ k, Y k → X k ∨ (w.heap.size ≤ k ∧ k < w'.heap.size)) : K0 w0 Y w' c room := by
  obtain ⟨b, t, h1, h2, h3, h4⟩ := h
  refine ⟨b, t, h1.later hl, fun k hk => ⟨(h2 k hk).1, fun hy => ?_, Nat.lt_of_lt_of_le (h2 k hk).2.2 hl.size⟩, fun k hk => ?_, h4.trans hl⟩
  · rcases hY k hy with hx | hx
    · exact (h2 k hk).2.1 hx
    · have := (h2 k hk).2.2; omega
  · rcases hY k hk with hx | hx
    · exact Nat.lt_of_lt_of_le (h3 k hx) hl.size
    · exact hx.2
/-- A new tape, and a chest on it. -/
theorem newK {w0 w : World} (h0 : Later w0 w) (room : Nat) (hr : room ≤ 1048576) :
    Calls Tryz.prog 7 #[.int .i64 room] w fun e w' => e = .returned (.tuple #[.pointer (some ⟨w.heap.size, 0, none⟩), .int .i64 0]) ∧ TapeAt w' w0.heap.size w.heap.size (.slice none 0 0) [] 0 room ∧ Later w w' := tnew_any room hr h0.size
theorem openK {w0 w : World} {t room : Nat} (h0 : Later w0 w) (ht : w0.heap.size ≤ t) (h : TapeAt w w0.heap.size t (.slice none 0 0) [] 0 room) :
    Calls Tryz.prog 8 #[.pointer (some ⟨t, 0, none⟩)] w fun e w' => ∃ c, e = .returned (.tuple #[.pointer (some ⟨c, 0, none⟩), .int .i64 0]) ∧ K0 w0 (fun _ => False) w' c room := by
  refine (copen_any h0.size h).mono ?_
  rintro e w' ⟨c, b, rfl, h1, h2, h3, h4⟩
  refine ⟨c, rfl, b, t, h1, ?_, fun k hk => hk.elim, h0.trans h4⟩
  rintro k (rfl | rfl | rfl)
  · exact ⟨Nat.le_trans h0.size h2, id, theap_lt h1.2.1⟩
  · exact ⟨Nat.le_trans h0.size h3, id, (h1.2.2.lt _ (.inl rfl)).1⟩
  · exact ⟨ht, id, (h1.2.2.lt _ (.inr (.inl rfl))).1⟩
theorem lay_firstK {w0 w : World} {X : Nat → Prop} {c room : Nat} (h : K0 w0 X w c room) (hroom : room ≤ 1048576) {epoch base : Nat} (he1 : 1 ≤ epoch) (he9 : epoch < 1000000000) (hb : base < 1000000000000000) {A : Option Addr} {n cc : Nat} {L : List BV} (hr : Rd w 4 A n (brow L)) (hl : L.length = n) (hn : n ≤ 24) (hok : ∀ x ∈ L, BvOk w x ∧ BOk x.bp) (hch : Chain base (L.map BV.bp)) (hfit : n * 2403 + 60 ≤ room) :
    Calls Tryz.prog 10 #[.pointer (some ⟨c, 0, none⟩), .int .i64 epoch, .int .i64 base, .slice A n cc] w fun e w' => e = .returned (.int .i64 0) ∧ KX w0 X w' c (0 + (n * 2403 + 60)) room 0 ⟨epoch, base, base, kmax (L.map BV.bp), L.map BV.bp, L.map BV.bp⟩ ∧ Stands X w w' := by
  obtain ⟨b, t, h1, h2, h3, h4⟩ := h
  have hF : ∀ k, (k = c ∨ bFp b t (.slice none 0 0) (.slice none 0 0) k) → (k = c ∨ k = b ∨ k = t) := by
    rintro k (rfl | rfl | rfl | hk | hk)
    · exact .inl rfl
    · exact .inr (.inl rfl)
    · exact .inr (.inr rfl)
    · cases hk
    · cases hk
  refine (lay_first h1 hF h4.size hroom he1 he9 hb (Nat.not_lt_zero _) hr hl hn hok hch (by omega)).mono ?_
  rintro e w' ⟨rfl, F', g1, g2, g3⟩
  exact ⟨rfl, kx_turn h2 h3 h4 g1 g2 g3⟩
theorem push_newK {w0 w : World} {X : Nat → Prop} {c used room lock : Nat} {S : LB} (h : KX w0 X w c used room lock S) (he1 : 1 ≤ S.epoch) (hlk : ¬ S.epoch < lock) {x : BV} (hx : BvOk w x) (hb : BOk x.bp) (hp : x.prev = S.top) (hv : S.top < x.ver) (hroom : S.list.length < 24) (hr : room ≤ 1048576) (hfit : used + 2500 ≤ room) :
    Calls Tryz.prog 12 #[.pointer (some ⟨c, 0, none⟩), .int .i64 S.epoch, .agg #[.int .i64 x.prev, .int .i64 x.ver, .int .i64 x.known, .slice x.A x.n x.c]] w fun e w' => e = .returned (.tuple #[.int .i64 x.ver, .int .i64 0]) ∧ KX w0 X w' c (used + 2500) room lock { S with list := S.list ++ [x.bp], known := max S.known x.known } ∧ Stands X w w' := by
  obtain ⟨F, h1, h2, h3, h4⟩ := h
  refine (push_new h1 he1 hlk hx hb hp hv hroom hr hfit).mono ?_
  rintro e w' ⟨rfl, F', g1, g2, g3⟩
  exact ⟨rfl, kx_turn h2 h3 h4 g1 g2 g3⟩
theorem push_oldK {w0 w : World} {X : Nat → Prop} {c used room lock : Nat} {S : LB} (h : KX w0 X w c used room lock S) (he1 : 1 ≤ S.epoch) (hlk : ¬ S.epoch < lock) {x : BV} (hx : BvOk w x) (hb : BOk x.bp) (hv : x.ver ≤ S.top) :
    Calls Tryz.prog 12 #[.pointer (some ⟨c, 0, none⟩), .int .i64 S.epoch, .agg #[.int .i64 x.prev, .int .i64 x.ver, .int .i64 x.known, .slice x.A x.n x.c]] w fun e w' => e = .returned (.tuple #[.int .i64 S.top, .int .i64 0]) ∧ Later w w' := by
  obtain ⟨F, h1, h2, h3, h4⟩ := h
  exact push_old h1 he1 hlk hx hb hv
theorem push_fullK {w0 w : World} {X : Nat → Prop} {c used room lock : Nat} {S : LB} (h : KX w0 X w c used room lock S) (he1 : 1 ≤ S.epoch) (hlk : ¬ S.epoch < lock) {x : BV} (hx : BvOk w x) (hb : BOk x.bp) (hp : x.prev = S.top) (hv : S.top < x.ver) (hroom : ¬ S.list.length < 24) :
    Calls Tryz.prog 12 #[.pointer (some ⟨c, 0, none⟩), .int .i64 S.epoch, .agg #[.int .i64 x.prev, .int .i64 x.ver, .int .i64 x.known, .slice x.A x.n x.c]] w fun e w' => e = .returned (.tuple #[.int .i64 0, .int .i64 10]) ∧ Later w w' := by
  obtain ⟨F, h1, h2, h3, h4⟩ := h
  exact push_full h1 he1 hlk hx hb hp hv hroom
theorem push_lockedK {w0 w : World} {X : Nat → Prop} {c used room lock : Nat} {S : LB} (h : KX w0 X w c used room lock S) (he1 : 1 ≤ S.epoch) (hlk : S.epoch < lock) (x : BV) :
    Calls Tryz.prog 12 #[.pointer (some ⟨c, 0, none⟩), .int .i64 S.epoch, .agg #[.int .i64 x.prev, .int .i64 x.ver, .int .i64 x.known, .slice x.A x.n x.c]] w fun e w' => e = .returned (.tuple #[.int .i64 0, .int .i64 15]) ∧ Later w w' := by
  obtain ⟨F, h1, h2, h3, h4⟩ := h
  exact push_locked h1 he1 hlk x
theorem LiveK {w0 w : World} {X : Nat → Prop} {c used room lock : Nat} {S : LB} (h : KX w0 X w c used room lock S) (he1 : 1 ≤ S.epoch) :
    Calls Tryz.prog 13 #[.pointer (some ⟨c, 0, none⟩), .int .i64 S.epoch] w fun e w' => e = .returned (.int .i64 (if S.epoch < lock then 15 else 0)) ∧ w' = w := by
  obtain ⟨F, h1, h2, h3, h4⟩ := h
  exact Live_any h1 he1
theorem peekK {w0 w : World} {X : Nat → Prop} {c used room lock : Nat} {S : LB} (h : KX w0 X w c used room lock S) (he1 : 1 ≤ S.epoch) (version most : Nat) (hv : S.gone ≤ version) (hv2 : version < 1000000000000000) (hm : most ≤ 1000) :
    Calls Tryz.prog 15 #[.pointer (some ⟨c, 0, none⟩), .int .i64 S.epoch, .int .i64 version, .int .i64 most] w fun e w' => ∃ A' c' n L', e = .returned (.tuple #[.slice A' n c', .int .i64 S.known, .int .i64 0]) ∧ L'.length = n ∧ w'.ownsRow w.heap.size 38 4 (.slice A' n c') n (brow L') ∧ L'.map BV.bp = peekB S.list version most ∧ (∀ x ∈ L', BvOk w' x) ∧ Later w w' := by
  obtain ⟨F, h1, h2, h3, h4⟩ := h
  exact peek_any h1 he1 version most hv hv2 hm
theorem lay_secondK {w0 w : World} {X : Nat → Prop} {c used room lock : Nat} {S : LB} (h : KX w0 X w c used room lock S) (hroom : room ≤ 1048576) {epoch base : Nat} (he1 : 1 ≤ epoch) (he9 : epoch < 1000000000) (hse : S.epoch < epoch) (hb : base < 1000000000000000) (hlk : ¬ epoch < lock) (cc : Nat) (hfit : used + 60 ≤ room) :
    Calls Tryz.prog 10 #[.pointer (some ⟨c, 0, none⟩), .int .i64 epoch, .int .i64 base, .slice none 0 cc] w fun e w' => e = .returned (.int .i64 0) ∧ (∃ b vl, ChB w' c b lock vl) ∧ Later w0 w' := by
  obtain ⟨F, h1, h2, h3, h4⟩ := h
  refine (lay_second h1 hroom he1 he9 hse hb hlk cc hfit).mono ?_
  rintro e w' ⟨rfl, g1, g2⟩
  exact ⟨rfl, g1, Below.trans h4 (g2.below (B := w0.heap.size) h4.size fun k hk => (h2 k hk).1)⟩
theorem lay_clashK {w0 w : World} {X : Nat → Prop} {c used room lock : Nat} {S : LB} (h : KX w0 X w c used room lock S) {base : Nat} (he1 : 1 ≤ S.epoch) (hb : base < 1000000000000000) (hlk : ¬ S.epoch < lock) (cc : Nat) (hbn : S.base ≠ base) :
    Calls Tryz.prog 10 #[.pointer (some ⟨c, 0, none⟩), .int .i64 S.epoch, .int .i64 base, .slice none 0 cc] w fun e w' => e = .returned (.int .i64 13) ∧ Later w w' := by
  obtain ⟨F, h1, h2, h3, h4⟩ := h
  exact lay_clash h1 he1 hb hlk cc hbn
theorem lay_sameK {w0 w : World} {X : Nat → Prop} {c used room lock : Nat} {S : LB} (h : KX w0 X w c used room lock S) {base : Nat} (he1 : 1 ≤ S.epoch) (hb : base < 1000000000000000) (hlk : ¬ S.epoch < lock) {A : Option Addr} {n cc : Nat} {L : List BV} (hr : Rd w 4 A n (brow L)) (hl : L.length = n) (hn : n ≤ 24) (hok : ∀ x ∈ L, BvOk w x ∧ BOk x.bp) (hch : Chain base (L.map BV.bp)) (hbn : S.base = base) (heq : S.first = L.map BV.bp) (hz : ∀ x ∈ S.first, x.chg = []) (hz2 : ∀ x ∈ L, x.n = 0) :
    Calls Tryz.prog 10 #[.pointer (some ⟨c, 0, none⟩), .int .i64 S.epoch, .int .i64 base, .slice A n cc] w fun e w' => e = .returned (.int .i64 0) ∧ Later w w' := by
  obtain ⟨F, h1, h2, h3, h4⟩ := h
  exact lay_same h1 he1 hb hlk hr hl hn hok hch hbn heq hz hz2

end Go.Proofs.YtlgnnmpfipmjeaaGreat
