/-
  Texts of this seat in one: ChInv, ChInv2, ChConv, ChPush, ChEnd.
-/
import Derived.Test.YtlgnnmpfipmjeaaGreatZkChCM
import Derived.Test.YtlgnnmpfipmjeaaGreatZkCRef
/-
  chest: what stands while ChestChain pushes.
-/
namespace Go.Proofs.YtlgnnmpfipmjeaaGreat
open Go.RowKit
set_option linter.unusedVariables false
set_option linter.unusedSimpArgs false
/-- The blocks of the law's own batches. -/
def XC (v : Value) (La : List BV) (k : Nat) : Prop := v.ownBlock = some k ∨ ∃ x ∈ La, ∃ a : Addr, x.A = some a ∧ a.block = k
theorem KX.turnX {w0 w w' : World} {X G : Nat → Prop} {c used room lock : Nat} {S : LB} (h : KX w0 X w c used room lock S) (hh : Hits G w w') (hG : ∀ k, G k → X k ∧ w0.heap.size ≤ k) (Y : Nat → Prop) (hY : ∀ k, Y k → X k ∨ (w.heap.size ≤ k ∧ k < w'.heap.size)) : KX w0 Y w' c used room lock S := by
  obtain ⟨F, h1, h2, h3, h4⟩ := h
  refine ⟨F, h1.hits hh fun k hk _ hg => (h2 k hk).2.1 (hG k hg).1, fun k hk => ⟨(h2 k hk).1, fun hy => ?_, Nat.lt_of_lt_of_le (h2 k hk).2.2 hh.size⟩, fun k hk => ?_,
    Below.trans h4 (hh.below (B := w0.heap.size) h4.size fun k hk => (hG k hk).2)⟩
  · rcases hY k hy with hx | hx
    · exact (h2 k hk).2.1 hx
    · have := (h2 k hk).2.2; omega
  · rcases hY k hk with hx | hx
    · exact Nat.lt_of_lt_of_le (h3 k hx) hh.size
    · exact hx.2
/-- i batches were pushed, and are held in a row of the law. -/
structure InvC (w w4 wr : World) (c : Nat) (l : List UInt8) (i : Nat) (A : Option Addr) (c1 : Nat) : Prop where
  ex : ∃ La kn, La.map BV.bp = bcc 7 (l.take i) ∧ KX w (XC (.slice A i c1) La) wr c (60 + i * 2500) 524288 0 ⟨1, 7, 7, kn, [], bcc 7 (l.take i)⟩ ∧
    wr.ownsRow w4.heap.size 38 4 (.slice A i c1) i (brow La) ∧ (∀ x ∈ La, BvOk wr x) ∧ (∀ k, XC (.slice A i c1) La k → w4.heap.size ≤ k)
  le : Later w w4
  le2 : w4.heap.size ≤ wr.heap.size
theorem InvC.chest {w w4 wr : World} {c : Nat} {l : List UInt8} {i : Nat} {A : Option Addr} {c1 : Nat} (h : InvC w w4 wr c l i A c1) : ∃ X S, KX w X wr c (60 + i * 2500) 524288 0 S := by
  obtain ⟨La, kn, _, h2, _⟩ := h.ex
  exact ⟨_, _, h2⟩
theorem invC_start {w w4 : World} {c : Nat} {l : List UInt8} (h : KX w (fun _ => False) w4 c (60 + 0 * 2500) 524288 0 ⟨1, 7, 7, 0, [], bcc 7 []⟩) : InvC w w4 (w4.alloc (.cells #[] 38)) c l 0 (some ⟨w4.heap.size, 0, none⟩) 0 := by
  refine ⟨⟨[], 0, rfl, h.more (later_alloc _ _) _ ?_, own_new w4 #[] 38 4 0 w4.heap.size rfl (by unfold maxLen; omega) (Nat.le_refl _), ?_, ?_⟩, h.below, by simp⟩
  · rintro k (hk | ⟨x, hx, _⟩)
    · injection hk with hk
      subst hk
      exact .inr ⟨Nat.le_refl _, by simp⟩
    · cases hx
  · intro x hx
    cases hx
  · rintro k (hk | ⟨x, hx, _⟩)
    · injection hk with hk
      subst hk
      exact Nat.le_refl _
    · cases hx
theorem InvC.below {w w4 wr : World} {c : Nat} {l : List UInt8} {i : Nat} {A : Option Addr} {c1 : Nat} (h : InvC w w4 wr c l i A c1) : Later w wr := by
  obtain ⟨X, S, h⟩ := h.chest
  exact h.below
/-- One more push, of a batch whose changes lie in the new block q: what stood stands. -/
def Mid (w w4 wr wp w' : World) (c : Nat) (l : List UInt8) (i : Nat) (A : Option Addr) (c1 q : Nat) (s : UInt8) : Prop :=
  ∃ La kn, La.map BV.bp = bcc 7 (l.take i) ∧ KX w (fun k => XC (.slice A i c1) (La ++ [cbv q (tp 7 (l.take i)) s]) k ∨ (wr.heap.size ≤ k ∧ k < wp.heap.size)) w' c (60 + (i + 1) * 2500) 524288 0 ⟨1, 7, 7, kn, [], bcc 7 (l.take (i + 1))⟩ ∧
    w'.ownsRow w4.heap.size 38 4 (.slice A i c1) i (brow La) ∧ (∀ x ∈ La ++ [cbv q (tp 7 (l.take i)) s], BvOk w' x) ∧ (∀ k, XC (.slice A i c1) (La ++ [cbv q (tp 7 (l.take i)) s]) k → w4.heap.size ≤ k) ∧ Later w w4 ∧ w4.heap.size ≤ w'.heap.size
theorem own_stands {X : Nat → Prop} {w W : World} {base size n : Nat} {e : TypeId} {v : Value} {xs : List Value} (ho : w.ownsRow base e size v n xs) (h : Stands X w W) (hX : ∀ k, v.ownBlock = some k → X k) : W.ownsRow base e size v n xs := by
  refine ⟨ho.1, ?_⟩
  rcases ho.2 with h0 | ⟨g, cap, cur, hv, hb, hh, hr⟩
  · exact .inl h0
  · exact .inr ⟨g, cap, cur, hv, hb, h.2 _ _ (hX g (by rw [hv]; rfl)) hh, hr⟩
theorem BvOk.stands {X : Nat → Prop} {w W : World} {x : BV} (hx : BvOk w x) (h : Stands X w W) (hX : ∀ a : Addr, x.A = some a → X a.block) : BvOk W x :=
  ⟨hx.len, hx.rd.stands h hX, fun a ha => by obtain ⟨cs, fz, h1⟩ := hx.at_ a ha; exact ⟨cs, fz, h.2 _ _ (hX a ha) h1⟩, hx.ok⟩
theorem InvC.push {w w4 wr : World} {c : Nat} {l : List UInt8} {i : Nat} {A : Option Addr} {c1 : Nat} (h : InvC w w4 wr c l i A c1) {s : UInt8} (hs : l.take (i + 1) = l.take i ++ [s]) (hi : i < 24) (hil : (l.take i).length = i) {q : Nat} {wp : World} (hl : Later wr wp) (hq1 : wr.heap.size ≤ q) (hq2 : q < wp.heap.size)
    (hq : wp.heap[q]? = some (.cells #[.int .i64 1, .string ⟨#[107]⟩, .string ⟨#[s]⟩] 45 (0, 0))) {a0 : Nat} (ha : a0 = tp 7 (l.take i)) :
    Calls Tryz.prog 12 #[.pointer (some ⟨c, 0, none⟩), .int .i64 1, .agg #[.int .i64 a0, .int .i64 (a0 + s.toNat + 1 : Nat), .int .i64 a0, .slice (some ⟨q, 0, none⟩) 1 1]] wp fun e w' =>
      e = .returned (.tuple #[.int .i64 (a0 + s.toNat + 1 : Nat), .int .i64 0]) ∧ Stands (fun k => wr.heap.size ≤ k ∧ k < wp.heap.size) wp w' ∧ Mid w w4 wr wp w' c l i A c1 q s := by
  subst ha
  obtain ⟨La, kn, h1, h2, h3, h4, h5⟩ := h.ex
  have htb := (tp_le 7 (l.take i)).2
  rw [hil] at htb
  have hok : BvOk wp (cbv q (tp 7 (l.take i)) s) := cbv_ok (by omega) hq
  have htop : LB.top ⟨1, 7, 7, kn, [], bcc 7 (l.take i)⟩ = tp 7 (l.take i) := bcc_top 1 7 kn 7 [] 7 (l.take i) (.inr rfl)
  have hX : ∀ k, (XC (.slice A i c1) (La ++ [cbv q (tp 7 (l.take i)) s]) k ∨ (wr.heap.size ≤ k ∧ k < wp.heap.size)) → XC (.slice A i c1) La k ∨ (wr.heap.size ≤ k ∧ k < wp.heap.size) := by
    rintro k ((hk | ⟨x, hx, a, ha, rfl⟩) | hk)
    · exact .inl (.inl hk)
    · rcases List.mem_append.1 hx with hx | hx
      · exact .inl (.inr ⟨x, hx, a, ha, rfl⟩)
      · rw [List.mem_singleton] at hx
        subst hx
        injection ha with ha
        subst ha
        exact .inr ⟨hq1, hq2⟩
    · exact .inr hk
  have hkx := h2.more hl (fun k => XC (.slice A i c1) (La ++ [cbv q (tp 7 (l.take i)) s]) k ∨ (wr.heap.size ≤ k ∧ k < wp.heap.size)) hX
  refine (push_newK (x := cbv q (tp 7 (l.take i)) s) hkx (Nat.le_refl 1) (Nat.not_lt_zero _) hok (cbp_ok (tp 7 (l.take i)) s (by omega)) htop.symm (by rw [htop]; show _ < tp 7 (l.take i) + s.toNat + 1; omega) (by show (bcc 7 (l.take i)).length < 24; rw [bcc_len, hil]; exact hi) (by omega) (by omega)).mono ?_
  rintro e w' ⟨rfl, g1, g2⟩
  refine ⟨rfl, ⟨g2.1, fun k o hk => g2.2 k o (.inr hk)⟩, La, max kn (cbv q (tp 7 (l.take i)) s).known, h1, ?_, ?_, ?_, ?_, h.le, Nat.le_trans h.le2 (Nat.le_trans hl.size g2.1)⟩
  · rw [hs, bcc_snoc, show 60 + (i + 1) * 2500 = 60 + i * 2500 + 2500 by omega]
    exact g1
  · exact own_stands (own_below h3 hl) g2 fun k hk => .inl (.inl hk)
  · intro x hx
    rcases List.mem_append.1 hx with hx2 | hx2
    · exact ((h4 x hx2).later hl).stands g2 fun a ha => .inl (.inr ⟨x, hx, a, ha, rfl⟩)
    · rw [List.mem_singleton] at hx2
      subst hx2
      exact hok.stands g2 fun a ha => .inl (.inr ⟨_, hx, a, ha, rfl⟩)
  · intro k hk
    rcases hX k (.inl hk) with h6 | h6
    · exact h5 k h6
    · exact Nat.le_trans h.le2 h6.1
/-- The batch joins the law's row. -/
theorem Mid.next {w w4 wr wp w' w'' w9 : World} {c : Nat} {l : List UInt8} {i : Nat} {A A9 : Option Addr} {c1 c9 q : Nat} {s : UInt8} {La : List BV} {kn : Nat} (hs : l.take (i + 1) = l.take i ++ [s])
    (h1 : La.map BV.bp = bcc 7 (l.take i)) (h2 : KX w (fun k => XC (.slice A i c1) (La ++ [cbv q (tp 7 (l.take i)) s]) k ∨ (wr.heap.size ≤ k ∧ k < wp.heap.size)) w' c (60 + (i + 1) * 2500) 524288 0 ⟨1, 7, 7, kn, [], bcc 7 (l.take (i + 1))⟩)
    (h3 : w'.ownsRow w4.heap.size 38 4 (.slice A i c1) i (brow La)) (h4 : ∀ x ∈ La ++ [cbv q (tp 7 (l.take i)) s], BvOk w' x) (h5 : ∀ k, XC (.slice A i c1) (La ++ [cbv q (tp 7 (l.take i)) s]) k → w4.heap.size ≤ k) (h6 : Later w w4) (h7 : w4.heap.size ≤ w'.heap.size)
    (hl : Later w' w'') (hown : w9.ownsRow w4.heap.size 38 4 (.slice A9 (i + 1) c9) (i + 1) (brow La ++ encV (cbv q (tp 7 (l.take i)) s))) (hg : w''.grownBy w9 (Value.slice A i c1).ownBlock) (hat : (Value.slice A9 (i + 1) c9).ownBlock = (Value.slice A i c1).ownBlock ∨ (Value.slice A9 (i + 1) c9).ownBlock = some w''.heap.size) : InvC w w4 w9 c l (i + 1) A9 c9 := by
  have hh : Hits (fun k => (Value.slice A i c1).ownBlock = some k) w'' w9 := (Hits.refl _ w'').grown hg fun g hg _ => hg
  have hown2 := own_below h3 hl
  have hk9 := (h2.later hl).turnX hh (fun k hk => ⟨.inl (.inl hk), Nat.le_trans h6.size (h5 k (.inl hk))⟩) (XC (.slice A9 (i + 1) c9) (La ++ [cbv q (tp 7 (l.take i)) s])) (by
    rintro k (hk | hk)
    · rcases hat with e | e
      · rw [e] at hk; exact .inl (.inl (.inl hk))
      · rw [e] at hk
        injection hk with hk
        subst hk
        exact .inr ⟨Nat.le_refl _, (own_block hown e).2.1⟩
    · exact .inl (.inl (.inr hk)))
  have hnc : ∀ x ∈ La ++ [cbv q (tp 7 (l.take i)) s], ∀ a : Addr, x.A = some a → ¬ (Value.slice A i c1).ownBlock = some a.block := by
    intro x hx a ha hk
    obtain ⟨_, _, cs, hc⟩ := own_block hown2 hk
    obtain ⟨cs2, fz, hc2⟩ := ((h4 x hx).later hl).at_ a ha
    exact sort_ne hc hc2 (by decide) rfl
  refine ⟨⟨La ++ [cbv q (tp 7 (l.take i)) s], kn, ?_, ?_, ?_, ?_, ?_⟩, h6, Nat.le_trans h7 (Nat.le_trans hl.size hh.size)⟩
  · rw [List.map_append, h1, hs, bcc_snoc]; rfl
  · exact hk9
  · rw [brow_snoc]; exact hown
  · exact fun x hx => ((h4 x hx).later hl).hits' hh (hnc x hx)
  · rintro k (hk | hk)
    · exact (own_block hown hk).1
    · exact h5 k (.inr hk)

end Go.Proofs.YtlgnnmpfipmjeaaGreat
/-
  chest: what stands while ChestChain peeks, pops and locks.
-/
namespace Go.Proofs.YtlgnnmpfipmjeaaGreat
open Go.RowKit
set_option linter.unusedVariables false
set_option linter.unusedSimpArgs false
theorem peekNK {w0 w : World} {X : Nat → Prop} {c used room lock : Nat} {S : LB} (h : KX w0 X w c used room lock S) (he1 : 1 ≤ S.epoch) (version most : Nat) (hv : S.gone ≤ version) (hv2 : version < 1000000000000000) (hm : most ≤ 1000) :
    Calls Tryz.prog 15 #[.pointer (some ⟨c, 0, none⟩), .int .i64 S.epoch, .int .i64 version, .int .i64 most] w fun e w' => ∃ A' c' n L', e = .returned (.tuple #[.slice A' n c', .int .i64 S.known, .int .i64 0]) ∧ L'.length = n ∧ w'.ownsRow w.heap.size 38 4 (.slice A' n c') n (brow L') ∧ L'.map BV.bp = peekB S.list version most ∧ (∀ x ∈ L', BvOk w' x) ∧ (∀ x ∈ L', ∀ a : Addr, x.A = some a → w.heap.size ≤ a.block) ∧ Later w w' := by
  obtain ⟨F, h1, h2, h3, h4⟩ := h
  exact peek_new h1 he1 version most hv hv2 hm
/-- j batches were peeked, and are held in a row that began at wo. -/
structure GotI (wo wx : World) (bl : List UInt8) (j : Nat) (A : Option Addr) (c : Nat) : Prop where
  ex : ∃ Lg, Lg.map BV.bp = (bcc 7 bl).take j ∧ wx.ownsRow wo.heap.size 38 4 (.slice A j c) j (brow Lg) ∧ (∀ x ∈ Lg, BvOk wx x) ∧ (∀ x ∈ Lg, ∀ a : Addr, x.A = some a → wo.heap.size ≤ a.block)
  le : Later wo wx
theorem gotI_start (wo : World) (bl : List UInt8) : GotI wo (wo.alloc (.cells #[] 38)) bl 0 (some ⟨wo.heap.size, 0, none⟩) 0 := by
  refine ⟨⟨[], rfl, own_new wo #[] 38 4 0 wo.heap.size rfl (by unfold maxLen; omega) (Nat.le_refl _), ?_, ?_⟩, later_alloc _ _⟩
  · intro x hx; cases hx
  · intro x hx; cases hx
theorem GotI.own {wo wx : World} {bl : List UInt8} {j : Nat} {A : Option Addr} {c : Nat} (h : GotI wo wx bl j A c) : ∃ Lg, wx.ownsRow wo.heap.size 38 4 (.slice A j c) j (brow Lg) := by
  obtain ⟨Lg, _, h1, _⟩ := h.ex
  exact ⟨Lg, h1⟩
theorem GotI.later {wo wx wy : World} {bl : List UInt8} {j : Nat} {A : Option Addr} {c : Nat} (h : GotI wo wx bl j A c) (hl : Later wx wy) : GotI wo wy bl j A c := by
  obtain ⟨Lg, h1, h2, h3, h4⟩ := h.ex
  exact ⟨⟨Lg, h1, own_below h2 hl, fun x hx => (h3 x hx).later hl, h4⟩, h.le.trans hl⟩
/-- What was peeked joins. -/
theorem GotI.next {wo wx wy w9 : World} {bl : List UInt8} {j m n : Nat} {A A9 : Option Addr} {c c9 : Nat} {Lg L' : List BV} (h : GotI wo wx bl j A c)
    (g1 : Lg.map BV.bp = (bcc 7 bl).take j) (g2 : wx.ownsRow wo.heap.size 38 4 (.slice A j c) j (brow Lg)) (g3 : ∀ x ∈ Lg, BvOk wx x) (g4 : ∀ x ∈ Lg, ∀ a : Addr, x.A = some a → wo.heap.size ≤ a.block)
    (hl : Later wx wy) (hn : L'.length = n) (hm : L'.map BV.bp = ((bcc 7 bl).drop j).take m) (hok : ∀ x ∈ L', BvOk wy x) (hna : ∀ x ∈ L', ∀ a : Addr, x.A = some a → wx.heap.size ≤ a.block)
    (hown : w9.ownsRow wo.heap.size 38 4 (.slice A9 (j + n) c9) (j + n) (brow Lg ++ brow L')) (hg : wy.grownBy w9 (Value.slice A j c).ownBlock) : GotI wo w9 bl (j + n) A9 c9 := by
  have hh : Hits (fun k => (Value.slice A j c).ownBlock = some k) wy w9 := (Hits.refl _ wy).grown hg fun g hg _ => hg
  have hnc : ∀ x, BvOk wy x → ∀ a : Addr, x.A = some a → ¬ (Value.slice A j c).ownBlock = some a.block := by
    intro x hx a ha hk
    obtain ⟨_, _, cs, hc⟩ := own_block (own_below g2 hl) hk
    obtain ⟨cs2, fz, hc2⟩ := hx.at_ a ha
    exact sort_ne hc hc2 (by decide) rfl
  refine ⟨⟨Lg ++ L', ?_, by unfold brow; rw [List.flatMap_append]; exact hown, ?_, ?_⟩, own_grown (h.le.trans hl) (own_below g2 hl) hg (Nat.le_trans h.le.size hl.size)⟩
  · have e : n = (((bcc 7 bl).drop j).take m).length := by rw [← hm, List.length_map, hn]
    rw [List.map_append, g1, hm, List.take_add]
    congr 1
    rw [e, List.length_take, List.take_eq_take_iff]
    omega
  · intro x hx
    rcases List.mem_append.1 hx with hx | hx
    · exact ((g3 x hx).later hl).hits' hh (hnc x ((g3 x hx).later hl))
    · exact (hok x hx).hits' hh (hnc x (hok x hx))
  · intro x hx a ha
    rcases List.mem_append.1 hx with hx | hx
    · exact g4 x hx a ha
    · exact Nat.le_trans h.le.size (hna x hx a ha)

end Go.Proofs.YtlgnnmpfipmjeaaGreat
/-
  chest: one byte made a string, where the byte was just laid.
-/
namespace Go.Proofs.YtlgnnmpfipmjeaaGreat
open Go.RowKit
set_option linter.unusedVariables false
set_option linter.unusedSimpArgs false
theorem conv_at (W : World) (g : Nat) (s : UInt8) (h : Rd W 1 (some ⟨g, 0, none⟩) 1 (bvs [s])) : (convert 43 9 (.slice (some ⟨g, 0, none⟩) 1 1)).run Tryz.prog W = .ok (.string ⟨#[s]⟩) W :=
  run_str_n _ _ 5 1 rfl Tryz.underlying43 Tryz.underlying5 Tryz.underlying9 (fun h => by cases h) h
theorem rd_byte (wr : World) (s : UInt8) : Rd (wr.alloc (.cells #[.int .u8 (s.toNat : Int)] 5)) 1 (some ⟨wr.heap.size, 0, none⟩) 1 (bvs [s]) := by
  have h := Rd.new wr #[.int .u8 (s.toNat : Int)] 5 1 (size := 1) (0, 0) rfl
  simpa [bvs, bv] using h
theorem conv_1 (wr : World) (s : UInt8) : (convert 43 9 (.slice (some ⟨wr.heap.size, 0, none⟩) 1 1)).run Tryz.prog (wr.alloc (.cells #[.int .u8 (s.toNat : Int)] 5)).drew = .ok (.string ⟨#[s]⟩) (wr.alloc (.cells #[.int .u8 (s.toNat : Int)] 5)).drew :=
  conv_at _ _ s (rd_byte wr s).drew
theorem conv_2 (wr : World) (s : UInt8) (o : Obj) : (convert 43 9 (.slice (some ⟨wr.heap.size, 0, none⟩) 1 1)).run Tryz.prog ((wr.alloc (.cells #[.int .u8 (s.toNat : Int)] 5)).alloc o).drew = .ok (.string ⟨#[s]⟩) ((wr.alloc (.cells #[.int .u8 (s.toNat : Int)] 5)).alloc o).drew :=
  conv_at _ _ s ((rd_byte wr s).alloc o).drew
theorem conv_3 (wr : World) (s : UInt8) (o : Obj) : (convert 43 9 (.slice (some ⟨wr.heap.size + 1, 0, none⟩) 1 1)).run Tryz.prog ((wr.alloc o).alloc (.cells #[.int .u8 (s.toNat : Int)] 5)).drew = .ok (.string ⟨#[s]⟩) ((wr.alloc o).alloc (.cells #[.int .u8 (s.toNat : Int)] 5)).drew := by
  have h := rd_byte (wr.alloc o) s
  rw [show (wr.alloc o).heap.size = wr.heap.size + 1 from by simp] at h
  exact conv_at _ _ s h.drew
/-- A conversion as a step of a drawn region. -/
theorem step_conv {P : Program} {w : World} {ops : Array Oper} {o : Oper} {a : Act} {K : Act → World → Prop} {Q : Exit → Act → World → Prop} {E : Prop} (hgd : Region.wanted o (yielded ops a.tmps) = true) (x : Operand) (src dst : TypeId)
    (ho : o.op = .convert src dst x) (u v : Value) (hx : a.eval x = u) (hrun : (convert src dst u).run P w = .ok v w) (h : K (a.put o.dst v) w) :
    if Region.wanted o (yielded ops a.tmps) = true then Oper.wp P o a w K Q else E := by
  rw [if_pos hgd]
  unfold Oper.wp execOp
  simp only [ho, Sem.run_bind, Sem.run_pure, Result.andThen_ok, hx, hrun]
  exact h

end Go.Proofs.YtlgnnmpfipmjeaaGreat
/-
  chest: one push of ChestChain, with the law's own batch.
-/
namespace Go.Proofs.YtlgnnmpfipmjeaaGreat
open Go.RowKit
set_option linter.unusedVariables false
set_option linter.unusedSimpArgs false
theorem al3 (w : World) (A B C : Obj) : Later w (((w.alloc A).alloc B).alloc C).drew := ((((Later.refl w).al A).al B).al C).dr
theorem al3_size (w : World) (A B C : Obj) : (((w.alloc A).alloc B).alloc C).drew.heap.size = w.heap.size + 1 + 1 + 1 := by simp
theorem alloc_top (w : World) (A : Obj) : (w.alloc A).heap[w.heap.size]? = some A := by
  show (w.heap.push A)[_]? = _
  simp only [Array.getElem?_push_size]
theorem al3_0 (w : World) (A B C : Obj) : (((w.alloc A).alloc B).alloc C).drew.heap[w.heap.size]? = some A :=
  later_row ((((Later.refl (w.alloc A)).al B).al C).dr) (alloc_top w A)
theorem al3_1 (w : World) (A B C : Obj) : (((w.alloc A).alloc B).alloc C).drew.heap[w.heap.size + 1]? = some B := by
  have e : (w.alloc A).heap.size = w.heap.size + 1 := by simp
  rw [← e]
  exact later_row (((Later.refl ((w.alloc A).alloc B)).al C).dr) (alloc_top (w.alloc A) B)
theorem al3_2 (w : World) (A B C : Obj) : (((w.alloc A).alloc B).alloc C).drew.heap[w.heap.size + 1 + 1]? = some C := by
  have h : ((w.alloc A).alloc B).heap.size = w.heap.size + 1 + 1 := by simp
  rw [← h]
  exact alloc_top ((w.alloc A).alloc B) C
/-- What stands behind a push: the row of the chest, and the law's batch. -/
structure Mid2 (w w4 wr wp w' : World) (c : Nat) (l : List UInt8) (i : Nat) (A : Option Addr) (c1 q : Nat) (s : UInt8) (a0 bq : Nat) : Prop where
  mid : Mid w w4 wr wp w' c l i A c1 q s
  row : w'.heap[bq]? = some (.cells #[.int .i64 a0, .int .i64 ((a0 : Int) + (s.toNat : Int) + 1), .int .i64 a0, .slice (some ⟨q, 0, none⟩) 1 1] 38 (0, 0))
theorem InvC.push2 {w w4 wr : World} {c : Nat} {l : List UInt8} {i : Nat} {A : Option Addr} {c1 : Nat} (h : InvC w w4 wr c l i A c1) {s : UInt8} (hs : l.take (i + 1) = l.take i ++ [s]) (hi : i < 24) (hil : (l.take i).length = i) {q bq : Nat} {wp : World} (hl : Later wr wp) (hq1 : wr.heap.size ≤ q) (hq2 : q < wp.heap.size)
    (hq : wp.heap[q]? = some (.cells #[.int .i64 1, .string ⟨#[107]⟩, .string ⟨#[s]⟩] 45 (0, 0))) {a0 : Nat} (ha : a0 = tp 7 (l.take i))
    (hb1 : wr.heap.size ≤ bq) (hb2 : bq < wp.heap.size) (hb : wp.heap[bq]? = some (.cells #[.int .i64 a0, .int .i64 ((a0 : Int) + (s.toNat : Int) + 1), .int .i64 a0, .slice (some ⟨q, 0, none⟩) 1 1] 38 (0, 0))) :
    Calls Tryz.prog 12 #[.pointer (some ⟨c, 0, none⟩), .int .i64 1, .agg #[.int .i64 a0, .int .i64 ((a0 : Int) + (s.toNat : Int) + 1), .int .i64 a0, .slice (some ⟨q, 0, none⟩) 1 1]] wp fun e w' =>
      e = .returned (.tuple #[.int .i64 ((a0 : Int) + (s.toNat : Int) + 1), .int .i64 0]) ∧ Mid2 w w4 wr wp w' c l i A c1 q s a0 bq := by
  have e1 : (a0 : Int) + (s.toNat : Int) + 1 = ((a0 + s.toNat + 1 : Nat) : Int) := by omega
  rw [e1]
  rw [e1] at hb
  refine (h.push hs hi hil hl hq1 hq2 hq ha).mono ?_
  rintro e w' ⟨rfl, h1, h2⟩
  exact ⟨rfl, h2, by rw [e1]; exact h1.2 _ _ ⟨hb1, hb2⟩ hb⟩
theorem cell_row4 {w : World} {q : Nat} {a b c d : Value} {t : TypeId} (h : w.heap[q]? = some (.cells #[a, b, c, d] t (0, 0))) : w.cell? ⟨q, 0, none⟩ = some a ∧ w.cell? ⟨q, 1, none⟩ = some b ∧ w.cell? ⟨q, 2, none⟩ = some c ∧ w.cell? ⟨q, 3, none⟩ = some d :=
  ⟨by rw [cell_of_row _ _ _ _ _ _ h]; rfl, by rw [cell_of_row _ _ _ _ _ _ h]; rfl, by rw [cell_of_row _ _ _ _ _ _ h]; rfl, by rw [cell_of_row _ _ _ _ _ _ h]; rfl⟩
theorem rd_cbv (w : World) (q a0 : Nat) (s : UInt8) : Rd (w.alloc (.cells #[.int .i64 a0, .int .i64 ((a0 : Int) + (s.toNat : Int) + 1), .int .i64 a0, .slice (some ⟨q, 0, none⟩) 1 1] 38)) 4 (some ⟨w.heap.size, 0, none⟩) 1 (encV (cbv q a0 s)) := by
  have h := Rd.new w #[.int .i64 (a0 : Int), .int .i64 ((a0 : Int) + (s.toNat : Int) + 1), .int .i64 (a0 : Int), .slice (some ⟨q, 0, none⟩) 1 1] 38 1 (size := 4) (0, 0) rfl
  have e1 : (a0 : Int) + (s.toNat : Int) + 1 = ((a0 + s.toNat + 1 : Nat) : Int) := by omega
  rw [e1] at h
  rw [e1]
  exact h
abbrev cbo (q a0 : Nat) (s : UInt8) : Obj := .cells #[.int .i64 a0, .int .i64 ((a0 : Int) + (s.toNat : Int) + 1), .int .i64 a0, .slice (some ⟨q, 0, none⟩) 1 1] 38
theorem Mid2.own {w w4 wr wp w' : World} {c : Nat} {l : List UInt8} {i : Nat} {A : Option Addr} {c1 q : Nat} {s : UInt8} {a0 bq : Nat} (h : Mid2 w w4 wr wp w' c l i A c1 q s a0 bq) (hs : l.take (i + 1) = l.take i ++ [s]) (ha : a0 = tp 7 (l.take i)) :
    ∃ La, (w'.alloc (cbo q a0 s)).ownsRow w4.heap.size 38 4 (.slice A i c1) i (brow La) ∧ w4.heap.size ≤ w'.heap.size ∧ ∀ A9 c9 w9 nz, nz = w'.heap.size + 1 → w9.ownsRow w4.heap.size 38 4 (.slice A9 (i + 1) c9) (i + 1) (brow La ++ encV (cbv q a0 s)) → (w'.alloc (cbo q a0 s)).grownBy w9 (Value.slice A i c1).ownBlock →
      ((Value.slice A9 (i + 1) c9).ownBlock = (Value.slice A i c1).ownBlock ∨ (Value.slice A9 (i + 1) c9).ownBlock = some nz) → InvC w w4 w9 c l (i + 1) A9 c9 := by
  obtain ⟨La, kn, h1, h2, h3, h4, h5, h6, h7⟩ := h.mid
  subst ha
  exact ⟨La, own_below h3 (later_alloc _ _), h7, fun A9 c9 w9 nz hz ho hg hat => Mid.next hs h1 h2 h3 h4 h5 h6 h7 (later_alloc _ _) ho hg (by rw [show (w'.alloc _).heap.size = w'.heap.size + 1 from by simp, ← hz]; exact hat)⟩
theorem tp_next {l : List UInt8} {i : Nat} {s : UInt8} {a0 : Nat} (hs : l.take (i + 1) = l.take i ++ [s]) (ha : a0 = tp 7 (l.take i)) : (a0 : Int) + (s.toNat : Int) + 1 = (tp 7 (l.take (i + 1)) : Nat) := by
  rw [hs, tp_snoc, ← ha]; omega

end Go.Proofs.YtlgnnmpfipmjeaaGreat
/-
  chest: the end of ChestChain: Pop, Lock, and what is compared.
-/
namespace Go.Proofs.YtlgnnmpfipmjeaaGreat
open Go.RowKit
set_option linter.unusedVariables false
set_option linter.unusedSimpArgs false
def XE (A A2 : Option Addr) (La Lg : List BV) (k : Nat) : Prop := (∃ a : Addr, A = some a ∧ a.block = k) ∨ (∃ a : Addr, A2 = some a ∧ a.block = k) ∨ (∃ x ∈ La ++ Lg, ∃ a : Addr, x.A = some a ∧ a.block = k)
structure EndI (w W : World) (c u lock gone : Nat) (list : List BP) (i : Nat) (A A2 : Option Addr) (bl : List UInt8) (La Lg : List BV) : Prop where
  kx : ∃ kn, KX w (XE A A2 La Lg) W c u 524288 lock ⟨1, 7, gone, kn, [], list⟩
  rd : Rd W 4 A i (brow La)
  rd2 : Rd W 4 A2 i (brow Lg)
  len : La.length = i
  len2 : Lg.length = i
  blen : bl.length = i
  eq : La.map BV.bp = bcc 7 bl
  eq2 : Lg.map BV.bp = bcc 7 bl
  ok : ∀ x ∈ La ++ Lg, BvOk W x
theorem EndI.stands {w W W' : World} {c u u' lock lock' gone gone' : Nat} {list list' : List BP} {i : Nat} {A A2 : Option Addr} {bl : List UInt8} {La Lg : List BV} (h : EndI w W c u lock gone list i A A2 bl La Lg)
    (hk : ∃ kn, KX w (XE A A2 La Lg) W' c u' 524288 lock' ⟨1, 7, gone', kn, [], list'⟩) (hs : Stands (XE A A2 La Lg) W W') : EndI w W' c u' lock' gone' list' i A A2 bl La Lg :=
  ⟨hk, h.rd.stands hs fun a e => .inl ⟨a, e, rfl⟩, h.rd2.stands hs fun a e => .inr (.inl ⟨a, e, rfl⟩), h.len, h.len2, h.blen, h.eq, h.eq2, fun x hx => (h.ok x hx).stands hs fun a e => .inr (.inr ⟨x, hx, a, e, rfl⟩)⟩
theorem EndI.later {w W W' : World} {c u lock gone : Nat} {list : List BP} {i : Nat} {A A2 : Option Addr} {bl : List UInt8} {La Lg : List BV} (h : EndI w W c u lock gone list i A A2 bl La Lg) (hl : Later W W') : EndI w W' c u lock gone list i A A2 bl La Lg := by
  obtain ⟨kn, hk⟩ := h.kx
  exact h.stands ⟨kn, hk.later hl⟩ (Stands.of_later hl)
theorem endI_start {w w4 wo W : World} {c i kn c1 c2 : Nat} {A A2 : Option Addr} {bl : List UInt8} {La : List BV} (hm : La.map BV.bp = bcc 7 bl) (hk : KX w (XC (.slice A i c1) La) wo c (60 + i * 2500) 524288 0 ⟨1, 7, 7, kn, [], bcc 7 bl⟩)
    (ho : wo.ownsRow w4.heap.size 38 4 (.slice A i c1) i (brow La)) (hok : ∀ x ∈ La, BvOk wo x) (hb : bl.length = i) (hg : GotI wo W bl i A2 c2) : ∃ Lg, EndI w W c (60 + i * 2500) 0 7 (bcc 7 bl) i A A2 bl La Lg := by
  obtain ⟨Lg, h1, h2, h3, h4⟩ := hg.ex
  rw [List.take_of_length_le (by rw [bcc_len]; omega)] at h1
  have lenOf : ∀ L : List BV, L.map BV.bp = bcc 7 bl → L.length = i := fun L h => by have := congrArg List.length h; rw [List.length_map, bcc_len] at this; omega
  refine ⟨Lg, ⟨kn, hk.more hg.le _ ?_⟩, Rd.of_own (own_below ho hg.le), Rd.of_own h2, lenOf _ hm, lenOf _ h1, hb, hm, h1, ?_⟩
  · rintro k (⟨a, rfl, rfl⟩ | ⟨a, rfl, rfl⟩ | ⟨x, hx, a, ha, rfl⟩)
    · exact .inl (.inl (by
        rcases ho.2 with ⟨hv, h0⟩ | ⟨g, cap, cur, hv, _⟩
        · cases hv
        · injection hv with hv; injection hv with hv; subst hv; rfl))
    · right
      rcases h2.2 with ⟨hv, h0⟩ | ⟨g, cap, cur, hv, _⟩
      · cases hv
      · have := own_block (g := g) h2 (by rw [hv]; rfl)
        injection hv with hv; injection hv with hv; subst hv
        exact ⟨this.1, this.2.1⟩
    · rcases List.mem_append.1 hx with hx | hx
      · exact .inl (.inr ⟨x, hx, a, ha, rfl⟩)
      · right
        obtain ⟨cs, fz, hh⟩ := (h3 x hx).at_ a ha
        exact ⟨h4 x hx a ha, heap_lt0 hh⟩
  · intro x hx
    rcases List.mem_append.1 hx with hx | hx
    · exact (hok x hx).later hg.le
    · exact h3 x hx
theorem EndI.pop {w W : World} {c i : Nat} {A A2 : Option Addr} {bl : List UInt8} {La Lg : List BV} (h : EndI w W c (60 + i * 2500) 0 7 (bcc 7 bl) i A A2 bl La Lg) (hi : i ≤ 24) (cut : Nat) (hc0 : 0 < cut) (hc : cut ≤ i) (v : Nat) (hv : v = tp 7 (bl.take cut)) :
    Calls Tryz.prog 14 #[.pointer (some ⟨c, 0, none⟩), .int .i64 1, .int .i64 v] W fun e w' => e = .returned (.int .i64 0) ∧ EndI w w' c (60 + i * 2500 + 100) 0 (tp 7 (bl.take cut)) (bcc (tp 7 (bl.take cut)) (bl.drop cut)) i A A2 bl La Lg := by
  subst hv
  obtain ⟨kn, hk⟩ := h.kx
  have hb := h.blen
  have hne : bl ≠ [] := by rintro rfl; simp at hb; omega
  have ht := tp_le 7 (bl.take cut)
  rw [List.length_take] at ht
  have htop : LB.top ⟨1, 7, 7, kn, [], bcc 7 bl⟩ = tp 7 bl := bcc_top 1 7 kn 7 [] 7 bl (.inl hne)
  have hle : tp 7 (bl.take cut) ≤ tp 7 bl := by
    have h1 : bcc 7 bl = (bcc 7 bl).take cut ++ (bcc 7 bl).drop cut := (List.take_append_drop _ _).symm
    obtain ⟨k, rfl⟩ : ∃ j, cut = j + 1 := ⟨cut - 1, by omega⟩
    obtain ⟨x, hx⟩ : ∃ x, (bcc 7 bl)[k]? = some x := ⟨_, List.getElem?_eq_getElem (by rw [bcc_len]; omega)⟩
    rw [← bcc_ver hx]
    exact (bcc_mem (List.mem_of_getElem? hx)).2
  refine (pop_someK hk (Nat.le_refl 1) (tp 7 (bl.take cut)) (by rw [htop]; exact hle) (by omega) (B1 := bcc 7 (bl.take cut)) (B2 := bcc (tp 7 (bl.take cut)) (bl.drop cut)) (by rw [← bcc_take, ← bcc_drop, List.take_append_drop]) ?_ ?_ ?_ (bcc_at 7 7 bl cut hc0 (by omega)) (by omega) (by omega)).mono ?_
  · intro e
    have := congrArg List.length e
    rw [bcc_len, List.length_take, Nat.min_eq_left (by omega), List.length_nil] at this
    omega
  · intro x hx; exact (bcc_mem hx).2
  · intro x hx; exact (bcc_mem hx).1
  · rintro e w' ⟨rfl, g1, g2⟩
    refine ⟨rfl, h.stands ⟨kn, ?_⟩ g2⟩
    have : max 7 (tp 7 (bl.take cut)) = tp 7 (bl.take cut) := Nat.max_eq_right ht.1
    rw [← this]
    rw [this]
    have g3 := g1
    simp only [this] at g3
    exact g3
/-- What stands behind Lock. -/
def EndL (w W : World) (c i gone : Nat) (list : List BP) (A A2 : Option Addr) (bl : List UInt8) (La Lg : List BV) (e : Ending) (w' : World) : Prop :=
  ∃ A' c' n L' kn, e = .returned (.tuple #[.int .i64 gone, .int .i64 kn, .slice A' n c', .int .i64 0]) ∧ L'.length = n ∧ Rd w' 4 A' n (brow L') ∧ L'.map BV.bp = list ∧ (∀ x ∈ L', BvOk w' x) ∧ ∃ u lock, EndI w w' c u lock gone list i A A2 bl La Lg
theorem EndI.lock {w W : World} {c i u gone : Nat} {list : List BP} {A A2 : Option Addr} {bl : List UInt8} {La Lg : List BV} (h : EndI w W c u 0 gone list i A A2 bl La Lg) (hu : u ≤ 70000) :
    Calls Tryz.prog 11 #[.pointer (some ⟨c, 0, none⟩), .int .i64 2, .int .i64 1] W (EndL w W c i gone list A A2 bl La Lg) := by
  obtain ⟨kn, hk⟩ := h.kx
  refine (lockK hk 2 (by omega) (by omega) (by omega) (by omega)).mono ?_
  rintro e w' ⟨⟨A', c', n, L', rfl, g1, ⟨base, _, g2⟩, g3, g4⟩, g5, g6⟩
  exact ⟨A', c', n, L', kn, rfl, g1, Rd.of_own g2, g3, g4, _, _, h.stands ⟨kn, g5⟩ g6⟩
theorem EndI.both {w W : World} {c i u lock gone : Nat} {list : List BP} {A A2 : Option Addr} {bl : List UInt8} {La Lg : List BV} (h : EndI w W c u lock gone list i A A2 bl La Lg) (hi : i ≤ 24) (c1 c2 : Nat) :
    Calls Tryz.prog 16 #[.slice A2 i c2, .slice A i c1] W fun e w' => e = .returned (.bool true) ∧ Later W w' :=
  batches_any h.rd2 h.rd h.len2 (by omega) (h.eq2.trans h.eq.symm) (fun x hx => h.ok x (List.mem_append_right _ hx)) (fun x hx => h.ok x (List.mem_append_left _ hx))
theorem brow_drop (L : List BV) (k : Nat) : (brow L).drop (k * 4) = brow (L.drop k) := by
  induction k generalizing L with
  | zero => rw [Nat.zero_mul]; rfl
  | succ k ih =>
    rcases L with _ | ⟨x, L⟩
    · rw [List.drop_nil]; simp [brow]
    · show (encV x ++ brow L).drop _ = brow (L.drop k)
      rw [← ih, show (k + 1) * 4 = (encV x).length + k * 4 by rw [encV_len]; omega, List.drop_append]
      simp
theorem EndI.rest {w W W' : World} {c i u lock gone cut cap : Nat} {list : List BP} {A A2 : Option Addr} {bl : List UInt8} {La Lg : List BV} (h : EndI w W c u lock gone list i A A2 bl La Lg) (hi : i ≤ 24) (hcut : cut ≤ i) (hcap : i ≤ cap) (hlist : list = bcc (tp 7 (bl.take cut)) (bl.drop cut))
    {A' : Option Addr} {n c' c'' : Nat} {L' : List BV} (hn : L'.length = n) (hr : Rd W 4 A' n (brow L')) (hm : L'.map BV.bp = list) (hok : ∀ x ∈ L', BvOk W x) (hl : Later W W') :
    Calls Tryz.prog 16 #[.slice A' n c', .slice (if cap = cut then A else A.map (·.add (cut * 4))) (i - cut) c''] W' fun e w' => e = .returned (.bool true) ∧ Later W' w' := by
  have h2 := (h.later hl).rd.cut (size := 4) hcut hcap
  rw [brow_drop] at h2
  have e : n = i - cut := by
    have := congrArg List.length hm
    rw [List.length_map, hn, hlist, bcc_len, List.length_drop, h.blen] at this
    exact this
  subst e
  exact batches_any (hr.below hl) h2 hn (by omega) (by rw [hm, List.map_drop, h.eq, bcc_drop, hlist]) (fun x hx => (hok x hx).later hl) (fun x hx => (h.later hl).ok x (List.mem_append_left _ (List.mem_of_mem_drop hx)))
theorem EndI.ver {w W : World} {c i u lock gone k : Nat} {list : List BP} {A A2 : Option Addr} {bl : List UInt8} {La Lg : List BV} (h : EndI w W c u lock gone list i A A2 bl La Lg) (hk : k < i) :
    ∃ b o, A = some ⟨b, o, none⟩ ∧ W.cell? ⟨b, o + k * 4 + 1, none⟩ = some (.int .i64 (tp 7 (bl.take (k + 1)) : Nat)) := by
  obtain ⟨x, hx⟩ : ∃ x, La[k]? = some x := ⟨_, List.getElem?_eq_getElem (by rw [h.len]; exact hk)⟩
  obtain ⟨b, o, e, _, h1, _⟩ := h.rd.bat hx
  have h2 : (La.map BV.bp)[k]? = some x.bp := by rw [List.getElem?_map, hx]; rfl
  rw [h.eq] at h2
  have h3 : x.ver = _ := bcc_ver h2
  rw [h3] at h1
  exact ⟨b, o, e, h1⟩
theorem EndI.rest0 {w W W' : World} {c i u lock gone cap : Nat} {A A2 : Option Addr} {bl : List UInt8} {La Lg : List BV} (h : EndI w W c u lock gone (bcc 7 bl) i A A2 bl La Lg) (hi : i ≤ 24) (hcap : i ≤ cap)
    {A' : Option Addr} {n c' : Nat} {L' : List BV} (hn : L'.length = n) (hr : Rd W 4 A' n (brow L')) (hm : L'.map BV.bp = bcc 7 bl) (hok : ∀ x ∈ L', BvOk W x) (hl : Later W W') :
    Calls Tryz.prog 16 #[.slice A' n c', .slice A i cap] W' fun e w' => e = .returned (.bool true) ∧ Later W' w' := by
  have e : n = i := by
    have := congrArg List.length hm
    rw [List.length_map, hn, bcc_len, h.blen] at this
    exact this
  subst e
  exact batches_any (hr.below hl) (h.later hl).rd hn (by omega) (by rw [hm, h.eq]) (fun x hx => (hok x hx).later hl) (fun x hx => (h.later hl).ok x (List.mem_append_left _ hx))
theorem EndI.rest1 {w W W' : World} {c i u lock gone cut cap b o : Nat} {A2 : Option Addr} {bl : List UInt8} {La Lg : List BV} (h : EndI w W c u lock gone (bcc (tp 7 (bl.take cut)) (bl.drop cut)) i (some ⟨b, o, none⟩) A2 bl La Lg) (hi : i ≤ 24) (hcut : cut ≤ i) (hcap : i ≤ cap) (he : cap = cut)
    {A' : Option Addr} {n c' c'' : Nat} {L' : List BV} (hn : L'.length = n) (hr : Rd W 4 A' n (brow L')) (hm : L'.map BV.bp = bcc (tp 7 (bl.take cut)) (bl.drop cut)) (hok : ∀ x ∈ L', BvOk W x) (hl : Later W W') :
    Calls Tryz.prog 16 #[.slice A' n c', .slice (some ⟨b, o, none⟩) (i - cut) c''] W' fun e w' => e = .returned (.bool true) ∧ Later W' w' := by
  have h1 := h.rest hi hcut hcap rfl hn hr hm hok hl (c' := c') (c'' := c'')
  rw [if_pos he] at h1
  exact h1
theorem EndI.rest2 {w W W' : World} {c i u lock gone cut cap b o : Nat} {A2 : Option Addr} {bl : List UInt8} {La Lg : List BV} (h : EndI w W c u lock gone (bcc (tp 7 (bl.take cut)) (bl.drop cut)) i (some ⟨b, o, none⟩) A2 bl La Lg) (hi : i ≤ 24) (hcut : cut ≤ i) (hcap : i ≤ cap) (he : ¬ cap = cut)
    {A' : Option Addr} {n c' c'' : Nat} {L' : List BV} (hn : L'.length = n) (hr : Rd W 4 A' n (brow L')) (hm : L'.map BV.bp = bcc (tp 7 (bl.take cut)) (bl.drop cut)) (hok : ∀ x ∈ L', BvOk W x) (hl : Later W W') :
    Calls Tryz.prog 16 #[.slice A' n c', .slice (some ⟨b, o + cut * 4, none⟩) (i - cut) c''] W' fun e w' => e = .returned (.bool true) ∧ Later W' w' := by
  have h1 := h.rest hi hcut hcap rfl hn hr hm hok hl (c' := c') (c'' := c'')
  rw [if_neg he] at h1
  simp only [Option.map_some] at h1
  have e1 : Addr.add ⟨b, o, none⟩ (cut * 4) = ⟨b, o + cut * 4, none⟩ := by simp [Addr.add]
  rw [e1] at h1
  exact h1
theorem EndI.below {w W : World} {c i u lock gone : Nat} {list : List BP} {A A2 : Option Addr} {bl : List UInt8} {La Lg : List BV} (h : EndI w W c u lock gone list i A A2 bl La Lg) : Later w W := by
  obtain ⟨kn, hk⟩ := h.kx
  exact hk.below

end Go.Proofs.YtlgnnmpfipmjeaaGreat
