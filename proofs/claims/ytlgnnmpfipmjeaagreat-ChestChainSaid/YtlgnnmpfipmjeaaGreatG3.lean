/-
  Texts of this seat in one: Ch11, Ch12, Ch13, Ch14.
-/
import Derived.Test.YtlgnnmpfipmjeaaGreatG2
import Derived.Test.YtlgnnmpfipmjeaaGreatZkZone
/-
  chest: a chest told by what it holds; live, Live, Push.
-/
namespace Go.Proofs.YtlgnnmpfipmjeaaGreat
open Go.RowKit
set_option linter.unusedVariables false
set_option linter.unusedSimpArgs false
/-- What a log holds. -/
structure LB where
  epoch : Nat
  base : Nat
  gone : Nat
  known : Nat
  first : List BP
  list : List BP
def LV.abs (L : LV) : LB := ⟨L.epoch, L.base, L.gone, L.known, L.first.map BV.bp, L.list.map BV.bp⟩
def LB.top (S : LB) : Nat := match S.list.getLast? with
  | some x => x.ver
  | none => S.gone
theorem abs_top (L : LV) : L.abs.top = L.top := by
  unfold LB.top LV.top LV.abs
  simp only [List.getLast?_map]
  cases L.list.getLast? <;> rfl
/-- The blocks that a chest is in. -/
def Kept (c b t : Nat) (v vr : Value) (g p : Nat) (v1 v2 : Value) (L : LV) (k : Nat) : Prop :=
  cFp c b t v vr g p v2 k ∨ v1.ownBlock = some k ∨ ∃ x, (x ∈ L.first ∨ x ∈ L.list) ∧ ∃ a : Addr, x.A = some a ∧ a.block = k
/-- A chest of one log, within the blocks F. -/
def ChS (w : World) (F : Nat → Prop) (c used room lock : Nat) (S : LB) : Prop :=
  ∃ B b t v vr g cap p v1 v2 L, Ch1 w B c b t v vr g cap p v1 v2 used room lock L ∧ (∀ k, Kept c b t v vr g p v1 v2 L k → F k) ∧ B ≤ w.heap.size ∧ L.abs = S
theorem Ch1.kept_lt {w : World} {B c b t : Nat} {v vr : Value} {g cap p : Nat} {v1 v2 : Value} {used room lock : Nat} {L : LV} (h : Ch1 w B c b t v vr g cap p v1 v2 used room lock L) : ∀ k, Kept c b t v vr g p v1 v2 L k → k < w.heap.size := by
  rintro k ((rfl | rfl | hk | hk) | hk | ⟨x, hx, a, ha, rfl⟩)
  · exact theap_lt h.row
  · exact (h.logs.lt _ rfl).2
  · exact (h.book.lt k hk).1
  · rcases hk with rfl | hk
    · exact theap_lt h.log.row
    · exact (h.log.own2.lt _ hk).2
  · exact (h.log.own1.lt _ hk).2
  · rcases hx with hx | hx
    · obtain ⟨cs, fz, h1⟩ := (h.log.ok1 x hx).at_ a ha; exact theap_lt h1
    · obtain ⟨cs, fz, h1⟩ := (h.log.ok2 x hx).at_ a ha; exact theap_lt h1
theorem BvOk.hits' {F : Nat → Prop} {w w' : World} {x : BV} (h : BvOk w x) (hh : Hits F w w') (hn : ∀ a : Addr, x.A = some a → ¬ F a.block) : BvOk w' x :=
  ⟨h.len, hh.rd h.rd hn, fun a ha => by obtain ⟨cs, fz, h1⟩ := h.at_ a ha; exact ⟨cs, fz, hh.row h1 (hn a ha)⟩, h.ok⟩
/-- What turns apart from a chest leaves it. -/
theorem Ch1.hits {G : Nat → Prop} {w w' : World} {B c b t : Nat} {v vr : Value} {g cap p : Nat} {v1 v2 : Value} {used room lock : Nat} {L : LV} (h : Ch1 w B c b t v vr g cap p v1 v2 used room lock L) (hh : Hits G w w') (hn : ∀ k, Kept c b t v vr g p v1 v2 L k → ¬ G k) : Ch1 w' B c b t v vr g cap p v1 v2 used room lock L :=
  ⟨h.base, hh.row h.row (hn c (.inl (.inl rfl))), h.book.hits hh (fun k hk => hn k (.inl (.inr (.inr (.inl hk))))), hh.own h.logs (fun k hk => (Option.some.inj (show some g = some k from hk)) ▸ hn g (.inl (.inr (.inl rfl)))),
    { h.log with
      row := hh.row h.log.row (hn p (.inl (.inr (.inr (.inr (.inl rfl))))))
      own1 := hh.own h.log.own1 (fun k hk => hn k (.inr (.inl hk)))
      own2 := hh.own h.log.own2 (fun k hk => hn k (.inl (.inr (.inr (.inr (.inr hk))))))
      ok1 := fun x hx => (h.log.ok1 x hx).hits' hh (fun a ha => hn a.block (.inr (.inr ⟨x, .inl hx, a, ha, rfl⟩)))
      ok2 := fun x hx => (h.log.ok2 x hx).hits' hh (fun a ha => hn a.block (.inr (.inr ⟨x, .inr hx, a, ha, rfl⟩))) }⟩
theorem ChS.hits {F G : Nat → Prop} {w w' : World} {c used room lock : Nat} {S : LB} (h : ChS w F c used room lock S) (hh : Hits G w w') (hn : ∀ k, F k → k < w.heap.size → ¬ G k) : ChS w' F c used room lock S := by
  obtain ⟨B, b, t, v, vr, g, cap, p, v1, v2, L, h1, h2, h3, h4⟩ := h
  exact ⟨B, b, t, v, vr, g, cap, p, v1, v2, L, h1.hits hh (fun k hk => hn k (h2 k hk) (h1.kept_lt k hk)), h2, Nat.le_trans h3 hh.size, h4⟩
theorem ChS.later {F : Nat → Prop} {w w' : World} {c used room lock : Nat} {S : LB} (h : ChS w F c used room lock S) (hl : Later w w') : ChS w' F c used room lock S := h.hits (Hits.later (F := fun _ => False) hl) (fun _ _ _ h => h)
theorem ChS.mono {F F' : Nat → Prop} {w : World} {c used used' room lock : Nat} {S : LB} (h : ChS w F c used room lock S) (hF : ∀ k, F k → F' k) (hu : used ≤ used') : ChS w F' c used' room lock S := by
  obtain ⟨B, b, t, v, vr, g, cap, p, v1, v2, L, h1, h2, h3, h4⟩ := h
  obtain ⟨g1, g2, ⟨l, sure, g3, g4⟩, nr, xr, g5, g6⟩ := h1.book
  exact ⟨B, b, t, v, vr, g, cap, p, v1, v2, L, ⟨h1.base, h1.row, ⟨g1, g2, ⟨l, sure, g3, by omega⟩, nr, xr, g5, by omega⟩, h1.logs, h1.log⟩, fun k hk => hF k (h2 k hk), h3, h4⟩
/-- New blocks beside those of F. -/
def Grown (w : World) (F F' : Nat → Prop) : Prop := ∀ k, F' k → F k ∨ w.heap.size ≤ k
set_option maxHeartbeats 2000000 in
set_option maxRecDepth 100000 in
theorem live_any {w : World} {B c b t : Nat} {v vr : Value} {g cap p : Nat} {v1 v2 : Value} {used room lock : Nat} {L : LV} (h : Ch1 w B c b t v vr g cap p v1 v2 used room lock L) (he1 : 1 ≤ L.epoch) :
    Calls Tryz.prog 33 #[.pointer (some ⟨c, 0, none⟩), .int .i64 L.epoch] w fun e w' => e = .returned (.tuple (if L.epoch < lock then #[.pointer none, .int .i64 15] else #[.pointer (some ⟨p, 0, none⟩), .int .i64 0])) ∧ w' = w := by
  have HR := hide_ (ready_any (cc := 0) h.b L.epoch he1 (A := none) (L := []) (Rd.nil w 1 none) rfl (by omega))
  have HF := hide_ (find_1 h L.epoch)
  rw [if_pos rfl] at HF
  have c2 := cell_of_row _ _ 2 _ _ (0, 0) h.row
  obtain ⟨ep, hep⟩ : ∃ ep, ep = L.epoch := ⟨_, rfl⟩
  rw [← hep] at HR HF ⊢
  clear h he1 hep
  by_cases hlt : ep < lock
  · rw [if_pos hlt]
    have q1 : (ep : Int) < (lock : Int) := by omega
    go_enter Tryz.func33, Tryz.ntmps33
    go_wp2_with fail
    refine HR.out.mono ?_; rintro e w2 ⟨rfl, rfl⟩
    go_wp2_with fail
    refine HF.out.mono ?_; rintro e w3 ⟨rfl, rfl⟩
    go_wp2_with fail
    go_ret2
    exact ⟨rfl, rfl⟩
  · rw [if_neg hlt]
    have q1 : ¬ (ep : Int) < (lock : Int) := by omega
    go_enter Tryz.func33, Tryz.ntmps33
    go_wp2_with fail
    refine HR.out.mono ?_; rintro e w2 ⟨rfl, rfl⟩
    go_wp2_with fail
    refine HF.out.mono ?_; rintro e w3 ⟨rfl, rfl⟩
    go_wp2_with fail
    go_ret2
    exact ⟨rfl, rfl⟩
set_option maxHeartbeats 2000000 in
set_option maxRecDepth 100000 in
theorem Live_any {w : World} {F : Nat → Prop} {c used room lock : Nat} {S : LB} (h : ChS w F c used room lock S) (he1 : 1 ≤ S.epoch) :
    Calls Tryz.prog 13 #[.pointer (some ⟨c, 0, none⟩), .int .i64 S.epoch] w fun e w' => e = .returned (.int .i64 (if S.epoch < lock then 15 else 0)) ∧ w' = w := by
  obtain ⟨B, b, t, v, vr, g, cap, p, v1, v2, L, h1, h2, h3, h4⟩ := h
  have he : S.epoch = L.epoch := by rw [← h4]; rfl
  rw [he] at he1 ⊢
  have HL := hide_ (live_any h1 he1)
  clear h1 h2 h3 h4 he he1
  obtain ⟨r, hr⟩ : ∃ r, r = (if L.epoch < lock then (15 : Int) else 0) := ⟨_, rfl⟩
  obtain ⟨q, hq⟩ : ∃ q : Value, (if L.epoch < lock then #[Value.pointer none, Value.int .i64 15] else #[.pointer (some ⟨p, 0, none⟩), .int .i64 0]) = #[q, .int .i64 r] := by
    by_cases hlt : L.epoch < lock
    · exact ⟨.pointer none, by rw [hr, if_pos hlt, if_pos hlt]⟩
    · exact ⟨.pointer (some ⟨p, 0, none⟩), by rw [hr, if_neg hlt, if_neg hlt]⟩
  rw [hq] at HL
  rw [← hr]
  clear hr hq
  go_enter Tryz.func13, Tryz.ntmps13
  go_wp2_with fail
  refine HL.out.mono ?_; rintro e w2 ⟨rfl, rfl⟩
  go_wp2_with fail
  go_ret
  exact ⟨rfl, rfl⟩

end Go.Proofs.YtlgnnmpfipmjeaaGreat
/-
  chest: Push of a new batch.
-/
namespace Go.Proofs.YtlgnnmpfipmjeaaGreat
open Go.RowKit
set_option linter.unusedVariables false
set_option linter.unusedSimpArgs false
/-- What is left where a book alone turns. -/
theorem Ch1.setBook {w w' : World} {B c b t : Nat} {v vr v' vr' : Value} {g cap p : Nat} {v1 v2 : Value} {used used' room lock : Nat} {L : LV} (h : Ch1 w B c b t v vr g cap p v1 v2 used room lock L) (hh : Hits (bFp b t v vr) w w') (hb : BookAt w' B b t v' vr' used' room) : Ch1 w' B c b t v' vr' g cap p v1 v2 used' room lock L := by
  have ht : ∀ k (cs : Array Value) ty fz, w.heap[k]? = some (.cells cs ty fz) → (ty = 60 ∨ ty = 72 ∨ ty = 75 ∨ ty = 38) → ¬ bFp b t v vr k := fun k cs ty fz h1 h2 hk => by
    obtain ⟨cs2, ty2, fz2, hc, hty⟩ := h.book.noChg k hk
    rw [h1] at hc; injection hc with hc; injection hc with _ hc
    rcases h2 with e | e | e | e <;> rcases hty with e2 | e2 | e2 | e2 <;> rw [e, e2] at hc <;> exact absurd hc (by decide)
  have ho : ∀ {e : TypeId} {size n : Nat} {u : Value} {xs : List Value}, w.ownsRow B e size u n xs → (e = 60 ∨ e = 72 ∨ e = 75 ∨ e = 38) → ∀ k, u.ownBlock = some k → ¬ bFp b t v vr k := fun ho he k hk => by
    obtain ⟨_, _, cs, hc⟩ := own_block ho hk
    exact ht k _ _ _ hc he
  exact ⟨h.base, hh.row h.row (ht c _ _ _ h.row (.inl rfl)), hb, hh.own h.logs (ho h.logs (.inr (.inl rfl))),
    h.log.hits hh (fun k hk => by
      obtain ⟨cs2, ty2, fz2, hc, hty⟩ := h.book.noChg k hk
      exact ⟨cs2, ty2, fz2, hc, by rcases hty with e | e | e | e <;> rw [e] <;> decide⟩) (ht p _ _ _ h.log.row (.inr (.inr (.inl rfl)))) (ho h.log.own1 (.inr (.inr (.inr rfl)))) (ho h.log.own2 (.inr (.inr (.inr rfl))))⟩
theorem NS.up {w w1 : World} {v v' : Value} (h : NS w1 v v') (hs : w.heap.size ≤ w1.heap.size) : NS w v v' := by
  rcases h with h | ⟨g, h, hg⟩
  · exact .inl h
  · exact .inr ⟨g, h, Nat.le_trans hs hg⟩
/-- What is left of a chest behind put. -/
def PutPost (B c b t : Nat) (v vr : Value) (g cap p : Nat) (v1 v2 : Value) (used room lock' : Nat) (P : LV → Prop) (w w' : World) : Prop :=
  ∃ v' vr' v2' L', P L' ∧ Ch1 w' B c b t v' vr' g cap p v1 v2' used room lock' L' ∧ Hits (cFp c b t v vr g p v2) w w' ∧ NS w v v' ∧ NS w vr vr' ∧ NS w v2 v2'
theorem PutPost.grown {w w' : World} {B c b t : Nat} {v vr : Value} {g cap p : Nat} {v1 v2 : Value} {used used' room lock lock' : Nat} {L : LV} {P : LV → Prop} {F : Nat → Prop} (hp : PutPost B c b t v vr g cap p v1 v2 used' room lock' P w w') (h : Ch1 w B c b t v vr g cap p v1 v2 used room lock L) (hF : ∀ k, Kept c b t v vr g p v1 v2 L k → F k) (hB : B ≤ w.heap.size) {S : LB} (hP : ∀ L', P L' → L'.abs = S) (hN : ∀ L', P L' → ∀ x, (x ∈ L'.first ∨ x ∈ L'.list) → (x ∈ L.first ∨ x ∈ L.list) ∨ ∀ a : Addr, x.A = some a → w.heap.size ≤ a.block) :
    ∃ F', ChS w' F' c used' room lock' S ∧ Hits F w w' ∧ Grown w F F' := by
  obtain ⟨v', vr', v2', L', h1, h2, h3, h4, h5, h6⟩ := hp
  refine ⟨fun k => F k ∨ w.heap.size ≤ k, ⟨B, b, t, v', vr', g, cap, p, v1, v2', L', h2, ?_, Nat.le_trans hB h3.size, hP L' h1⟩, h3.mono (fun k _ hk => hF k (.inl hk)), fun k hk => hk⟩
  have hns : ∀ {u u' : Value}, NS w u u' → (∀ k, u.ownBlock = some k → F k) → ∀ k, u'.ownBlock = some k → F k ∨ w.heap.size ≤ k := fun hn hu k hk => by
    rcases hn with e | ⟨g, e, hg⟩
    · exact .inl (hu k (e ▸ hk))
    · rw [e] at hk; injection hk with hk; exact .inr (by omega)
  rintro k ((rfl | rfl | hk | hk) | hk | ⟨x, hx, a, ha, rfl⟩)
  · exact .inl (hF _ (.inl (.inl rfl)))
  · exact .inl (hF _ (.inl (.inr (.inl rfl))))
  · rcases hk with rfl | rfl | hk | hk
    · exact .inl (hF _ (.inl (.inr (.inr (.inl (.inl rfl))))))
    · exact .inl (hF _ (.inl (.inr (.inr (.inl (.inr (.inl rfl)))))))
    · exact hns h4 (fun k hk => hF k (.inl (.inr (.inr (.inl (.inr (.inr (.inl hk)))))))) k hk
    · exact hns h5 (fun k hk => hF k (.inl (.inr (.inr (.inl (.inr (.inr (.inr hk)))))))) k hk
  · rcases hk with rfl | hk
    · exact .inl (hF _ (.inl (.inr (.inr (.inr (.inl rfl))))))
    · exact hns h6 (fun k hk => hF k (.inl (.inr (.inr (.inr (.inr hk)))))) k hk
  · exact .inl (hF k (.inr (.inl hk)))
  · rcases hN L' h1 x hx with h | h
    · exact .inl (hF _ (.inr (.inr ⟨x, h, a, ha, rfl⟩)))
    · exact .inr (h a ha)

end Go.Proofs.YtlgnnmpfipmjeaaGreat
/-
  chest: Push.
-/
namespace Go.Proofs.YtlgnnmpfipmjeaaGreat
open Go.RowKit
set_option linter.unusedVariables false
set_option linter.unusedSimpArgs false
theorem recH_len {k e n : Nat} (hk : k < 100) (he : e < 1000000000) (hn : n < 1000000000000000) : (recH k e n).length ≤ 27 ∧ 0 < (recH k e n).length := by
  have h1 := putN_len9 (n := k) (by omega); have h2 := putN_len9 (n := e) (by omega); have h3 := putN_len9 (n := n) (by omega); have h4 := putN_pos k
  unfold recH; simp only [List.length_append]; omega
theorem wText1 {b : List UInt8} {s : WS} (h : b.length ≤ 65536) : wTexts [(⟨b.toArray⟩ : ByteArray)] s = (s.1 ++ putT b, s.2) := by
  have e : (⟨b.toArray⟩ : ByteArray).size = b.length := by show b.toArray.size = _; simp
  unfold wTexts; rw [if_neg (by rw [e]; omega)]; unfold wTexts; rfl
set_option maxHeartbeats 8000000 in
set_option maxRecDepth 100000 in
theorem push_new0 {w : World} {B c b t : Nat} {v vr : Value} {g cap p : Nat} {v1 v2 : Value} {used room lock : Nat} {L : LV} (h : Ch1 w B c b t v vr g cap p v1 v2 used room lock L) (hB : B ≤ w.heap.size) (he1 : 1 ≤ L.epoch) (hlk : ¬ L.epoch < lock) {x : BV} (hx : BvOk w x) (hb : BOk x.bp) (hp : x.prev = L.top) (hv : L.top < x.ver) (hroom : L.list.length < 24) (hr : room ≤ 1048576) (hfit : used + 2500 ≤ room) :
    Calls Tryz.prog 12 #[.pointer (some ⟨c, 0, none⟩), .int .i64 L.epoch, .agg #[.int .i64 x.prev, .int .i64 x.ver, .int .i64 x.known, .slice x.A x.n x.c]] w fun e w' => e = .returned (.tuple #[.int .i64 x.ver, .int .i64 0]) ∧
      PutPost B c b t v vr g cap p v1 v2 (used + ((recH 2 L.epoch 0).length + (putT (encB x.bp)).length + 7)) room lock (fun L' => ∃ x' : BV, x'.bp = x.bp ∧ (∀ a : Addr, x'.A = some a → w.heap.size ≤ a.block) ∧ L' = { L with list := L.list ++ [x'], known := max L.known x.known }) w w' := by
  have HH := hide_ h
  have HX := hide_ hx; have HBO := hide_ hb; have HP := hide_ hp; have HV := hide_ hv; have HROOM := hide_ hroom; have HFIT := hide_ hfit; have HRM := hide_ hr
  obtain ⟨W0, hW0⟩ : ∃ W0, W0 = w.alloc (.cells #[.int .i64 x.prev, .int .i64 x.ver, .int .i64 x.known, .slice x.A x.n x.c] 38) := ⟨_, rfl⟩
  have HW := hide_ hW0.symm
  have HL0 := hide_ (show Later w W0 by rw [hW0]; exact later_alloc _ _)
  have hrow : W0.heap[w.heap.size]? = some (.cells #[.int .i64 x.prev, .int .i64 x.ver, .int .i64 x.known, .slice x.A x.n x.c] 38 (0, 0)) := by rw [hW0]; exact heap_alloc_new w _
  have HROW := hide_ hrow
  have HCH0 := hide_ (h.later HL0.out)
  have HLV := hide_ (live_any HCH0.out he1)
  rw [if_neg hlk] at HLV
  have HTXT := hide_ (ctext_any (hx.later HL0.out) hb.len)
  have d0 := cell_of_row _ _ 0 _ _ (0, 0) hrow
  have d1 := cell_of_row _ _ 1 _ _ (0, 0) hrow
  have d2 := cell_of_row _ _ 2 _ _ (0, 0) hrow
  have d3 := cell_of_row _ _ 3 _ _ (0, 0) hrow
  obtain ⟨tp, htp⟩ : ∃ tp, tp = L.top := ⟨_, rfl⟩
  have q1 : ¬ (x.ver : Int) ≤ (tp : Int) := by omega
  have q1n : ¬ x.ver ≤ tp := by omega
  have q2 : (x.prev : Int) = (tp : Int) := by omega
  have hq3 : ((x.prev : Int) != (tp : Int)) = false := by rw [q2]; simp
  have HTP := hide_ htp
  obtain ⟨A2, c2, hv2⟩ := own_form h.log.own2
  subst hv2
  have HE9 := hide_ h.log.e
  obtain ⟨m, hm⟩ : ∃ m, m = L.list.length := ⟨_, rfl⟩
  have q4 : ¬ (24 : Int) ≤ (m : Int) := by omega
  have HM := hide_ hm
  clear h he1 hlk hx hb hp hv hroom hr hfit hW0 hrow q2 htp hm
  go_enter Tryz.func12, Tryz.ntmps12
  go_wp2_with (rw [HW.out])
  refine HLV.out.mono ?_; rintro e w1 ⟨rfl, rfl⟩
  go_wp2_with fail
  refine HTXT.out.mono ?_; rintro e w2 ⟨rfl, hl2⟩
  have HL2 := hide_ (HL0.out.trans hl2)
  have HCH2 := hide_ (HH.out.later HL2.out)
  have hrow2 := later_row hl2 HROW.out
  have hv2' : ∀ W, Later w2.drew W → W.cell? ⟨w.heap.size, 1, none⟩ = some (.int .i64 x.ver) := later_drew_cell (cell_of_row _ _ 1 _ _ (0, 0) hrow2)
  have HROW2 := hide_ hrow2
  have HTOP := hide_ (fun (W : World) (hW : Later w2 W) => top_any (HCH2.out.log.later hW))
  rw [← HTP.out] at HTOP
  clear hl2 hrow2 d0 d1 d2 d3
  go_wp2_with fail
  refine wp_region_k (by kernel_rfl) ?_
  refine wpAnyK_take 0 (v := ?_) rfl (by kernel_rfl) (by kernel_rfl) (by kernel_rfl) (fun _ _ _ h => h) (by rfl) (by intro W hSw; go_simp; with_reducible rfl) ?_; try simp only [Act.put, List.setIfInBounds_toArray, List.set_cons_zero, List.set_cons_succ]
  refine wpAnyK_take 1 (v := ?_) rfl (by kernel_rfl) (by kernel_rfl) (by kernel_rfl) (fun _ _ _ h => h) (by rfl) (by intro W hSw; go_simp; with_reducible rfl) ?_; try simp only [Act.put, List.setIfInBounds_toArray, List.set_cons_zero, List.set_cons_succ]
  refine wpAnyK_take 2 (v := ?_) rfl (by kernel_rfl) (by kernel_rfl) (by kernel_rfl) (fun _ _ _ h => h) (by rfl) (by intro W hSw; go_simp; with_reducible rfl) ?_; try simp only [Act.put, List.setIfInBounds_toArray, List.set_cons_zero, List.set_cons_succ]
  refine wpAnyK_one 3 (by kernel_rfl) rfl (fun K hK => ?_)
  go_simp
  refine (HTOP.out _ (Later.refl _).dr).mono ?_; rintro e w3 ⟨rfl, hw3⟩; subst hw3; have hb3 : Later w2.drew w2.drew := Later.refl _
  refine hK.out _ _ (by assumption) ?_
  clear hK K; try simp only [Act.put, List.setIfInBounds_toArray, List.set_cons_zero, List.set_cons_succ]
  refine wpAnyK_take 4 (v := ?_) rfl (by kernel_rfl) (by kernel_rfl) (by kernel_rfl) (fun _ _ _ h => h) (by rfl) (by intro W hSw; go_simp; with_reducible rfl) ?_; try simp only [Act.put, List.setIfInBounds_toArray, List.set_cons_zero, List.set_cons_succ]
  refine wpAnyK_take 5 (v := ?_) rfl (by kernel_rfl) (by kernel_rfl) (by kernel_rfl) (fun _ _ _ h => h) (by rfl) (by intro W hSw; go_simp; with_reducible rfl) ?_; try simp only [Act.put, List.setIfInBounds_toArray, List.set_cons_zero, List.set_cons_succ]
  refine wpAnyK_done (by kernel_rfl) ?_ _
  have hp2' : ∀ W, Later w2.drew.drew W → W.cell? ⟨w.heap.size, 0, none⟩ = some (.int .i64 x.prev) := fun W hW => later_cell (cell_of_row _ _ 0 _ _ (0, 0) HROW2.out) W (((Later.refl w2).dr.dr).trans hW)
  clear hv2'
  go_wp2_with fail
  refine wp_region_k (by kernel_rfl) ?_
  refine wpAnyK_take 0 (v := ?_) rfl (by kernel_rfl) (by kernel_rfl) (by kernel_rfl) (fun _ _ _ h => h) (by rfl) (by intro W hSw; go_simp; with_reducible rfl) ?_; try simp only [Act.put, List.setIfInBounds_toArray, List.set_cons_zero, List.set_cons_succ]
  refine wpAnyK_take 1 (v := ?_) rfl (by kernel_rfl) (by kernel_rfl) (by kernel_rfl) (fun _ _ _ h => h) (by rfl) (by intro W hSw; go_simp; with_reducible rfl) ?_; try simp only [Act.put, List.setIfInBounds_toArray, List.set_cons_zero, List.set_cons_succ]
  refine wpAnyK_take 2 (v := ?_) rfl (by kernel_rfl) (by kernel_rfl) (by kernel_rfl) (fun _ _ _ h => h) (by rfl) (by intro W hSw; go_simp; with_reducible rfl) ?_; try simp only [Act.put, List.setIfInBounds_toArray, List.set_cons_zero, List.set_cons_succ]
  refine wpAnyK_one 3 (by kernel_rfl) rfl (fun K hK => ?_)
  go_simp
  refine (HTOP.out _ (Later.refl _).dr.dr).mono ?_; rintro e w3 ⟨rfl, hw3⟩; subst hw3; have hb3 : Later w2.drew.drew w2.drew.drew := Later.refl _
  refine hK.out _ _ (by assumption) ?_
  clear hK K; try simp only [Act.put, List.setIfInBounds_toArray, List.set_cons_zero, List.set_cons_succ]
  refine wpAnyK_take 4 (v := ?_) rfl (by kernel_rfl) (by kernel_rfl) (by kernel_rfl) (fun _ _ _ h => h) (by rfl) (by intro W hSw; go_simp; with_reducible rfl) ?_; try simp only [Act.put, List.setIfInBounds_toArray, List.set_cons_zero, List.set_cons_succ]
  refine wpAnyK_take 5 (v := ?_) rfl (by kernel_rfl) (by kernel_rfl) (by kernel_rfl) (fun _ _ _ h => h) (by rfl) (by intro W hSw; go_simp; with_reducible rfl) ?_; try simp only [Act.put, List.setIfInBounds_toArray, List.set_cons_zero, List.set_cons_succ]
  refine wpAnyK_done (by kernel_rfl) ?_ _
  obtain ⟨W3, hW3⟩ : ∃ W3, W3 = w2.drew.drew := ⟨_, rfl⟩
  have hl3 : Later w2 W3 := by rw [hW3]; exact (Later.refl _).dr.dr
  rw [← hW3]
  have HL3 := hide_ (HL2.out.trans hl3)
  have HCH3 := hide_ (HCH2.out.later hl3)
  have HTOP3 := hide_ (fun (W : World) (hW : Later W3 W) => HTOP.out W (hl3.trans hW))
  have hlr := HCH3.out.log.row
  simp only [logRow] at hlr
  have p4 := cell_of_row _ _ 4 _ _ (0, 0) hlr
  rw [← HM.out] at p4
  have HRC := hide_ (record_any W3 2 L.epoch 0 (by omega) (by have := HE9.out; omega) (by omega))
  clear hW3 hl3 hlr hp2' hb3
  go_wp2_with fail
  refine HRC.out.mono ?_; rintro e w4 ⟨rfl, ⟨v4, hw4⟩, hl4⟩
  have HW4 := hide_ hw4
  have HL4 := hide_ (HL3.out.trans hl4)
  have HL34 := hide_ hl4
  clear hw4 hl4
  go_wp2_with fail
  refine (texts_any (HW4.out.later (later_alloc _ _)) (A := some ⟨w4.heap.size, 0, none⟩) (n := 1) (L := [⟨(encB x.bp).toArray⟩]) (by exact Rd.fresh1 rfl) rfl (by omega) (by intro y hy; rw [List.mem_singleton] at hy; subst hy; show (encB x.bp).toArray.size ≤ _; have := HBO.out.len; simp; omega) (by
    intro a ha; injection ha with ha; subst ha
    rintro (hf | hf)
    · have := HW4.out.lt; simp at hf; omega
    · have := (HW4.out.2.2.lt _ hf).2; simp at this) (by have h1 := (recH_len (k := 2) (e := L.epoch) (n := 0) (by omega) HE9.out (by omega)).1; unfold recH at h1; simp only; omega) (by have := HL34.out.size; simp; omega)).mono ?_; rintro e w5 ⟨rfl, hp5⟩
  rw [wText1 (by have := HBO.out.len; omega)] at hp5
  obtain ⟨v5, ht5, hh5, hd5⟩ := hp5
  have HT5 := hide_ (show WrAt w5 W3.heap.size W3.heap.size v5 (recH 2 L.epoch 0 ++ putT (encB x.bp), 0) from ht5)
  have HL5 := hide_ (show Later w w5 from Below.trans (HL4.out.al _) (hh5.below (B := w.heap.size) (by have := HL4.out.size; simp; omega) (by
    have h0 := HL3.out.size
    rintro k (hk | hk)
    · omega
    · have := (HW4.out.2.2.lt _ hk).1; omega)))
  have HCH5 := hide_ (HH.out.later HL5.out)
  have HWS := hide_ (show w.heap.size ≤ W3.heap.size from HL3.out.size)
  clear ht5 hh5 hd5
  obtain ⟨n, hn⟩ : ∃ n, (recH 2 L.epoch 0 ++ putT (encB x.bp)).length = n := ⟨_, rfl⟩
  have hn1 : 0 < n := by rw [← hn, List.length_append]; have := (recH_len (k := 2) (e := L.epoch) (n := 0) (by omega) HE9.out (by omega)).2; omega
  have hn2 : n ≤ 2430 := by
    rw [← hn, List.length_append]; have h1 := (recH_len (k := 2) (e := L.epoch) (n := 0) (by omega) HE9.out (by omega)).1
    have h2 := putT_len (s := encB x.bp) (by have := HBO.out.len; omega); have h3 := HBO.out.len; omega
  have HPUT := hide_ (cput_any HT5.out hn hn1 (by omega) HCH5.out.row HCH5.out.book (by have := HL5.out.size; omega) HRM.out (by have := HFIT.out; omega) (fun k hk hf => by
      have h1 := (HT5.out.2.2.lt _ hk).1; have h2 := (HH.out.book.lt k hf).1; have := HWS.out; omega)
    (PutPost B c b t v vr g cap p v1 (.slice A2 L.list.length c2) (used + n + 7) room lock (fun L' => ∃ x' : BV, x'.bp = x.bp ∧ (∀ a : Addr, x'.A = some a → w.heap.size ≤ a.block) ∧ L' = { L with list := L.list ++ [x'], known := max L.known x.known }) w)
    (fun w2 v' vr' a rc hbk hh hns1 hns2 hrd hrc1 hrc2 hty => by
      have hch := HCH5.out.setBook hh hbk
      refine (do_pushed hch (by have := hh.size; have := HL5.out.size; omega) HBO.out.ok HBO.out.len HROOM.out HBO.out.k HBO.out.v hrd hn hrc1 hrc2 hty).mono ?_
      rintro e w' ⟨rfl, v2', x', hxb, hna, hch', hhl, hns⟩
      refine ⟨rfl, v', vr', v2', _, ⟨x', hxb, fun a ha => Nat.le_trans (Nat.le_trans HL5.out.size hh.size) (hna a ha), rfl⟩, hch', ?_, hns1.up HL5.out.size, hns2.up HL5.out.size, hns.up (Nat.le_trans HL5.out.size hh.size)⟩
      exact (((Hits.later (F := cFp c b t v vr g p (.slice A2 L.list.length c2)) HL5.out).trans hh (fun k _ h => .inr (.inr (.inl h))))).trans hhl (fun k _ h => .inr (.inr (.inr h)))))
  have HN := hide_ (show n = (recH 2 L.epoch 0).length + (putT (encB x.bp)).length by rw [← hn, List.length_append])
  clear hn hn1 hn2 p4
  go_wp2_with fail
  refine HPUT.out.mono ?_; rintro e w6 ⟨rfl, hpp⟩
  have HPP := hide_ hpp
  obtain ⟨v', vr', v2', L', ⟨x', hxb, hna, hL'⟩, hch', _⟩ := hpp
  have HTF := hide_ (top_any hch'.log)
  have htop' : L'.top = x.ver := by
    rw [hL']; unfold LV.top
    simp only [List.getLast?_append, List.getLast?_singleton, Option.some_or]
    exact congrArg BP.ver hxb
  rw [htop'] at HTF
  clear hxb hna hL' hch' htop' HTOP HTOP3
  go_wp2_with fail
  refine HTF.out.mono ?_; rintro e w7 ⟨rfl, rfl⟩
  go_wp2_with fail
  go_ret2
  exact ⟨rfl, by rw [← HN.out]; exact HPP.out⟩

end Go.Proofs.YtlgnnmpfipmjeaaGreat
/-
  chest: Push of what is there, of what finds no room, behind a lock.
-/
namespace Go.Proofs.YtlgnnmpfipmjeaaGreat
open Go.RowKit
set_option linter.unusedVariables false
set_option linter.unusedSimpArgs false
set_option maxHeartbeats 8000000 in
set_option maxRecDepth 100000 in
theorem push_old0 {w : World} {B c b t : Nat} {v vr : Value} {g cap p : Nat} {v1 v2 : Value} {used room lock : Nat} {L : LV} (h : Ch1 w B c b t v vr g cap p v1 v2 used room lock L) (he1 : 1 ≤ L.epoch) (hlk : ¬ L.epoch < lock) {x : BV} (hx : BvOk w x) (hb : BOk x.bp) (hv : x.ver ≤ L.top) :
    Calls Tryz.prog 12 #[.pointer (some ⟨c, 0, none⟩), .int .i64 L.epoch, .agg #[.int .i64 x.prev, .int .i64 x.ver, .int .i64 x.known, .slice x.A x.n x.c]] w fun e w' => e = .returned (.tuple #[.int .i64 L.top, .int .i64 0]) ∧ Later w w' := by
  have HH := hide_ h
  have HX := hide_ hx; have HBO := hide_ hb
  obtain ⟨W0, hW0⟩ : ∃ W0, W0 = w.alloc (.cells #[.int .i64 x.prev, .int .i64 x.ver, .int .i64 x.known, .slice x.A x.n x.c] 38) := ⟨_, rfl⟩
  have HW := hide_ hW0.symm
  have HL0 := hide_ (show Later w W0 by rw [hW0]; exact later_alloc _ _)
  have hrow : W0.heap[w.heap.size]? = some (.cells #[.int .i64 x.prev, .int .i64 x.ver, .int .i64 x.known, .slice x.A x.n x.c] 38 (0, 0)) := by rw [hW0]; exact heap_alloc_new w _
  have HROW := hide_ hrow
  have HCH0 := hide_ (h.later HL0.out)
  have HLV := hide_ (live_any HCH0.out he1)
  rw [if_neg hlk] at HLV
  have HTXT := hide_ (ctext_any (hx.later HL0.out) hb.len)
  have d0 := cell_of_row _ _ 0 _ _ (0, 0) hrow
  have d1 := cell_of_row _ _ 1 _ _ (0, 0) hrow
  have d2 := cell_of_row _ _ 2 _ _ (0, 0) hrow
  have d3 := cell_of_row _ _ 3 _ _ (0, 0) hrow
  obtain ⟨tp, htp⟩ : ∃ tp, tp = L.top := ⟨_, rfl⟩
  have q1 : (x.ver : Int) ≤ (tp : Int) := by omega
  have q1n : x.ver ≤ tp := by omega
  rw [← htp]
  have HTP := hide_ htp
  obtain ⟨A2, c2, hv2⟩ := own_form h.log.own2
  subst hv2
  have HE9 := hide_ h.log.e
  clear h he1 hlk hx hb hv hW0 hrow htp
  go_enter Tryz.func12, Tryz.ntmps12
  go_wp2_with (rw [HW.out])
  refine HLV.out.mono ?_; rintro e w1 ⟨rfl, rfl⟩
  go_wp2_with fail
  refine HTXT.out.mono ?_; rintro e w2 ⟨rfl, hl2⟩
  have HL2 := hide_ (HL0.out.trans hl2)
  have HCH2 := hide_ (HH.out.later HL2.out)
  have hrow2 := later_row hl2 HROW.out
  have hv2' : ∀ W, Later w2.drew W → W.cell? ⟨w.heap.size, 1, none⟩ = some (.int .i64 x.ver) := later_drew_cell (cell_of_row _ _ 1 _ _ (0, 0) hrow2)
  have HROW2 := hide_ hrow2
  have HTOP := hide_ (fun (W : World) (hW : Later w2 W) => top_any (HCH2.out.log.later hW))
  rw [← HTP.out] at HTOP
  clear hl2 hrow2 d0 d1 d2 d3
  go_wp2_with fail
  refine wp_region_k (by kernel_rfl) ?_
  refine wpAnyK_take 0 (v := ?_) rfl (by kernel_rfl) (by kernel_rfl) (by kernel_rfl) (fun _ _ _ h => h) (by rfl) (by intro W hSw; go_simp; with_reducible rfl) ?_; try simp only [Act.put, List.setIfInBounds_toArray, List.set_cons_zero, List.set_cons_succ]
  refine wpAnyK_take 1 (v := ?_) rfl (by kernel_rfl) (by kernel_rfl) (by kernel_rfl) (fun _ _ _ h => h) (by rfl) (by intro W hSw; go_simp; with_reducible rfl) ?_; try simp only [Act.put, List.setIfInBounds_toArray, List.set_cons_zero, List.set_cons_succ]
  refine wpAnyK_take 2 (v := ?_) rfl (by kernel_rfl) (by kernel_rfl) (by kernel_rfl) (fun _ _ _ h => h) (by rfl) (by intro W hSw; go_simp; with_reducible rfl) ?_; try simp only [Act.put, List.setIfInBounds_toArray, List.set_cons_zero, List.set_cons_succ]
  refine wpAnyK_one 3 (by kernel_rfl) rfl (fun K hK => ?_)
  go_simp
  refine (HTOP.out _ (Later.refl _).dr).mono ?_; rintro e w3 ⟨rfl, hw3⟩; subst hw3; have hb3 : Later w2.drew w2.drew := Later.refl _
  refine hK.out _ _ (by assumption) ?_
  clear hK K; try simp only [Act.put, List.setIfInBounds_toArray, List.set_cons_zero, List.set_cons_succ]
  refine wpAnyK_take 4 (v := ?_) rfl (by kernel_rfl) (by kernel_rfl) (by kernel_rfl) (fun _ _ _ h => h) (by rfl) (by intro W hSw; go_simp; with_reducible rfl) ?_; try simp only [Act.put, List.setIfInBounds_toArray, List.set_cons_zero, List.set_cons_succ]
  refine wpAnyK_take 5 (v := ?_) rfl (by kernel_rfl) (by kernel_rfl) (by kernel_rfl) (fun _ _ _ h => h) (by rfl) (by intro W hSw; go_simp; with_reducible rfl) ?_; try simp only [Act.put, List.setIfInBounds_toArray, List.set_cons_zero, List.set_cons_succ]
  refine wpAnyK_done (by kernel_rfl) ?_ _
  have HT2 := hide_ (HTOP.out _ (Later.refl _).dr)
  have HF := hide_ (HL2.out.dr)
  clear hv2' hb3
  go_wp2_with fail
  refine HT2.out.mono ?_; rintro e w3 ⟨rfl, rfl⟩
  go_wp2_with fail
  go_ret2
  exact ⟨rfl, HF.out⟩
set_option maxHeartbeats 8000000 in
set_option maxRecDepth 100000 in
theorem push_full0 {w : World} {B c b t : Nat} {v vr : Value} {g cap p : Nat} {v1 v2 : Value} {used room lock : Nat} {L : LV} (h : Ch1 w B c b t v vr g cap p v1 v2 used room lock L) (he1 : 1 ≤ L.epoch) (hlk : ¬ L.epoch < lock) {x : BV} (hx : BvOk w x) (hb : BOk x.bp) (hp : x.prev = L.top) (hv : L.top < x.ver) (hroom : ¬ L.list.length < 24) :
    Calls Tryz.prog 12 #[.pointer (some ⟨c, 0, none⟩), .int .i64 L.epoch, .agg #[.int .i64 x.prev, .int .i64 x.ver, .int .i64 x.known, .slice x.A x.n x.c]] w fun e w' => e = .returned (.tuple #[.int .i64 0, .int .i64 10]) ∧ Later w w' := by
  have HH := hide_ h
  have HX := hide_ hx; have HBO := hide_ hb
  obtain ⟨W0, hW0⟩ : ∃ W0, W0 = w.alloc (.cells #[.int .i64 x.prev, .int .i64 x.ver, .int .i64 x.known, .slice x.A x.n x.c] 38) := ⟨_, rfl⟩
  have HW := hide_ hW0.symm
  have HL0 := hide_ (show Later w W0 by rw [hW0]; exact later_alloc _ _)
  have hrow : W0.heap[w.heap.size]? = some (.cells #[.int .i64 x.prev, .int .i64 x.ver, .int .i64 x.known, .slice x.A x.n x.c] 38 (0, 0)) := by rw [hW0]; exact heap_alloc_new w _
  have HROW := hide_ hrow
  have HCH0 := hide_ (h.later HL0.out)
  have HLV := hide_ (live_any HCH0.out he1)
  rw [if_neg hlk] at HLV
  have HTXT := hide_ (ctext_any (hx.later HL0.out) hb.len)
  have d0 := cell_of_row _ _ 0 _ _ (0, 0) hrow
  have d1 := cell_of_row _ _ 1 _ _ (0, 0) hrow
  have d2 := cell_of_row _ _ 2 _ _ (0, 0) hrow
  have d3 := cell_of_row _ _ 3 _ _ (0, 0) hrow
  obtain ⟨tp, htp⟩ : ∃ tp, tp = L.top := ⟨_, rfl⟩
  have q1 : ¬ (x.ver : Int) ≤ (tp : Int) := by omega
  have q1n : ¬ x.ver ≤ tp := by omega
  have q2 : (x.prev : Int) = (tp : Int) := by omega
  have hq3 : ((x.prev : Int) != (tp : Int)) = false := by rw [q2]; simp
  have HTP := hide_ htp
  obtain ⟨A2, c2, hv2⟩ := own_form h.log.own2
  subst hv2
  have HE9 := hide_ h.log.e
  obtain ⟨m, hm⟩ : ∃ m, m = L.list.length := ⟨_, rfl⟩
  have q4 : (24 : Int) ≤ (m : Int) := by omega
  have HM := hide_ hm
  clear h he1 hlk hx hb hp hv hroom hW0 hrow q2 htp hm
  go_enter Tryz.func12, Tryz.ntmps12
  go_wp2_with (rw [HW.out])
  refine HLV.out.mono ?_; rintro e w1 ⟨rfl, rfl⟩
  go_wp2_with fail
  refine HTXT.out.mono ?_; rintro e w2 ⟨rfl, hl2⟩
  have HL2 := hide_ (HL0.out.trans hl2)
  have HCH2 := hide_ (HH.out.later HL2.out)
  have hrow2 := later_row hl2 HROW.out
  have hv2' : ∀ W, Later w2.drew W → W.cell? ⟨w.heap.size, 1, none⟩ = some (.int .i64 x.ver) := later_drew_cell (cell_of_row _ _ 1 _ _ (0, 0) hrow2)
  have HROW2 := hide_ hrow2
  have HTOP := hide_ (fun (W : World) (hW : Later w2 W) => top_any (HCH2.out.log.later hW))
  rw [← HTP.out] at HTOP
  clear hl2 hrow2 d0 d1 d2 d3
  go_wp2_with fail
  refine wp_region_k (by kernel_rfl) ?_
  refine wpAnyK_take 0 (v := ?_) rfl (by kernel_rfl) (by kernel_rfl) (by kernel_rfl) (fun _ _ _ h => h) (by rfl) (by intro W hSw; go_simp; with_reducible rfl) ?_; try simp only [Act.put, List.setIfInBounds_toArray, List.set_cons_zero, List.set_cons_succ]
  refine wpAnyK_take 1 (v := ?_) rfl (by kernel_rfl) (by kernel_rfl) (by kernel_rfl) (fun _ _ _ h => h) (by rfl) (by intro W hSw; go_simp; with_reducible rfl) ?_; try simp only [Act.put, List.setIfInBounds_toArray, List.set_cons_zero, List.set_cons_succ]
  refine wpAnyK_take 2 (v := ?_) rfl (by kernel_rfl) (by kernel_rfl) (by kernel_rfl) (fun _ _ _ h => h) (by rfl) (by intro W hSw; go_simp; with_reducible rfl) ?_; try simp only [Act.put, List.setIfInBounds_toArray, List.set_cons_zero, List.set_cons_succ]
  refine wpAnyK_one 3 (by kernel_rfl) rfl (fun K hK => ?_)
  go_simp
  refine (HTOP.out _ (Later.refl _).dr).mono ?_; rintro e w3 ⟨rfl, hw3⟩; subst hw3; have hb3 : Later w2.drew w2.drew := Later.refl _
  refine hK.out _ _ (by assumption) ?_
  clear hK K; try simp only [Act.put, List.setIfInBounds_toArray, List.set_cons_zero, List.set_cons_succ]
  refine wpAnyK_take 4 (v := ?_) rfl (by kernel_rfl) (by kernel_rfl) (by kernel_rfl) (fun _ _ _ h => h) (by rfl) (by intro W hSw; go_simp; with_reducible rfl) ?_; try simp only [Act.put, List.setIfInBounds_toArray, List.set_cons_zero, List.set_cons_succ]
  refine wpAnyK_take 5 (v := ?_) rfl (by kernel_rfl) (by kernel_rfl) (by kernel_rfl) (fun _ _ _ h => h) (by rfl) (by intro W hSw; go_simp; with_reducible rfl) ?_; try simp only [Act.put, List.setIfInBounds_toArray, List.set_cons_zero, List.set_cons_succ]
  refine wpAnyK_done (by kernel_rfl) ?_ _
  have hp2' : ∀ W, Later w2.drew.drew W → W.cell? ⟨w.heap.size, 0, none⟩ = some (.int .i64 x.prev) := fun W hW => later_cell (cell_of_row _ _ 0 _ _ (0, 0) HROW2.out) W (((Later.refl w2).dr.dr).trans hW)
  clear hv2'
  go_wp2_with fail
  refine wp_region_k (by kernel_rfl) ?_
  refine wpAnyK_take 0 (v := ?_) rfl (by kernel_rfl) (by kernel_rfl) (by kernel_rfl) (fun _ _ _ h => h) (by rfl) (by intro W hSw; go_simp; with_reducible rfl) ?_; try simp only [Act.put, List.setIfInBounds_toArray, List.set_cons_zero, List.set_cons_succ]
  refine wpAnyK_take 1 (v := ?_) rfl (by kernel_rfl) (by kernel_rfl) (by kernel_rfl) (fun _ _ _ h => h) (by rfl) (by intro W hSw; go_simp; with_reducible rfl) ?_; try simp only [Act.put, List.setIfInBounds_toArray, List.set_cons_zero, List.set_cons_succ]
  refine wpAnyK_take 2 (v := ?_) rfl (by kernel_rfl) (by kernel_rfl) (by kernel_rfl) (fun _ _ _ h => h) (by rfl) (by intro W hSw; go_simp; with_reducible rfl) ?_; try simp only [Act.put, List.setIfInBounds_toArray, List.set_cons_zero, List.set_cons_succ]
  refine wpAnyK_one 3 (by kernel_rfl) rfl (fun K hK => ?_)
  go_simp
  refine (HTOP.out _ (Later.refl _).dr.dr).mono ?_; rintro e w3 ⟨rfl, hw3⟩; subst hw3; have hb3 : Later w2.drew.drew w2.drew.drew := Later.refl _
  refine hK.out _ _ (by assumption) ?_
  clear hK K; try simp only [Act.put, List.setIfInBounds_toArray, List.set_cons_zero, List.set_cons_succ]
  refine wpAnyK_take 4 (v := ?_) rfl (by kernel_rfl) (by kernel_rfl) (by kernel_rfl) (fun _ _ _ h => h) (by rfl) (by intro W hSw; go_simp; with_reducible rfl) ?_; try simp only [Act.put, List.setIfInBounds_toArray, List.set_cons_zero, List.set_cons_succ]
  refine wpAnyK_take 5 (v := ?_) rfl (by kernel_rfl) (by kernel_rfl) (by kernel_rfl) (fun _ _ _ h => h) (by rfl) (by intro W hSw; go_simp; with_reducible rfl) ?_; try simp only [Act.put, List.setIfInBounds_toArray, List.set_cons_zero, List.set_cons_succ]
  refine wpAnyK_done (by kernel_rfl) ?_ _
  obtain ⟨W3, hW3⟩ : ∃ W3, W3 = w2.drew.drew := ⟨_, rfl⟩
  have hl3 : Later w2 W3 := by rw [hW3]; exact (Later.refl _).dr.dr
  rw [← hW3]
  have HL3 := hide_ (HL2.out.trans hl3)
  have HCH3 := hide_ (HCH2.out.later hl3)
  have hlr := HCH3.out.log.row
  simp only [logRow] at hlr
  have p4 := cell_of_row _ _ 4 _ _ (0, 0) hlr
  rw [← HM.out] at p4
  clear hW3 hl3 hlr hp2' hb3
  go_wp2_with fail
  go_ret2
  exact ⟨rfl, HL3.out⟩
set_option maxHeartbeats 4000000 in
set_option maxRecDepth 100000 in
theorem push_locked0 {w : World} {B c b t : Nat} {v vr : Value} {g cap p : Nat} {v1 v2 : Value} {used room lock : Nat} {L : LV} (h : Ch1 w B c b t v vr g cap p v1 v2 used room lock L) (he1 : 1 ≤ L.epoch) (hlk : L.epoch < lock) (x : BV) :
    Calls Tryz.prog 12 #[.pointer (some ⟨c, 0, none⟩), .int .i64 L.epoch, .agg #[.int .i64 x.prev, .int .i64 x.ver, .int .i64 x.known, .slice x.A x.n x.c]] w fun e w' => e = .returned (.tuple #[.int .i64 0, .int .i64 15]) ∧ Later w w' := by
  obtain ⟨W0, hW0⟩ : ∃ W0, W0 = w.alloc (.cells #[.int .i64 x.prev, .int .i64 x.ver, .int .i64 x.known, .slice x.A x.n x.c] 38) := ⟨_, rfl⟩
  have HW := hide_ hW0.symm
  have HL0 := hide_ (show Later w W0 by rw [hW0]; exact later_alloc _ _)
  have HLV := hide_ (live_any (h.later HL0.out) he1)
  rw [if_pos hlk] at HLV
  clear h he1 hlk hW0
  go_enter Tryz.func12, Tryz.ntmps12
  go_wp2_with (rw [HW.out])
  refine HLV.out.mono ?_; rintro e w1 ⟨rfl, rfl⟩
  go_wp2_with fail
  go_ret2
  exact ⟨rfl, HL0.out⟩
/-- The same, told by what a chest holds. -/
theorem push_new {w : World} {F : Nat → Prop} {c used room lock : Nat} {S : LB} (h : ChS w F c used room lock S) (he1 : 1 ≤ S.epoch) (hlk : ¬ S.epoch < lock) {x : BV} (hx : BvOk w x) (hb : BOk x.bp) (hp : x.prev = S.top) (hv : S.top < x.ver) (hroom : S.list.length < 24) (hr : room ≤ 1048576) (hfit : used + 2500 ≤ room) :
    Calls Tryz.prog 12 #[.pointer (some ⟨c, 0, none⟩), .int .i64 S.epoch, .agg #[.int .i64 x.prev, .int .i64 x.ver, .int .i64 x.known, .slice x.A x.n x.c]] w fun e w' => e = .returned (.tuple #[.int .i64 x.ver, .int .i64 0]) ∧ ∃ F', ChS w' F' c (used + 2500) room lock { S with list := S.list ++ [x.bp], known := max S.known x.known } ∧ Hits F w w' ∧ Grown w F F' := by
  obtain ⟨B, b, t, v, vr, g, cap, p, v1, v2, L, h1, h2, h3, h4⟩ := h
  subst h4
  rw [abs_top] at hp hv
  refine (push_new0 h1 h3 he1 hlk hx hb hp hv (by simpa [LV.abs] using hroom) hr hfit).mono ?_
  rintro e w' ⟨rfl, hpp⟩
  obtain ⟨F', g1, g2, g3⟩ := hpp.grown h1 h2 h3 (S := { L.abs with list := L.abs.list ++ [x.bp], known := max L.abs.known x.known }) (fun L' ⟨x', e1, e2, e3⟩ => by subst e3; simp [LV.abs, e1]) (fun L' ⟨x', e1, e2, e3⟩ y hy => by
    subst e3
    rcases hy with hy | hy
    · exact .inl (.inl hy)
    · rcases List.mem_append.1 hy with hy | hy
      · exact .inl (.inr hy)
      · rw [List.mem_singleton] at hy; subst hy; exact .inr e2)
  have hlen : (recH 2 L.epoch 0).length + (putT (encB x.bp)).length + 7 ≤ 2500 := by
    have h1 := (recH_len (k := 2) (e := L.epoch) (n := 0) (by omega) h1.log.e (by omega)).1
    have h2 := putT_len (s := encB x.bp) (by have := hb.len; omega); have h3 := hb.len; omega
  exact ⟨rfl, F', g1.mono (fun _ h => h) (by omega), g2, g3⟩
theorem push_old {w : World} {F : Nat → Prop} {c used room lock : Nat} {S : LB} (h : ChS w F c used room lock S) (he1 : 1 ≤ S.epoch) (hlk : ¬ S.epoch < lock) {x : BV} (hx : BvOk w x) (hb : BOk x.bp) (hv : x.ver ≤ S.top) :
    Calls Tryz.prog 12 #[.pointer (some ⟨c, 0, none⟩), .int .i64 S.epoch, .agg #[.int .i64 x.prev, .int .i64 x.ver, .int .i64 x.known, .slice x.A x.n x.c]] w fun e w' => e = .returned (.tuple #[.int .i64 S.top, .int .i64 0]) ∧ Later w w' := by
  obtain ⟨B, b, t, v, vr, g, cap, p, v1, v2, L, h1, h2, h3, h4⟩ := h
  subst h4
  rw [abs_top] at hv ⊢
  exact push_old0 h1 he1 hlk hx hb hv
theorem push_full {w : World} {F : Nat → Prop} {c used room lock : Nat} {S : LB} (h : ChS w F c used room lock S) (he1 : 1 ≤ S.epoch) (hlk : ¬ S.epoch < lock) {x : BV} (hx : BvOk w x) (hb : BOk x.bp) (hp : x.prev = S.top) (hv : S.top < x.ver) (hroom : ¬ S.list.length < 24) :
    Calls Tryz.prog 12 #[.pointer (some ⟨c, 0, none⟩), .int .i64 S.epoch, .agg #[.int .i64 x.prev, .int .i64 x.ver, .int .i64 x.known, .slice x.A x.n x.c]] w fun e w' => e = .returned (.tuple #[.int .i64 0, .int .i64 10]) ∧ Later w w' := by
  obtain ⟨B, b, t, v, vr, g, cap, p, v1, v2, L, h1, h2, h3, h4⟩ := h
  subst h4
  rw [abs_top] at hp hv
  exact push_full0 h1 he1 hlk hx hb hp hv (by simpa [LV.abs] using hroom)
theorem push_locked {w : World} {F : Nat → Prop} {c used room lock : Nat} {S : LB} (h : ChS w F c used room lock S) (he1 : 1 ≤ S.epoch) (hlk : S.epoch < lock) (x : BV) :
    Calls Tryz.prog 12 #[.pointer (some ⟨c, 0, none⟩), .int .i64 S.epoch, .agg #[.int .i64 x.prev, .int .i64 x.ver, .int .i64 x.known, .slice x.A x.n x.c]] w fun e w' => e = .returned (.tuple #[.int .i64 0, .int .i64 15]) ∧ Later w w' := by
  obtain ⟨B, b, t, v, vr, g, cap, p, v1, v2, L, h1, h2, h3, h4⟩ := h
  subst h4
  exact push_locked0 h1 he1 hlk x

end Go.Proofs.YtlgnnmpfipmjeaaGreat
