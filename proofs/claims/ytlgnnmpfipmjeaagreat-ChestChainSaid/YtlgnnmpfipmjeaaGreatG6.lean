/-
  Texts of this seat in one: Ch22, Ch23, ChAw.
-/
import Derived.Test.YtlgnnmpfipmjeaaGreatG5
import Derived.Test.YtlgnnmpfipmjeaaGreatZkZone
/-
  chest: Open of an empty tape; the first log is laid; another one.
-/
namespace Go.Proofs.YtlgnnmpfipmjeaaGreat
open Go.RowKit
set_option linter.unusedVariables false
set_option linter.unusedSimpArgs false
set_option maxHeartbeats 2000000 in
set_option maxRecDepth 100000 in
theorem copen_any {w : World} {B t room : Nat} (hB : B ≤ w.heap.size) (h : TapeAt w B t (.slice none 0 0) [] 0 room) :
    Calls Tryz.prog 8 #[.pointer (some ⟨t, 0, none⟩)] w fun e w' => ∃ c b, e = .returned (.tuple #[.pointer (some ⟨c, 0, none⟩), .int .i64 0]) ∧ Ch0 w' B c b t (.slice none 0 0) (.slice none 0 0) 0 room 0 ∧ w.heap.size ≤ c ∧ w.heap.size ≤ b ∧ Later w w' := by
  have HO := hide_ (bopen_any hB h)
  clear h
  go_enter Tryz.func8, Tryz.ntmps8
  go_wp2_with fail
  refine HO.out.mono ?_; rintro e w1 ⟨rfl, hbk, hl1⟩
  have HBK := hide_ hbk; have HL1 := hide_ hl1
  obtain ⟨W2, hW2⟩ : ∃ W2, W2 = w1.alloc (.cells #[.pointer (some ⟨w.heap.size, 0, none⟩), .slice none 0 0, .int .i64 0] 60) := ⟨_, rfl⟩
  have HW2 := hide_ hW2.symm
  have hl2 : Later w1 W2 := by rw [hW2]; exact later_alloc _ _
  have HROW := hide_ (show W2.heap[w1.heap.size]? = some (.cells #[.pointer (some ⟨w.heap.size, 0, none⟩), .slice none 0 0, .int .i64 0] 60 (0, 0)) by rw [hW2]; exact heap_alloc_new w1 _)
  have HBK2 := hide_ (hbk.later hl2)
  have HRC := hide_ (brecords_nil HBK2.out)
  have HL2 := hide_ (hl1.trans hl2)
  clear hbk hl1 hW2 hl2
  go_wp2_with (rw [HW2.out])
  refine HRC.out.mono ?_; rintro e w3 ⟨rfl, rfl⟩
  go_wp2_with fail
  go_loopw [23] (fun s wr => s = .int .i64 0 ∧ Hid (wr = w3)) (fun _ _ => 0)
  case atStart => exact ⟨rfl, hide_ rfl⟩
  case round =>
    obtain ⟨rfl, HW⟩ := hrel
    obtain rfl := HW.out
    go_wp2_with fail
    go_ret2
    exact ⟨w1.heap.size, rfl, w.heap.size, ⟨Nat.le_trans hB HL1.out.size, HROW.out, HBK2.out⟩, HL1.out.size, Nat.le_refl _, HL2.out⟩
theorem LogAt.mono {w : World} {B B' p : Nat} {v1 v2 : Value} {L : LV} (h : LogAt w B p v1 v2 L) (hB : B' ≤ B) : LogAt w B' p v1 v2 L :=
  { h with base := Nat.le_trans hB h.base, own1 := own_base h.own1 hB, own2 := own_base h.own2 hB }
theorem BookAt.apartC {w : World} {B b t : Nat} {v vr : Value} {used room : Nat} (h : BookAt w B b t v vr used room) {c : Nat} {cs : Array Value} {fz : Nat × Nat} (hc : w.heap[c]? = some (.cells cs 60 fz)) : ¬ bFp b t v vr c := fun hk => by
  obtain ⟨cs2, ty2, fz2, hc2, hty⟩ := h.noChg c hk
  rw [hc] at hc2; injection hc2 with hc2; injection hc2 with _ hc2
  rcases hty with e | e | e | e <;> rw [e] at hc2 <;> exact absurd hc2 (by decide)
theorem recB_eq {L : List BV} {n : Nat} (hl : L.length = n) : putN n ++ (L.map BV.bp).flatMap encT = recB (L.map BV.bp) := by unfold recB; rw [List.length_map, hl]; rfl
set_option maxHeartbeats 4000000 in
theorem lay_first {w : World} {B c b t : Nat} {v vr : Value} {used room lock : Nat} (h : Ch0 w B c b t v vr used room lock) {F : Nat → Prop} (hF : ∀ k, (k = c ∨ bFp b t v vr k) → F k) (hB : B ≤ w.heap.size) (hroom : room ≤ 1048576) {epoch base : Nat} (he1 : 1 ≤ epoch) (he9 : epoch < 1000000000) (hb : base < 1000000000000000) (hlk : ¬ epoch < lock) {A : Option Addr} {n cc : Nat} {L : List BV} (hr : Rd w 4 A n (brow L)) (hl : L.length = n) (hn : n ≤ 24) (hok : ∀ x ∈ L, BvOk w x ∧ BOk x.bp) (hch : Chain base (L.map BV.bp)) (hfit : used + (n * 2403 + 60) ≤ room) :
    Calls Tryz.prog 10 #[.pointer (some ⟨c, 0, none⟩), .int .i64 epoch, .int .i64 base, .slice A n cc] w fun e w' => e = .returned (.int .i64 0) ∧ ∃ F', ChS w' F' c (used + (n * 2403 + 60)) room lock ⟨epoch, base, base, kmax (L.map BV.bp), L.map BV.bp, L.map BV.bp⟩ ∧ Hits F w w' ∧ Grown w F F' := by
  refine lay_new0 h.b he1 he9 hb hlk hr hl hn hok hch (fun W hW => find_0 (h.b.later hW) epoch) _ (fun W pw vp hW hwr => ?_)
  have hchW := h.later hW
  obtain ⟨m, hm⟩ : ∃ m, (recH 1 epoch base ++ (putN n ++ (L.map BV.bp).flatMap encT)).length = m := ⟨_, rfl⟩
  have h1 := recH_len (k := 1) (e := epoch) (n := base) (by omega) he9 hb
  have h2 := putN_len3 (n := n) (by omega)
  have h3 := encT_len (L := L.map BV.bp) (fun y hy => by obtain ⟨z, hz, rfl⟩ := List.mem_map.1 hy; exact (hok z hz).2)
  rw [List.length_map, hl] at h3
  have hm2 : 0 < m ∧ m ≤ n * 2403 + 30 := by rw [← hm, List.length_append, List.length_append]; omega
  refine cput_any hwr hm hm2.1 (by omega) hchW.2.1 hchW.2.2 (Nat.le_trans hB hW.size) hroom (by omega) (fun k hk hf => by
    have h1 := (hwr.2.2.lt _ hk).1; have h2 := (h.2.2.lt k hf).1; omega) (fun w' => ∃ F', ChS w' F' c (used + (n * 2403 + 60)) room lock ⟨epoch, base, base, kmax (L.map BV.bp), L.map BV.bp, L.map BV.bp⟩ ∧ Hits F w w' ∧ Grown w F F') (fun w2 v' vr' a rc hbk hh hns1 hns2 hrd hrc1 hrc2 hty => ?_)
  have hrow2 := hh.row hchW.2.1 (hchW.2.2.apartC hchW.2.1)
  have hs2 : w.heap.size ≤ w2.heap.size := Nat.le_trans hW.size hh.size
  refine (do_laid (Bs := L.map BV.bp) hrow2 (World.ownsRow_nil w2 B 72 1) (Nat.le_trans hB hs2) (by omega) (fun h => by omega) he9 hb (fun x hx => by obtain ⟨z, hz, rfl⟩ := List.mem_map.1 hx; exact (hok z hz).2) (by rw [List.length_map]; exact hl) hn (by rw [← recB_eq hl]; exact hrd) (by rw [← recB_eq hl]; exact hm) (by omega) hrc1 hrc2 hty).mono ?_
  rintro e w3 ⟨rfl, A', c', p, v1, v2, first, list, hrow3, hown3, hlog3, hf1, hf2, hna, hhc, hnsl⟩
  refine ⟨rfl, fun k => F k ∨ w.heap.size ≤ k, ?_, ?_, fun k hk => hk⟩
  · have hA : ∃ g, A' = some ⟨g, 0, none⟩ := by
      obtain ⟨g, cap, hv, _, _⟩ := hown3.form (by omega)
      exact ⟨g, by injection hv⟩
    obtain ⟨g, rfl⟩ := hA
    have hg : w2.heap.size ≤ g := by
      rcases hnsl with h | ⟨g', h, hg'⟩
      · cases h
      · have h : g = g' := Option.some.inj h
        omega
    have hbk3 : BookAt w3 B b t v' vr' (used + m + 7) room := hbk.hits hhc (fun k hk h => by
      rcases h with rfl | h
      · exact hbk.apartC hrow2 hk
      · cases h)
    refine ChS.mono (used := used + m + 7) ⟨B, b, t, v', vr', g, c', p, v1, v2, lvOf epoch base first list (kmax (L.map BV.bp)), ⟨h.1, hrow3, hbk3, hown3, hlog3.mono (Nat.le_trans hB hs2)⟩, ?_, Nat.le_trans hB (Nat.le_trans hs2 hhc.size), by unfold LV.abs lvOf; simp only [hf1, hf2]⟩ (fun _ h => h) (by omega)
    have hns : ∀ {u u' : Value}, NS W u u' → (∀ k, u.ownBlock = some k → F k) → ∀ k, u'.ownBlock = some k → F k ∨ w.heap.size ≤ k := fun hn hu k hk => by
      rcases hn with e | ⟨g, e, hg⟩
      · exact .inl (hu k (e ▸ hk))
      · rw [e] at hk; injection hk with hk; have := hW.size; exact .inr (by omega)
    rintro k ((rfl | rfl | hk | hk) | hk | ⟨x, hx, a, ha, rfl⟩)
    · exact .inl (hF _ (.inl rfl))
    · exact .inr (by omega)
    · rcases hk with rfl | rfl | hk | hk
      · exact .inl (hF _ (.inr (.inl rfl)))
      · exact .inl (hF _ (.inr (.inr (.inl rfl))))
      · exact hns hns1 (fun k hk => hF k (.inr (.inr (.inr (.inl hk))))) k hk
      · exact hns hns2 (fun k hk => hF k (.inr (.inr (.inr (.inr hk))))) k hk
    · rcases hk with rfl | hk
      · have := hlog3.base; exact .inr (by omega)
      · have := (hlog3.own2.lt _ hk).1; exact .inr (by omega)
    · have := (hlog3.own1.lt _ hk).1; exact .inr (by omega)
    · have := hna x hx a ha; exact .inr (by omega)
  · exact ((Hits.later (F := F) hW).trans hh (fun k _ hk => hF k (.inr hk))).trans hhc (fun k _ hk => by
      rcases hk with rfl | hk
      · exact hF _ (.inl rfl)
      · cases hk)

end Go.Proofs.YtlgnnmpfipmjeaaGreat
/-
  chest: another log; Lay told by what a chest holds; Epochs of one log.
-/
namespace Go.Proofs.YtlgnnmpfipmjeaaGreat
open Go.RowKit
set_option linter.unusedVariables false
set_option linter.unusedSimpArgs false
set_option maxHeartbeats 4000000 in
theorem lay_second {w : World} {F : Nat → Prop} {c used room lock : Nat} {S : LB} (h : ChS w F c used room lock S) (hroom : room ≤ 1048576) {epoch base : Nat} (he1 : 1 ≤ epoch) (he9 : epoch < 1000000000) (hse : S.epoch < epoch) (hb : base < 1000000000000000) (hlk : ¬ epoch < lock) (cc : Nat) (hfit : used + 60 ≤ room) :
    Calls Tryz.prog 10 #[.pointer (some ⟨c, 0, none⟩), .int .i64 epoch, .int .i64 base, .slice none 0 cc] w fun e w' => e = .returned (.int .i64 0) ∧ (∃ b vl, ChB w' c b lock vl) ∧ Hits F w w' := by
  obtain ⟨B, b, t, v, vr, g, cap, p, v1, v2, S', h1, h2, h3, h4⟩ := h
  subst h4
  have hse2 : S'.epoch < epoch := hse
  refine lay_new0 (L := []) h1.b he1 he9 hb hlk (Rd.nil _ _ _) rfl (by omega) (fun x hx => by cases hx) trivial (fun W hW => by
    have := find_1 (h1.later hW) epoch
    rw [if_neg (by omega)] at this
    exact this) _ (fun W pw vp hW hwr => ?_)
  have hchW := h1.later hW
  obtain ⟨m, hm⟩ : ∃ m, (recH 1 epoch base ++ (putN 0 ++ (([] : List BV).map BV.bp).flatMap encT)).length = m := ⟨_, rfl⟩
  have q1 := recH_len (k := 1) (e := epoch) (n := base) (by omega) he9 hb
  have q2 := putN_len3 (n := 0) (by omega)
  have hm2 : 0 < m ∧ m ≤ 30 := by
    rw [← hm, List.length_append, List.length_append]
    have e0 : ((([] : List BV).map BV.bp).flatMap encT).length = 0 := rfl
    omega
  refine cput_any hwr hm hm2.1 (by omega) hchW.row hchW.book (Nat.le_trans h3 hW.size) hroom (by omega) (fun k hk hf => by
    have g1 := (hwr.2.2.lt _ hk).1; have g2 := (h1.book.lt k hf).1; omega) (fun w' => (∃ b vl, ChB w' c b lock vl) ∧ Hits F w w') (fun w2 v' vr' a rc hbk hh hns1 hns2 hrd hrc1 hrc2 hty => ?_)
  have hch2 := hchW.setBook hh hbk
  have hs2 : w.heap.size ≤ w2.heap.size := Nat.le_trans hW.size hh.size
  refine (do_laid (Bs := []) hch2.row hch2.logs (Nat.le_trans h3 hs2) (Nat.le_refl 1) (fun _ => ⟨p, S'.epoch, rfl, fun e => by subst e; exact sort_ne hch2.log.row hch2.row (by decide) rfl, fun k hk e => by
    subst e; obtain ⟨_, _, cs, hc⟩ := own_block hch2.logs hk; exact sort_ne hc hch2.log.row (by decide) rfl, cell_of_row _ _ 0 _ _ (0, 0) hch2.log.row, hse2⟩) he9 hb (fun x hx => by cases hx) (nb := 0) rfl (by omega) (by exact hrd) (by exact hm) (by omega) hrc1 hrc2 hty).mono ?_
  rintro e w3 ⟨rfl, A', c', p', v1', v2', first, list, hrow3, hown3, hlog3, hf1, hf2, hna, hhc, hnsl⟩
  refine ⟨rfl, ⟨b, _, hrow3, B, t, v', vr', _, _, hbk.hits hhc (fun k hk h => ?_)⟩, ?_⟩
  · rcases h with rfl | h
    · exact hbk.apartC hch2.row hk
    · obtain ⟨cs2, ty2, fz2, hc2, hty2⟩ := hbk.noChg k hk
      obtain ⟨_, _, cs, hc⟩ := own_block hch2.logs h
      rw [hc] at hc2; injection hc2 with hc2; injection hc2 with _ hc2
      rcases hty2 with e | e | e | e <;> rw [e] at hc2 <;> exact absurd hc2 (by decide)
  · refine ((Hits.later (F := F) hW).trans hh (fun k _ hk => h2 k (.inl (.inr (.inr (.inl hk)))))).trans hhc (fun k _ hk => ?_)
    rcases hk with rfl | hk
    · exact h2 _ (.inl (.inl rfl))
    · have hk : g = k := Option.some.inj hk
      subst hk; exact h2 _ (.inl (.inr (.inl rfl)))
theorem lay_clash {w : World} {F : Nat → Prop} {c used room lock : Nat} {S : LB} (h : ChS w F c used room lock S) {base : Nat} (he1 : 1 ≤ S.epoch) (hb : base < 1000000000000000) (hlk : ¬ S.epoch < lock) (cc : Nat) (hbn : S.base ≠ base) :
    Calls Tryz.prog 10 #[.pointer (some ⟨c, 0, none⟩), .int .i64 S.epoch, .int .i64 base, .slice none 0 cc] w fun e w' => e = .returned (.int .i64 13) ∧ Later w w' := by
  obtain ⟨B, b, t, v, vr, g, cap, p, v1, v2, S', h1, h2, h3, h4⟩ := h
  subst h4
  exact lay_clash0 (L := []) h1 he1 hb hlk (Rd.nil _ _ _) rfl (by omega) (fun x hx => by cases hx) trivial hbn
theorem lay_same {w : World} {F : Nat → Prop} {c used room lock : Nat} {S : LB} (h : ChS w F c used room lock S) {base : Nat} (he1 : 1 ≤ S.epoch) (hb : base < 1000000000000000) (hlk : ¬ S.epoch < lock) {A : Option Addr} {n cc : Nat} {L : List BV} (hr : Rd w 4 A n (brow L)) (hl : L.length = n) (hn : n ≤ 24) (hok : ∀ x ∈ L, BvOk w x ∧ BOk x.bp) (hch : Chain base (L.map BV.bp)) (hbn : S.base = base) (heq : S.first = L.map BV.bp) (hz : ∀ x ∈ S.first, x.chg = []) (hz2 : ∀ x ∈ L, x.n = 0) :
    Calls Tryz.prog 10 #[.pointer (some ⟨c, 0, none⟩), .int .i64 S.epoch, .int .i64 base, .slice A n cc] w fun e w' => e = .returned (.int .i64 0) ∧ Later w w' := by
  obtain ⟨B, b, t, v, vr, g, cap, p, v1, v2, S', h1, h2, h3, h4⟩ := h
  subst h4
  exact lay_same0 h1 he1 hb hlk hr hl hn hok hch hbn heq (fun x hx => by
    have e : x.bp.chg = [] := hz x.bp (List.mem_map_of_mem hx)
    have := (h1.log.ok1 x hx).len
    rw [← this, show x.chg = [] from e]; rfl) hz2
theorem ChS.b {w : World} {F : Nat → Prop} {c used room lock : Nat} {S : LB} (h : ChS w F c used room lock S) : ∃ b vl, ChB w c b lock vl := by
  obtain ⟨B, b, t, v, vr, g, cap, p, v1, v2, S', h1, h2, h3, h4⟩ := h
  exact ⟨b, _, h1.b⟩
set_option maxHeartbeats 4000000 in
set_option maxRecDepth 100000 in
theorem epochs_one {w : World} {F : Nat → Prop} {c used room lock : Nat} {S : LB} (h : ChS w F c used room lock S) :
    Calls Tryz.prog 18 #[.pointer (some ⟨c, 0, none⟩)] w fun e w' => (∃ A c', e = .returned (.slice A 1 c')) ∧ Later w w' := by
  obtain ⟨B, b, t, v, vr, g, cap, p, v1, v2, L, h, h2, h3, h4⟩ := h
  have HR := hide_ h.row
  have HG := hide_ (show w.cell? ⟨g, 0, none⟩ = some (.pointer (some ⟨p, 0, none⟩)) by have := h.logs.cells (g := g) rfl 0 _ rfl; simpa [add_plain] using this)
  have HP := hide_ (cell_of_row _ _ 0 _ _ (0, 0) h.log.row)
  have d1 := cell_of_row _ _ 1 _ _ (0, 0) h.row
  clear h h2 h3 h4
  go_enter Tryz.func18, Tryz.ntmps18
  go_wp2_with fail
  go_loopw [3, 13] (fun s3 s13 wr => ∃ (k : Nat) (A : Option Addr) (c' : Nat) (xs : List Value), k ≤ 1 ∧ s13 = .int .i64 k ∧ s3 = .slice A k c' ∧ Hid (wr.ownsRow w.heap.size 3 1 (.slice A k c') k xs) ∧ Hid (Later w wr)) (fun _ i _ => 1 - (intOf i).toNat)
  case atStart => exact ⟨0, none, 0, [], by omega, rfl, rfl, World.ownsRow_nil _ _ _ _, Later.refl w⟩
  case round =>
    obtain ⟨k, A, c', xs, hk, rfl, rfl, HO, HB⟩ := hrel
    by_cases h0 : k = 0
    · subst h0
      have e0 := later_cell HG.out wr HB.out
      have e1 := later_cell HP.out wr HB.out
      simp only [logRow] at e1
      go_wp2_with (at_builtin; refine wpList_append_rd _ rfl (.tmp 17) (.tmp 22) 50 rfl w.heap.size 3 1 8 intT (.slice A 0 c') 0 xs rfl ?c1 (some ⟨wr.heap.size, 0, none⟩) 1 1 [.int .i64 L.epoch] rfl ?c2 ?c3 (by omega) (by unfold maxLen; omega) ?c6 (fun h => by cases h) ?c8)
      case c1 => exact own_below HO.out (later_alloc _ _)
      case c2 => exact Rd.newAt _ #[.int .i64 L.epoch] 3 1 1 _ (0, 0) rfl rfl
      case c3 => intro u hu; rw [List.mem_singleton] at hu; subst hu; rfl
      case c6 => have := HB.out.size; simp; omega
      case c8 =>
        intro v9 w9 hown hg hat
        obtain ⟨A9, c9, hv9⟩ := own_form hown
        subst hv9
        have HOF := hide_ hown
        have HBF := hide_ (show Later w w9 from own_grown (HB.out.al _) (own_below HO.out (later_alloc _ _)) hg (by have := HB.out.size; simp; omega))
        clear hown hg hat
        go_wp2_with fail
        go_roundw
        case rel => exact ⟨1, A9, c9, _, by omega, rfl, rfl, HOF, HBF⟩
        case measure => simp [intOf]
    · obtain rfl : k = 1 := by omega
      go_wp2_with fail
      go_ret
      exact ⟨⟨A, c', rfl⟩, HB.out⟩

end Go.Proofs.YtlgnnmpfipmjeaaGreat
/-
  chest: awake.
-/
namespace Go.Proofs.YtlgnnmpfipmjeaaGreat
open Go.RowKit
set_option linter.unusedVariables false
set_option linter.unusedSimpArgs false
/-- A batch of no changes. -/
def bv0 (prev ver known : Nat) : BV := ⟨prev, ver, known, none, 0, 0, []⟩
theorem bv0_ok (w : World) {prev ver known : Nat} (h1 : prev < 9223372036854775808) (h2 : ver < 9223372036854775808) (h3 : known < 9223372036854775808) : BvOk w (bv0 prev ver known) :=
  ⟨rfl, Rd.nil w 3 none, (fun a ha => by cases ha), ⟨h1, h2, h3, Nat.zero_le _, rfl⟩⟩
theorem bv0_b {prev ver known : Nat} (h1 : prev < 9223372036854775808) (h2 : ver < 1000000000000000) (h3 : known < 1000000000000000) : BOk (bv0 prev ver known).bp := by
  have hok : (bv0 prev ver known).bp.Ok := ⟨h1, Nat.lt_trans h2 (by omega), Nat.lt_trans h3 (by omega), Nat.zero_le _, rfl⟩
  refine ⟨hok, ?_, h3, h2⟩
  have := encB_len hok
  have e : (bv0 prev ver known).bp.chg.length = 0 := rfl
  omega
theorem one_map {L : List BV} {y : BP} (h : L.map BV.bp = [y]) : ∃ x, L = [x] ∧ x.bp = y := by
  cases L with
  | nil => cases h
  | cons x r =>
    simp only [List.map_cons, List.cons.injEq, List.map_eq_nil_iff] at h
    exact ⟨x, by rw [h.2], h.1⟩
/-- A chest on a new tape. -/
theorem ch0_F {w w' : World} {c b t : Nat} (hc : w.heap.size ≤ c) (hb : w.heap.size ≤ b) (ht : w.heap.size ≤ t) : ∀ k, (k = c ∨ bFp b t (.slice none 0 0) (.slice none 0 0) k) → w.heap.size ≤ k := by
  rintro k (rfl | rfl | rfl | hk | hk)
  · exact hc
  · exact hb
  · exact ht
  · cases hk
  · cases hk
set_option maxHeartbeats 8000000 in
set_option maxRecDepth 100000 in
theorem awake_any (w : World) : Calls Tryz.prog 9 #[] w fun e w' => e = .returned (.bool true) ∧ Later w w' := by
  have HT := hide_ (tnew_any (w := w) (B := w.heap.size) 10000 (by omega) (Nat.le_refl _))
  go_enter Tryz.func9, Tryz.ntmps9
  go_wp2_with fail
  refine HT.out.mono ?_; rintro e w1 ⟨rfl, ht1, hl1⟩
  have HO := hide_ (copen_any (w := w1) (B := w.heap.size) hl1.size ht1)
  have HL1 := hide_ hl1
  clear ht1 hl1
  go_wp2_with fail
  refine HO.out.mono ?_; rintro e w2 ⟨c, b, rfl, hch2, hc2, hb2, hl2⟩
  have HL2 := hide_ (HL1.out.trans hl2)
  have HF := hide_ (ch0_F (w' := w) (t := w.heap.size) (Nat.le_trans HL1.out.size hc2) (Nat.le_trans HL1.out.size hb2) (Nat.le_refl w.heap.size))
  have HLY := hide_ (lay_first (epoch := 3) (base := 5) (A := none) (n := 0) (cc := 0) (L := []) hch2 HF.out HL2.out.size (by omega) (by omega) (by omega) (by omega) (by omega) (Rd.nil _ _ _) rfl (by omega) (fun x hx => by cases hx) trivial (by omega))
  clear hch2 hc2 hb2 hl2
  go_wp2_with fail
  refine HLY.out.mono ?_; rintro e w3 ⟨rfl, F3, hcs3, hh3, hg3⟩
  have HCS3 := hide_ hcs3
  have HL3 := hide_ (show Later w w3 from Below.trans HL2.out (hh3.below (B := w.heap.size) HL2.out.size (fun k hk => hk)))
  have HF3 := hide_ (show ∀ k, F3 k → w.heap.size ≤ k from fun k hk => by
    rcases hg3 k hk with h | h
    · exact h
    · exact Nat.le_trans HL2.out.size h)
  have HPS := hide_ (push_new HCS3.out (by decide) (by decide) (bv0_ok w3 (prev := 5) (ver := 9) (known := 0) (by omega) (by omega) (by omega)) (bv0_b (by omega) (by omega) (by omega)) rfl (by decide) (by decide) (by omega) (by omega))
  clear hcs3 hh3 hg3
  go_wp2_with fail
  refine HPS.out.mono ?_; rintro e w4 ⟨rfl, F4, hcs4, hh4, hg4⟩
  have HCS4 := hide_ hcs4
  have HL4 := hide_ (show Later w w4 from Below.trans HL3.out (hh4.below (B := w.heap.size) HL3.out.size HF3.out))
  have HPK := hide_ (peek_any HCS4.out (by decide) 5 9 (by decide) (by omega) (by omega))
  clear hcs4 hh4 hg4
  go_wp2_with fail
  refine HPK.out.mono ?_; rintro e w5 ⟨A5, c5, n5, L5, rfl, hn5, ho5, hm5, hk5, hl5⟩
  have hL5 : ∃ x, L5 = [x] ∧ x.ver = 9 := by
    obtain ⟨x, h1, h2⟩ := one_map (y := (bv0 5 9 0).bp) hm5
    exact ⟨x, h1, congrArg BP.ver h2⟩
  obtain ⟨x, rfl, hxv⟩ := hL5
  obtain rfl : n5 = 1 := hn5.symm
  obtain ⟨bb, oo, rfl, l0, l1, l2, l3⟩ := (Rd.of_own ho5).bat (i := 0) (x := x) rfl
  simp only [Nat.zero_mul, Nat.add_zero, hxv] at l1
  have HL5 := hide_ (HL4.out.trans hl5)
  have HCS5 := hide_ (HCS4.out.later hl5)
  have HLV := hide_ (Live_any HCS5.out (by decide))
  have HEP := hide_ (epochs_one HCS5.out)
  clear ho5 hm5 hk5 hl5 l0 l2 l3 hxv hn5 HPK HPS HLY HO HT
  go_wp2_with fail
  refine HLV.out.mono ?_; rintro e w6 ⟨rfl, rfl⟩
  rw [show (if (3 : Nat) < 0 then (15 : Int) else 0) = 0 from rfl]
  go_wp2_with fail
  refine HEP.out.mono ?_; rintro e w7 ⟨⟨A7, c7, rfl⟩, hl7⟩
  have HL7 := hide_ (HL5.out.trans hl7)
  clear hl7
  go_wp2_with fail
  go_ret
  exact ⟨rfl, HL7.out⟩

end Go.Proofs.YtlgnnmpfipmjeaaGreat
