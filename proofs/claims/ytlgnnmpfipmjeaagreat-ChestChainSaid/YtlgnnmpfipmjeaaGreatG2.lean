/-
  Texts of this seat in one: Ch5, Ch7, Ch8, Ch9, Ch6, Ch10.
-/
import Derived.Test.YtlgnnmpfipmjeaaGreatG1
import Derived.Test.YtlgnnmpfipmjeaaGreatZkBytesNew
import Derived.Test.YtlgnnmpfipmjeaaGreatZkZone
/-
  chest: do, of a pushed batch.
-/
namespace Go.Proofs.YtlgnnmpfipmjeaaGreat
open Go.RowKit
set_option linter.unusedVariables false
set_option linter.unusedSimpArgs false
theorem RdrAt.hits {F : Nat → Prop} {w w' : World} {p : Nat} {s : RS} (h : RdrAt w p s) (hh : Hits F w w') (h0 : ¬ F p) (h1 : ∀ k cs fz, w.heap[k]? = some (.cells cs 5 fz) → ¬ F k) : RdrAt w' p s := by
  obtain ⟨A, c, g1, g2, g3, g4, g5, g6⟩ := h
  have hn : ∀ a, A = some a → ¬ F a.block := fun a ha => by obtain ⟨_, cs, fz, h⟩ := g6 a ha; exact h1 _ cs fz h
  exact ⟨A, c, hh.row g1 h0, hh.rd g2 hn, g3, g4, g5, fun a ha => (g6 a ha).hits hh (hn a ha)⟩
theorem LogAt.noByte {w : World} {B p : Nat} {v1 v2 : Value} {L : LV} (h : LogAt w B p v1 v2 L) : ∀ k cs fz, w.heap[k]? = some (.cells cs 5 fz) → ¬ lFp p v2 k := fun k cs fz hk hf => by
  obtain ⟨cs2, ty, fz2, h2, h3⟩ := h.sort k hf
  rw [hk] at h2; injection h2 with h2; injection h2 with _ h2
  rcases h3 with h3 | h3 <;> rw [h3] at h2 <;> exact absurd h2 (by decide)
theorem Ch1.sets {w : World} {B c b t : Nat} {v vr : Value} {g cap p : Nat} {v1 v2 : Value} {used room lock : Nat} {L : LV} (h : Ch1 w B c b t v vr g cap p v1 v2 used room lock L) : ∀ k, (k = c ∨ k = g ∨ bFp b t v vr k) → ¬ lFp p v2 k := fun k hk hf => by
  obtain ⟨cs2, ty, fz2, h2, h3⟩ := h.log.sort k hf
  rcases hk with rfl | rfl | hk
  · rw [h.row] at h2; injection h2 with h2; injection h2 with _ h2
    rcases h3 with h3 | h3 <;> rw [h3] at h2 <;> exact absurd h2 (by decide)
  · obtain ⟨_, _, cs, hc⟩ := own_block h.logs (g := k) rfl
    rw [hc] at h2; injection h2 with h2; injection h2 with _ h2
    rcases h3 with h3 | h3 <;> rw [h3] at h2 <;> exact absurd h2 (by decide)
  · obtain ⟨cs, ty2, fz, hc, hty⟩ := h.book.noChg k hk
    rw [hc] at h2; injection h2 with h2; injection h2 with _ h2
    rcases h3 with h3 | h3 <;> rcases hty with e | e | e | e <;> rw [e, h3] at h2 <;> exact absurd h2 (by decide)
/-- What is left where a log alone turns. -/
theorem Ch1.setLog {w w' : World} {B c b t : Nat} {v vr : Value} {g cap p : Nat} {v1 v2 v2' : Value} {used room lock : Nat} {L L' : LV} (h : Ch1 w B c b t v vr g cap p v1 v2 used room lock L) (hh : Hits (lFp p v2) w w') (hlog : LogAt w' B p v1 v2' L') : Ch1 w' B c b t v vr g cap p v1 v2' used room lock L' :=
  ⟨h.base, hh.row h.row (h.sets c (.inl rfl)), h.book.hits hh (fun k hk => h.sets k (.inr (.inr hk))), hh.own h.logs (fun k hk => (Option.some.inj (show some g = some k from hk)) ▸ h.sets g (.inr (.inl rfl))), hlog⟩
/-- The bytes of a record's head. -/
def recH (kind epoch n : Nat) : List UInt8 := putN kind ++ putN epoch ++ putN n
theorem Hits.ge {w w' : World} {B q : Nat} (h : Hits (· = q) w w') (hB : B ≤ w.heap.size) (hq : B ≤ q) : Below B w w' := h.below hB fun k hk => by omega
set_option maxHeartbeats 8000000 in
set_option maxRecDepth 100000 in
theorem do_pushed {w : World} {B c b t : Nat} {v vr : Value} {g cap p : Nat} {v1 v2 : Value} {used room lock : Nat} {L : LV} (h : Ch1 w B c b t v vr g cap p v1 v2 used room lock L) (hB : B ≤ w.heap.size) {x : BP} (hx : x.Ok) (hxl : (encB x).length ≤ 2400) (hroom : L.list.length < 24) (hk : x.known < 1000000000000000) (hv : x.ver < 1000000000000000)
    {a : Addr} {m rc : Nat} (hr : Rd w 1 (some a) m (bvs (recH 2 L.epoch 0 ++ putT (encB x)))) (hm : (recH 2 L.epoch 0 ++ putT (encB x)).length = m) (hmc : m ≤ rc) (hrc : rc ≤ 9223372036854775807) (ha : ∃ cs fz, w.heap[a.block]? = some (.cells cs 5 fz)) :
    Calls Tryz.prog 21 #[.pointer (some ⟨c, 0, none⟩), .slice (some a) m rc] w fun e w' => e = .returned (.bool true) ∧ ∃ v2' x', x'.bp = x ∧ (∀ a : Addr, x'.A = some a → w.heap.size ≤ a.block) ∧ Ch1 w' B c b t v vr g cap p v1 v2' used room lock { L with list := L.list ++ [x'], known := max L.known x.known } ∧ Hits (lFp p v2) w w' ∧ NS w v2 v2' := by
  have HH := hide_ h; have HX := hide_ hx; have HXL := hide_ hxl; have HROOM := hide_ hroom; have HKV := hide_ (And.intro hk hv)
  have hml : m ≤ 4398046511104 := by
    rw [← hm]; unfold recH
    have h1 := putN_len9 (n := 2) (by omega); have h2 := putN_len9 (n := L.epoch) (by have := h.log.e; omega); have h3 := putN_len9 (n := 0) (by omega); have h4 := putT_len (s := encB x) (by omega)
    simp only [List.length_append]; omega
  have HNR : Hid (Calls Tryz.prog 41 #[.slice (some a) m rc] w fun e w' => e = .returned (.pointer (some ⟨w.heap.size, 0, none⟩)) ∧ RdrAt w' w.heap.size (recH 2 L.epoch 0 ++ putT (encB x), 0) ∧ Later w w') := by
    subst hm
    exact newReader_any hr hmc hrc hml (fun h => by cases h) (fun y hy => by injection hy with hy; subst hy; exact ha)
  have HE9 := hide_ h.log.e
  have HSZ := hide_ (show p < w.heap.size ∧ c < w.heap.size from ⟨theap_lt h.log.row, theap_lt h.row⟩)
  clear h hx hxl hroom hk hv hr hm hmc hrc ha hml
  go_enter Tryz.func21, Tryz.ntmps21
  go_wp2_with fail
  refine HNR.out.mono ?_; rintro e w1 ⟨rfl, hr1, hl1⟩
  have hrd : RdrAt w1 w.heap.size (putN 2 ++ (putN L.epoch ++ (putN 0 ++ (putT (encB x) ++ []))), 0) := by unfold recH at hr1; simpa [List.append_assoc] using hr1
  have HN1 := hide_ (rnum_any hrd (by simp))
  rw [rNum_put (by omega)] at HN1
  have HL1 := hide_ hl1
  clear hr1 hrd hl1
  go_wp2_with fail
  refine HN1.out.mono ?_; rintro e w2 ⟨rfl, hr2, hh2⟩
  have HN2 := hide_ (rnum_any hr2 (by simp))
  rw [rNum_put (by have := HE9.out; omega)] at HN2
  have HL2 := hide_ (show Later w w2 from Below.trans HL1.out (hh2.ge HL1.out.size (Nat.le_refl _)))
  clear hr2 hh2
  go_wp2_with fail
  refine HN2.out.mono ?_; rintro e w3 ⟨rfl, hr3, hh3⟩
  have HN3 := hide_ (rnum_any hr3 (by simp))
  rw [rNum_put (by omega)] at HN3
  have HL3 := hide_ (show Later w w3 from Below.trans HL2.out (hh3.ge HL2.out.size (Nat.le_refl _)))
  clear hr3 hh3
  go_wp2_with fail
  refine HN3.out.mono ?_; rintro e w4 ⟨rfl, hr4, hh4⟩
  have HR4 := hide_ hr4
  have HL4 := hide_ (show Later w w4 from Below.trans HL3.out (hh4.ge HL3.out.size (Nat.le_refl _)))
  clear hr4 hh4
  go_wp2_with fail
  obtain ⟨W5, hW5⟩ : ∃ W5, W5 = (w4.alloc (Obj.cells #[Value.int IntKind.i64 L.epoch] 3)).alloc (Obj.cells #[Value.int IntKind.i64 0] 3) := ⟨_, rfl⟩
  rw [← hW5]
  have hl45 : Later w4 W5 := by rw [hW5]; exact (later_alloc _ _).al _
  have hep : W5.heap[w4.heap.size]? = some (.cells #[Value.int IntKind.i64 L.epoch] 3 (0, 0)) := by rw [hW5]; exact later_row (later_alloc _ _) (heap_alloc_new w4 _)
  have HEP := hide_ hep
  have HL5 := hide_ (HL4.out.trans hl45)
  have HR5 := hide_ (HR4.out.later hl45)
  have HER := hide_ (rerror_any HR5.out)
  have HTX := hide_ (rtext_any HR5.out (by simp))
  rw [rText_put (by have := HXL.out; omega)] at HTX
  simp only at HER HTX
  have c7 := cell_of_row _ _ 0 _ _ (0, 0) hep
  clear hW5 hl45 hep
  go_wp2_with fail
  refine HER.out.mono ?_; rintro e w6 ⟨rfl, rfl⟩
  go_wp2_with fail
  refine HTX.out.mono ?_; rintro e w7 ⟨rfl, hr7, hh7⟩
  obtain ⟨cc, cs, W8, hcv, hl8, hz8, hrow8, hs8, hc8, hm8, hcell8⟩ := bytes_new w7 ⟨(encB x).toArray⟩
  have hcv2 : (convert 9 43 (.string ⟨(encB x).toArray⟩)).run Tryz.prog w7 = .ok (.slice (some ⟨w7.heap.size, 0, none⟩) (encB x).length cc) W8 := by
    have e : (⟨(encB x).toArray⟩ : ByteArray).size = (encB x).length := by show (encB x).toArray.size = _; simp
    rw [e] at hcv; exact hcv
  have hsz8 : (⟨(encB x).toArray⟩ : ByteArray).size = (encB x).length := by show (encB x).toArray.size = _; simp
  have HL7 := hide_ (show Later w w7 from Below.trans HL5.out (hh7.ge HL5.out.size (Nat.le_refl _)))
  have HL8 := hide_ (HL7.out.trans hl8)
  have HR8 := hide_ (hr7.later hl8)
  have HB8 := hide_ (show Rd W8 1 (some ⟨w7.heap.size, 0, none⟩) (encB x).length (bvs (encB x)) from ⟨by rw [bvs_length, Nat.mul_one], fun _ => ⟨_, 0, rfl, fun j u hu => by
    unfold bvs at hu
    rw [List.getElem?_map] at hu
    obtain ⟨y, hy, hyu⟩ := Option.map_eq_some_iff.1 hu
    have := hcell8 j y (by simpa using hy)
    rw [Nat.zero_add, cell_of_row _ _ j _ _ _ hrow8, this, ← hyu]⟩⟩)
  have HGB := hide_ (getBatch_any (c := cc) HX.out HB8.out (by rw [← hsz8]; exact hc8) (hm8 (by rw [hsz8]; have := HXL.out; unfold maxLen; omega)) (fun y hy => by injection hy with hy; subst hy; exact ⟨_, _, hrow8⟩))
  have hcnt7 : w7.cell? ⟨w4.heap.size, 0, none⟩ = some (.int .i64 L.epoch) := by
    have h1 := hh7.row HEP.out (by have := HR4.out.lt; omega)
    exact cell_of_row _ _ 0 _ _ (0, 0) h1
  have HC8 := hide_ (later_cell hcnt7 _ hl8)
  clear hr7 hh7 hcv hl8 hz8 hrow8 hs8 hc8 hm8 hcell8 hsz8 hcnt7
  go_wp2_with fail
  refine HGB.out.mono ?_; rintro e w9 ⟨A9, c9, rfl, ho9, hl9⟩
  obtain ⟨W10, hW10⟩ : ∃ W10, W10 = w9.alloc (Obj.cells #[Value.int IntKind.i64 x.prev, Value.int IntKind.i64 x.ver, Value.int IntKind.i64 x.known, Value.slice A9 x.chg.length c9] 38) := ⟨_, rfl⟩
  have HW10 := hide_ hW10.symm
  have hl910 : Later w9 W10 := by rw [hW10]; exact later_alloc _ _
  have hrow10 : W10.heap[w9.heap.size]? = some (.cells #[Value.int IntKind.i64 x.prev, Value.int IntKind.i64 x.ver, Value.int IntKind.i64 x.known, Value.slice A9 x.chg.length c9] 38 (0, 0)) := by rw [hW10]; exact heap_alloc_new w9 _
  have hl810 : Later W8 W10 := hl9.trans hl910
  have HL10 := hide_ (HL8.out.trans hl810)
  have HO10 := hide_ (own_below ho9 hl910)
  have HR10 := hide_ (HR8.out.later hl810)
  have HCH := hide_ (HH.out.later HL10.out)
  have hBV : BvOk W10 ⟨x.prev, x.ver, x.known, A9, x.chg.length, c9, x.chg⟩ := ⟨rfl, Rd.of_own HO10.out, fun a ha => by
    have ha : A9 = some a := ha
    subst ha
    rcases HO10.out.2 with ⟨hv, _⟩ | ⟨g, cap, cur, hv, _, hg, _⟩
    · cases hv
    · injection hv with hv; injection hv with hv; subst hv; exact ⟨_, _, hg⟩, HX.out⟩
  have HFD := hide_ (find_1 HCH.out L.epoch)
  rw [if_pos rfl] at HFD
  have HADD := hide_ (ladd_any HCH.out.log (by have := HL10.out.size; omega) hBV HROOM.out HKV.out.1 HKV.out.2)
  have k7 := later_cell HC8.out _ hl810
  have y0 := cell_of_row _ _ 0 _ _ (0, 0) hrow10
  have y1 := cell_of_row _ _ 1 _ _ (0, 0) hrow10
  have y2 := cell_of_row _ _ 2 _ _ (0, 0) hrow10
  have y3 := cell_of_row _ _ 3 _ _ (0, 0) hrow10
  clear hW10 hl910 hrow10 hl810 hBV ho9 hl9 HGB hcv2 c7
  go_wp2_with (rw [HW10.out])
  refine HFD.out.mono ?_; rintro e w11 ⟨rfl, rfl⟩
  go_wp2_with fail
  refine HADD.out.mono ?_; rintro e w12 ⟨rfl, v2', x', hxb, hna, hlog, hh12, hns⟩
  have hlt : ∀ k, lFp p v2 k → k < w.heap.size := fun k hk => by
    rcases hk with rfl | hk
    · exact HSZ.out.1
    · exact (HH.out.log.own2.lt _ hk).2
  have HDN := hide_ (rdone_any (HR10.out.hits hh12 (fun h => by have := hlt _ h; omega) HCH.out.log.noByte) (by simp))
  have HF := hide_ (HCH.out.setLog hh12 hlog)
  have HHF := hide_ ((Hits.later (F := lFp p v2) HL10.out).trans hh12 (fun _ _ h => h))
  have HNS := hide_ (show NS w v2 v2' from by
    rcases hns with h | ⟨g, h, hg⟩
    · exact .inl h
    · exact .inr ⟨g, h, Nat.le_trans HL10.out.size hg⟩)
  have HXB := hide_ hxb
  have HNA := hide_ (show ∀ a : Addr, x'.A = some a → w.heap.size ≤ a.block from fun a ha => Nat.le_trans HL10.out.size (hna a ha))
  clear hlog hh12 hns hlt hxb hna k7 y0 y1 y2 y3
  go_wp2_with fail
  refine HDN.out.mono ?_; rintro e w13 ⟨rfl, rfl⟩
  rw [show rDone (([] : List UInt8), 0) = true from rfl]
  go_wp2_with fail
  go_ret
  exact ⟨rfl, v2', x', HXB.out, HNA.out, HF.out, HHF.out, HNS.out⟩

end Go.Proofs.YtlgnnmpfipmjeaaGreat
/-
  chest: do, of a lock.
-/
namespace Go.Proofs.YtlgnnmpfipmjeaaGreat
open Go.RowKit
set_option linter.unusedVariables false
set_option linter.unusedSimpArgs false
/-- What is left where the chest's own row alone turns. -/
theorem Ch1.setRow {w w' : World} {B c b t : Nat} {v vr : Value} {g cap p : Nat} {v1 v2 : Value} {used room lock lock' : Nat} {L : LV} (h : Ch1 w B c b t v vr g cap p v1 v2 used room lock L) (hh : Hits (· = c) w w') (hrow : w'.heap[c]? = some (.cells #[.pointer (some ⟨b, 0, none⟩), .slice (some ⟨g, 0, none⟩) 1 cap, .int .i64 lock'] 60 (0, 0))) : Ch1 w' B c b t v vr g cap p v1 v2 used room lock' L := by
  have hb : ∀ k, bFp b t v vr k → ¬ k = c := fun k hk e => by
    subst e
    obtain ⟨cs, ty2, fz, hc, hty⟩ := h.book.noChg k hk
    have h2 := h.row; rw [hc] at h2; injection h2 with h2; injection h2 with _ h2
    rcases hty with e | e | e | e <;> rw [e] at h2 <;> exact absurd h2 (by decide)
  have hs : ∀ k, lFp p v2 k → ¬ k = c := fun k hk e => h.sets c (.inl rfl) (e ▸ hk)
  refine ⟨h.base, hrow, h.book.hits hh hb, hh.own h.logs (fun k hk e => ?_), h.log.hits hh (fun k hk => by subst hk; exact ⟨_, _, _, h.row, by decide⟩) (hs p (.inl rfl)) (fun k hk e => ?_) (fun k hk => hs k (.inr hk))⟩
  · subst e; obtain ⟨_, _, cs, hc⟩ := own_block h.logs hk; exact sort_ne hc h.row (by decide) rfl
  · subst e; obtain ⟨_, _, cs, hc⟩ := own_block h.log.own1 hk; exact sort_ne hc h.row (by decide) rfl
set_option maxHeartbeats 8000000 in
set_option maxRecDepth 100000 in
theorem do_locked {w : World} {B c b t : Nat} {v vr : Value} {g cap p : Nat} {v1 v2 : Value} {used room lock : Nat} {L : LV} (h : Ch1 w B c b t v vr g cap p v1 v2 used room lock L) {epoch : Nat} (he : epoch < 1000000000)
    {a : Addr} {m rc : Nat} (hr : Rd w 1 (some a) m (bvs (recH 3 epoch 0))) (hm : (recH 3 epoch 0).length = m) (hmc : m ≤ rc) (hrc : rc ≤ 9223372036854775807) (ha : ∃ cs fz, w.heap[a.block]? = some (.cells cs 5 fz)) :
    Calls Tryz.prog 21 #[.pointer (some ⟨c, 0, none⟩), .slice (some a) m rc] w fun e w' => e = .returned (.bool true) ∧ Ch1 w' B c b t v vr g cap p v1 v2 used room epoch L ∧ Hits (· = c) w w' := by
  have HH := hide_ h
  have hml : m ≤ 4398046511104 := by
    rw [← hm]; unfold recH
    have h1 := putN_len9 (n := 3) (by omega); have h2 := putN_len9 (n := epoch) (by omega); have h3 := putN_len9 (n := 0) (by omega)
    simp only [List.length_append]; omega
  have HNR : Hid (Calls Tryz.prog 41 #[.slice (some a) m rc] w fun e w' => e = .returned (.pointer (some ⟨w.heap.size, 0, none⟩)) ∧ RdrAt w' w.heap.size (recH 3 epoch 0, 0) ∧ Later w w') := by
    subst hm
    exact newReader_any hr hmc hrc hml (fun h => by cases h) (fun y hy => by injection hy with hy; subst hy; exact ha)
  have HE9 := hide_ he
  have HSZ := hide_ (show c < w.heap.size from theap_lt h.row)
  clear h he hr hm hmc hrc ha hml
  go_enter Tryz.func21, Tryz.ntmps21
  go_wp2_with fail
  refine HNR.out.mono ?_; rintro e w1 ⟨rfl, hr1, hl1⟩
  have hrd : RdrAt w1 w.heap.size (putN 3 ++ (putN epoch ++ (putN 0 ++ [])), 0) := by unfold recH at hr1; simpa [List.append_assoc] using hr1
  have HN1 := hide_ (rnum_any hrd (by simp))
  rw [rNum_put (by omega)] at HN1
  have HL1 := hide_ hl1
  clear hr1 hrd hl1
  go_wp2_with fail
  refine HN1.out.mono ?_; rintro e w2 ⟨rfl, hr2, hh2⟩
  have HN2 := hide_ (rnum_any hr2 (by simp))
  rw [rNum_put (by have := HE9.out; omega)] at HN2
  have HL2 := hide_ (show Later w w2 from Below.trans HL1.out (hh2.ge HL1.out.size (Nat.le_refl _)))
  clear hr2 hh2
  go_wp2_with fail
  refine HN2.out.mono ?_; rintro e w3 ⟨rfl, hr3, hh3⟩
  have HN3 := hide_ (rnum_any hr3 (by simp))
  rw [rNum_put (by omega)] at HN3
  have HL3 := hide_ (show Later w w3 from Below.trans HL2.out (hh3.ge HL2.out.size (Nat.le_refl _)))
  clear hr3 hh3
  go_wp2_with fail
  refine HN3.out.mono ?_; rintro e w4 ⟨rfl, hr4, hh4⟩
  have HR4 := hide_ hr4
  have HL4 := hide_ (show Later w w4 from Below.trans HL3.out (hh4.ge HL3.out.size (Nat.le_refl _)))
  clear hr4 hh4
  go_wp2_with fail
  obtain ⟨W5, hW5⟩ : ∃ W5, W5 = (w4.alloc (Obj.cells #[Value.int IntKind.i64 epoch] 3)).alloc (Obj.cells #[Value.int IntKind.i64 0] 3) := ⟨_, rfl⟩
  rw [← hW5]
  have hl45 : Later w4 W5 := by rw [hW5]; exact (later_alloc _ _).al _
  have hep : W5.heap[w4.heap.size]? = some (.cells #[Value.int IntKind.i64 epoch] 3 (0, 0)) := by rw [hW5]; exact later_row (later_alloc _ _) (heap_alloc_new w4 _)
  have HL5 := hide_ (HL4.out.trans hl45)
  have HR5 := hide_ (HR4.out.later hl45)
  have HER := hide_ (rerror_any HR5.out)
  simp only at HER
  have HCH := hide_ (HH.out.later HL5.out)
  have c7 := cell_of_row _ _ 0 _ _ (0, 0) hep
  have c2 := cell_of_row _ _ 2 _ _ (0, 0) HCH.out.row
  have f2 := frozen_of_row _ _ 2 _ _ HCH.out.row
  obtain ⟨W6, hW6⟩ : ∃ W6, W6 = W5.setCell ⟨c, 2, none⟩ (.int .i64 epoch) := ⟨_, rfl⟩
  have HW6 := hide_ hW6.symm
  have hh6 : Hits (· = c) W5 W6 := by rw [hW6]; exact (Hits.refl (· = c) W5).setCell (g := c) (fun _ => rfl) 2 _
  have HF := hide_ (HCH.out.setRow hh6 (lock' := epoch) (by rw [hW6]; exact heap_setCell_same W5 c 2 _ _ _ HCH.out.row))
  have HHF := hide_ ((Hits.later (F := (· = c)) HL5.out).trans hh6 (fun _ _ h => h))
  have HDN := hide_ (rdone_any (HR5.out.hits hh6 (fun e => by have := HSZ.out; omega) (fun k cs fz hk e => by subst e; exact sort_ne hk HCH.out.row (by decide) rfl)) (by simp))
  clear hW5 hl45 hep hW6 hh6
  go_wp2_with fail
  refine HER.out.mono ?_; rintro e w7 ⟨rfl, rfl⟩
  go_wp2_with (rw [HW6.out])
  refine HDN.out.mono ?_; rintro e w8 ⟨rfl, rfl⟩
  rw [show rDone (([] : List UInt8), 0) = true from rfl]
  go_wp2_with fail
  go_ret
  exact ⟨rfl, HF.out, HHF.out⟩

end Go.Proofs.YtlgnnmpfipmjeaaGreat
/-
  chest: DeleteFunc of the first batches.
-/
namespace Go.Proofs.YtlgnnmpfipmjeaaGreat
open Go.RowKit
set_option linter.unusedVariables false
set_option linter.unusedSimpArgs false
set_option maxHeartbeats 1000000 in
theorem del_any {w : World} (x : BV) {tb at_ : Nat} (ht : w.cell? ⟨tb, 0, none⟩ = some (.int .i64 at_)) :
    Calls Tryz.prog 53 #[.agg #[.int .i64 x.prev, .int .i64 x.ver, .int .i64 x.known, .slice x.A x.n x.c], .pointer (some ⟨tb, 0, none⟩)] w fun e w' => e = .returned (.bool (decide (x.ver ≤ at_))) ∧ Later w w' := by
  have ht2 := later_cell ht _ (later_alloc w (.cells #[.int .i64 x.prev, .int .i64 x.ver, .int .i64 x.known, .slice x.A x.n x.c] 38))
  have HD := hide_ (show decide ((x.ver : Int) ≤ (at_ : Int)) = decide (x.ver ≤ at_) by simp)
  clear ht
  go_enter Tryz.func53, Tryz.ntmps53
  go_wp2_with fail
  go_ret
  exact ⟨by first | rw [← HD.out]; rfl | simp, later_alloc _ _⟩
set_option maxHeartbeats 2000000 in
set_option maxRecDepth 100000 in
theorem index_first {w : World} {A : Option Addr} {n c : Nat} {L : List BV} {x : BV} (hr : Rd w 4 A n (brow L)) (hx : L[0]? = some x) (hl : L.length = n) {tb at_ : Nat} (ht : w.cell? ⟨tb, 0, none⟩ = some (.int .i64 at_)) (hv : x.ver ≤ at_) :
    Calls Tryz.prog 78 #[.slice A n c, .func (.func 53) #[] #[.pointer (some ⟨tb, 0, none⟩)]] w fun e w' => e = .returned (.int .i64 0) ∧ Later w w' := by
  obtain ⟨b, o, rfl, l0, l1, l2, l3⟩ := hr.bat hx
  have hn : 0 < n := by rw [← hl]; exact (List.getElem?_eq_some_iff.1 hx).1
  have q1 : (0 : Int) < (n : Int) := by omega
  have hd := hide_ (del_any x ht)
  rw [decide_eq_true hv] at hd
  simp only [Nat.zero_mul, Nat.add_zero] at l0 l1 l2 l3
  clear hr hx hl ht hv
  go_enter Tryz.func78, Tryz.ntmps78
  go_wp2_with fail
  go_loopw [8] (fun s wr => s = .int .i64 0 ∧ Hid (wr = w)) (fun _ _ => 0)
  case atStart => exact ⟨rfl, hide_ rfl⟩
  case round =>
    obtain ⟨rfl, HW⟩ := hrel
    obtain rfl := HW.out
    go_wp2_with fail
    refine hd.out.mono ?_; rintro e w2 ⟨rfl, hl2⟩
    have HL2 := hide_ hl2
    clear hl2
    go_wp2_with fail
    go_ret
    exact ⟨rfl, HL2.out⟩
/-- What stands while the first batches go: i are moved ahead. -/
def moved (L L2 : List BV) (i : Nat) : List BV := L2.take i ++ L.drop i
theorem moved_len {L L2 : List BV} {i : Nat} (h2 : i ≤ L2.length) (h : i ≤ L.length) : (moved L L2 i).length = L.length := by unfold moved; simp; omega
theorem moved_at {L L2 : List BV} {i j : Nat} (h2 : i ≤ L2.length) (hj : i ≤ j) : (moved L L2 i)[j]? = L[j]? := by
  unfold moved
  rw [List.getElem?_append_right (by simp; omega), List.getElem?_drop, List.length_take]
  congr 1; omega
theorem moved_set {L L2 : List BV} {i : Nat} {y : BV} (hy : L2[i]? = some y) (hL : i < L.length) : (moved L L2 i).set i y = moved L L2 (i + 1) := by
  have hlt := (List.getElem?_eq_some_iff.1 hy).1
  unfold moved
  rw [List.set_append_right _ _ (by simp; omega), List.length_take, show i - min i L2.length = 0 by omega, List.drop_eq_getElem_cons hL, List.set_cons_zero, List.take_add_one, hy]
  simp
theorem own_set4 {w : World} {B : Nat} {g n cap i : Nat} {L : List BV} (ho : w.ownsRow B 38 4 (.slice (some ⟨g, 0, none⟩) n cap) n (brow L)) (hi : i < L.length) (y : BV) :
    ((((w.setCell ⟨g, i * 4, none⟩ (.int .i64 y.prev)).setCell ⟨g, i * 4 + 1, none⟩ (.int .i64 y.ver)).setCell ⟨g, i * 4 + 2, none⟩ (.int .i64 y.known)).setCell ⟨g, i * 4 + 3, none⟩ (.slice y.A y.n y.c)).ownsRow B 38 4 (.slice (some ⟨g, 0, none⟩) n cap) n (brow (L.set i y)) := by
  have h := own_setCell (own_setCell (own_setCell (own_setCell ho (i * 4) (.int .i64 y.prev)) (i * 4 + 1) (.int .i64 y.ver)) (i * 4 + 2) (.int .i64 y.known)) (i * 4 + 3) (.slice y.A y.n y.c)
  have e : brow (L.set i y) = ((((brow L).set (i * 4) (.int .i64 y.prev)).set (i * 4 + 1) (.int .i64 y.ver)).set (i * 4 + 2) (.int .i64 y.known)).set (i * 4 + 3) (.slice y.A y.n y.c) := by
    unfold brow
    rw [rec_set encV_len hi]
    have hlen : (L.flatMap encV).length = L.length * 4 := rec_len encV_len L
    apply List.ext_getElem?
    intro j
    simp only [List.getElem?_set, List.length_set, hlen]
    have ht : ((L.flatMap encV).take (i * 4)).length = i * 4 := by rw [List.length_take, hlen]; omega
    rcases Nat.lt_or_ge j (i * 4) with h1 | h1
    · rw [List.append_assoc, List.getElem?_append_left (by rw [ht]; exact h1), List.getElem?_take, if_pos h1]
      repeat rw [if_neg (by omega)]
    · rw [List.append_assoc, List.getElem?_append_right (by rw [ht]; exact h1), ht]
      rcases Nat.lt_or_ge j (i * 4 + 4) with h2 | h2
      · rw [List.getElem?_append_left (by rw [encV_len]; omega)]
        have : j = i * 4 ∨ j = i * 4 + 1 ∨ j = i * 4 + 2 ∨ j = i * 4 + 3 := by omega
        rcases this with rfl | rfl | rfl | rfl
        · simp [encV]; omega
        · simp [encV]; omega
        · simp [encV]; omega
        · simp [encV]; omega
      · rw [List.getElem?_append_right (by rw [encV_len]; omega), encV_len, List.getElem?_drop]
        repeat rw [if_neg (by omega)]
        congr 1; omega
  rw [e]; exact h
set_option maxHeartbeats 8000000 in
set_option maxRecDepth 100000 in
theorem bdelete_any {w : World} {B g n cap : Nat} {L1 L2 : List BV} (ho : w.ownsRow B 38 4 (.slice (some ⟨g, 0, none⟩) n cap) n (brow (L1 ++ L2))) (hn : (L1 ++ L2).length = n) (hn24 : n ≤ 24) (hpos : L1 ≠ []) {tb at_ : Nat} (ht : w.cell? ⟨tb, 0, none⟩ = some (.int .i64 at_)) (htg : tb ≠ g) (h1 : ∀ x ∈ L1, x.ver ≤ at_) (h2 : ∀ x ∈ L2, at_ < x.ver) :
    Calls Tryz.prog 52 #[.slice (some ⟨g, 0, none⟩) n cap, .func (.func 53) #[] #[.pointer (some ⟨tb, 0, none⟩)]] w fun e w' => e = .returned (.slice (some ⟨g, 0, none⟩) L2.length cap) ∧ w'.ownsRow B 38 4 (.slice (some ⟨g, 0, none⟩) L2.length cap) L2.length (brow L2) ∧ Hits (· = g) w w' := by
  obtain ⟨m1, hm1⟩ : ∃ m1, m1 = L1.length := ⟨_, rfl⟩
  obtain ⟨m2, hm2⟩ : ∃ m2, m2 = L2.length := ⟨_, rfl⟩
  have hmn : m1 + m2 = n := by rw [hm1, hm2, ← List.length_append]; exact hn
  have hp1 : 0 < m1 := by rw [hm1]; exact List.length_pos_iff.2 hpos
  obtain ⟨x0, hx0⟩ : ∃ x, (L1 ++ L2)[0]? = some x := ⟨_, List.getElem?_eq_getElem (by rw [hn]; omega)⟩
  have hx01 : x0 ∈ L1 := by
    rw [List.getElem?_append_left (by rw [← hm1]; exact hp1)] at hx0; exact List.mem_of_getElem? hx0
  have HI := hide_ (index_first (c := cap) (Rd.of_own ho) hx0 hn ht (h1 x0 hx01))
  have hcap := own_cap ho
  have HO := hide_ ho; have HN := hide_ hn; have HT := hide_ ht; have H1 := hide_ h1; have H2 := hide_ h2; have HM1 := hide_ hm1; have HM2 := hide_ hm2
  have HB := hide_ (ho.lt g rfl)
  have hn2 : (n : Int) ≤ 24 := by omega
  have hsz : (Tryz.prog.info? 38).map (·.size) = some 4 := by kernel_rfl
  rw [← hm2]
  clear ho hn ht h1 h2 hm1 hm2 hx0 hx01 hpos
  go_enter Tryz.func52, Tryz.ntmps52
  go_wp2_with fail
  refine HI.out.mono ?_; rintro e w1 ⟨rfl, hl1⟩
  have HL1 := hide_ hl1
  clear hl1
  go_wp2_with fail
  go_loopw [5, 6] (fun s5 s6 wr => ∃ i j : Nat, 1 ≤ j ∧ j ≤ n ∧ i ≤ m2 ∧ (i = j - m1) ∧ s5 = .int .i64 i ∧ s6 = .int .i64 j ∧ Hid (wr.ownsRow B 38 4 (.slice (some ⟨g, 0, none⟩) n cap) n (brow (moved (L1 ++ L2) L2 i))) ∧ Hid (Hits (· = g) w wr)) (fun _ s _ => n - (intOf s).toNat)
  case atStart => exact ⟨0, 1, Nat.le_refl _, by omega, Nat.zero_le _, by omega, rfl, rfl, by unfold moved; simpa using hide_ (own_below HO.out HL1.out), Hits.later HL1.out⟩
  case round =>
    obtain ⟨i, j, hj1, hjn, him, hij, rfl, rfl, HOW, HH⟩ := hrel
    by_cases hlt : j < n
    · obtain ⟨y, hy⟩ : ∃ y, (L1 ++ L2)[j]? = some y := ⟨_, List.getElem?_eq_getElem (by rw [HN.out]; exact hlt)⟩
      have hy2 : (moved (L1 ++ L2) L2 i)[j]? = some y := by rw [moved_at (by rw [← HM2.out]; exact him) (by omega)]; exact hy
      obtain ⟨b, o, hbo, l0, l1, l2, l3⟩ := (Rd.of_own HOW.out).bat hy2
      injection hbo with hbo
      injection hbo with hb1 hb2
      subst hb1; subst hb2
      simp only [Nat.zero_add] at l0 l1 l2 l3
      have q1 : (j : Int) < (n : Int) := by omega
      have q2 : (0 : Int) ≤ (j : Int) := by omega
      have q3 : (j : Int) ≤ 24 := by omega
      have q4 : (i : Int) ≤ 24 := by omega
      have q5 : (0 : Int) ≤ (i : Int) := by omega
      have q6 : (i : Int) < (n : Int) := by omega
      have ht := HH.out.cell HT.out htg
      have hal := later_alloc wr (.cells #[.int .i64 y.prev, .int .i64 y.ver, .int .i64 y.known, .slice y.A y.n y.c] 38)
      have HD := hide_ (del_any y (later_cell ht _ hal))
      have hbx := heap_alloc_new wr (.cells #[.int .i64 y.prev, .int .i64 y.ver, .int .i64 y.known, .slice y.A y.n y.c] 38)
      have HBX := hide_ hbx; have HAL := hide_ hal
      by_cases hj : j < m1
      · have hyv : y.ver ≤ at_ := by
          rw [List.getElem?_append_left (by rw [← HM1.out]; exact hj)] at hy
          exact H1.out y (List.mem_of_getElem? hy)
        rw [decide_eq_true hyv] at HD
        obtain rfl : i = 0 := by omega
        clear hy hy2 hyv ht hal hbx hij
        go_wp2_with fail
        refine HD.out.mono ?_; rintro e w3 ⟨rfl, hl3⟩
        have HL3 := hide_ (HAL.out.trans hl3)
        clear hl3
        go_wp2_with fail
        go_roundw
        case rel => exact ⟨0, j + 1, by omega, by omega, by omega, by omega, rfl, by go_num, own_below HOW.out HL3.out, HH.out.thenLater HL3.out⟩
        case measure => simp [intOf]; omega
      · have hy3 : L2[i]? = some y := by
          rw [List.getElem?_append_right (by rw [← HM1.out]; omega), ← HM1.out] at hy
          rw [hij]; exact hy
        have him2 : i < m2 := by rw [HM2.out]; exact (List.getElem?_eq_some_iff.1 hy3).1
        have hyv : ¬ y.ver ≤ at_ := by have := H2.out y (List.mem_of_getElem? hy3); omega
        rw [decide_eq_false hyv] at HD
        have HMS := hide_ (moved_set (L := L1 ++ L2) hy3 (by rw [HN.out]; omega))
        have HLN := hide_ (moved_len (L := L1 ++ L2) (L2 := L2) (i := i) (by rw [← HM2.out]; exact him) (by rw [HN.out]; omega))
        have HIJ := hide_ hij
        clear hy hy2 hyv hy3 ht hal hij
        go_wp2_with fail
        refine HD.out.mono ?_; rintro e w3 ⟨rfl, hl3⟩
        have HL3 := hide_ (HAL.out.trans hl3)
        have ho3 := own_below HOW.out HL3.out
        obtain ⟨cur, hBg, hg3, hnc3, hcm3, hcs3, htk3⟩ := own_row ho3
        have hbx3 := later_row hl3 HBX.out
        have x0 := cell_of_row _ _ 0 _ _ (0, 0) hbx3
        have x1 := cell_of_row _ _ 1 _ _ (0, 0) hbx3
        have x2 := cell_of_row _ _ 2 _ _ (0, 0) hbx3
        have x3 := cell_of_row _ _ 3 _ _ (0, 0) hbx3
        obtain ⟨z, hz⟩ : ∃ z, (moved (L1 ++ L2) L2 i)[i]? = some z := ⟨_, List.getElem?_eq_getElem (by rw [HLN.out, HN.out]; omega)⟩
        obtain ⟨b', o', hbo', m0', m1', m2', m3'⟩ := (Rd.of_own ho3).bat hz
        injection hbo' with hbo'
        injection hbo' with hb1' hb2'
        subst hb1'; subst hb2'
        simp only [Nat.zero_add] at m0' m1' m2' m3'
        have f0 := frozen_of_row w3 g (i * 4) _ _ hg3
        have f1 := frozen_of_row w3 g (i * 4 + 1) _ _ hg3
        have f2 := frozen_of_row w3 g (i * 4 + 2) _ _ hg3
        have f3 := frozen_of_row w3 g (i * 4 + 3) _ _ hg3
        have HOF := hide_ (own_set4 ho3 (i := i) (by rw [HLN.out, HN.out]; omega) y)
        rw [HMS.out] at HOF
        have HHF := hide_ (show Hits (· = g) w ((((w3.setCell ⟨g, i * 4, none⟩ (.int .i64 y.prev)).setCell ⟨g, i * 4 + 1, none⟩ (.int .i64 y.ver)).setCell ⟨g, i * 4 + 2, none⟩ (.int .i64 y.known)).setCell ⟨g, i * 4 + 3, none⟩ (.slice y.A y.n y.c)) from
          ((((HH.out.thenLater HL3.out).setCell (g := g) (fun _ => rfl) _ _).setCell (g := g) (fun _ => rfl) _ _).setCell (g := g) (fun _ => rfl) _ _).setCell (g := g) (fun _ => rfl) _ _)
        clear hl3 ho3 hg3 hnc3 hcm3 hcs3 htk3 hbx3 hz
        go_wp2_with fail
        go_roundw
        case rel => exact ⟨i + 1, j + 1, by omega, by omega, by omega, by have := HIJ.out; omega, by go_num, by go_num, HOF, HHF⟩
        case measure => simp [intOf]; omega
    · obtain rfl : j = n := by omega
      obtain rfl : i = m2 := by omega
      have q1 : ¬ (j : Int) < (j : Int) := by omega
      have hij2 : i < j := by omega
      have q2 : (i : Int) ≤ (j : Int) := by omega
      have q3 : (0 : Int) ≤ (i : Int) := by omega
      have q4 : ¬ cap = i := by omega
      obtain ⟨cur, hBg, hg3, hnc3, hcm3, hcs3, htk3⟩ := own_row HOW.out
      have hclr : ∀ ty, (Builtin.clear_ #[31] ty #[.slice (some ⟨g, i * 4, none⟩) (j - i) (cap - i)]).run Tryz.prog wr = .ok (.tuple #[]) (wr.setRow g _) := fun ty =>
        run_clear_row 31 38 ty (.agg #[.int .i64 0, .int .i64 0, .int .i64 0, .slice none 0 0]) 4 Tryz.underlying31 (fun w => by kernel_rfl) rfl (by intro u hu; simp [Value.cells] at hu; rcases hu with rfl | rfl | rfl | rfl <;> rfl) (by omega) wr g (i * 4) (j - i) (cap - i) cur (by omega) hg3 (by rw [hcs3]; omega)
      obtain ⟨Y, hY⟩ : ∃ Y, Y = (cur.toList.take (i * 4) ++ (Builtin.zeroCells (Value.agg #[.int .i64 0, .int .i64 0, .int .i64 0, .slice none 0 0]).cells (j - i)).toList ++ cur.toList.drop (i * 4 + (Builtin.zeroCells (Value.agg #[.int .i64 0, .int .i64 0, .int .i64 0, .slice none 0 0]).cells (j - i)).toList.length)).toArray := ⟨_, rfl⟩
      obtain ⟨W9, hW9⟩ : ∃ W9, W9 = wr.setRow g Y := ⟨_, rfl⟩
      have hclr2 : ∀ ty, (Builtin.clear_ #[31] ty #[.slice (some ⟨g, i * 4, none⟩) (j - i) (cap - i)]).run Tryz.prog wr = .ok (.tuple #[]) W9 := fun ty => by rw [hW9, hY]; exact hclr ty
      have hz : (Builtin.zeroCells (Value.agg #[.int .i64 0, .int .i64 0, .int .i64 0, .slice none 0 0]).cells (j - i)).toList.length = (j - i) * 4 := by rw [Array.length_toList, size_zeroCells]; rfl
      have hcl : cur.toList.length = cap * 4 := by rw [Array.length_toList]; exact hcs3
      have hYs : Y.size = cap * 4 := by
        rw [hY, List.size_toArray, List.length_append, List.length_append, hz, List.length_take, List.length_drop, hcl]; omega
      have hYt : Y.toList.take (i * 4) = brow L2 := by
        have hL2 : L2.take i = L2 := by rw [List.take_of_length_le]; rw [← HM2.out]; exact Nat.le_refl _
        have e1 : Y.toList.take (i * 4) = cur.toList.take (i * 4) := by
          rw [hY, List.toList_toArray, List.append_assoc, List.take_left' (by rw [List.length_take, hcl]; omega)]
        have e2 : cur.toList.take (i * 4) = (cur.toList.take (j * 4)).take (i * 4) := by rw [List.take_take, Nat.min_eq_left (by omega)]
        rw [e1, e2, htk3]
        unfold brow
        rw [rec_take encV_len]
        unfold moved
        rw [List.take_left' (by rw [hL2]; exact HM2.out.symm), hL2]
      have HF := hide_ (show W9.ownsRow B 38 4 (.slice (some ⟨g, 0, none⟩) i cap) i (brow L2) from ⟨by rw [brow_len, HM2.out], .inr ⟨g, cap, Y, rfl, hBg, by rw [hW9]; exact setRow_heap _ _ _ _ _ _ hg3, by omega, hcm3, hYs, hYt⟩⟩)
      have HHF := hide_ (show Hits (· = g) w W9 from by
        rw [hW9]
        exact ⟨HH.out.os, HH.out.tape, HH.out.output, by have := HH.out.size; simpa [World.setRow] using this, fun k hk hn => (setRow_other _ _ _ _ hn).trans (HH.out.kept k hk hn)⟩)
      clear hij hclr hY hW9 hz hcl hYs hYt hg3 hnc3 hcm3 hcs3 htk3
      go_wp2_with fail
      go_ret
      exact ⟨rfl, HF.out, HHF.out⟩

end Go.Proofs.YtlgnnmpfipmjeaaGreat
/-
  chest: do, of what is popped.
-/
namespace Go.Proofs.YtlgnnmpfipmjeaaGreat
open Go.RowKit
set_option linter.unusedVariables false
set_option linter.unusedSimpArgs false
set_option maxHeartbeats 8000000 in
set_option maxRecDepth 100000 in
theorem do_popped {w : World} {B c b t : Nat} {v vr : Value} {g cap p : Nat} {v1 v2 : Value} {used room lock : Nat} {L : LV} (h : Ch1 w B c b t v vr g cap p v1 v2 used room lock L) (hB : B ≤ w.heap.size) {n : Nat} {L1 L2 : List BV} (hl : L.list = L1 ++ L2) (hpos : L1 ≠ []) (hl1 : ∀ x ∈ L1, x.ver ≤ n) (hl2 : ∀ x ∈ L2, n < x.ver) (hnn : n < 1000000000000000)
    {a : Addr} {m rc : Nat} (hr : Rd w 1 (some a) m (bvs (recH 4 L.epoch n))) (hm : (recH 4 L.epoch n).length = m) (hmc : m ≤ rc) (hrc : rc ≤ 9223372036854775807) (ha : ∃ cs fz, w.heap[a.block]? = some (.cells cs 5 fz)) :
    Calls Tryz.prog 21 #[.pointer (some ⟨c, 0, none⟩), .slice (some a) m rc] w fun e w' => e = .returned (.bool true) ∧ ∃ v2', Ch1 w' B c b t v vr g cap p v1 v2' used room lock { L with gone := max L.gone n, list := L2 } ∧ Hits (lFp p v2) w w' ∧ NS w v2 v2' := by
  have HH := hide_ h
  have hml : m ≤ 4398046511104 := by
    rw [← hm]; unfold recH
    have h1 := putN_len9 (n := 4) (by omega); have h2 := putN_len9 (n := L.epoch) (by have := h.log.e; omega); have h3 := putN_len9 (n := n) (by omega)
    simp only [List.length_append]; omega
  have HNR : Hid (Calls Tryz.prog 41 #[.slice (some a) m rc] w fun e w' => e = .returned (.pointer (some ⟨w.heap.size, 0, none⟩)) ∧ RdrAt w' w.heap.size (recH 4 L.epoch n, 0) ∧ Later w w') := by
    subst hm
    exact newReader_any hr hmc hrc hml (fun h => by cases h) (fun y hy => by injection hy with hy; subst hy; exact ha)
  have HE9 := hide_ (show L.epoch < 1000000000 from h.log.e)
  have HLL := hide_ hl; have HPOS := hide_ hpos; have HV1 := hide_ hl1; have HV2 := hide_ hl2; have HNN := hide_ hnn
  have HSZ := hide_ (show p < w.heap.size from theap_lt h.log.row)
  clear h hl hpos hl1 hl2 hnn hr hm hmc hrc ha hml
  go_enter Tryz.func21, Tryz.ntmps21
  go_wp2_with fail
  refine HNR.out.mono ?_; rintro e w1 ⟨rfl, hr1, hl1⟩
  have hrd : RdrAt w1 w.heap.size (putN 4 ++ (putN L.epoch ++ (putN n ++ [])), 0) := by unfold recH at hr1; simpa [List.append_assoc] using hr1
  have HN1 := hide_ (rnum_any hrd (by simp))
  rw [rNum_put (by omega)] at HN1
  have HL1 := hide_ hl1
  clear hr1 hrd hl1
  go_wp2_with fail
  refine HN1.out.mono ?_; rintro e w2 ⟨rfl, hr2, hh2⟩
  have HN2 := hide_ (rnum_any hr2 (by simp))
  rw [rNum_put (by have := HE9.out; omega)] at HN2
  have HL2 := hide_ (show Later w w2 from Below.trans HL1.out (hh2.ge HL1.out.size (Nat.le_refl _)))
  clear hr2 hh2
  go_wp2_with fail
  refine HN2.out.mono ?_; rintro e w3 ⟨rfl, hr3, hh3⟩
  have HN3 := hide_ (rnum_any hr3 (by simp))
  rw [rNum_put (by have := HNN.out; omega)] at HN3
  have HL3 := hide_ (show Later w w3 from Below.trans HL2.out (hh3.ge HL2.out.size (Nat.le_refl _)))
  clear hr3 hh3
  go_wp2_with fail
  refine HN3.out.mono ?_; rintro e w4 ⟨rfl, hr4, hh4⟩
  have HR4 := hide_ hr4
  have HL4 := hide_ (show Later w w4 from Below.trans HL3.out (hh4.ge HL3.out.size (Nat.le_refl _)))
  clear hr4 hh4
  go_wp2_with fail
  obtain ⟨W5, hW5⟩ : ∃ W5, W5 = (w4.alloc (Obj.cells #[Value.int IntKind.i64 L.epoch] 3)).alloc (Obj.cells #[Value.int IntKind.i64 n] 3) := ⟨_, rfl⟩
  rw [← hW5]
  have hl45 : Later w4 W5 := by rw [hW5]; exact (later_alloc _ _).al _
  have hep : W5.heap[w4.heap.size]? = some (.cells #[Value.int IntKind.i64 L.epoch] 3 (0, 0)) := by rw [hW5]; exact later_row (later_alloc _ _) (heap_alloc_new w4 _)
  have hnp : W5.heap[w4.heap.size + 1]? = some (.cells #[Value.int IntKind.i64 n] 3 (0, 0)) := by rw [hW5]; have := heap_alloc_new (w4.alloc (Obj.cells #[Value.int IntKind.i64 L.epoch] 3)) (Obj.cells #[Value.int IntKind.i64 n] 3); simpa using this
  have HL5 := hide_ (HL4.out.trans hl45)
  have HR5 := hide_ (HR4.out.later hl45)
  have HER := hide_ (rerror_any HR5.out)
  simp only at HER
  have HCH := hide_ (HH.out.later HL5.out)
  have c7 := cell_of_row _ _ 0 _ _ (0, 0) hep
  have c8 := cell_of_row _ _ 0 _ _ (0, 0) hnp
  have HNP := hide_ hnp
  have HFD := hide_ (find_1 HCH.out L.epoch)
  rw [if_pos rfl] at HFD
  clear hW5 hl45 hep hnp
  go_wp2_with fail
  refine HER.out.mono ?_; rintro e w7 ⟨rfl, rfl⟩
  go_wp2_with fail
  refine HFD.out.mono ?_; rintro e w8 ⟨rfl, rfl⟩
  obtain ⟨A2, c2, hv2⟩ := own_form HCH.out.log.own2
  subst hv2
  obtain ⟨tb, htb⟩ : ∃ tb, tb = w4.heap.size + 1 := ⟨_, rfl⟩
  rw [← htb] at c8 HNP ⊢
  have hlrow := HCH.out.log.row
  simp only [logRow] at hlrow
  have e2 := Stands.cell (X := (fun k => k = p ∨ k = tb)) (cell_of_row _ _ 2 _ _ (0, 0) hlrow) (.inl rfl)
  have e8 := Stands.cell (X := (fun k => k = p ∨ k = tb)) c8 (.inr rfl)
  have k2 := cell_of_row _ _ 2 _ _ (0, 0) hlrow
  have f2 := frozen_of_row _ _ 2 _ _ hlrow
  have HLR := hide_ hlrow
  have HPT := hide_ (show p < w4.heap.size from Nat.lt_of_lt_of_le HSZ.out HL4.out.size)
  have HTB := hide_ htb
  clear hlrow c7 c8 htb
  go_wp2_with fail
  refine wp_region_z (R := Stands (fun k => k = p ∨ k = tb)) [9] (by kernel_rfl) ?_
  refine wpAnyZ_pure (Stands.steady (fun k => k = p ∨ k = tb)) 0 (v := ?_) rfl (by kernel_rfl) (by kernel_rfl) (by kernel_rfl) (fun _ _ _ h => h) (by rfl) (by intro W; go_simp; with_reducible rfl) ?_; try simp only [Act.put, List.setIfInBounds_toArray, List.set_cons_zero, List.set_cons_succ]
  refine wpAnyZ_pure (Stands.steady (fun k => k = p ∨ k = tb)) 1 (v := ?_) rfl (by kernel_rfl) (by kernel_rfl) (by kernel_rfl) (fun _ _ _ h => h) (by rfl) (by intro W; go_simp; with_reducible rfl) ?_; try simp only [Act.put, List.setIfInBounds_toArray, List.set_cons_zero, List.set_cons_succ]
  refine wpAnyZ_pure (Stands.steady (fun k => k = p ∨ k = tb)) 2 (v := ?_) rfl (by kernel_rfl) (by kernel_rfl) (by kernel_rfl) (fun _ _ _ h => h) (by rfl) (by intro W; go_simp; with_reducible rfl) ?_; try simp only [Act.put, List.setIfInBounds_toArray, List.set_cons_zero, List.set_cons_succ]
  refine wpAnyZ_pure (Stands.steady (fun k => k = p ∨ k = tb)) 3 (v := ?_) rfl (by kernel_rfl) (by kernel_rfl) (by kernel_rfl) (fun _ _ _ h => h) (by rfl) (by intro W; go_simp; with_reducible rfl) ?_; try simp only [Act.put, List.setIfInBounds_toArray, List.set_cons_zero, List.set_cons_succ]
  refine wpAnyZ_take (Stands.steady (fun k => k = p ∨ k = tb)) 4 (v := ?_) rfl (by kernel_rfl) (by kernel_rfl) (by kernel_rfl) (by kernel_rfl) (fun _ _ _ h => h) (by rfl) (by intro W hSw; have hS0 := Stands.trans (show Stands (fun k => k = p ∨ k = tb) w8 _ from by repeat first | assumption | exact Stands.refl _ _ | refine Stands.alloc ?_ _ | refine Stands.drew ?_ | refine Stands.trans ?_ (by assumption)) hSw; go_simp; with_reducible rfl) ?_; try simp only [Act.put, List.setIfInBounds_toArray, List.set_cons_zero, List.set_cons_succ]
  refine wpAnyZ_take (Stands.steady (fun k => k = p ∨ k = tb)) 5 (v := ?_) rfl (by kernel_rfl) (by kernel_rfl) (by kernel_rfl) (by kernel_rfl) (fun _ _ _ h => h) (by rfl) (by intro W hSw; have hS0 := Stands.trans (show Stands (fun k => k = p ∨ k = tb) w8 _ from by repeat first | assumption | exact Stands.refl _ _ | refine Stands.alloc ?_ _ | refine Stands.drew ?_ | refine Stands.trans ?_ (by assumption)) hSw; go_simp; with_reducible rfl) ?_; try simp only [Act.put, List.setIfInBounds_toArray, List.set_cons_zero, List.set_cons_succ]
  refine wpAnyZ_one 6 (by kernel_rfl) rfl (fun K hK => ?_)
  go_simp
  refine hK.out _ _ (by repeat first | assumption | exact Stands.refl _ _ | refine Stands.alloc ?_ _ | refine Stands.drew ?_ | refine Stands.of_later ?_) ?_
  clear hK K; try simp only [Act.put, List.setIfInBounds_toArray, List.set_cons_zero, List.set_cons_succ]
  refine wpAnyZ_pure (Stands.steady (fun k => k = p ∨ k = tb)) 7 (v := ?_) rfl (by kernel_rfl) (by kernel_rfl) (by kernel_rfl) (fun _ _ _ h => h) (by rfl) (by intro W; go_simp; with_reducible rfl) ?_; try simp only [Act.put, List.setIfInBounds_toArray, List.set_cons_zero, List.set_cons_succ]
  refine wpAnyZ_pure (Stands.steady (fun k => k = p ∨ k = tb)) 8 (v := ?_) rfl (by kernel_rfl) (by kernel_rfl) (by kernel_rfl) (fun _ _ _ h => h) (by rfl) (by intro W; go_simp; with_reducible rfl) ?_; try simp only [Act.put, List.setIfInBounds_toArray, List.set_cons_zero, List.set_cons_succ]
  refine wpAnyZ_loud 9 (by kernel_rfl) (by rfl) rfl (fun K hK => ?_)
  go_simp
  refine hK.out _ _ ?_
  clear hK K; try simp only [Act.put, List.setIfInBounds_toArray, List.set_cons_zero, List.set_cons_succ]
  refine wpAnyZ_done (by kernel_rfl) ?_ _
  have hmf : ∀ (fn : Fn) (first cap : Array Value) (w : World), (Instr.makeFunc fn first cap).run Tryz.prog w = .ok (.func fn first cap) w := fun _ _ _ _ => rfl
  have MX := hide_ (show (if L.gone < n then (n : Int) else (L.gone : Int)) = ((max L.gone n : Nat) : Int) by split <;> omega)
  rw [MX.out]
  obtain ⟨W9, hW9⟩ : ∃ W9, W9 = (w8.setCell ⟨p, 2, none⟩ (.int .i64 ((max L.gone n : Nat) : Int))).drew := ⟨_, rfl⟩
  rw [← hW9]
  have hrow9 : W9.heap[p]? = some (.cells (logRow v1 (.slice A2 L.list.length c2) { L with gone := max L.gone n }) 75 (0, 0)) := by
    rw [hW9]; exact heap_setCell_same w8 p 2 _ _ _ HLR.out
  have hh9 : Hits (· = p) w8 W9 := by rw [hW9]; exact ((Hits.refl (· = p) w8).setCell (g := p) (fun _ => rfl) 2 _).thenLater (Later.refl _).dr
  have hbp : ∀ k, (Value.slice A2 L.list.length c2).ownBlock = some k → k ≠ p := fun k hk e => by
    subst e; obtain ⟨_, _, cs, hc⟩ := own_block HCH.out.log.own2 hk; exact sort_ne hc HCH.out.log.row (by decide) rfl
  have hbp1 : ∀ k, v1.ownBlock = some k → k ≠ p := fun k hk e => by
    subst e; obtain ⟨_, _, cs, hc⟩ := own_block HCH.out.log.own1 hk; exact sort_ne hc HCH.out.log.row (by decide) rfl
  have hnc9 : NoChg w8 (· = p) := fun k hk => by subst hk; exact ⟨_, _, _, HCH.out.log.row, by decide⟩
  have ho9 := hh9.own HCH.out.log.own2 (fun k hk => hbp k hk)
  have hlen0 : 0 < L.list.length := by rw [HLL.out, List.length_append]; have := List.length_pos_iff.2 HPOS.out; omega
  obtain ⟨g2, cap2, hv2, _, _⟩ := ho9.form hlen0
  have hA2 : A2 = some ⟨g2, 0, none⟩ := by injection hv2
  subst hA2
  have ht9 : W9.cell? ⟨tb, 0, none⟩ = some (.int .i64 n) := hh9.cell (cell_of_row _ _ 0 _ _ (0, 0) HNP.out) (fun e => by have := HTB.out; have := HPT.out; omega)
  have hg2 : g2 < w.heap.size := by
    have h := HH.out.log.own2.lt g2 (by rfl); exact h.2
  have HDF := hide_ (bdelete_any (n := L.list.length) (cap := c2) (L1 := L1) (L2 := L2) (by rw [← HLL.out]; exact ho9) (by rw [← HLL.out]) HCH.out.log.n2 HPOS.out ht9 (fun e => by have := HTB.out; have := HL4.out.size; omega) HV1.out HV2.out)
  have p4 := cell_of_row _ _ 4 _ _ (0, 0) hrow9
  simp only [logRow] at p4
  have HROW9 := hide_ hrow9; have HH9 := hide_ hh9; have HBP := hide_ hbp; have HBP1 := hide_ hbp1; have HNC9 := hide_ hnc9; have HG2 := hide_ hg2
  clear hW9 hrow9 hh9 hbp hbp1 hnc9 ho9 hlen0 hv2 ht9 hg2 e2 e8 k2 f2
  go_wp2_with fail
  refine HDF.out.mono ?_; rintro e w10 ⟨rfl, ho10, hh10⟩
  have hp10 := hh10.row HROW9.out (fun e => HBP.out g2 rfl e.symm)
  have hp10' := hp10
  simp only [logRow] at hp10'
  have k4 := cell_of_row _ _ 4 _ _ (0, 0) hp10'
  have f4 := frozen_of_row _ _ 4 _ _ hp10'
  obtain ⟨W11, hW11⟩ : ∃ W11, W11 = w10.setCell ⟨p, 4, none⟩ (.slice (some ⟨g2, 0, none⟩) L2.length c2) := ⟨_, rfl⟩
  have HW11 := hide_ hW11.symm
  have hrow11 : W11.heap[p]? = some (.cells (logRow v1 (.slice (some ⟨g2, 0, none⟩) L2.length c2) { L with gone := max L.gone n, list := L2 }) 75 (0, 0)) := by
    rw [hW11]; exact heap_setCell_same w10 p 4 _ _ _ hp10'
  have hh11 : Hits (· = p) w10 W11 := by rw [hW11]; exact (Hits.refl (· = p) w10).setCell (g := p) (fun _ => rfl) 4 _
  have hhl : Hits (lFp p (.slice (some ⟨g2, 0, none⟩) L.list.length c2)) w8 W11 := ((HH9.out.mono (fun k _ h => .inl h)).trans hh10 (fun k _ h => .inr (by rw [h]; rfl))).trans hh11 (fun k _ h => .inl h)
  have hnc : NoChg w8 (lFp p (.slice (some ⟨g2, 0, none⟩) L.list.length c2)) := fun k hk => by
    obtain ⟨cs, ty, fz, h1, h2⟩ := HCH.out.log.sort k hk
    exact ⟨cs, ty, fz, h1, by rcases h2 with rfl | rfl <;> decide⟩
  have hlog : LogAt W11 B p v1 (.slice (some ⟨g2, 0, none⟩) L2.length c2) { L with gone := max L.gone n, list := L2 } :=
    { base := HCH.out.log.base
      row := hrow11
      own1 := hhl.own HCH.out.log.own1 (fun k hk h => by
        rcases h with h | h
        · exact HBP1.out k hk h
        · exact HCH.out.log.apart k hk h)
      own2 := hh11.own ho10 (fun k hk e => HBP.out k hk e)
      apart := fun k hk h => HCH.out.log.apart k hk h
      ok1 := fun y hy => (HCH.out.log.ok1 y hy).hits hhl hnc
      ok2 := fun y hy => (HCH.out.log.ok2 y (by rw [HLL.out]; exact List.mem_append_right _ hy)).hits hhl hnc
      e := HCH.out.log.e
      g := by have h1 := HCH.out.log.g; have h2 := HNN.out; show max L.gone n < _; omega
      k := HCH.out.log.k
      n1 := HCH.out.log.n1
      n2 := by have h := HCH.out.log.n2; rw [HLL.out, List.length_append] at h; show L2.length ≤ 24; omega
      v := fun y hy => HCH.out.log.v y (by rw [HLL.out]; exact List.mem_append_right _ hy) }
  have HF := hide_ (HCH.out.setLog hhl hlog)
  have HHF := hide_ ((Hits.later (F := lFp p (.slice (some ⟨g2, 0, none⟩) L.list.length c2)) HL5.out).trans hhl (fun _ _ h => h))
  have HDN := hide_ (rdone_any (HR5.out.hits hhl (fun h => by
    rcases h with h | h
    · have := HSZ.out; omega
    · have h : g2 = w.heap.size := Option.some.inj h
      have := HG2.out; omega) HCH.out.log.noByte) (by simp))
  clear hp10 hp10' hW11 hrow11 hh11 hhl hnc hlog ho10 hh10 HDF p4
  go_wp2_with (rw [HW11.out])
  refine HDN.out.mono ?_; rintro e w12 ⟨rfl, rfl⟩
  rw [show rDone (([] : List UInt8), 0) = true from rfl]
  go_wp2_with fail
  go_ret
  exact ⟨rfl, _, HF.out, HHF.out, .inl rfl⟩

end Go.Proofs.YtlgnnmpfipmjeaaGreat
/-
  chest: do, of what is laid.
-/
namespace Go.Proofs.YtlgnnmpfipmjeaaGreat
open Go.RowKit
set_option linter.unusedVariables false
set_option linter.unusedSimpArgs false
/-- Batches that may be laid down. -/
structure BOk (x : BP) : Prop where
  ok : x.Ok
  len : (encB x).length ≤ 2400
  k : x.known < 1000000000000000
  v : x.ver < 1000000000000000
def recB (L : List BP) : List UInt8 := putN L.length ++ L.flatMap (fun x => putT (encB x))
def lvOf (epoch base : Nat) (first list : List BV) (known : Nat) : LV := ⟨epoch, base, base, known, first, list⟩
def kmax (L : List BP) : Nat := L.foldl (fun a x => max a x.known) 0
theorem kmax_snoc (L : List BP) (x : BP) : kmax (L ++ [x]) = max (kmax L) x.known := by unfold kmax; rw [List.foldl_append]; rfl
theorem logT : ElemT Tryz.prog 58 72 1 8 := elem_mk (z := .pointer none) Tryz.underlying58 (by kernel_rfl) rfl (by decide)
theorem LogAt.new {w : World} {B : Nat} (hB : B ≤ w.heap.size) {epoch base : Nat} (he : epoch < 1000000000) (hb : base < 1000000000000000) :
    LogAt (w.alloc (.cells #[.int .i64 epoch, .int .i64 base, .int .i64 base, .slice none 0 0, .slice none 0 0, .int .i64 0] 75)) B w.heap.size (.slice none 0 0) (.slice none 0 0) (lvOf epoch base [] [] 0) :=
  { base := hB
    row := heap_alloc_new w _
    own1 := World.ownsRow_nil _ _ _ _
    own2 := World.ownsRow_nil _ _ _ _
    apart := fun k hk => by cases hk
    ok1 := fun x hx => by cases hx
    ok2 := fun x hx => by cases hx
    e := he
    g := hb
    k := Nat.zero_lt_succ _
    n1 := Nat.zero_le _
    n2 := Nat.zero_le _
    v := fun x hx => by cases hx }
set_option maxHeartbeats 16000000 in
set_option maxRecDepth 100000 in
theorem do_laid {w : World} {B c b lock : Nat} {Al : Option Addr} {m cl : Nat} {xs : List Value} {epoch base : Nat} {Bs : List BP} {nb : Nat} (hrow : w.heap[c]? = some (.cells #[.pointer (some ⟨b, 0, none⟩), .slice Al m cl, .int .i64 lock] 60 (0, 0))) (hlogs : w.ownsRow B 72 1 (.slice Al m cl) m xs) (hB : B ≤ w.heap.size) (hm1 : m ≤ 1)
    (hprev : m = 1 → ∃ p0 e0 : Nat, xs = [.pointer (some ⟨p0, 0, none⟩)] ∧ p0 ≠ c ∧ (∀ g, (Value.slice Al m cl).ownBlock = some g → g ≠ p0) ∧ w.cell? ⟨p0, 0, none⟩ = some (.int .i64 e0) ∧ e0 < epoch) (he : epoch < 1000000000) (hb : base < 1000000000000000) (hbs : ∀ x ∈ Bs, BOk x) (hnb : Bs.length = nb) (hn24 : nb ≤ 24)
    {a : Addr} {n rc : Nat} (hr : Rd w 1 (some a) n (bvs (recH 1 epoch base ++ recB Bs))) (hn : (recH 1 epoch base ++ recB Bs).length = n) (hnl : n ≤ 4398046511104) (hnc : n ≤ rc) (hrc : rc ≤ 9223372036854775807) (ha : ∃ cs fz, w.heap[a.block]? = some (.cells cs 5 fz)) :
    Calls Tryz.prog 21 #[.pointer (some ⟨c, 0, none⟩), .slice (some a) n rc] w fun e w' => e = .returned (.bool true) ∧ ∃ A' c' p v1 v2 first list, w'.heap[c]? = some (.cells #[.pointer (some ⟨b, 0, none⟩), .slice A' (m + 1) c', .int .i64 lock] 60 (0, 0)) ∧ w'.ownsRow B 72 1 (.slice A' (m + 1) c') (m + 1) (xs ++ [.pointer (some ⟨p, 0, none⟩)]) ∧
      LogAt w' w.heap.size p v1 v2 (lvOf epoch base first list (kmax Bs)) ∧ first.map BV.bp = Bs ∧ list.map BV.bp = Bs ∧ (∀ x, (x ∈ first ∨ x ∈ list) → ∀ a : Addr, x.A = some a → w.heap.size ≤ a.block) ∧ Hits (fun k => k = c ∨ (Value.slice Al m cl).ownBlock = some k) w w' ∧ NS w (.slice Al m cl) (.slice A' (m + 1) c') := by
  have HROW := hide_ hrow; have HLOGS := hide_ hlogs; have HPREV := hide_ hprev; have HBS := hide_ hbs; have HNB := hide_ hnb; have HEB := hide_ (And.intro he hb)
  have HNR : Hid (Calls Tryz.prog 41 #[.slice (some a) n rc] w fun e w' => e = .returned (.pointer (some ⟨w.heap.size, 0, none⟩)) ∧ RdrAt w' w.heap.size (recH 1 epoch base ++ recB Bs, 0) ∧ Later w w') := by
    subst hn
    exact newReader_any hr hnc hrc hnl (fun h => by cases h) (fun y hy => by injection hy with hy; subst hy; exact ha)
  have hn2 : (nb : Int) ≤ 24 := by omega
  clear hrow hlogs hprev hbs hnb he hb hr hn hnl hnc hrc ha
  go_enter Tryz.func21, Tryz.ntmps21
  go_wp2_with fail
  refine HNR.out.mono ?_; rintro e w1 ⟨rfl, hr1, hl1⟩
  have hrd : RdrAt w1 w.heap.size (putN 1 ++ (putN epoch ++ (putN base ++ (putN nb ++ Bs.flatMap (fun x => putT (encB x))))), 0) := by unfold recH recB at hr1; rw [HNB.out] at hr1; simpa [List.append_assoc] using hr1
  have HN1 := hide_ (rnum_any hrd (by simp))
  rw [rNum_put (by omega)] at HN1
  have HL1 := hide_ hl1
  clear hr1 hrd hl1
  go_wp2_with fail
  refine HN1.out.mono ?_; rintro e w2 ⟨rfl, hr2, hh2⟩
  have HN2 := hide_ (rnum_any hr2 (by simp))
  rw [rNum_put (by have := HEB.out.1; omega)] at HN2
  have HL2 := hide_ (show Later w w2 from Below.trans HL1.out (hh2.ge HL1.out.size (Nat.le_refl _)))
  clear hr2 hh2
  go_wp2_with fail
  refine HN2.out.mono ?_; rintro e w3 ⟨rfl, hr3, hh3⟩
  have HN3 := hide_ (rnum_any hr3 (by simp))
  rw [rNum_put (by have := HEB.out.2; omega)] at HN3
  have HL3 := hide_ (show Later w w3 from Below.trans HL2.out (hh3.ge HL2.out.size (Nat.le_refl _)))
  clear hr3 hh3
  go_wp2_with fail
  refine HN3.out.mono ?_; rintro e w4 ⟨rfl, hr4, hh4⟩
  have HR4 := hide_ hr4
  have HL4 := hide_ (show Later w w4 from Below.trans HL3.out (hh4.ge HL3.out.size (Nat.le_refl _)))
  clear hr4 hh4
  go_wp2_with fail
  obtain ⟨W5, hW5⟩ : ∃ W5, W5 = (w4.alloc (Obj.cells #[Value.int IntKind.i64 epoch] 3)).alloc (Obj.cells #[Value.int IntKind.i64 base] 3) := ⟨_, rfl⟩
  rw [← hW5]
  have hl45 : Later w4 W5 := by rw [hW5]; exact (later_alloc _ _).al _
  have hep : W5.heap[w4.heap.size]? = some (.cells #[Value.int IntKind.i64 epoch] 3 (0, 0)) := by rw [hW5]; exact later_row (later_alloc _ _) (heap_alloc_new w4 _)
  have hbp : W5.heap[w4.heap.size + 1]? = some (.cells #[Value.int IntKind.i64 base] 3 (0, 0)) := by rw [hW5]; have := heap_alloc_new (w4.alloc (Obj.cells #[Value.int IntKind.i64 epoch] 3)) (Obj.cells #[Value.int IntKind.i64 base] 3); simpa using this
  have HL5 := hide_ (HL4.out.trans hl45)
  have HR5 := hide_ (HR4.out.later hl45)
  have HER := hide_ (rerror_any HR5.out)
  simp only at HER
  have c7 := cell_of_row _ _ 0 _ _ (0, 0) hep
  have c8 := cell_of_row _ _ 0 _ _ (0, 0) hbp
  clear hW5 hl45 hep hbp
  go_wp2_with fail
  refine HER.out.mono ?_; rintro e w6 ⟨rfl, rfl⟩
  go_wp2_with fail
  obtain ⟨W7, hW7⟩ : ∃ W7, W7 = w6.alloc (Obj.cells #[Value.int IntKind.i64 epoch, Value.int IntKind.i64 base, Value.int IntKind.i64 base, Value.slice none 0 0, Value.slice none 0 0, Value.int IntKind.i64 0] 75) := ⟨_, rfl⟩
  rw [← hW7]
  obtain ⟨p, hp⟩ : ∃ p, p = w6.heap.size := ⟨_, rfl⟩
  have hl67 : Later w6 W7 := by rw [hW7]; exact later_alloc _ _
  have HLG7 := hide_ (show LogAt W7 w.heap.size p (.slice none 0 0) (.slice none 0 0) (lvOf epoch base [] [] 0) from by rw [hW7, hp]; exact LogAt.new HL5.out.size HEB.out.1 HEB.out.2)
  rw [← hp]
  have HL7 := hide_ (HL5.out.trans hl67)
  have HR7 := hide_ (HR5.out.later hl67)
  have HCT := hide_ (rcount_any HR7.out (by simp) 4096 (by omega))
  rw [rCount_put (by omega) (by omega)] at HCT
  have HPQ := hide_ (show w.heap.size < p by rw [hp]; exact HR5.out.lt)
  clear hW7 hl67 hp c7 c8
  go_wp2_with fail
  refine HCT.out.mono ?_; rintro e w8 ⟨rfl, hr8, hh8⟩
  have HR8 := hide_ hr8
  have HL8 := hide_ (show Later w w8 from Below.trans HL7.out (hh8.ge HL7.out.size (Nat.le_refl _)))
  have HLG8 := hide_ (HLG7.out.hits hh8 (fun k hk => by
    subst hk
    obtain ⟨A, c, h1, _⟩ := HR7.out
    exact ⟨_, _, _, h1, by decide⟩) (fun h => by have := HPQ.out; omega) (fun k hk => by cases hk) (fun k hk => by cases hk))
  clear hr8 hh8
  go_wp2_with fail
  go_loopw [10] (fun s10 wr => ∃ (k : Nat) (v2 : Value) (l : List BV), k ≤ nb ∧ s10 = .int .i64 ((nb : Int) - (k : Int)) ∧ Hid (l.map BV.bp = Bs.take k) ∧ Hid (LogAt wr w.heap.size p (.slice none 0 0) v2 (lvOf epoch base [] l (kmax (Bs.take k)))) ∧ Hid (RdrAt wr w.heap.size ((Bs.drop k).flatMap (fun x => putT (encB x)), 0)) ∧ Hid (Later w wr) ∧ Hid (∀ x ∈ l, ∀ a : Addr, x.A = some a → w.heap.size ≤ a.block)) (fun i _ => (intOf i).toNat)
  case atStart => exact ⟨0, .slice none 0 0, [], Nat.zero_le _, by simp, hide_ rfl, HLG8, HR8, HL8, hide_ (fun x hx => by cases hx)⟩
  case round =>
    obtain ⟨k, v2, l, hkn, rfl, HLM, HLG, HRD, HL, HNA⟩ := hrel
    have HER := hide_ (rerror_any HRD.out)
    simp only at HER
    by_cases hlt : k < nb
    · obtain ⟨x, hx⟩ : ∃ x, Bs[k]? = some x := ⟨_, List.getElem?_eq_getElem (by rw [HNB.out]; exact hlt)⟩
      have q1 : (0 : Int) < (nb : Int) - (k : Int) := by omega
      have q6 : IntKind.i64.wrap ((nb : Int) - (k : Int) - 1) = (nb : Int) - ((k + 1 : Nat) : Int) := by rw [IntWalk.i64_in] <;> omega
      have HX := hide_ (HBS.out x (List.mem_of_getElem? hx))
      have hd : Bs.drop k = x :: Bs.drop (k + 1) := by
        have e := List.getElem?_eq_some_iff.1 hx
        rw [List.drop_eq_getElem_cons e.1, e.2]
      have HTK := hide_ (show Bs.take (k + 1) = Bs.take k ++ [x] by rw [List.take_add_one, hx]; rfl)
      have hrd : RdrAt wr w.heap.size (putT (encB x) ++ (Bs.drop (k + 1)).flatMap (fun x => putT (encB x)), 0) := by
        have h := HRD.out; rw [hd, List.flatMap_cons] at h; exact h
      have HTX := hide_ (rtext_any hrd (by simp))
      rw [rText_put (by have := HX.out.len; omega)] at HTX
      simp only at HTX
      have HLL := hide_ (show l.length = k by have := congrArg List.length HLM.out; rw [List.length_map, List.length_take, HNB.out] at this; omega)
      clear hx hd hrd
      go_wp2_with fail
      refine HER.out.mono ?_; rintro e w9 ⟨rfl, rfl⟩
      go_wp2_with fail
      refine HTX.out.mono ?_; rintro e w10 ⟨rfl, hr10, hh10⟩
      obtain ⟨cc, cs, W11, hcv, hl11, hz11, hrow11, hs11, hc11, hm11, hcell11⟩ := bytes_new w10 ⟨(encB x).toArray⟩
      have hsz11 : (⟨(encB x).toArray⟩ : ByteArray).size = (encB x).length := by show (encB x).toArray.size = _; simp
      have hcv2 : (convert 9 43 (.string ⟨(encB x).toArray⟩)).run Tryz.prog w10 = .ok (.slice (some ⟨w10.heap.size, 0, none⟩) (encB x).length cc) W11 := by
        rw [hsz11] at hcv; exact hcv
      have HL10 := hide_ (show Later w w10 from Below.trans HL.out (hh10.ge HL.out.size (Nat.le_refl _)))
      have HL11 := hide_ (HL10.out.trans hl11)
      have HR11 := hide_ (hr10.later hl11)
      have hlg10 := HLG.out.hits hh10 (fun k hk => by
        subst hk
        obtain ⟨A, c, h1, _⟩ := HRD.out
        exact ⟨_, _, _, h1, by decide⟩) (fun h => by have := HPQ.out; omega) (fun k hk => by cases hk) (fun k hk h => by
          subst h
          obtain ⟨A, c, h1, _⟩ := HRD.out
          obtain ⟨_, _, cs, hc⟩ := own_block HLG.out.own2 hk
          exact sort_ne hc h1 (by decide) rfl)
      have HLG11 := hide_ (hlg10.later hl11)
      have HB11 := hide_ (show Rd W11 1 (some ⟨w10.heap.size, 0, none⟩) (encB x).length (bvs (encB x)) from ⟨by rw [bvs_length, Nat.mul_one], fun _ => ⟨_, 0, rfl, fun j u hu => by
        unfold bvs at hu
        rw [List.getElem?_map] at hu
        obtain ⟨y, hy, hyu⟩ := Option.map_eq_some_iff.1 hu
        have := hcell11 j y (by simpa using hy)
        rw [Nat.zero_add, cell_of_row _ _ j _ _ _ hrow11, this, ← hyu]⟩⟩)
      have HGB := hide_ (getBatch_any (c := cc) HX.out.ok HB11.out (by rw [← hsz11]; exact hc11) (hm11 (by rw [hsz11]; have := HX.out.len; unfold maxLen; omega)) (fun y hy => by injection hy with hy; subst hy; exact ⟨_, _, hrow11⟩))
      clear hr10 hh10 hcv hl11 hz11 hrow11 hs11 hc11 hm11 hcell11 hsz11 hlg10
      go_wp2_with fail
      refine HGB.out.mono ?_; rintro e w12 ⟨A12, c12, rfl, ho12, hl12⟩
      obtain ⟨W13, hW13⟩ : ∃ W13, W13 = w12.alloc (Obj.cells #[Value.int IntKind.i64 x.prev, Value.int IntKind.i64 x.ver, Value.int IntKind.i64 x.known, Value.slice A12 x.chg.length c12] 38) := ⟨_, rfl⟩
      have HW13 := hide_ hW13.symm
      have hl1213 : Later w12 W13 := by rw [hW13]; exact later_alloc _ _
      have hrow13 : W13.heap[w12.heap.size]? = some (.cells #[Value.int IntKind.i64 x.prev, Value.int IntKind.i64 x.ver, Value.int IntKind.i64 x.known, Value.slice A12 x.chg.length c12] 38 (0, 0)) := by rw [hW13]; exact heap_alloc_new w12 _
      have hl1113 : Later W11 W13 := hl12.trans hl1213
      have HL13 := hide_ (HL11.out.trans hl1113)
      have HO13 := hide_ (own_below ho12 hl1213)
      have HR13 := hide_ (HR11.out.later hl1113)
      have HLG13 := hide_ (HLG11.out.later hl1113)
      have hBV : BvOk W13 ⟨x.prev, x.ver, x.known, A12, x.chg.length, c12, x.chg⟩ := ⟨rfl, Rd.of_own HO13.out, fun a ha => by
        have ha : A12 = some a := ha
        subst ha
        rcases HO13.out.2 with ⟨hv, _⟩ | ⟨g, cap, cur, hv, _, hg, _⟩
        · cases hv
        · injection hv with hv; injection hv with hv; subst hv; exact ⟨_, _, hg⟩, HX.out.ok⟩
      have HADD := hide_ (ladd_any HLG13.out HL13.out.size hBV (by show l.length < 24; rw [HLL.out]; omega) HX.out.k HX.out.v)
      have y0 := cell_of_row _ _ 0 _ _ (0, 0) hrow13
      have y1 := cell_of_row _ _ 1 _ _ (0, 0) hrow13
      have y2 := cell_of_row _ _ 2 _ _ (0, 0) hrow13
      have y3 := cell_of_row _ _ 3 _ _ (0, 0) hrow13
      clear hW13 hl1213 hrow13 hl1113 hBV ho12 hl12 HGB hcv2
      go_wp2_with (rw [HW13.out])
      refine HADD.out.mono ?_; rintro e w14 ⟨rfl, v2', x', hxb, hna, hlog, hh14, hns⟩
      have hlt14 : ∀ k, lFp p v2 k → w.heap.size ≤ k ∧ k ≠ w.heap.size := fun k hk => by
        refine ⟨?_, fun e => ?_⟩
        · rcases hk with rfl | hk
          · exact HLG13.out.base
          · exact (HLG13.out.own2.lt _ hk).1
        · subst e
          rcases hk with hk | hk
          · have := HPQ.out; omega
          · obtain ⟨A, c, h1, _⟩ := HR13.out
            obtain ⟨_, _, cs, hc⟩ := own_block HLG13.out.own2 hk
            exact sort_ne hc h1 (by decide) rfl
      have HRF := hide_ (HR13.out.hits hh14 (fun h => (hlt14 _ h).2 rfl) HLG13.out.noByte)
      have HLF := hide_ (show Later w w14 from Below.trans HL13.out (hh14.below (B := w.heap.size) HL13.out.size (fun k hk => (hlt14 k hk).1)))
      have HLGF := hide_ (show LogAt w14 w.heap.size p (.slice none 0 0) v2' (lvOf epoch base [] (l ++ [x']) (kmax (Bs.take (k + 1)))) from by
        rw [HTK.out, kmax_snoc]; exact hlog)
      have HMF := hide_ (show (l ++ [x']).map BV.bp = Bs.take (k + 1) from by
        rw [HTK.out, List.map_append, HLM.out, List.map_singleton, hxb]; rfl)
      have HNF := hide_ (show ∀ z ∈ l ++ [x'], ∀ a : Addr, z.A = some a → w.heap.size ≤ a.block from fun z hz a ha => by
        rcases List.mem_append.1 hz with hz | hz
        · exact HNA.out z hz a ha
        · rw [List.mem_singleton] at hz; subst hz; exact Nat.le_trans HL13.out.size (hna a ha))
      clear hlog hh14 hns hlt14 hxb hna y0 y1 y2 y3
      go_wp2_with fail
      go_roundw
      case rel => exact ⟨k + 1, v2', l ++ [x'], by omega, by first | rfl | rw [q6], HMF, HLGF, HRF, HLF, HNF⟩
      case measure => simp [intOf]; omega
    · obtain rfl : k = nb := by omega
      have q1 : ¬ (0 : Int) < (k : Int) - (k : Int) := by omega
      have htk : Bs.take k = Bs := by rw [List.take_of_length_le]; rw [HNB.out]; exact Nat.le_refl _
      rw [htk] at HLM HLG
      rw [show (Bs.drop k).flatMap (fun x => putT (encB x)) = [] by rw [List.drop_of_length_le (by rw [HNB.out]; exact Nat.le_refl _)]; rfl] at HRD
      obtain ⟨A2, c2, hv2⟩ := own_form HLG.out.own2
      subst hv2
      have hrow := HLG.out.row
      simp only [logRow, lvOf] at hrow
      have p4 := cell_of_row _ _ 4 _ _ (0, 0) hrow
      have HRW := hide_ hrow
      have HCL := hide_ (btClone_any (c := c2) (Rd.of_own HLG.out.own2) rfl (by have := HLG.out.n2; simp only [lvOf] at this ⊢; omega))
      simp only [lvOf] at HCL
      clear hrow htk
      go_wp2_with fail
      refine HCL.out.mono ?_; rintro e w15 ⟨A15, c15, rfl, ho15, hl15⟩
      have hrow15 := later_row hl15 HRW.out
      have k3 := cell_of_row _ _ 3 _ _ (0, 0) hrow15
      have f3 := frozen_of_row _ _ 3 _ _ hrow15
      obtain ⟨W16, hW16⟩ : ∃ W16, W16 = w15.setCell ⟨p, 3, none⟩ (.slice A15 l.length c15) := ⟨_, rfl⟩
      have HW16 := hide_ hW16.symm
      have hh16 : Hits (· = p) w15 W16 := by rw [hW16]; exact (Hits.refl (· = p) w15).setCell (g := p) (fun _ => rfl) 3 _
      have hrow16 : W16.heap[p]? = some (.cells (logRow (.slice A15 l.length c15) (.slice A2 l.length c2) (lvOf epoch base l l (kmax Bs))) 75 (0, 0)) := by
        rw [hW16]; exact heap_setCell_same w15 p 3 _ _ _ hrow15
      have hlg15 := HLG.out.later hl15
      have hnc : NoChg w15 (· = p) := fun k hk => by subst hk; exact ⟨_, _, _, hrow15, by decide⟩
      have hne15 : ∀ k, (Value.slice A15 l.length c15).ownBlock = some k → k ≠ p := fun k hk e => by
        subst e; obtain ⟨_, _, cs, hc⟩ := own_block ho15 hk; exact sort_ne hc hrow15 (by decide) rfl
      have HLG16 := hide_ (show LogAt W16 w.heap.size p (.slice A15 l.length c15) (.slice A2 l.length c2) (lvOf epoch base l l (kmax Bs)) from
        { base := HLG.out.base
          row := hrow16
          own1 := hh16.own (own_base ho15 HL.out.size) (fun k hk => hne15 k hk)
          own2 := hh16.own hlg15.own2 (fun k hk e => by
            subst e; obtain ⟨_, _, cs, hc⟩ := own_block hlg15.own2 hk; exact sort_ne hc hrow15 (by decide) rfl)
          apart := fun k hk h => by
            have h1 := (ho15.lt _ hk).1; have h2 := (HLG.out.own2.lt _ h).2; omega
          ok1 := fun y hy => (hlg15.ok2 y hy).hits hh16 hnc
          ok2 := fun y hy => (hlg15.ok2 y hy).hits hh16 hnc
          e := HLG.out.e
          g := HLG.out.g
          k := HLG.out.k
          n1 := HLG.out.n2
          n2 := HLG.out.n2
          v := HLG.out.v })
      have HL16 := hide_ (show Later w W16 from Below.trans (HL.out.trans hl15) (hh16.below (B := w.heap.size) (HL.out.trans hl15).size (fun k hk => by have := HPQ.out; omega)))
      have hcrow := later_row HL16.out HROW.out
      have HRD16 := hide_ ((HRD.out.later hl15).hits hh16 (fun e => by have := HPQ.out; omega) (fun k cs fz hk e => by subst e; exact sort_ne hk hrow15 (by decide) rfl))
      have m1 := cell_of_row _ _ 1 _ _ (0, 0) hcrow
      have HLO16 := hide_ (own_below HLOGS.out HL16.out)
      have HPLT := hide_ (show p < W16.heap.size from theap_lt hrow16)
      have hclt : c < w.heap.size := theap_lt HROW.out
      have HCR := hide_ hcrow
      clear hrow15 hW16 hh16 hrow16 hlg15 hnc hne15 hcrow ho15 hl15 p4
      go_wp2_with (first | (rw [HW16.out]) | (at_builtin; refine wpList_append_rd _ rfl (.tmp 71) (.tmp 73) 58 rfl B 72 1 8 logT (.slice Al m cl) m xs rfl (own_below HLO16.out (later_alloc _ _)) (some ⟨W16.heap.size, 0, none⟩) 1 1 [.pointer (some ⟨p, 0, none⟩)] rfl (by exact Rd.fresh1 rfl) (by intro u hu; rw [List.mem_singleton] at hu; subst hu; rfl) (by omega) (by unfold maxLen; omega) (by have := HL16.out.size; simp; omega) (fun h => by cases h) ?c8))
      case c8 =>
        intro v18 w18 hown hg18 hat
        obtain ⟨A18, c18, hv18⟩ := own_form hown
        subst hv18
        have hh18 : Hits (fun k => (Value.slice Al m cl).ownBlock = some k) W16 w18 := (Hits.later (F := fun k => (Value.slice Al m cl).ownBlock = some k) (later_alloc W16 _)).trans ((Hits.refl (fun k => (Value.slice Al m cl).ownBlock = some k) _).grown hg18 (fun g hg _ => hg)) (fun _ _ h => h)
        have hAl : ∀ k, (Value.slice Al m cl).ownBlock = some k → k < w.heap.size ∧ k ≠ c := fun k hk => ⟨(HLOGS.out.lt _ hk).2, fun e => by
          subst e; obtain ⟨_, _, cs, hc⟩ := own_block HLOGS.out hk; exact sort_ne hc HROW.out (by decide) rfl⟩
        have hcrow18 := hh18.row HCR.out (fun h => (hAl _ h).2 rfl)
        have k1 := cell_of_row _ _ 1 _ _ (0, 0) hcrow18
        have f1 := frozen_of_row _ _ 1 _ _ hcrow18
        obtain ⟨W19, hW19⟩ : ∃ W19, W19 = w18.setCell ⟨c, 1, none⟩ (.slice A18 (m + 1) c18) := ⟨_, rfl⟩
        have HW19 := hide_ hW19.symm
        have hh19 : Hits (· = c) w18 W19 := by rw [hW19]; exact (Hits.refl (· = c) w18).setCell (g := c) (fun _ => rfl) 1 _
        have hcrow19 : W19.heap[c]? = some (.cells #[.pointer (some ⟨b, 0, none⟩), .slice A18 (m + 1) c18, .int .i64 lock] 60 (0, 0)) := by rw [hW19]; exact heap_setCell_same w18 c 1 _ _ _ hcrow18
        have hF : Hits (fun k => k = c ∨ (Value.slice Al m cl).ownBlock = some k) W16 W19 := (hh18.mono (fun k _ h => .inr h)).trans hh19 (fun k _ h => .inl h)
        have HF := hide_ ((Hits.later (F := fun k => k = c ∨ (Value.slice Al m cl).ownBlock = some k) HL16.out).trans hF (fun _ _ h => h))
        have hFlt : ∀ k, (k = c ∨ (Value.slice Al m cl).ownBlock = some k) → k < w.heap.size := fun k hk => by rcases hk with rfl | hk; exact hclt; exact (hAl k hk).1
        have hFn : NoChg W16 (fun k => k = c ∨ (Value.slice Al m cl).ownBlock = some k) := fun k hk => by
          rcases hk with rfl | hk
          · exact ⟨_, _, _, HCR.out, by decide⟩
          · obtain ⟨_, _, cs, hc⟩ := own_block HLO16.out hk; exact ⟨_, _, _, hc, by decide⟩
        have HLG19 := hide_ (HLG16.out.hits hF hFn (fun h => by have := hFlt _ h; have := HPQ.out; omega) (fun k hk h => by have := hFlt _ h; have := (HLG16.out.own1.lt _ hk).1; omega) (fun k hk h => by have := hFlt _ h; have := (HLG16.out.own2.lt _ hk).1; omega))
        have HRD19 := hide_ (HRD16.out.hits hF (fun h => by have := hFlt _ h; omega) (fun k cs fz hk h => by
          rcases h with rfl | h
          · exact sort_ne hk HCR.out (by decide) rfl
          · obtain ⟨_, _, cs2, hc⟩ := own_block HLO16.out h; exact sort_ne hk hc (by decide) rfl))
        have hns : NS W16 (.slice Al m cl) (.slice A18 (m + 1) c18) := by
          rcases hat with h | h
          · exact .inl h
          · exact .inr ⟨_, h, by omega⟩
        have HOW19 := hide_ (hh19.own hown (fun k hk e => by
          subst e; exact hns.ne (by have := HL16.out.size; omega) (fun h => (hAl _ h).2 rfl) hk))
        have HCR19 := hide_ hcrow19
        have c19 := cell_of_row _ _ 1 _ _ (0, 0) hcrow19
        clear hown hg18 hat hh18 hcrow18 hh19 hcrow19 hF hFn hW19 m1
        go_wp2_with (rw [HW19.out])
        have HSORT : Hid (Calls Tryz.prog 49 #[.slice A18 (m + 1) c18, .func (.func 50) #[] #[]] W19 fun e w' => e = .returned (.tuple #[]) ∧ Later W19 w') := by
          rcases Nat.eq_zero_or_pos m with h0 | h0
          · subst h0
            exact (sort_one W19 A18 c18 _).mono fun e w' ⟨h1, h2⟩ => ⟨h1, by rw [h2]; exact Later.refl _⟩
          · obtain rfl : m = 1 := by omega
            obtain ⟨p0, e0, hxs, hpc, hpg, hcell, hlt0⟩ := HPREV.out rfl
            obtain ⟨g18, cap18, hv, _, _⟩ := HOW19.out.form (by omega)
            have hA : A18 = some ⟨g18, 0, none⟩ := by injection hv
            subst hA
            have hc0 := HOW19.out.cells (g := g18) rfl 0 (.pointer (some ⟨p0, 0, none⟩)) (by rw [hxs]; rfl)
            have hc1 := HOW19.out.cells (g := g18) rfl 1 (.pointer (some ⟨p, 0, none⟩)) (by rw [hxs]; rfl)
            simp only [add_plain, Nat.zero_add] at hc0 hc1
            have he0 : W19.cell? ⟨p0, 0, none⟩ = some (.int .i64 e0) := HF.out.cell hcell (fun h => by
              rcases h with h | h
              · exact hpc h
              · exact hpg _ h rfl)
            have he1 : W19.cell? ⟨p, 0, none⟩ = some (.int .i64 epoch) := cell_of_row _ _ 0 _ _ (0, 0) HLG19.out.row
            exact sort_two hc0 hc1 he0 he1 hlt0
        refine HSORT.out.mono ?_; rintro e w20 ⟨rfl, hl20⟩
        have HDN := hide_ (rdone_any (HRD19.out.later hl20) (by simp))
        have HFIN := hide_ (And.intro (later_row hl20 HCR19.out) (And.intro (own_below HOW19.out hl20) (HLG19.out.later hl20)))
        have HHF := hide_ (HF.out.thenLater hl20)
        have HMM := hide_ HLM.out
        have HNSF := hide_ (show NS w (.slice Al m cl) (.slice A18 (m + 1) c18) from by
          rcases hns with h | ⟨g, h, hg⟩
          · exact .inl h
          · exact .inr ⟨g, h, Nat.le_trans HL16.out.size hg⟩)
        clear hl20 hns k1 f1 c19 HSORT
        go_wp2_with fail
        refine HDN.out.mono ?_; rintro e w21 ⟨rfl, rfl⟩
        rw [show rDone (([] : List UInt8), 0) = true from rfl]
        go_wp2_with fail
        go_ret
        exact ⟨rfl, A18, c18, p, _, _, l, l, HFIN.out.1, HFIN.out.2.1, HFIN.out.2.2, HMM.out, HMM.out, fun x hx => HNA.out x (hx.elim id id), HHF.out, HNSF.out⟩

end Go.Proofs.YtlgnnmpfipmjeaaGreat
/-
  chest: put.
-/
namespace Go.Proofs.YtlgnnmpfipmjeaaGreat
open Go.RowKit
set_option linter.unusedVariables false
set_option linter.unusedSimpArgs false
set_option maxHeartbeats 4000000 in
set_option maxRecDepth 100000 in
theorem cput_any {w : World} {Bw pw : Nat} {vw : Value} {rec : List UInt8} {n : Nat} (hw : WrAt w Bw pw vw (rec, 0)) (hn : rec.length = n) (hpos : 0 < n) (hn6 : n ≤ 65000) {c b lock : Nat} {vl : Value} (hrow : w.heap[c]? = some (.cells #[.pointer (some ⟨b, 0, none⟩), vl, .int .i64 lock] 60 (0, 0)))
    {B t : Nat} {v vr : Value} {used room : Nat} (hbk : BookAt w B b t v vr used room) (hB : B ≤ w.heap.size) (hroom : room ≤ 1048576) (hfit : used + n + 7 ≤ room) (hnew : ∀ k, vw.ownBlock = some k → ¬ bFp b t v vr k) (Q : World → Prop)
    (hdo : ∀ (w2 : World) (v' vr' : Value) (a : Addr) (rc : Nat), BookAt w2 B b t v' vr' (used + n + 7) room → Hits (bFp b t v vr) w w2 → NS w v v' → NS w vr vr' → Rd w2 1 (some a) n (bvs rec) → n ≤ rc → rc ≤ 9223372036854775807 → (∃ cs fz, w2.heap[a.block]? = some (.cells cs 5 fz)) →
      Calls Tryz.prog 21 #[.pointer (some ⟨c, 0, none⟩), .slice (some a) n rc] w2 fun e w' => e = .returned (.bool true) ∧ Q w') :
    Calls Tryz.prog 31 #[.pointer (some ⟨c, 0, none⟩), .pointer (some ⟨pw, 0, none⟩)] w fun e w' => e = .returned (.int .i64 0) ∧ Q w' := by
  have ho := hw.2.2
  rw [hn] at ho
  obtain ⟨Aw, cw, hvw⟩ := own_form ho
  subst hvw
  obtain ⟨gw, capw, hvv, _, _⟩ := ho.form hpos
  have hAw : Aw = some ⟨gw, 0, none⟩ := by injection hvv
  subst hAw
  obtain ⟨cur, _, hgw, hncw, hcmw, _, _⟩ := own_row ho
  have HWB := hide_ (wbytes_any hw)
  have HO := hide_ ho; have HBK := hide_ hbk; have HDO := hide_ hdo; have HNEW := hide_ (hnew gw rfl); have HGW := hide_ hgw; have HNC := hide_ hncw; have HCM := hide_ hcmw
  have c0 := cell_of_row _ _ 0 _ _ (0, 0) hrow
  have HN := hide_ hn
  have HRC := hide_ hrow
  clear hw ho hbk hdo hnew hgw hncw hcmw hrow hvv hn
  go_enter Tryz.func31, Tryz.ntmps31
  go_wp2_with fail
  refine HWB.out.mono ?_; rintro e w1 ⟨rfl, rfl⟩
  have hal := later_alloc w1 (.cells #[.slice (some ⟨gw, 0, none⟩) n cw] 43)
  have hg0 : (w1.alloc (.cells #[.slice (some ⟨gw, 0, none⟩) n cw] 43)).cell? ⟨w1.heap.size, 0, none⟩ = some (.slice (some ⟨gw, 0, none⟩) n cw) := cell_of_row _ _ 0 _ _ (0, 0) (heap_alloc_new w1 _)
  have HAD := hide_ (badd_one (cc := 1) (HBK.out.later hal) (by simp; omega) hroom hg0 ((Rd.of_own HO.out).below hal) HN.out hn6 hfit (fun h => by have := (HBK.out.lt _ h).1; omega) HNEW.out)
  have HAL := hide_ hal
  clear hal hg0
  go_wp2_with fail
  refine HAD.out.mono ?_; rintro e w2 ⟨rfl, v', vr', hb2, hh2, hns1, hns2⟩
  have HH2 := hide_ ((Hits.later (F := bFp b t v vr) HAL.out).trans hh2 (fun _ _ h => h))
  have hns1' : NS w1 v v' := by
    rcases hns1 with h | ⟨g, h, hg⟩
    · exact .inl h
    · exact .inr ⟨g, h, Nat.le_trans HAL.out.size hg⟩
  have hns2' : NS w1 vr vr' := by
    rcases hns2 with h | ⟨g, h, hg⟩
    · exact .inl h
    · exact .inr ⟨g, h, Nat.le_trans HAL.out.size hg⟩
  have HD2 := hide_ (HDO.out w2 v' vr' ⟨gw, 0, none⟩ cw hb2 HH2.out hns1' hns2' (HH2.out.rd (Rd.of_own HO.out) (fun a ha => by injection ha with ha; subst ha; exact HNEW.out)) HNC.out HCM.out ⟨_, _, HH2.out.row HGW.out HNEW.out⟩)
  clear hb2 hh2 hns1 hns2 hns1' hns2' HDO HAD
  go_wp2_with fail
  refine HD2.out.mono ?_; rintro e w3 ⟨rfl, hq⟩
  have HQ := hide_ hq
  clear hq
  go_wp2_with fail
  go_ret
  exact ⟨rfl, HQ.out⟩

end Go.Proofs.YtlgnnmpfipmjeaaGreat
