/-
  Texts of this seat in one: FrPick, FrBat, FrAdv.
-/
import Derived.Test.YtcmollfhlillfaaGreatDoorM36
/-
  verdict: Pick.
-/
namespace Go.Proofs.YtcmollfhlillfaaGreatDoor
open Go.RowKit
set_option linter.unusedVariables false
set_option linter.unusedSimpArgs false
/-- Transactions that are only read. -/
def TxL (w : World) (b : Nat) (T : List Tx) : Prop := ∀ i t, T[i]? = some t → ∃ A1 c1 A2 c2, w.cell? ⟨b, i * 3, none⟩ = some (.int .i64 t.1) ∧ w.cell? ⟨b, i * 3 + 1, none⟩ = some (.slice A1 t.2.1.length c1) ∧ w.cell? ⟨b, i * 3 + 2, none⟩ = some (.slice A2 t.2.2.length c2) ∧ Rd w 2 A1 t.2.1.length (srow t.2.1) ∧ Rd w 3 A2 t.2.2.length (crow t.2.2) ∧ (A2 = none → t.2.2.length = 0)
theorem TxL.later {w w' : World} {b : Nat} {T : List Tx} (h : TxL w b T) (hl : Later w w') : TxL w' b T := fun i t hi => by
  obtain ⟨A1, c1, A2, c2, h0, h1, h2, h3, h4, h5⟩ := h i t hi
  exact ⟨A1, c1, A2, c2, (hl.cell (cell_lt h0)).trans h0, (hl.cell (cell_lt h1)).trans h1, (hl.cell (cell_lt h2)).trans h2, h3.below hl, h4.below hl, h5⟩
def pickOne (t : Tx) (v : Int) : List Chg := if v = 1 then t.2.2 else []
def pickL (T : List Tx) (V : List Int) : List Chg := (T.zip V).flatMap fun x => pickOne x.1 x.2
theorem pickL_next {T : List Tx} {V : List Int} {i : Nat} {t : Tx} {v : Int} (ht : T[i]? = some t) (hv : V[i]? = some v) : pickL (T.take (i + 1)) (V.take (i + 1)) = pickL (T.take i) (V.take i) ++ pickOne t v := by
  unfold pickL
  have hz2 : ∀ k, (T.take k).zip (V.take k) = (T.zip V).take k := fun k => by simp [List.zip_eq_zipWith, List.take_zipWith]
  rw [hz2, hz2]
  have hz : (T.zip V)[i]? = some (t, v) := by rw [List.getElem?_zip_eq_some]; exact ⟨ht, hv⟩
  rw [take_snoc hz, List.flatMap_append]; simp
theorem crow_app (L M : List Chg) : crow (L ++ M) = crow L ++ crow M := by unfold crow; rw [List.flatMap_append]
theorem tx_small {t : Tx} (h : soundT t = true) : ∀ x ∈ t.2.2, x.2.1.size ≤ 1048576 ∧ x.2.2.size ≤ 1048576 := fun x hx => by
  obtain ⟨r, R, C⟩ := t
  obtain ⟨_, _, _, h4, _⟩ := soundT_parts h
  have := (chk_ok (chkAll_all h4 x hx)).1
  have h1 := this.a
  have h2 := this.b
  omega
theorem sound_len {t : Tx} (h : soundT t = true) : t.2.1.length ≤ 24 ∧ t.2.2.length ≤ 24 := by
  obtain ⟨r, R, C⟩ := t
  obtain ⟨_, h2, h3, _, _⟩ := soundT_parts h
  exact ⟨h2, h3⟩
theorem pickL_len {V : List Int} : ∀ {T : List Tx}, (∀ t ∈ T, soundT t = true) → (pickL T V).length ≤ T.length * 24 := by
  unfold pickL
  induction V with
  | nil => intro T _; simp
  | cons v V ih =>
    intro T h
    cases T with
    | nil => simp
    | cons t T =>
      have h1 := ih (T := T) fun t ht => h t (List.mem_cons_of_mem _ ht)
      have h2 := (sound_len (h t (List.mem_cons_self ..))).2
      have h3 : (pickOne t v).length ≤ 24 := by unfold pickOne; split <;> first | exact h2 | simp
      simp only [List.zip_cons_cons, List.flatMap_cons, List.length_append, List.length_cons]
      omega
def PickPost (w : World) (T : List Tx) (V : List Int) (e : Ending) (w' : World) : Prop := ∃ A c, e = .returned (.tuple #[.slice A (pickL T V).length c, .int .i64 0]) ∧ w'.ownsRow w.heap.size 142 3 (.slice A (pickL T V).length c) (pickL T V).length (crow (pickL T V)) ∧ Later w w'
set_option maxHeartbeats 8000000 in
set_option maxRecDepth 100000 in
theorem pick_any {w : World} {At Av : Option Addr} {n ct cv : Nat} {T : List Tx} {V : List Int} (hT : ∀ (i : Nat) (t : Tx), T[i]? = some t → ∃ b, At = some ⟨b, 0, none⟩) (hTL : ∀ b, At = some ⟨b, 0, none⟩ → TxL w b T) (hV : Rd w 1 Av n (ints V)) (hlt : T.length = n) (hlv : V.length = n) (hn : n ≤ 4096) (hs : ∀ t ∈ T, soundT t = true) (hv : ∀ v ∈ V, isV v = true) :
    Calls Tryz.prog 99 #[.slice At n ct, .slice Av n cv] w (PickPost w T V) := by
  have HT := hide_ hT; have HTL := hide_ hTL; have HV := hide_ hV; have HLT := hide_ hlt; have HLV := hide_ hlv; have HS := hide_ hs; have HVV := hide_ hv
  have hn2 : (n : Int) ≤ 4096 := by omega
  have hb : ((n : Int) != (n : Int)) = false := by simp
  clear hT hTL hV hlt hlv hs hv
  go_enter Tryz.func99, Tryz.ntmps99
  go_wp2_with fail
  go_loopw [6, 7, 8, 16] (fun s6 s7 s8 s16 wr => ∃ (i m : Nat) (A : Option Addr) (c : Nat), i ≤ n ∧ s16 = .int .i64 i ∧ s6 = .slice A m c ∧ m ≤ i * 24 ∧ Hid ((pickL (T.take i) (V.take i)).length = m) ∧ Hid (wr.ownsRow w.heap.size 142 3 (.slice A m c) m (crow (pickL (T.take i) (V.take i)))) ∧ Hid (Later w wr)) (fun _ _ _ i _ => n - (intOf i).toNat)
  case atStart => exact ⟨0, 0, none, 0, by omega, rfl, rfl, by omega, hide_ (by simp [pickL]), hide_ (by simp [pickL]; exact World.ownsRow_nil _ _ _ _), hide_ (Later.refl _)⟩
  case round =>
    obtain ⟨i, m, A, c, hi, rfl, rfl, hm, HM, HO, HLW⟩ := hrel
    by_cases hlt : i < n
    · obtain ⟨t, ht⟩ : ∃ t, T[i]? = some t := ⟨_, List.getElem?_eq_getElem (by rw [HLT.out]; exact hlt)⟩
      obtain ⟨v, hv⟩ : ∃ v, V[i]? = some v := ⟨_, List.getElem?_eq_getElem (by rw [HLV.out]; exact hlt)⟩
      obtain ⟨b, eb⟩ := HT.out i t ht
      obtain ⟨A1, c1, A2, c2, y0, y1, y2, r1, r2, a2⟩ := ((HTL.out b eb).later HLW.out) i t ht
      subst eb
      obtain ⟨bv, ov, eV, z0⟩ := (HV.out.below HLW.out).int hv
      subst eV
      have q1 : (i : Int) < (n : Int) := by omega
      have HNX := hide_ (pickL_next ht hv)
      have hst := HS.out t (List.mem_of_getElem? ht)
      have hvt := HVV.out v (List.mem_of_getElem? hv)
      have hsl := sound_len hst
      obtain ⟨n1, hn1⟩ : ∃ n, n = t.2.1.length := ⟨_, rfl⟩
      obtain ⟨n2, hn2'⟩ : ∃ n, n = t.2.2.length := ⟨_, rfl⟩
      rw [← hn1] at y1 r1 hsl; rw [← hn2'] at y2 r2 a2 hsl
      have HIV := hide_ (fun (W : World) => (show Calls Tryz.prog 127 #[.int .i64 v] W fun e w' => e = .returned (.bool true) ∧ w' = W by have := is_any v W; rwa [hvt] at this))
      have HTX := hide_ (fun (W : World) (hW : Later wr W) => (show Calls Tryz.prog 90 #[.agg #[.int .i64 t.1, .slice A1 n1 c1, .slice A2 n2 c2]] W fun e w' => e = .returned (.bool true) ∧ Later W w' by
        have := txn_any (w := W) (c := c1) (c' := c2) (r := t.1) (r1.below hW) hn1.symm (r2.below hW) hn2'.symm (by omega) (by omega)
        rw [show soundT (t.1, t.2.1, t.2.2) = true from hst] at this; exact this))
      have HCL := hide_ (fun (W : World) (hW : Later wr W) => chgclone_any (w := W) (c := c2) (r2.below hW) hn2'.symm (by omega) a2 (tx_small hst) (crow_one _))
      have HN2 := hide_ hn2'
      have ylt := cell_lt y0
      have zlt := cell_lt z0
      obtain ⟨wo, ewo⟩ : ∃ wo, wo = wr := ⟨_, rfl⟩
      rw [← ewo] at HO HLW HTX HCL y0 y1 y2 z0 ylt zlt ⊢
      obtain ⟨W1, hW1⟩ : ∃ W, W = wo.alloc (.cells #[.int .i64 t.1, .slice A1 n1 c1, .slice A2 n2 c2] 30) := ⟨_, rfl⟩
      have hl1 : Later wo W1 := by rw [hW1]; exact later_alloc _ _
      have hb1 : W1.heap[wo.heap.size]? = some (.cells #[.int .i64 t.1, .slice A1 n1 c1, .slice A2 n2 c2] 30 (0, 0)) := by rw [hW1]; exact heap_alloc_new _ _
      have x0 : W1.cell? ⟨wo.heap.size, 0, none⟩ = some (.int .i64 t.1) := cell_of_row _ _ 0 _ _ (0, 0) hb1
      have x1 : W1.cell? ⟨wo.heap.size, 1, none⟩ = some (.slice A1 n1 c1) := cell_of_row _ _ 1 _ _ (0, 0) hb1
      have x2 : W1.cell? ⟨wo.heap.size, 2, none⟩ = some (.slice A2 n2 c2) := cell_of_row _ _ 2 _ _ (0, 0) hb1
      have z1 := (hl1.cell (cell_lt z0)).trans z0
      have HW1 := hide_ hW1; have HL1 := hide_ hl1; have HB1 := hide_ hb1; have HZ0 := hide_ z0
      clear ewo ht hv r1 r2 a2 hst hvt hn1 hn2' hW1 hl1 hb1
      go_wp2_with (rw [← HW1.out])
      refine (HIV.out W1).mono ?_; rintro e w3 ⟨rfl, rfl⟩
      go_wp2_with fail
      refine (HTX.out _ HL1.out).mono ?_; rintro e w4 ⟨rfl, hl4⟩
      have HL4 := hide_ hl4
      have hlx := HL1.out.trans hl4
      have z4 := (hlx.cell (cell_lt HZ0.out)).trans HZ0.out
      have x4 : w4.cell? ⟨wo.heap.size, 2, none⟩ = some (.slice A2 n2 c2) := cell_of_row _ _ 2 _ _ (0, 0) (later_row hl4 HB1.out)
      have HLX := hide_ hlx
      clear x0 x1 x2 z1 y0 y1 y2 z0 ylt zlt hl4 hlx
      by_cases hv1 : v = 1
      · have HPK := hide_ (show pickOne t v = t.2.2 by unfold pickOne; rw [if_pos hv1])
        have hvb : (v == 1) = true := by simpa using hv1
        clear hv1
        go_wp2_with fail
        refine (HCL.out _ HLX.out).mono ?_; rintro e w5 ⟨A5, c5, rfl, ho5, hl5⟩
        rw [← HN2.out] at ho5 ⊢
        have HO5 := hide_ ho5
        have HLY := hide_ (HLX.out.trans hl5)
        have HOW := hide_ (own_later HO.out HLY.out)
        have HSZ := hide_ (show w.heap.size ≤ w5.heap.size from (HLW.out.trans HLY.out).size)
        have HA5 := hide_ (own_cap2 ho5).1
        clear ho5 hl5 z4 x4
        go_wp2_with (at_builtin; refine wpList_append_rd _ rfl (.tmp 37) (.tmp 40) 28 rfl w.heap.size 142 3 40 chgT (.slice A m c) m (crow (pickL (T.take i) (V.take i))) rfl HOW.out A5 n2 c5 (crow t.2.2) rfl (Rd.of_own HO5.out) (crow_one _) (by omega) (by unfold maxLen; omega) HSZ.out HA5.out ?c8)
        case c8 =>
          intro v9 w9 hown hg hat
          obtain ⟨A9, c9, rfl⟩ := own_form hown
          have HOF := hide_ (show w9.ownsRow w.heap.size 142 3 (.slice A9 (m + n2) c9) (m + n2) (crow (pickL (T.take (i + 1)) (V.take (i + 1)))) by rw [HNX.out, HPK.out, crow_app]; exact hown)
          have HLF := hide_ (show Later w w9 from own_grown (HLW.out.trans HLY.out) HOW.out hg HSZ.out)
          clear hown hg hat
          go_wp2_with fail
          go_roundw
          case rel => exact ⟨i + 1, m + n2, A9, c9, by omega, by go_num, rfl, by omega, hide_ (by rw [HNX.out, HPK.out, List.length_append, HM.out, HN2.out]), HOF, HLF⟩
          case measure => simp [intOf]; omega
      · have HPK := hide_ (show pickOne t v = [] by unfold pickOne; rw [if_neg hv1])
        have hvb : (v == 1) = false := by simpa using hv1
        clear hv1
        go_wp2_with fail
        go_roundw
        case rel => exact ⟨i + 1, m, A, c, by omega, by go_num, rfl, by omega, hide_ (by rw [HNX.out, HPK.out, List.append_nil]; exact HM.out), hide_ (by rw [HNX.out, HPK.out, List.append_nil]; exact own_later HO.out HLX.out), hide_ (HLW.out.trans HLX.out)⟩
        case measure => simp [intOf]; omega
    · obtain rfl : i = n := by omega
      have q1 : ¬ (i : Int) < (i : Int) := by omega
      have HX := hide_ (show pickL (T.take i) (V.take i) = pickL T V by rw [List.take_of_length_le (by rw [HLT.out]; exact Nat.le_refl _), List.take_of_length_le (by rw [HLV.out]; exact Nat.le_refl _)])
      rw [HX.out] at HM HO
      go_wp2_with fail
      go_ret2
      rw [← HM.out] at HO
      exact ⟨A, c, by rw [HM.out]; rfl, HO.out, HLW.out⟩

end Go.Proofs.YtcmollfhlillfaaGreatDoor
/-
  front: fields of the batch that goes on are written.
-/
namespace Go.Proofs.YtcmollfhlillfaaGreatDoor
open Go.RowKit
set_option linter.unusedVariables false
set_option linter.unusedSimpArgs false
theorem CurAt.nf {w : World} {f : Nat} {s : Fr} {X : List Nat} {cc : FrC} {bb : Nat} {b : Bt} {bc : BtC} {M : MP} {xs : List (List Nat)} (h : CurAt w f s X cc bb b bc M xs) (Y : List Nat) (hY : ∀ a, Y.count a + (if bb = a then 1 else 0) ≤ 1) : ∀ k ∈ Y, ¬ k = bb := fun k hk e => by
  have h1 := hY k
  have h2 := mem_count hk
  rw [if_pos e.symm] at h1; omega
/-- The verdicts. -/
theorem verd_put {w : World} {f : Nat} {s : Fr} {X : List Nat} {cc : FrC} {bb : Nat} {b : Bt} {bc : BtC} {M : MP} {xs : List (List Nat)} (h : CurAt w f s X cc bb b bc M xs) {V : List Int} {v : Value} (ho : w.ownsRow 0 3 1 v V.length (ints V)) (hnn : ∃ a n c, v = .slice (some a) n c) (hfr : ∀ k ∈ obL v, k ∉ X) :
    ∃ X' cc' bc', CurAt (w.setCell ⟨bb, 6, none⟩ v) f { s with cur := some { b with verd := some V } } X' cc' bb { b with verd := some V } bc' M xs ∧ Hits (· = bb) w (w.setCell ⟨bb, 6, none⟩ v) ∧ (∀ k ∈ X', k ∈ X ∨ k ∈ obL v) := by
  obtain ⟨hf, hbX, hmX, n1, n2, n3⟩ := h.mem
  have hp := h.p
  have hcn := h.cnt
  have hbt := h.bt
  have hh : Hits (· = bb) w (w.setCell ⟨bb, 6, none⟩ v) := (Hits.refl (· = bb) w).setCell (g := bb) (fun _ => rfl) 6 v
  have hvb : ∀ k, v.ownBlock = some k → ¬ k = bb := fun k hk e => hfr k (mem_obL.2 hk) (by rw [e]; exact hbX)
  have hr := heap_setCell_same w bb 6 _ _ v hbt.row
  have ho2 := hh.own ho hvb
  have nf := h.nf
  refine ⟨FrC.blocks f { cc with Xp := bb :: BtC.blocks { bc with uv := v, Xv := obL v } }, { cc with Xp := bb :: BtC.blocks { bc with uv := v, Xv := obL v } }, { bc with uv := v, Xv := obL v }, ⟨?_, rfl, ?_, h.up, ?_, rfl, ?_, h.keys, ?_, h.xm⟩, hh, ?_⟩
  · refine ⟨hh.row hp.row n1, ?_, ?_, ?_, ?_, ?_, ?_, ?_⟩
    · exact intsR.frame hp.chests hh (nf cc.Xc fun a => by have := hcn a; omega)
    · exact intsR.frame hp.refs hh (nf cc.Xr fun a => by have := hcn a; omega)
    · exact strsR.frame hp.bounds hh (nf cc.Xb fun a => by have := hcn a; omega)
    · exact hp.seen.hits hh (nf [cc.m] (fun a => by have := hcn a; simp only [cnt_cons, List.count_nil]; omega) _ (by simp))
    · exact jobsR.frame hp.queue hh (nf cc.Xq fun a => by have := hcn a; omega)
    · exact wishesR.frame hp.wishes hh (nf cc.Xw fun a => by have := hcn a; omega)
    · refine ⟨bb, { bc with uv := v, Xv := obL v }, h.up, ?_, rfl⟩
      exact ⟨hr, chgsR.frame hbt.chg hh (nf bc.Xc fun a => by have := hcn a; omega), jobsR.frame hbt.jobs hh (nf bc.Xj fun a => by have := hcn a; omega), hbt.told.frame hh (fun e => n3 e.symm) (by rw [h.xm]; exact nf xs.flatten fun a => by have := hcn a; omega), ⟨ints_holds.2 ⟨v, rfl, ho2, rfl⟩, hnn⟩, intsR.frame hbt.pushed hh (nf bc.Xp fun a => by have := hcn a; omega)⟩
  · refine List.nodup_iff_count.2 fun a => ?_
    have h1 := hcn a
    have h2 := cnt_nd (obL_nodup v) a
    simp only [FrC.blocks, BtC.blocks, h.xm, cnt_cons, List.count_append] at h1 ⊢
    by_cases ha : a ∈ obL v
    · have hz : X.count a = 0 := List.count_eq_zero.2 (hfr a ha)
      rw [h.hX] at hz
      simp only [FrC.blocks, h.xp, BtC.blocks, h.xm, cnt_cons, List.count_append] at hz
      omega
    · have := List.count_eq_zero.2 ha
      omega
  · exact ⟨hr, chgsR.frame hbt.chg hh (nf bc.Xc fun a => by have := hcn a; omega), jobsR.frame hbt.jobs hh (nf bc.Xj fun a => by have := hcn a; omega), hbt.told.frame hh (fun e => n3 e.symm) (by rw [h.xm]; exact nf xs.flatten fun a => by have := hcn a; omega), ⟨ints_holds.2 ⟨v, rfl, ho2, rfl⟩, hnn⟩, intsR.frame hbt.pushed hh (nf bc.Xp fun a => by have := hcn a; omega)⟩
  · exact h.mm.hits hh (nf [bc.m] (fun a => by have := hcn a; simp only [cnt_cons, List.count_nil]; omega) _ (by simp))
  · exact h.rs.frame hh (nf xs.flatten fun a => by have := hcn a; omega)
  · intro k hk
    by_cases ha : k ∈ obL v
    · exact .inr ha
    · left
      rw [h.hX]
      have h3 := mem_count hk
      have h4 := List.count_eq_zero.2 ha
      refine List.count_pos_iff.1 ?_
      simp only [FrC.blocks, h.xp, BtC.blocks, h.xm, cnt_cons, List.count_append] at h3 ⊢
      omega
/-- The changes. -/
theorem chg_put {w : World} {f : Nat} {s : Fr} {X : List Nat} {cc : FrC} {bb : Nat} {b : Bt} {bc : BtC} {M : MP} {xs : List (List Nat)} (h : CurAt w f s X cc bb b bc M xs) {V : List Chg} {v : Value} (ho : w.ownsRow 0 142 3 v V.length (crow V)) (hfr : ∀ k ∈ obL v, k ∉ X) :
    ∃ X' cc' bc', CurAt (w.setCell ⟨bb, 3, none⟩ v) f { s with cur := some { b with chg := V } } X' cc' bb { b with chg := V } bc' M xs ∧ Hits (· = bb) w (w.setCell ⟨bb, 3, none⟩ v) ∧ (∀ k ∈ X', k ∈ X ∨ k ∈ obL v) := by
  obtain ⟨hf, hbX, hmX, n1, n2, n3⟩ := h.mem
  have hp := h.p
  have hcn := h.cnt
  have hbt := h.bt
  have hh : Hits (· = bb) w (w.setCell ⟨bb, 3, none⟩ v) := (Hits.refl (· = bb) w).setCell (g := bb) (fun _ => rfl) 3 v
  have hvb : ∀ k, v.ownBlock = some k → ¬ k = bb := fun k hk e => hfr k (mem_obL.2 hk) (by rw [e]; exact hbX)
  have hr := heap_setCell_same w bb 3 _ _ v hbt.row
  have ho2 := hh.own ho hvb
  have nf := h.nf
  refine ⟨FrC.blocks f { cc with Xp := bb :: BtC.blocks { bc with uc := v, Xc := obL v } }, { cc with Xp := bb :: BtC.blocks { bc with uc := v, Xc := obL v } }, { bc with uc := v, Xc := obL v }, ⟨?_, rfl, ?_, h.up, ?_, rfl, ?_, h.keys, ?_, h.xm⟩, hh, ?_⟩
  · refine ⟨hh.row hp.row n1, ?_, ?_, ?_, ?_, ?_, ?_, ?_⟩
    · exact intsR.frame hp.chests hh (nf cc.Xc fun a => by have := hcn a; omega)
    · exact intsR.frame hp.refs hh (nf cc.Xr fun a => by have := hcn a; omega)
    · exact strsR.frame hp.bounds hh (nf cc.Xb fun a => by have := hcn a; omega)
    · exact hp.seen.hits hh (nf [cc.m] (fun a => by have := hcn a; simp only [cnt_cons, List.count_nil]; omega) _ (by simp))
    · exact jobsR.frame hp.queue hh (nf cc.Xq fun a => by have := hcn a; omega)
    · exact wishesR.frame hp.wishes hh (nf cc.Xw fun a => by have := hcn a; omega)
    · refine ⟨bb, { bc with uc := v, Xc := obL v }, h.up, ?_, rfl⟩
      exact ⟨hr, chgs_holds.2 ⟨v, rfl, ho2, rfl⟩, jobsR.frame hbt.jobs hh (nf bc.Xj fun a => by have := hcn a; omega), hbt.told.frame hh (fun e => n3 e.symm) (by rw [h.xm]; exact nf xs.flatten fun a => by have := hcn a; omega), hbt.verd.frame hh (nf bc.Xv fun a => by have := hcn a; omega), intsR.frame hbt.pushed hh (nf bc.Xp fun a => by have := hcn a; omega)⟩
  · refine List.nodup_iff_count.2 fun a => ?_
    have h1 := hcn a
    have h2 := cnt_nd (obL_nodup v) a
    simp only [FrC.blocks, BtC.blocks, h.xm, cnt_cons, List.count_append] at h1 ⊢
    by_cases ha : a ∈ obL v
    · have hz : X.count a = 0 := List.count_eq_zero.2 (hfr a ha)
      rw [h.hX] at hz
      simp only [FrC.blocks, h.xp, BtC.blocks, h.xm, cnt_cons, List.count_append] at hz
      omega
    · have := List.count_eq_zero.2 ha
      omega
  · exact ⟨hr, chgs_holds.2 ⟨v, rfl, ho2, rfl⟩, jobsR.frame hbt.jobs hh (nf bc.Xj fun a => by have := hcn a; omega), hbt.told.frame hh (fun e => n3 e.symm) (by rw [h.xm]; exact nf xs.flatten fun a => by have := hcn a; omega), hbt.verd.frame hh (nf bc.Xv fun a => by have := hcn a; omega), intsR.frame hbt.pushed hh (nf bc.Xp fun a => by have := hcn a; omega)⟩
  · exact h.mm.hits hh (nf [bc.m] (fun a => by have := hcn a; simp only [cnt_cons, List.count_nil]; omega) _ (by simp))
  · exact h.rs.frame hh (nf xs.flatten fun a => by have := hcn a; omega)
  · intro k hk
    by_cases ha : k ∈ obL v
    · exact .inr ha
    · left
      rw [h.hX]
      have h3 := mem_count hk
      have h4 := List.count_eq_zero.2 ha
      refine List.count_pos_iff.1 ?_
      simp only [FrC.blocks, h.xp, BtC.blocks, h.xm, cnt_cons, List.count_append] at h3 ⊢
      omega
/-- Who has it. -/
theorem pushed_put {w : World} {f : Nat} {s : Fr} {X : List Nat} {cc : FrC} {bb : Nat} {b : Bt} {bc : BtC} {M : MP} {xs : List (List Nat)} (h : CurAt w f s X cc bb b bc M xs) {V : List Int} {v : Value} (ho : w.ownsRow 0 3 1 v V.length (ints V)) (hfr : ∀ k ∈ obL v, k ∉ X) :
    ∃ X' cc' bc', CurAt (w.setCell ⟨bb, 7, none⟩ v) f { s with cur := some { b with pushed := V } } X' cc' bb { b with pushed := V } bc' M xs ∧ Hits (· = bb) w (w.setCell ⟨bb, 7, none⟩ v) ∧ (∀ k ∈ X', k ∈ X ∨ k ∈ obL v) := by
  obtain ⟨hf, hbX, hmX, n1, n2, n3⟩ := h.mem
  have hp := h.p
  have hcn := h.cnt
  have hbt := h.bt
  have hh : Hits (· = bb) w (w.setCell ⟨bb, 7, none⟩ v) := (Hits.refl (· = bb) w).setCell (g := bb) (fun _ => rfl) 7 v
  have hvb : ∀ k, v.ownBlock = some k → ¬ k = bb := fun k hk e => hfr k (mem_obL.2 hk) (by rw [e]; exact hbX)
  have hr := heap_setCell_same w bb 7 _ _ v hbt.row
  have ho2 := hh.own ho hvb
  have nf := h.nf
  refine ⟨FrC.blocks f { cc with Xp := bb :: BtC.blocks { bc with up := v, Xp := obL v } }, { cc with Xp := bb :: BtC.blocks { bc with up := v, Xp := obL v } }, { bc with up := v, Xp := obL v }, ⟨?_, rfl, ?_, h.up, ?_, rfl, ?_, h.keys, ?_, h.xm⟩, hh, ?_⟩
  · refine ⟨hh.row hp.row n1, ?_, ?_, ?_, ?_, ?_, ?_, ?_⟩
    · exact intsR.frame hp.chests hh (nf cc.Xc fun a => by have := hcn a; omega)
    · exact intsR.frame hp.refs hh (nf cc.Xr fun a => by have := hcn a; omega)
    · exact strsR.frame hp.bounds hh (nf cc.Xb fun a => by have := hcn a; omega)
    · exact hp.seen.hits hh (nf [cc.m] (fun a => by have := hcn a; simp only [cnt_cons, List.count_nil]; omega) _ (by simp))
    · exact jobsR.frame hp.queue hh (nf cc.Xq fun a => by have := hcn a; omega)
    · exact wishesR.frame hp.wishes hh (nf cc.Xw fun a => by have := hcn a; omega)
    · refine ⟨bb, { bc with up := v, Xp := obL v }, h.up, ?_, rfl⟩
      exact ⟨hr, chgsR.frame hbt.chg hh (nf bc.Xc fun a => by have := hcn a; omega), jobsR.frame hbt.jobs hh (nf bc.Xj fun a => by have := hcn a; omega), hbt.told.frame hh (fun e => n3 e.symm) (by rw [h.xm]; exact nf xs.flatten fun a => by have := hcn a; omega), hbt.verd.frame hh (nf bc.Xv fun a => by have := hcn a; omega), ints_holds.2 ⟨v, rfl, ho2, rfl⟩⟩
  · refine List.nodup_iff_count.2 fun a => ?_
    have h1 := hcn a
    have h2 := cnt_nd (obL_nodup v) a
    simp only [FrC.blocks, BtC.blocks, h.xm, cnt_cons, List.count_append] at h1 ⊢
    by_cases ha : a ∈ obL v
    · have hz : X.count a = 0 := List.count_eq_zero.2 (hfr a ha)
      rw [h.hX] at hz
      simp only [FrC.blocks, h.xp, BtC.blocks, h.xm, cnt_cons, List.count_append] at hz
      omega
    · have := List.count_eq_zero.2 ha
      omega
  · exact ⟨hr, chgsR.frame hbt.chg hh (nf bc.Xc fun a => by have := hcn a; omega), jobsR.frame hbt.jobs hh (nf bc.Xj fun a => by have := hcn a; omega), hbt.told.frame hh (fun e => n3 e.symm) (by rw [h.xm]; exact nf xs.flatten fun a => by have := hcn a; omega), hbt.verd.frame hh (nf bc.Xv fun a => by have := hcn a; omega), ints_holds.2 ⟨v, rfl, ho2, rfl⟩⟩
  · exact h.mm.hits hh (nf [bc.m] (fun a => by have := hcn a; simp only [cnt_cons, List.count_nil]; omega) _ (by simp))
  · exact h.rs.frame hh (nf xs.flatten fun a => by have := hcn a; omega)
  · intro k hk
    by_cases ha : k ∈ obL v
    · exact .inr ha
    · left
      rw [h.hX]
      have h3 := mem_count hk
      have h4 := List.count_eq_zero.2 ha
      refine List.count_pos_iff.1 ?_
      simp only [FrC.blocks, h.xp, BtC.blocks, h.xm, cnt_cons, List.count_append] at h3 ⊢
      omega
end Go.Proofs.YtcmollfhlillfaaGreatDoor
/-
  front: advance.
-/
namespace Go.Proofs.YtcmollfhlillfaaGreatDoor
open Go.RowKit
set_option linter.unusedVariables false
set_option linter.unusedSimpArgs false
def toldGet (T : List (Int × List Int)) (r : Int) : List Int := ((T.find? fun x => x.1 == r).map (·.2)).getD []
theorem told_get {w : World} {r : Int} : ∀ {M : MP} {T : List (Int × List Int)} {xs : List (List Nat)}, M.map (·.1) = T.map (·.1) → Rows intsR w (M.map fun x => [x.2]) (T.map (·.2)) xs → toldHas T r = true → ∃ v, getM M r = some v ∧ ∃ A c, v = .slice A (toldGet T r).length c ∧ Rd w 1 A (toldGet T r).length (ints (toldGet T r))
  | [], [], [], _, _, h => by cases h
  | (k, v) :: M, (k', l) :: T, x :: xs, hk, hr, h => by
    simp only [List.map_cons, List.cons.injEq] at hk
    obtain ⟨rfl, hk2⟩ := hk
    by_cases e : k = r
    · subst e
      obtain ⟨v2, e2, o2, _⟩ := ints_holds.1 hr.1
      injection e2 with e2
      subst e2
      obtain ⟨A, c, rfl⟩ := own_form o2
      refine ⟨.slice A l.length c, by simp [getM], A, c, by simp [toldGet], ?_⟩
      simpa [toldGet] using Rd.of_own o2
    · have e2 : (k == r) = false := by simpa using e
      have h2 : toldHas T r = true := by unfold toldHas at h ⊢; rw [List.any_cons] at h; simpa [e2] using h
      obtain ⟨v2, g1, g2⟩ := told_get hk2 hr.2 h2
      refine ⟨v2, by unfold getM at g1 ⊢; rw [List.find?_cons]; simp only [e2]; exact g1, ?_⟩
      have e3 : toldGet ((k, l) :: T) r = toldGet T r := by unfold toldGet; rw [List.find?_cons]; simp only [e2]
      rw [e3]; exact g2
  | [], _ :: _, _, hk, _, _ => by simp at hk
  | _ :: _, [], _, hk, _, _ => by simp at hk
  | [], [], _ :: _, _, hr, _ => by cases hr
  | _ :: _, _ :: _, [], _, hr, _ => by cases hr
structure AdvOk (s : Fr) (b : Bt) : Prop where
  all : s.refs.length ≤ b.told.length → ∀ r ∈ s.refs, toldHas b.told r = true
  lens : ∀ r ∈ s.refs, toldHas b.told r = true → (toldGet b.told r).length = b.jobs.length
  rn : s.refs.length ≤ 64
  r0 : 0 < s.refs.length
  ri : ∀ r ∈ s.refs, I64 r
  jn : b.jobs.length ≤ 4
  js : ∀ j ∈ b.jobs, soundT j.tx = true
  tn : b.told.length ≤ 1048576
  p0 : 0 ≤ b.prev
  v0 : 0 ≤ b.ver
  k0 : 0 ≤ b.known
  p1 : b.prev < 9223372036854775808
  v1 : b.ver < 9223372036854775808
  k1 : b.known < 9223372036854775808
  c : s.chests.length ≤ 1048576
  d : b.pushed.length ≤ 1048576
def advB (s : Fr) (b : Bt) : Bt := { b with verd := some (bothF b.jobs.length (s.refs.map (toldGet b.told))).1, chg := pickL (b.jobs.map (·.tx)) (bothF b.jobs.length (s.refs.map (toldGet b.told))).1 }
def advanceF (s : Fr) (b : Bt) : Fr × List Msg := if b.verd.isSome = true ∨ b.told.length < s.refs.length then (s, []) else
  if (bothF b.jobs.length (s.refs.map (toldGet b.told))).2 ≠ 0 then (s, []) else ({ s with cur := some (advB s b) }, pushL { s with cur := some (advB s b) } (advB s b))
theorem lsT : ElemT Tryz.prog 41 35 1 24 := elem_mk (z := .slice none 0 0) Tryz.underlying41 (by kernel_rfl) rfl (by decide)
theorem txT3 : ElemT Tryz.prog 44 30 3 56 := elem_mk (z := .agg #[.int .i64 0, .slice none 0 0, .slice none 0 0]) Tryz.underlying44 (by kernel_rfl) rfl (by decide)
def vOf (M : MP) (r : Int) : Value := (getM M r).getD (.slice none 0 0)
/-- Cells that are transactions that are only read, apart from block p. -/
def TxC (w : World) (p : Nat) (cs : List Value) (T : List Tx) : Prop := ∀ i t, T[i]? = some t → ∃ A1 c1 A2 c2, cs[i * 3]? = some (.int .i64 t.1) ∧ cs[i * 3 + 1]? = some (.slice A1 t.2.1.length c1) ∧ cs[i * 3 + 2]? = some (.slice A2 t.2.2.length c2) ∧ Rd w 2 A1 t.2.1.length (srow t.2.1) ∧ Rd w 3 A2 t.2.2.length (crow t.2.2) ∧ (A2 = none → t.2.2.length = 0) ∧ (∀ a, A1 = some a → a.block ≠ p) ∧ (∀ a, A2 = some a → a.block ≠ p)
theorem TxC.hits {w w' : World} {p : Nat} {cs : List Value} {T : List Tx} (h : TxC w p cs T) (hh : Hits (· = p) w w') : TxC w' p cs T := fun i t hi => by
  obtain ⟨A1, c1, A2, c2, h0, h1, h2, h3, h4, h5, h6, h7⟩ := h i t hi
  exact ⟨A1, c1, A2, c2, h0, h1, h2, hh.rd h3 h6, hh.rd h4 h7, h5, h6, h7⟩
theorem TxC.later {w w' : World} {p : Nat} {cs : List Value} {T : List Tx} (h : TxC w p cs T) (hl : Later w w') : TxC w' p cs T := h.hits (Hits.later hl)
theorem TxC.snoc {w : World} {p : Nat} {cs : List Value} {T : List Tx} (h : TxC w p cs T) (hc : cs.length = T.length * 3) {t : Tx} {A1 A2 : Option Addr} {c1 c2 : Nat} (h3 : Rd w 2 A1 t.2.1.length (srow t.2.1)) (h4 : Rd w 3 A2 t.2.2.length (crow t.2.2)) (h5 : A2 = none → t.2.2.length = 0) (h6 : ∀ a, A1 = some a → a.block ≠ p) (h7 : ∀ a, A2 = some a → a.block ≠ p) : TxC w p (cs ++ [.int .i64 t.1, .slice A1 t.2.1.length c1, .slice A2 t.2.2.length c2]) (T ++ [t]) := by
  intro i u hu
  rcases Nat.lt_or_ge i T.length with hi | hi
  · rw [List.getElem?_append_left hi] at hu
    obtain ⟨B1, d1, B2, d2, g0, g1, g2, g3, g4, g5, g6, g7⟩ := h i u hu
    exact ⟨B1, d1, B2, d2, by rw [List.getElem?_append_left (by omega)]; exact g0, by rw [List.getElem?_append_left (by omega)]; exact g1, by rw [List.getElem?_append_left (by omega)]; exact g2, g3, g4, g5, g6, g7⟩
  · rw [List.getElem?_append_right hi] at hu
    have hi2 : i - T.length = 0 := by have := (List.getElem?_eq_some_iff.1 hu).1; simp at this; omega
    rw [hi2] at hu
    have e : t = u := by simpa using hu
    subst e
    have ei : i = T.length := by omega
    subst ei
    exact ⟨A1, c1, A2, c2, by rw [List.getElem?_append_right (by omega), hc]; simp, by rw [List.getElem?_append_right (by omega), hc, show T.length * 3 + 1 - T.length * 3 = 1 by omega]; rfl, by rw [List.getElem?_append_right (by omega), hc, show T.length * 3 + 2 - T.length * 3 = 2 by omega]; rfl, h3, h4, h5, h6, h7⟩
theorem TxC.rows {w : World} {p base g n c : Nat} {cs : List Value} {T : List Tx} (h : TxC w p cs T) (ho : w.ownsRow base 30 3 (.slice (some ⟨g, 0, none⟩) n c) n cs) : TxL w g T := fun i t hi => by
  obtain ⟨A1, c1, A2, c2, h0, h1, h2, h3, h4, h5, _⟩ := h i t hi
  have hpos : 0 < cs.length := by have := (List.getElem?_eq_some_iff.1 h0).1; omega
  obtain ⟨b, o, e, hc⟩ := (Rd.of_own ho).2 hpos
  injection e with e; injection e with e1 e2 _
  subst e1 e2
  have z0 := hc _ _ h0
  have z1 := hc _ _ h1
  have z2 := hc _ _ h2
  simp only [Nat.zero_add] at z0 z1 z2
  exact ⟨A1, c1, A2, c2, z0, z1, z2, h3, h4, h5⟩
theorem job_blocks {w : World} {g n c : Nat} {J : List Jb} {X : List Nat} (h : jobsR.holds w [.slice (some ⟨g, 0, none⟩) n c] J X) {i : Nat} {j : Jb} (hi : J[i]? = some j) {A1 A2 : Option Addr} {n1 c1 n2 c2 : Nat} (hc1 : w.cell? ⟨g, i * 5 + 3, none⟩ = some (.slice A1 n1 c1)) (hc2 : w.cell? ⟨g, i * 5 + 4, none⟩ = some (.slice A2 n2 c2)) {p : Nat} {cs : Array Value} {t : TypeId} (hp : w.heap[p]? = some (.cells cs t (0, 0))) (ht1 : 81 ≠ t) (ht2 : 142 ≠ t) :
    (∀ a, A1 = some a → a.block ≠ p) ∧ (∀ a, A2 = some a → a.block ≠ p) := by
  obtain ⟨hn, g', cells, x, hA, hcc, u1, u2, X1, X2, rfl, h1, h2, _⟩ := slice_cells h hi (by decide)
  injection hA with hA; injection hA with hA
  subst hA
  have z1 : w.cell? ⟨g, i * 5 + 3, none⟩ = some u1 := hcc 3 _ rfl
  have z2 : w.cell? ⟨g, i * 5 + 4, none⟩ = some u2 := hcc 4 _ rfl
  rw [hc1] at z1; rw [hc2] at z2
  injection z1 with z1; injection z2 with z2
  obtain ⟨v1, e1, o1, _⟩ := spans_holds.1 h1
  obtain ⟨v2, e2, o2, _⟩ := chgs_holds.1 h2
  injection e1 with e1; injection e2 with e2
  subst e1 e2
  rw [← z1] at o1; rw [← z2] at o2
  constructor
  · rintro a rfl
    obtain ⟨_, _, ds, hd⟩ := own_block (g := a.block) o1 rfl
    exact bats_ne hd hp ht1
  · rintro a rfl
    obtain ⟨_, _, ds, hd⟩ := own_block (g := a.block) o2 rfl
    exact bats_ne hd hp ht2
theorem make_int0 (m : Nat) (hm : m ≤ 4096) : ∃ cs : Array Value, cs.size = m ∧ ∀ W : World, (Instr.makeSlice 35 (.int .i64 0) (.int .i64 (m : Int))).run Tryz.prog W = .ok (.slice (some ⟨W.heap.size, 0, none⟩) 0 m) (W.alloc (.cells cs 3)) := by
  obtain ⟨i, hi, h1, h2, h3⟩ := info_parts (P := Tryz.prog) (e := 3) (show (Tryz.prog.info? 3).map (fun i => (i.zero, i.size, i.bytes)) = some (some (.int .i64 0), 1, 8) by kernel_rfl)
  refine ⟨madeCells (Value.int .i64 0).cells (m * i.size), by rw [size_madeCells, h2, Nat.mul_one], fun W => ?_⟩
  have hr := run_make (P := Tryz.prog) W 35 3 i (.int .i64 0) Tryz.underlying35 hi h1 .i64 .i64 0 m (by omega) (by omega) (by rw [h3]; omega) (by omega)
  simpa using hr
theorem pickL_chk {T : List Tx} {V : List Int} (h : ∀ t ∈ T, soundT t = true) : chkAll (pickL T V) = 0 := by
  refine chkAll_of fun c hc => ?_
  unfold pickL at hc
  obtain ⟨x, hx, hc⟩ := List.mem_flatMap.1 hc
  have h1 := (List.of_mem_zip hx).1
  unfold pickOne at hc
  split at hc
  · obtain ⟨r, R, C⟩ : ∃ r R C, x.1 = (r, R, C) := ⟨_, _, _, rfl⟩
    have h2 := h x.1 h1
    obtain ⟨⟨r, R, C⟩, v⟩ := x
    obtain ⟨_, _, _, h4, _⟩ := soundT_parts h2
    exact chkAll_all h4 c hc
  · cases hc
theorem adv_push {s : Fr} {b : Bt} (h : AdvOk s b) : PushOk { s with cur := some (advB s b) } (advB s b) := by
  refine ⟨h.p0, h.v0, h.k0, ⟨?_, ?_, ?_, ?_, ?_⟩, h.c, h.d⟩
  · show b.prev.toNat < _; have := h.p0; have := h.p1; omega
  · show b.ver.toNat < _; have := h.v0; have := h.v1; omega
  · show b.known.toNat < _; have := h.k0; have := h.k1; omega
  · have h1 := pickL_len (V := (bothF b.jobs.length (s.refs.map (toldGet b.told))).1) (T := b.jobs.map (·.tx)) (fun t ht => by obtain ⟨j, hj, rfl⟩ := List.mem_map.1 ht; exact h.js j hj)
    rw [List.length_map] at h1
    have := h.jn
    show (pickL _ _).length ≤ 4096
    omega
  · exact pickL_chk fun t ht => by obtain ⟨j, hj, rfl⟩ := List.mem_map.1 ht; exact h.js j hj
theorem foldL_len {n0 : Nat} : ∀ {Ls : List (List Int)} {O : List Int}, O.length = n0 → (∀ l ∈ Ls, l.length = n0) → (Ls.foldl maxL O).length = n0
  | [], O, h, _ => h
  | l :: Ls, O, h, hl => by
    rw [List.foldl_cons]
    exact foldL_len (by unfold maxL; rw [List.length_zipWith, h, hl l (List.mem_cons_self ..)]; omega) fun m hm => hl m (List.mem_cons_of_mem _ hm)
theorem both_len {n0 : Nat} {Ls : List (List Int)} (hl : ∀ l ∈ Ls, l.length = n0) : (bothF n0 Ls).2 = 0 → (bothF n0 Ls).1.length = n0 := by
  unfold bothF
  have h1 : oneLen n0 Ls = true := by unfold oneLen; rw [List.all_eq_true]; intro l h; simpa using hl l h
  rw [if_neg (by rw [h1]; decide)]
  split
  · intro _; exact foldL_len (by simp) hl
  · intro h; cases h
theorem maxL_is {O l : List Int} (hO : ∀ v ∈ O, isV v = true) (hl : ∀ v ∈ l, isV v = true) : ∀ v ∈ maxL O l, isV v = true := by
  intro v hv
  unfold maxL at hv
  obtain ⟨i, hi⟩ := List.getElem?_of_mem hv
  rw [List.getElem?_zipWith] at hi
  cases ho : O[i]? with
  | none => rw [ho] at hi; cases hi
  | some x =>
    cases hl2 : l[i]? with
    | none => rw [ho, hl2] at hi; cases hi
    | some y =>
      rw [ho, hl2] at hi
      have e : max x y = v := by simpa using hi
      have h1 := hO x (List.mem_of_getElem? ho)
      have h2 := hl y (List.mem_of_getElem? hl2)
      unfold isV at h1 h2 ⊢
      have h1 := of_decide_eq_true h1
      have h2 := of_decide_eq_true h2
      exact decide_eq_true (by omega)
theorem foldL_is : ∀ {Ls : List (List Int)} {O : List Int}, (∀ v ∈ O, isV v = true) → (∀ l ∈ Ls, ∀ v ∈ l, isV v = true) → ∀ v ∈ Ls.foldl maxL O, isV v = true
  | [], O, h, _ => h
  | l :: Ls, O, h, hl => by
    rw [List.foldl_cons]
    exact foldL_is (maxL_is h (hl l (List.mem_cons_self ..))) fun m hm => hl m (List.mem_cons_of_mem _ hm)
theorem both_is {n0 : Nat} {Ls : List (List Int)} : ∀ v ∈ (bothF n0 Ls).1, isV v = true := by
  unfold bothF
  split
  · intro v hv; cases hv
  · split
    · rename_i h
      refine foldL_is (fun v hv => by rw [(List.mem_replicate.1 hv).2]; decide) fun l hl v hv => ?_
      exact List.all_eq_true.1 (List.all_eq_true.1 h l hl) v hv
    · intro v hv; cases hv
theorem job_nil {w : World} {g n c : Nat} {J : List Jb} {X : List Nat} (h : jobsR.holds w [.slice (some ⟨g, 0, none⟩) n c] J X) {i : Nat} {j : Jb} (hi : J[i]? = some j) {A2 : Option Addr} {n2 c2 : Nat} (hc : w.cell? ⟨g, i * 5 + 4, none⟩ = some (.slice A2 n2 c2)) : A2 = none → j.tx.2.2.length = 0 := by
  obtain ⟨hn, g', cells, x, hA, hcc, u1, u2, X1, X2, rfl, h1, h2, _⟩ := slice_cells h hi (by decide)
  injection hA with hA; injection hA with hA
  subst hA
  have z := hcc 4 _ rfl
  have z : w.cell? ⟨g, i * 5 + 4, none⟩ = some u2 := z
  rw [hc] at z
  injection z with z
  obtain ⟨v2, e2, o2, _⟩ := chgs_holds.1 h2
  injection e2 with e2
  subst e2
  rw [← z] at o2
  obtain ⟨A', c', e⟩ := own_form o2
  injection e with e1 e2 e3
  intro h0
  subst h0
  rcases o2.2 with ⟨hv, h3⟩ | ⟨g2, cap, cur, hv, _⟩
  · exact h3
  · injection hv with hv; cases hv
set_option maxHeartbeats 8000000 in
set_option maxRecDepth 100000 in
theorem advance_any {w : World} {f : Nat} {s : Fr} {X : List Nat} {b : Bt} (h : FrH w f s X) (hcur : s.cur = some b) (hok : AdvOk s b) :
    Calls Tryz.prog 64 #[.pointer (some ⟨f, 0, none⟩)] w (TurnPost w f X (advanceF s b).1 (advanceF s b).2) := by
  obtain ⟨cc, bb, bc, M, xs, hca⟩ := cur_open h hcur
  have hrow := hca.p.row
  unfold frCells at hrow
  rw [hca.up] at hrow
  obtain ⟨vr, er, orf, _⟩ := ints_holds.1 hca.p.refs
  injection er with er
  obtain ⟨Ar, cr, rfl⟩ := own_form orf
  rw [er] at hrow
  obtain ⟨nr, hnr⟩ : ∃ n, n = s.refs.length := ⟨_, rfl⟩
  rw [← hnr] at hrow
  have hbrow := hca.bt.row
  have HH := hide_ h; have HCA := hide_ hca; have HRW := hide_ hrow; have HBW := hide_ hbrow; have HRF := hide_ (Rd.of_own orf); have HNR := hide_ hnr; have HOK := hide_ hok
  have c14 : w.cell? ⟨f, 14, none⟩ = some (.pointer (some ⟨bb, 0, none⟩)) := cell_of_row _ _ 14 _ _ (0, 0) hrow
  have k5 := later_drew_cell (show w.cell? ⟨f, 5, none⟩ = some (.slice Ar nr cr) from cell_of_row _ _ 5 _ _ (0, 0) hrow)
  have d5 := later_drew_cell (show w.cell? ⟨bb, 5, none⟩ = some (.map (some bc.m)) from cell_of_row _ _ 5 _ _ (0, 0) hbrow)
  have hver := hca.bt.verd
  have d6 := later_drew_cell (show w.cell? ⟨bb, 6, none⟩ = some bc.uv from cell_of_row _ _ 6 _ _ (0, 0) hbrow)
  have blt := theap_lt hbrow
  cases hvd : b.verd with
  | some L =>
    rw [hvd] at hver
    obtain ⟨_, a, n0, c0, euv⟩ := hver
    rw [euv] at d6
    have HE := hide_ (show advanceF s b = (s, []) by unfold advanceF; rw [if_pos (.inl (by rw [hvd]; rfl))])
    clear h hcur hca hrow er orf hnr hbrow hok euv hvd
    go_enter Tryz.func64, Tryz.ntmps64
    go_wp2_with fail
    refine wp_region_k (by kernel_rfl) ?_
    refine wKt 0 (v := ?_) rfl (by intro W hSw; go_simp; with_reducible rfl) ?_; try simp only [Act.put, qA, qZ, qS]
    refine wKt 1 (v := ?_) rfl (by intro W hSw; go_simp; with_reducible rfl) ?_; try simp only [Act.put, qA, qZ, qS]
    refine wKt 2 (v := ?_) rfl (by intro W hSw; go_simp; with_reducible rfl) ?_; try simp only [Act.put, qA, qZ, qS]
    refine wKt 3 (v := ?_) rfl (by intro W hSw; go_simp; with_reducible rfl) ?_; try simp only [Act.put, qA, qZ, qS]
    refine wKt 4 (v := ?_) rfl (by intro W hSw; go_simp; with_reducible rfl) ?_; try simp only [Act.put, qA, qZ, qS]
    refine wKt 5 (v := ?_) rfl (by intro W hSw; go_simp; with_reducible rfl) ?_; try simp only [Act.put, qA, qZ, qS]
    refine wKs 6 rfl ?_; try simp only [Act.put, qA, qZ, qS]
    refine wKs 7 rfl ?_; try simp only [Act.put, qA, qZ, qS]
    refine wKs 8 rfl ?_; try simp only [Act.put, qA, qZ, qS]
    refine wKs 9 rfl ?_; try simp only [Act.put, qA, qZ, qS]
    refine wKs 10 rfl ?_; try simp only [Act.put, qA, qZ, qS]
    refine wKs 11 rfl ?_; try simp only [Act.put, qA, qZ, qS]
    refine wKs 12 rfl ?_; try simp only [Act.put, qA, qZ, qS]
    refine wKs 13 rfl ?_; try simp only [Act.put, qA, qZ, qS]
    refine wKs 14 rfl ?_; try simp only [Act.put, qA, qZ, qS]
    refine wKs 15 rfl ?_; try simp only [Act.put, qA, qZ, qS]
    refine wKs 16 rfl ?_; try simp only [Act.put, qA, qZ, qS]
    refine wKt 17 (v := ?_) rfl (by intro W hSw; go_simp; with_reducible rfl) ?_; try simp only [Act.put, qA, qZ, qS]
    refine wpAnyK_done (by kernel_rfl) ?_ _
    go_wp2_with fail
    go_ret
    rw [HE.out]
    exact turn_none (HH.out.later (Later.refl w).dr) (Hits.later (Later.refl w).dr) (Fresh.refl _ _)
  | none =>
    rw [hvd] at hver
    rw [hver.1] at d6
    have hML : M.length = b.told.length := by have h1 := congrArg List.length hca.keys; simpa using h1
    have hlen : ∀ ty W, Later w.drew W → (Builtin.len_ #[92] ty #[.map (some bc.m)]).run Tryz.prog W = .ok (.int .i64 (b.told.length : Nat)) W := fun ty W hW => by
      have h1 := (hca.mm.later ((Later.refl w).dr.trans hW)).len Tryz.underlying92 ty
      rwa [hML] at h1
    obtain ⟨nt, hnt⟩ : ∃ n, n = b.told.length := ⟨_, rfl⟩
    rw [← hnt] at hlen
    have HNT := hide_ hnt
    have nt2 : nt ≤ 1048576 := by rw [hnt]; exact hok.tn
    have nr2 : nr ≤ 64 := by rw [hnr]; exact hok.rn
    have nr3 : 0 < nr := by rw [hnr]; exact hok.r0
    have HVD := hide_ hvd
    clear h hcur hca hrow er orf hnr hbrow hok hver hML hnt hvd
    by_cases hltn : nt < nr
    · have HE := hide_ (show advanceF s b = (s, []) by unfold advanceF; rw [if_pos (.inr (by rw [← HNT.out, ← HNR.out]; exact hltn))])
      have q1 : (nt : Int) < (nr : Int) := by omega
      go_enter Tryz.func64, Tryz.ntmps64
      go_wp2_with fail
      refine wp_region_k (by kernel_rfl) ?_
      refine wKt 0 (v := ?_) rfl (by intro W hSw; go_simp; with_reducible rfl) ?_; try simp only [Act.put, qA, qZ, qS]
      refine wKt 1 (v := ?_) rfl (by intro W hSw; go_simp; with_reducible rfl) ?_; try simp only [Act.put, qA, qZ, qS]
      refine wKt 2 (v := ?_) rfl (by intro W hSw; go_simp; with_reducible rfl) ?_; try simp only [Act.put, qA, qZ, qS]
      refine wKt 3 (v := ?_) rfl (by intro W hSw; go_simp; with_reducible rfl) ?_; try simp only [Act.put, qA, qZ, qS]
      refine wKt 4 (v := ?_) rfl (by intro W hSw; go_simp; with_reducible rfl) ?_; try simp only [Act.put, qA, qZ, qS]
      refine wKt 5 (v := ?_) rfl (by intro W hSw; go_simp; with_reducible rfl) ?_; try simp only [Act.put, qA, qZ, qS]
      refine wKt 6 (v := ?_) rfl (by intro W hSw; go_simp; with_reducible rfl) ?_; try simp only [Act.put, qA, qZ, qS]
      refine wKt 7 (v := ?_) rfl (by intro W hSw; go_simp; with_reducible rfl) ?_; try simp only [Act.put, qA, qZ, qS]
      refine wKt 8 (v := ?_) rfl (by intro W hSw; go_simp; with_reducible rfl) ?_; try simp only [Act.put, qA, qZ, qS]
      refine wKt 9 (v := ?_) rfl (by intro W hSw; go_simp; with_reducible rfl) ?_; try simp only [Act.put, qA, qZ, qS]
      refine wKt 10 (v := ?_) rfl (by intro W hSw; go_simp; with_reducible rfl) ?_; try simp only [Act.put, qA, qZ, qS]
      refine wKt 11 (v := ?_) rfl (by intro W hSw; go_simp; with_reducible rfl) ?_; try simp only [Act.put, qA, qZ, qS]
      refine wKt 12 (v := ?_) rfl (by intro W hSw; go_simp; with_reducible rfl) ?_; try simp only [Act.put, qA, qZ, qS]
      refine wKt 13 (v := ?_) rfl (by intro W hSw; go_simp; with_reducible rfl) ?_; try simp only [Act.put, qA, qZ, qS]
      refine wKt 14 (v := ?_) rfl (by intro W hSw; go_simp; with_reducible rfl) ?_; try simp only [Act.put, qA, qZ, qS]
      refine wKt 15 (v := ?_) rfl (by intro W hSw; go_simp; with_reducible rfl) ?_; try simp only [Act.put, qA, qZ, qS]
      refine wKt 16 (v := ?_) rfl (by intro W hSw; go_simp; with_reducible rfl) ?_; try simp only [Act.put, qA, qZ, qS]
      refine wKt 17 (v := ?_) rfl (by intro W hSw; go_simp; with_reducible rfl) ?_; try simp only [Act.put, qA, qZ, qS]
      refine wpAnyK_done (by kernel_rfl) ?_ _
      go_wp2_with fail
      go_ret
      rw [HE.out]
      exact turn_none (HH.out.later (Later.refl w).dr) (Hits.later (Later.refl w).dr) (Fresh.refl _ _)
    · have q1 : ¬ (nt : Int) < (nr : Int) := by omega
      have HALL := hide_ (HOK.out.all (by rw [← HNT.out, ← HNR.out]; omega))
      have HE := hide_ (show advanceF s b = if (bothF b.jobs.length (s.refs.map (toldGet b.told))).2 ≠ 0 then (s, []) else ({ s with cur := some (advB s b) }, pushL { s with cur := some (advB s b) } (advB s b)) by
        unfold advanceF; rw [if_neg]; rw [HVD.out, ← HNT.out, ← HNR.out]; intro h; rcases h with h | h; cases h; exact hltn h)
      clear hltn
      go_enter Tryz.func64, Tryz.ntmps64
      go_wp2_with fail
      refine wp_region_k (by kernel_rfl) ?_
      refine wKt 0 (v := ?_) rfl (by intro W hSw; go_simp; with_reducible rfl) ?_; try simp only [Act.put, qA, qZ, qS]
      refine wKt 1 (v := ?_) rfl (by intro W hSw; go_simp; with_reducible rfl) ?_; try simp only [Act.put, qA, qZ, qS]
      refine wKt 2 (v := ?_) rfl (by intro W hSw; go_simp; with_reducible rfl) ?_; try simp only [Act.put, qA, qZ, qS]
      refine wKt 3 (v := ?_) rfl (by intro W hSw; go_simp; with_reducible rfl) ?_; try simp only [Act.put, qA, qZ, qS]
      refine wKt 4 (v := ?_) rfl (by intro W hSw; go_simp; with_reducible rfl) ?_; try simp only [Act.put, qA, qZ, qS]
      refine wKt 5 (v := ?_) rfl (by intro W hSw; go_simp; with_reducible rfl) ?_; try simp only [Act.put, qA, qZ, qS]
      refine wKt 6 (v := ?_) rfl (by intro W hSw; go_simp; with_reducible rfl) ?_; try simp only [Act.put, qA, qZ, qS]
      refine wKt 7 (v := ?_) rfl (by intro W hSw; go_simp; with_reducible rfl) ?_; try simp only [Act.put, qA, qZ, qS]
      refine wKt 8 (v := ?_) rfl (by intro W hSw; go_simp; with_reducible rfl) ?_; try simp only [Act.put, qA, qZ, qS]
      refine wKt 9 (v := ?_) rfl (by intro W hSw; go_simp; with_reducible rfl) ?_; try simp only [Act.put, qA, qZ, qS]
      refine wKt 10 (v := ?_) rfl (by intro W hSw; go_simp; with_reducible rfl) ?_; try simp only [Act.put, qA, qZ, qS]
      refine wKt 11 (v := ?_) rfl (by intro W hSw; go_simp; with_reducible rfl) ?_; try simp only [Act.put, qA, qZ, qS]
      refine wKt 12 (v := ?_) rfl (by intro W hSw; go_simp; with_reducible rfl) ?_; try simp only [Act.put, qA, qZ, qS]
      refine wKt 13 (v := ?_) rfl (by intro W hSw; go_simp; with_reducible rfl) ?_; try simp only [Act.put, qA, qZ, qS]
      refine wKt 14 (v := ?_) rfl (by intro W hSw; go_simp; with_reducible rfl) ?_; try simp only [Act.put, qA, qZ, qS]
      refine wKt 15 (v := ?_) rfl (by intro W hSw; go_simp; with_reducible rfl) ?_; try simp only [Act.put, qA, qZ, qS]
      refine wKt 16 (v := ?_) rfl (by intro W hSw; go_simp; with_reducible rfl) ?_; try simp only [Act.put, qA, qZ, qS]
      refine wKt 17 (v := ?_) rfl (by intro W hSw; go_simp; with_reducible rfl) ?_; try simp only [Act.put, qA, qZ, qS]
      refine wpAnyK_done (by kernel_rfl) ?_ _
      clear k5 d5 d6 c14 hlen
      have hca1 := HCA.out.later (Later.refl w).dr
      obtain ⟨W1, hW1⟩ : ∃ W, W = w.drew := ⟨_, rfl⟩
      have HL1 := hide_ (show Later w W1 by rw [hW1]; exact (Later.refl w).dr)
      rw [← hW1] at hca1 ⊢
      clear hW1
      have c5 : W1.cell? ⟨f, 5, none⟩ = some (.slice Ar nr cr) := cell_of_row _ _ 5 _ _ (0, 0) (later_row HL1.out HRW.out)
      have HCB := hide_ hca1
      clear hca1
      go_wp2_with fail
      rw [show decide (nt < nr) = false by simp; omega]
      go_loopw [4, 7, 41] (fun s4 s7 s41 wr => ∃ (i : Nat) (A : Option Addr) (c : Nat) (cs : List Value), i ≤ nr ∧ s41 = .int .i64 i ∧ s4 = .slice A i c ∧ Hid (wr.ownsRow W1.heap.size 35 1 (.slice A i c) i cs) ∧ Hid (cs = (s.refs.take i).map (vOf M)) ∧ Hid (Later W1 wr)) (fun _ _ i _ => nr - (intOf i).toNat)
      case atStart => exact ⟨0, none, 0, [], by omega, rfl, rfl, hide_ (World.ownsRow_nil _ _ _ _), hide_ (by simp), hide_ (Later.refl _)⟩
      case round =>
        obtain ⟨i, A, c, cs, hi, rfl, rfl, HO, HCS, HLW⟩ := hrel
        by_cases hlt : i < nr
        · obtain ⟨r, hr⟩ : ∃ r, s.refs[i]? = some r := ⟨_, List.getElem?_eq_getElem (by rw [← HNR.out]; exact hlt)⟩
          obtain ⟨br, orr, eA, l0⟩ := ((HRF.out.below HL1.out).below HLW.out).int (by exact hr)
          subst eA
          have q2 : (i : Int) < (nr : Int) := by omega
          have q3 : (i : Int) ≤ 64 := by omega
          have hbw := later_row (HL1.out.trans HLW.out) HBW.out
          have e5 : wr.cell? ⟨bb, 5, none⟩ = some (.map (some bc.m)) := cell_of_row _ _ 5 _ _ (0, 0) hbw
          have hlk := (HCB.out.mm.later HLW.out).look (t := 92) (e := 35) Tryz.underlying92 (zeroSl wr) (HOK.out.ri r (List.mem_of_getElem? hr))
          obtain ⟨v, hgv, Av, cv, hv, hrv⟩ := told_get HCB.out.keys HCB.out.rs (HALL.out r (List.mem_of_getElem? hr))
          have HVO := hide_ (show vOf M r = .slice Av (toldGet b.told r).length cv by unfold vOf; rw [hgv, hv]; rfl)
          rw [hgv, hv, Option.getD_some] at hlk
          obtain ⟨nv, hnv⟩ : ∃ n, n = (toldGet b.told r).length := ⟨_, rfl⟩
          rw [← hnv] at hlk HVO
          have HTK := hide_ (show cs ++ [.slice Av nv cv] = (s.refs.take (i + 1)).map (vOf M) by rw [take_snoc hr, List.map_append, ← HVO.out, HCS.out]; rfl)
          have HSZ := hide_ (show W1.heap.size ≤ wr.heap.size from HLW.out.size)
          have blt2 := theap_lt hbw
          have rlt := cell_lt l0
          clear hr hbw hgv hv hrv hnv
          go_wp2_with (at_builtin; refine wpList_append_rd _ rfl (.tmp 45) (.tmp 52) 41 rfl W1.heap.size 35 1 24 lsT (.slice A i c) i cs rfl (own_later HO.out (later_alloc wr (.cells #[.slice Av nv cv] 35))) (some ⟨wr.heap.size, 0, none⟩) 1 1 [.slice Av nv cv] rfl (Rd.newAt wr #[.slice Av nv cv] 35 1 1 _ (0, 0) rfl rfl) (fun u hu => by rw [List.mem_singleton.1 hu]; rfl) (by omega) (by unfold maxLen; omega) (by have := HSZ.out; simp; omega) (fun h => by cases h) ?c8)
          case c8 =>
            intro v9 w9 hown hg hat
            obtain ⟨A9, c9, rfl⟩ := own_form hown
            have HOF := hide_ hown
            have HLF := hide_ (show Later W1 w9 from own_grown (HLW.out.al (.cells #[.slice Av nv cv] 35)) (own_later HO.out (later_alloc wr (.cells #[.slice Av nv cv] 35))) hg (by have := HSZ.out; simp; omega))
            clear hown hg hat
            go_wp2_with fail
            go_roundw
            case rel => exact ⟨i + 1, A9, c9, _, by omega, by go_num, rfl, HOF, HTK, HLF⟩
            case measure => simp [intOf]; omega
        · obtain rfl : i = nr := by omega
          have q2 : ¬ (i : Int) < (i : Int) := by omega
          obtain ⟨W2, eW2⟩ : ∃ W, W = wr := ⟨_, rfl⟩
          rw [← eW2] at HO HLW ⊢
          clear eW2
          have HA2 := hide_ (show (s.refs.take i) = s.refs from List.take_of_length_le (by rw [← HNR.out]; exact Nat.le_refl _))
          rw [HA2.out] at HCS
          obtain ⟨Aj, cj, ej⟩ := slice_len HCB.out.bt.jobs
          injection ej with ej
          have HJB := hide_ (by have h1 := jobsR.later HCB.out.bt.jobs HLW.out; rw [ej] at h1; exact h1 : jobsR.holds W2 [.slice Aj b.jobs.length cj] b.jobs bc.Xj)
          obtain ⟨nj, hnj⟩ : ∃ n, n = b.jobs.length := ⟨_, rfl⟩
          have e4 : W2.cell? ⟨bb, 4, none⟩ = some (.slice Aj nj cj) := by rw [hnj, ← ej]; exact cell_of_row _ _ 4 _ _ (0, 0) (later_row (HL1.out.trans HLW.out) HBW.out)
          have nj4 : nj ≤ 4 := by rw [hnj]; exact HOK.out.jn
          rw [← hnj] at HJB
          have HNJ := hide_ hnj
          clear hnj ej c5
          go_wp2_with fail
          go_loopw [5, 9, 60] (fun s5 s9 s60 wr => ∃ (k : Nat) (A5 : Option Addr) (c5 : Nat) (ds : List Value), k ≤ nj ∧ s60 = .int .i64 k ∧ s5 = .slice A5 k c5 ∧ Hid (wr.ownsRow W2.heap.size 30 3 (.slice A5 k c5) k ds) ∧ Hid (TxC W2 bb ds ((b.jobs.take k).map (·.tx))) ∧ Hid (Later W2 wr)) (fun _ _ i _ => nj - (intOf i).toNat)
          case atStart => exact ⟨0, none, 0, [], by omega, rfl, rfl, hide_ (World.ownsRow_nil _ _ _ _), hide_ (fun i t h => by simp at h), hide_ (Later.refl _)⟩
          case round =>
            obtain ⟨k, A5, c5, ds, hk, rfl, rfl, HO5, HTX, HLX⟩ := hrel
            by_cases hlt2 : k < nj
            · obtain ⟨j, hj⟩ : ∃ j, b.jobs[k]? = some j := ⟨_, List.getElem?_eq_getElem (by rw [← HNJ.out]; exact hlt2)⟩
              obtain ⟨_, gj, A1, c1, A2, c2, e, i0, i1, i2, i3, i4, jr1, jr2⟩ := job_cells HJB.out hj
              subst e
              have ja2 := job_nil HJB.out hj i4
              have jbl := job_blocks HJB.out hj i3 i4 (later_row (HL1.out.trans HLW.out) HBW.out) (by decide) (by decide)
              have j0 := (HLX.out.cell (cell_lt i0)).trans i0
              have j1 := (HLX.out.cell (cell_lt i1)).trans i1
              have j2 := (HLX.out.cell (cell_lt i2)).trans i2
              have j3 := (HLX.out.cell (cell_lt i3)).trans i3
              have j4 := (HLX.out.cell (cell_lt i4)).trans i4
              have q5 : (k : Int) < (nj : Int) := by omega
              have q6 : (k : Int) ≤ 4 := by omega
              obtain ⟨n1, hn1⟩ : ∃ n, n = j.tx.2.1.length := ⟨_, rfl⟩
              obtain ⟨n2, hn2⟩ : ∃ n, n = j.tx.2.2.length := ⟨_, rfl⟩
              have HDN := hide_ (show ds.length = ((b.jobs.take k).map (·.tx)).length * 3 by rw [List.length_map, List.length_take, ← HNJ.out, Nat.min_eq_left hk]; exact HO5.out.1)
              have HSN := hide_ (show TxC W2 bb (ds ++ [.int .i64 j.tx.1, .slice A1 n1 c1, .slice A2 n2 c2]) ((b.jobs.take (k + 1)).map (·.tx)) by rw [take_snoc hj, List.map_append, hn1, hn2]; exact HTX.out.snoc HDN.out jr1 jr2 ja2 jbl.1 jbl.2)
              rw [← hn1] at j3; rw [← hn2] at j4
              have jlt := cell_lt j0
              obtain ⟨wo, ewo⟩ : ∃ wo, wo = wr := ⟨_, rfl⟩
              rw [← ewo] at HO5 HLX j0 j1 j2 j3 j4 jlt ⊢
              obtain ⟨W3, hW3⟩ : ∃ W, W = wo.alloc (.cells #[.int .i64 j.guest, .int .i64 j.seq, .int .i64 j.tx.1, .slice A1 n1 c1, .slice A2 n2 c2] 120) := ⟨_, rfl⟩
              have hl3 : Later wo W3 := by rw [hW3]; exact later_alloc _ _
              have hb3 : W3.heap[wo.heap.size]? = some (.cells #[.int .i64 j.guest, .int .i64 j.seq, .int .i64 j.tx.1, .slice A1 n1 c1, .slice A2 n2 c2] 120 (0, 0)) := by rw [hW3]; exact heap_alloc_new _ _
              have x2 : W3.cell? ⟨wo.heap.size, 2, none⟩ = some (.int .i64 j.tx.1) := cell_of_row _ _ 2 _ _ (0, 0) hb3
              have x3 : W3.cell? ⟨wo.heap.size, 3, none⟩ = some (.slice A1 n1 c1) := cell_of_row _ _ 3 _ _ (0, 0) hb3
              have x4 : W3.cell? ⟨wo.heap.size, 4, none⟩ = some (.slice A2 n2 c2) := cell_of_row _ _ 4 _ _ (0, 0) hb3
              have HW3 := hide_ hW3; have HL3 := hide_ (HLX.out.trans hl3); have HO3 := hide_ (own_later HO5.out hl3)
              have HZ3 := hide_ (show W2.heap.size ≤ W3.heap.size from (HLX.out.trans hl3).size)
              clear ewo hj jr1 jr2 ja2 jbl hn1 hn2 hW3 hl3 hb3 i0 i1 i2 i3 i4
              go_wp2_with (first | rw [← HW3.out] | (at_builtin; refine wpList_append_rd _ rfl (.tmp 64) (.tmp 67) 44 rfl W2.heap.size 30 3 56 txT3 (.slice A5 k c5) k ds rfl (own_later HO3.out (later_alloc W3 (.cells #[.int .i64 j.tx.1, .slice A1 n1 c1, .slice A2 n2 c2] 30))) (some ⟨W3.heap.size, 0, none⟩) 1 1 [.int .i64 j.tx.1, .slice A1 n1 c1, .slice A2 n2 c2] rfl (Rd.newAt W3 #[.int .i64 j.tx.1, .slice A1 n1 c1, .slice A2 n2 c2] 30 1 3 _ (0, 0) rfl rfl) (fun u hu => by simp only [List.mem_cons, List.not_mem_nil, or_false] at hu; rcases hu with rfl | rfl | rfl <;> rfl) (by omega) (by unfold maxLen; omega) (by have := HZ3.out; simp; omega) (fun h => by cases h) ?c8))
              case c8 =>
                intro v9 w9 hown hg hat
                obtain ⟨A9, c9, rfl⟩ := own_form hown
                have HOF := hide_ hown
                have HLF := hide_ (show Later W2 w9 from own_grown (HL3.out.al (.cells #[.int .i64 j.tx.1, .slice A1 n1 c1, .slice A2 n2 c2] 30)) (own_later HO3.out (later_alloc W3 (.cells #[.int .i64 j.tx.1, .slice A1 n1 c1, .slice A2 n2 c2] 30))) hg (by have := HZ3.out; simp; omega))
                clear hown hg hat
                go_wp2_with fail
                go_roundw
                case rel => exact ⟨k + 1, A9, c9, _, by omega, by go_num, rfl, HOF, HSN, HLF⟩
                case measure => simp [intOf]; omega
            · obtain rfl : k = nj := by omega
              have q5 : ¬ (k : Int) < (k : Int) := by omega
              have HTA := hide_ (show (b.jobs.take k) = b.jobs from List.take_of_length_le (by rw [← HNJ.out]; exact Nat.le_refl _))
              rw [HTA.out] at HTX
              obtain ⟨W4, eW4⟩ : ∃ W, W = wr := ⟨_, rfl⟩
              rw [← eW4] at HO5 HLX ⊢
              clear eW4
              obtain ⟨r0, hr0⟩ : ∃ r, s.refs[0]? = some r := ⟨_, List.getElem?_eq_getElem HOK.out.r0⟩
              have hal : ∀ r ∈ s.refs, (toldGet b.told r).length = k := fun r hr => by rw [HNJ.out]; exact HOK.out.lens r hr (HALL.out r hr)
              have hcsl : cs.length = i := by rw [HCS.out, List.length_map, HNR.out]
              have hAg : ∃ g, A = some ⟨g, 0, none⟩ := by
                rcases HO.out.2 with ⟨hv, h0⟩ | ⟨g, cap, cur, hv, _⟩
                · omega
                · injection hv with hv; exact ⟨g, hv⟩
              obtain ⟨gl, rfl⟩ := hAg
              have hrdl : RdL W2 gl (s.refs.map (toldGet b.told)) := fun q l hq => by
                rw [List.getElem?_map] at hq
                cases hrq : s.refs[q]? with
                | none => rw [hrq] at hq; cases hq
                | some r =>
                  rw [hrq] at hq
                  have hq : toldGet b.told r = l := by simpa using hq
                  subst hq
                  obtain ⟨v, hgv, Av, cv, hv, hrv⟩ := told_get HCB.out.keys HCB.out.rs (HALL.out r (List.mem_of_getElem? hrq))
                  refine ⟨Av, cv, ?_, hrv.below HLW.out⟩
                  have hcq : cs[q]? = some (.slice Av (toldGet b.told r).length cv) := by rw [HCS.out, List.getElem?_map, hrq]; show some (vOf M r) = _; unfold vOf; rw [hgv, hv]; rfl
                  obtain ⟨b2, o2, e2, hc2⟩ := (Rd.of_own HO.out).2 (by rw [hcsl]; omega)
                  injection e2 with e2; injection e2 with e2 e3 _
                  subst e2 e3
                  have := hc2 q _ hcq
                  rwa [Nat.zero_add] at this
              have HBT := hide_ (both_any (w := W4) (mc := c) (hrdl.later HLX.out) (by rw [List.length_map, ← HNR.out]) (by omega) (l0 := toldGet b.told r0) (by rw [List.getElem?_map, hr0]; rfl) (hal r0 (List.mem_of_getElem? hr0)) (by omega : k ≤ 4096))
              obtain ⟨VS, hVS⟩ : ∃ x, x = bothF k (s.refs.map (toldGet b.told)) := ⟨_, rfl⟩
              unfold BothPost at HBT
              rw [← hVS] at HBT
              have HVS := hide_ (show VS = bothF b.jobs.length (s.refs.map (toldGet b.told)) by rw [hVS, HNJ.out])
              have HVL := hide_ (both_len (n0 := k) (Ls := s.refs.map (toldGet b.told)) (fun l hl => by obtain ⟨r, hr, rfl⟩ := List.mem_map.1 hl; exact hal r hr))
              have HVI := hide_ (both_is (n0 := k) (Ls := s.refs.map (toldGet b.told)))
              rw [← hVS] at HVL HVI
              clear hr0 hal hrdl hcsl hVS
              go_wp2_with fail
              refine HBT.out.mono ?_; rintro e w5 ⟨A6, c6, rfl, ho6, hl6⟩
              have HO6 := hide_ ho6; have HL6 := hide_ hl6
              clear ho6 hl6 HBT
              obtain ⟨ve, hve⟩ : ∃ x, x = VS.2 := ⟨_, rfl⟩
              have HVE := hide_ hve
              rw [← hve]
              clear hve
              have hL5 : Later w w5 := HL1.out.trans (HLW.out.trans (HLX.out.trans HL6.out))
              have HL5 := hide_ hL5
              by_cases h0 : ve = 0
              · subst h0
                have HE2 := hide_ (HE.out.trans (if_neg (show ¬ (bothF b.jobs.length (s.refs.map (toldGet b.told))).2 ≠ 0 by rw [← HVS.out, ← HVE.out]; simp)))
                have hvl : VS.1.length = k := HVL.out HVE.out.symm
                rw [hvl] at HO6 ⊢
                obtain ⟨ms, hms, hmk⟩ := make_int0 (k + 1) (by omega)
                have ek1 : ((k + 1 : Nat) : Int) = (k : Int) + 1 := by omega
                rw [ek1] at hmk
                obtain ⟨W6, hW6⟩ : ∃ W, W = w5.alloc (.cells ms 3) := ⟨_, rfl⟩
                have hom : W6.ownsRow w5.heap.size 3 1 (.slice (some ⟨w5.heap.size, 0, none⟩) 0 (k + 1)) 0 [] := by
                  rw [hW6]
                  exact ⟨rfl, .inr ⟨_, k + 1, ms, rfl, Nat.le_refl _, heap_alloc_new w5 _, Nat.zero_le _, by unfold maxLen; omega, by omega, by simp⟩⟩
                have hl56 : Later w5 W6 := by rw [hW6]; exact later_alloc _ _
                have HOM := hide_ hom; have HL56 := hide_ hl56; have HW6 := hide_ hW6; have HVL2 := hide_ hvl
                have ho66 := own_later HO6.out hl56
                have HO66 := hide_ ho66
                have hsum : IntKind.i64.wrap ((k : Int) + 1) = (k : Int) + 1 := IntWalk.i64_in _ (by omega)
                have hbb6 := later_row (HL5.out.trans hl56) HBW.out
                clear hom hl56 hW6 hvl ho66 hL5 hms ek1
                go_wp2_with (first | rw [← HW6.out] | (at_builtin; refine wpList_append_rd _ rfl (.tmp 81) (.tmp 82) 35 rfl w5.heap.size 3 1 8 intT (.slice (some ⟨w5.heap.size, 0, none⟩) 0 (k + 1)) 0 [] rfl HOM.out A6 k c6 (ints VS.1) rfl (Rd.of_own HO66.out) (ints_one _) (by omega) (by unfold maxLen; omega) HL56.out.size (own_cap2 HO66.out).1 ?c8))
                case c8 =>
                  intro v9 w9 hown hg hat
                  obtain ⟨A9, c9, rfl⟩ := own_form hown
                  have hnn : ∃ a n c, Value.slice A9 k c9 = .slice (some a) n c := by
                    cases A9 with
                    | none => rcases hat with h | h <;> cases h
                    | some a => exact ⟨a, _, _, rfl⟩
                  have hl9 : Later w w9 := own_grown (HL5.out.trans HL56.out) (own_base HOM.out HL5.out.size) hg (HL5.out.trans HL56.out).size
                  have hl59 : Later w5 w9 := own_grown HL56.out HOM.out hg HL56.out.size
                  have hbb9 := later_row hl9 HBW.out
                  have zb6 : w9.cell? ⟨bb, 6, none⟩ = some bc.uv := cell_of_row _ _ 6 _ _ (0, 0) hbb9
                  have fb6 := frozen_of_row _ _ 6 _ _ hbb9
                  have hca9 := HCA.out.later hl9
                  have hXlt := HH.out.lt
                  have hput := verd_put hca9 (V := VS.1) (v := .slice A9 k c9) (by rw [HVL2.out]; exact own_base hown (Nat.zero_le _)) hnn (fun q hq hX => by
                    have h1 := (own_block hown (mem_obL.1 hq)).1
                    have h2 := hXlt q hX
                    have h3 := HL5.out.size
                    omega)
                  have hnew9 : ∀ q ∈ obL (.slice A9 k c9), w.heap.size ≤ q := fun q hq => by
                    have h1 := (own_block hown (mem_obL.1 hq)).1
                    have h3 := HL5.out.size
                    omega
                  have hbbw : bb < w.heap.size := theap_lt HBW.out
                  have ho69 := own_later HO6.out hl59
                  have hh10 : Hits (· = bb) w9 (w9.setCell ⟨bb, 6, none⟩ (.slice A9 k c9)) := (Hits.refl (· = bb) w9).setCell (g := bb) (fun _ => rfl) 6 _
                  have ho610 := hh10.own ho69 fun q hq e => by
                    have h1 := (own_block ho69 hq).1
                    have h2 := (HL1.out.trans (HLW.out.trans HLX.out)).size
                    omega
                  have hl24 := HLX.out.trans (HL6.out.trans hl59)
                  have htx10 := (HTX.out.later hl24).hits hh10
                  have ho510 := hh10.own (own_later HO5.out (HL6.out.trans hl59)) fun q hq e => by
                    have h1 := (own_block HO5.out hq).1
                    have h2 := (HL1.out.trans HLW.out).size
                    omega
                  have hpk : Calls Tryz.prog 99 #[.slice A5 k c5, .slice A6 k c6] (w9.setCell ⟨bb, 6, none⟩ (.slice A9 k c9)) (PickPost (w9.setCell ⟨bb, 6, none⟩ (.slice A9 k c9)) (b.jobs.map (·.tx)) VS.1) := by
                    refine pick_any (T := b.jobs.map (·.tx)) (V := VS.1) (fun q t hq => ?_) (fun g5 e5 => ?_) (Rd.of_own ho610) (by rw [List.length_map, ← HNJ.out]) HVL2.out (by omega) (fun t ht => by obtain ⟨j, hj, rfl⟩ := List.mem_map.1 ht; exact HOK.out.js j hj) HVI.out
                    · have hk0 : 0 < k := by have := (List.getElem?_eq_some_iff.1 hq).1; rw [List.length_map, ← HNJ.out] at this; omega
                      rcases ho510.2 with ⟨hv, h0⟩ | ⟨g', cap, cur, hv, _⟩
                      · omega
                      · injection hv with hv; exact ⟨g', hv⟩
                    · subst e5
                      exact htx10.rows ho510
                  have HPK := hide_ hpk; have HPUT := hide_ hput; have HL9 := hide_ hl9; have HN9 := hide_ hnew9; have HRW9 := hide_ (later_row hl9 HRW.out)
                  clear hown hg hat hnn hl9 hl59 hbb9 hca9 hXlt hput hnew9 ho69 hh10 ho610 hl24 htx10 ho510 hpk hbb6 hmk
                  go_wp2_with fail
                  obtain ⟨X1, cc1, bc1, hca10, hh10, hX1⟩ := HPUT.out
                  refine HPK.out.mono ?_; rintro e w11 ⟨A11, c11, rfl, ho11, hl11⟩
                  have hca11 := hca10.later hl11
                  have zb3 : w11.cell? ⟨bb, 3, none⟩ = some bc1.uc := cell_of_row _ _ 3 _ _ (0, 0) hca11.bt.row
                  have fb3 := frozen_of_row _ _ 3 _ _ hca11.bt.row
                  have hX1lt := hca10.front.lt
                  have hput2 := chg_put hca11 (V := pickL (b.jobs.map (·.tx)) VS.1) (v := .slice A11 (pickL (b.jobs.map (·.tx)) VS.1).length c11) (own_base ho11 (Nat.zero_le _)) (fun q hq hX => by
                    have h1 := (own_block ho11 (mem_obL.1 hq)).1
                    have h2 := hX1lt q hX
                    omega)
                  have hnew11 : ∀ q ∈ obL (.slice A11 (pickL (b.jobs.map (·.tx)) VS.1).length c11), w.heap.size ≤ q := fun q hq => by
                    have h1 := (own_block ho11 (mem_obL.1 hq)).1
                    have h3 := HL9.out.size
                    have h4 := hh10.size
                    omega
                  obtain ⟨np, hnp⟩ : ∃ n, n = (pickL (b.jobs.map (·.tx)) VS.1).length := ⟨_, rfl⟩
                  rw [← hnp] at hput2 hnew11 ⊢
                  have HPUT2 := hide_ hput2; have HN11 := hide_ hnew11; have HL11 := hide_ hl11; have HX1 := hide_ hX1; have HH10 := hide_ hh10
                  clear hca10 hh10 hX1 ho11 hl11 hca11 hX1lt hput2 hnew11 hnp HPK HPUT zb6 fb6
                  go_wp2_with fail
                  obtain ⟨X2, cc2, bc2, hca12, hh12, hX2⟩ := HPUT2.out
                  have heq : ({ s with cur := some { ({ b with verd := some VS.1 } : Bt) with chg := pickL (b.jobs.map (·.tx)) VS.1 } } : Fr) = { s with cur := some (advB s b) } := by unfold advB; rw [← HVS.out]
                  have hf12 : FrH (w11.setCell ⟨bb, 3, none⟩ (.slice A11 np c11)) f { s with cur := some (advB s b) } X2 := by rw [← heq]; exact hca12.front
                  refine (push_any hf12 rfl (adv_push HOK.out)).mono ?_
                  rintro e w13 ⟨A13, n13, c13, Y13, rfl, hL13, hS13, hY13, hl13⟩
                  have hbX : bb ∈ X := HCA.out.mem.2.1
                  have hhA : Hits (· ∈ X) w w13 := (((Hits.later HL9.out).trans HH10.out fun q _ hq => by rw [hq]; exact hbX).thenLater HL11.out |>.trans hh12 fun q _ hq => by rw [hq]; exact hbX).thenLater hl13
                  have hfrs : Fresh w X X2 := fun q hq => by
                    rcases hX2 q hq with h1 | h1
                    · rcases HX1.out q h1 with h2 | h2
                      · exact .inl h2
                      · exact .inr (HN9.out q h2)
                    · exact .inr (HN11.out q h1)
                  have HQ := hide_ (show TurnPost w f X { s with cur := some (advB s b) } (pushL { s with cur := some (advB s b) } (advB s b)) (.returned (.slice A13 n13 c13)) w13 from ⟨A13, n13, c13, Y13, X2, _, rfl, hL13, hS13, hY13, Nat.le_trans HL9.out.size (Nat.le_trans HH10.out.size (Nat.le_trans HL11.out.size hh12.size)), hf12.lt, hf12.later hl13, hhA, hfrs⟩)
                  clear hca12 hh12 hX2 heq hf12 hL13 hS13 hY13 hl13 hbX hhA hfrs zb3 fb3
                  go_wp2_with fail
                  go_ret
                  rw [HE2.out]
                  exact HQ.out
              · have HE2 := hide_ (HE.out.trans (if_pos (show (bothF b.jobs.length (s.refs.map (toldGet b.told))).2 ≠ 0 by rw [← HVS.out, ← HVE.out]; exact h0)))
                have hb0 : (ve != 0) = true := by rw [bne_iff_ne]; exact h0
                clear h0 hL5
                go_wp2_with fail
                go_ret
                rw [HE2.out]
                exact turn_none (HH.out.later HL5.out) (Hits.later HL5.out) (Fresh.refl _ _)

end Go.Proofs.YtcmollfhlillfaaGreatDoor
