/-
  tale.Read: the setting and the acts that a text is.
-/
import Derived.Test.YtjkopohmcabfjaaGreatDoorTReadA
import Derived.Test.YtjkopohmcabfjaaGreatDoorSplit
namespace Go.Proofs.YtjkopohmcabfjaaGreatDoor
open Go.RowKit
set_option linter.unusedVariables false
set_option linter.unusedSimpArgs false
set_option maxHeartbeats 8000000 in
set_option maxRecDepth 100000 in
theorem read_any {B : Nat} {w : World} (h : Env B w) (t : List UInt8) (hl : t.length ≤ 67108864) : Calls Tryz.prog 4 #[.string ⟨t.toArray⟩] w (ReadPost t w) := by
  have HE := hide_ h
  obtain ⟨W0, hW0⟩ : ∃ W0, W0 = w.alloc (.cells SV.zero.row 23) := ⟨_, rfl⟩
  have hrow : W0.heap[w.heap.size]? = some (.cells SV.zero.row 23 (0, 0)) := by rw [hW0]; exact heap_alloc_new w _
  have hl0 : Later w W0 := by rw [hW0]; exact later_alloc _ _
  have HW0 := hide_ hW0.symm; have HL0 := hide_ hl0; have HROW := hide_ hrow
  have HE0 := hide_ (h.later hl0)
  obtain ⟨Ls, hLs⟩ : ∃ Ls, Ls = linesOf t := ⟨_, rfl⟩
  have HLS := hide_ hLs
  have hls := lines_size_le t
  have hls1 : 1 ≤ (linesOf t).length := by rw [lines_size]; omega
  rw [← hLs] at hls hls1
  obtain ⟨m, hm⟩ : ∃ m, Ls.length = m + 1 := ⟨Ls.length - 1, by omega⟩
  obtain ⟨Z, hZ⟩ : ∃ Z, Ls[m]? = some Z := ⟨_, List.getElem?_eq_getElem (by omega)⟩
  have hm64 : m ≤ 67108864 := by omega
  have HM := hide_ hm; have HZ := hide_ hZ; have HLT := hide_ hl
  clear h hW0 hl0 hrow hLs hls hls1 hm hZ hl
  unfold SV.row SV.zero at HW0
  go_enter Tryz.func4, Tryz.ntmps4
  go_wp2_with fail
  rw [HW0.out]
  refine (split10_any HE0.out t (by have := HLT.out; omega)).mono ?_; rintro e w1 ⟨rfl, hw1⟩
  rw [← HLS.out] at hw1 ⊢
  rw [HM.out]
  have hl1 : Later W0 w1 := by rw [hw1]; exact later_alloc _ _
  have hsb : w1.heap[W0.heap.size]? = some (.cells (Ls.map strV).toArray 9 (0, 0)) := by rw [hw1]; exact heap_alloc_new _ _
  obtain ⟨lb, hlb⟩ : ∃ lb, lb = W0.heap.size := ⟨_, rfl⟩
  rw [← hlb] at hsb ⊢
  have hcz : w1.cell? ⟨lb, m, none⟩ = some (.string ⟨Z.toArray⟩) := by rw [cell_of_row _ _ m _ _ _ hsb, List.getElem?_toArray, List.getElem?_map, HZ.out]; rfl
  have HSB := hide_ hsb; have HL1 := hide_ (HL0.out.trans hl1)
  have HR1 := hide_ (later_row hl1 HROW.out)
  have hwr : IntKind.i64.wrap (((m + 1 : Nat) : Int) - 1) = (m : Int) := by rw [IntWalk.i64_in] <;> omega
  have hm0 : (0 : Int) ≤ (m : Int) := by omega
  have hm1 : (m : Int) < ((m + 1 : Nat) : Int) := by omega
  clear hw1 hl1 hsb hlb
  by_cases hbad : Z ≠ [] ∨ m < 1 ∨ 4097 < m
  · have HN := hide_ (show ∀ s L, (∀ x ∈ L, x.Ok) → scriptF s L ≠ (t, 0) from no_script fun s L ls p hL => by
      have h1 := parts_size p
      rw [← HLS.out, HM.out] at h1
      have h2 := p.lines
      rw [← HLS.out] at h2
      have h3 := p.len
      have h4 := linesF_len p.acts
      have hZ := HZ.out
      rw [h2] at hZ
      have e : (headF s :: (ls ++ [[]]))[m]? = some [] := by
        rw [show m = ls.length + 1 by omega]; simp
      rw [e] at hZ
      injection hZ with hZ
      rcases hbad with q | q | q
      · exact q hZ.symm
      · omega
      · omega)
    obtain ⟨⟨r0, r1, r2, r3, r4, r5⟩, f0, f1, f2, f3, f4, f5⟩ := six_nums HR1.out
    simp only [SV.zero] at r0 r1 r2 r3 r4 r5
    obtain ⟨Wz, HWZ, HP, HLZ⟩ := zero_put HR1.out HL1.out
    have HWZ := hide_ HWZ; have HP := hide_ HP; have HLZ := hide_ HLZ
    cases Z with
    | cons z Z =>
      go_wp2_with (rw [HWZ.out])
      exact read_ret rfl rfl rfl rfl HP.out ⟨.inr ⟨rfl, HN.out⟩, HLZ.out⟩
    | nil =>
      by_cases hq : m < 1
      · have q1 : (m : Int) < 1 := by omega
        go_wp2_with (rw [HWZ.out])
        exact read_ret rfl rfl rfl rfl HP.out ⟨.inr ⟨rfl, HN.out⟩, HLZ.out⟩
      · have q1 : ¬ (m : Int) < 1 := by omega
        have q2 : (4097 : Int) < (m : Int) := by
          rcases hbad with h | h | h
          · exact absurd rfl h
          · exact absurd h hq
          · omega
        clear hbad
        go_wp2_with (rw [HWZ.out])
        exact read_ret rfl rfl rfl rfl HP.out ⟨.inr ⟨rfl, HN.out⟩, HLZ.out⟩
  obtain ⟨rfl, hmm1, hmm2⟩ : Z = [] ∧ 1 ≤ m ∧ m ≤ 4097 := by
    refine ⟨Classical.byContradiction fun h => hbad (.inl h), ?_, ?_⟩
    · exact Nat.le_of_not_lt fun h => hbad (.inr (.inl h))
    · exact Nat.le_of_not_lt fun h => hbad (.inr (.inr h))
  clear hbad
  have q1 : ¬ (m : Int) < 1 := by omega
  have q2 : ¬ (4097 : Int) < (m : Int) := by omega
  have q3 : (0 : Int) < ((m + 1 : Nat) : Int) := by omega
  obtain ⟨H0, hH0⟩ : ∃ H0, Ls[0]? = some H0 := ⟨_, List.getElem?_eq_getElem (by rw [HM.out]; omega)⟩
  have hc0 : w1.cell? ⟨lb, 0, none⟩ = some (.string ⟨H0.toArray⟩) := by rw [cell_of_row _ _ 0 _ _ _ HSB.out, List.getElem?_toArray, List.getElem?_map, hH0]; rfl
  have HH0 := hide_ hH0
  have HHL := hide_ (show H0.length ≤ 67108864 from Nat.le_trans (lines_mem (l := t) (by rw [← HLS.out]; exact List.mem_of_getElem? hH0)) HLT.out)
  clear hH0
  go_wp2_with fail
  refine (split_any (HE.out.later HL1.out) H0 (by have := HHL.out; omega)).mono ?_; rintro e w2 ⟨rfl, hw2⟩
  obtain ⟨ws, hws⟩ : ∃ ws, ws = wordsOf H0 := ⟨_, rfl⟩
  have HWS := hide_ hws
  have hwn := words_size_le H0
  have hwp : 1 ≤ (wordsOf H0).length := by rw [words_size]; omega
  rw [← hws] at hw2 hwn hwp ⊢
  have hl2 : Later w1 w2 := by rw [hw2]; exact later_alloc _ _
  have hsb2 : w2.heap[w1.heap.size]? = some (.cells (ws.map strV).toArray 9 (0, 0)) := by rw [hw2]; exact heap_alloc_new _ _
  obtain ⟨sb, hsbn⟩ : ∃ sb, sb = w1.heap.size := ⟨_, rfl⟩
  rw [← hsbn] at hsb2 ⊢
  have HL2 := hide_ (HL1.out.trans hl2)
  have HR2 := hide_ (later_row hl2 HR1.out)
  have HSB2 := hide_ (later_row hl2 HSB.out)
  have HWB2 := hide_ hsb2
  obtain ⟨Y, hY⟩ : ∃ Y, ws[0]? = some Y := ⟨_, List.getElem?_eq_getElem (by omega)⟩
  have hy0 : w2.cell? ⟨sb, 0, none⟩ = some (.string ⟨Y.toArray⟩) := by rw [cell_of_row _ _ 0 _ _ _ hsb2, List.getElem?_toArray, List.getElem?_map, hY]; rfl
  have HY := hide_ hY
  have hwn64 : ws.length ≤ 67108865 := by have := HHL.out; omega
  have q4 : (0 : Int) < (ws.length : Int) := by omega
  clear hw2 hl2 hsb2 hsbn hws hY hwn q1 q2 hcz hc0 hwr
  by_cases hbad : ws.length ≠ 7 ∨ Y ≠ yardW
  · have HN := hide_ (show ∀ s L, (∀ x ∈ L, x.Ok) → scriptF s L ≠ (t, 0) from no_script fun s L ls p hL => by
      have h2 := p.lines
      rw [← HLS.out] at h2
      have h3 := HH0.out
      rw [h2] at h3
      have h3 : headF s = H0 := by simpa using h3
      have h4 := head_words s
      rw [h3, ← HWS.out] at h4
      have h5 := HY.out
      rw [h4] at h5
      have h5 : yardW = Y := by simpa using h5
      rcases hbad with q | q
      · exact q (by rw [h4]; simp [SV.nums])
      · exact q h5.symm)
    obtain ⟨⟨r0, r1, r2, r3, r4, r5⟩, f0, f1, f2, f3, f4, f5⟩ := six_nums HR2.out
    simp only [SV.zero] at r0 r1 r2 r3 r4 r5
    obtain ⟨Wz, HWZ, HP, HLZ⟩ := zero_put HR2.out HL2.out
    have HWZ := hide_ HWZ; have HP := hide_ HP; have HLZ := hide_ HLZ
    by_cases hq : ws.length = 7
    · have q1 : (ws.length : Int) = 7 := by omega
      have q2 : (Y == [121, 97, 114, 100]) = false := by
        rcases hbad with h | h
        · exact absurd hq h
        · unfold yardW at h; simpa using h
      clear hbad
      go_wp2_with (rw [HWZ.out])
      exact read_ret rfl rfl rfl rfl HP.out ⟨.inr ⟨rfl, HN.out⟩, HLZ.out⟩
    · have q1 : ¬ (ws.length : Int) = 7 := by omega
      clear hbad
      go_wp2_with (rw [HWZ.out])
      exact read_ret rfl rfl rfl rfl HP.out ⟨.inr ⟨rfl, HN.out⟩, HLZ.out⟩
  obtain ⟨hw7, rfl⟩ : ws.length = 7 ∧ Y = yardW := by
    refine ⟨Classical.byContradiction fun h => hbad (.inl h), Classical.byContradiction fun h => hbad (.inr h)⟩
  clear hbad
  rw [hw7]
  have HW7 := hide_ hw7
  unfold yardW at hy0
  obtain ⟨W3, hW3⟩ : ∃ W3, W3 = w2.alloc (.cells SV.zero.row 34) := ⟨_, rfl⟩
  obtain ⟨nb, hnb⟩ : ∃ nb, nb = w2.heap.size := ⟨_, rfl⟩
  have HN3 := hide_ (show W3.heap[nb]? = some (.cells SV.zero.row 34 (0, 0)) by rw [hW3, hnb]; exact heap_alloc_new w2 _)
  have HL3 := hide_ (show Later w2 W3 by rw [hW3]; exact later_alloc _ _)
  have hnbs : w2.heap.size ≤ nb := by omega
  have HW3 := hide_ hW3.symm
  unfold SV.zero SV.row at HW3
  clear hw7 hwn64 hwp q4 hW3
  go_wp2_with (rw [HW3.out, ← hnb])
  clear hnb
  go_loopw [51] (fun s51 wr => ∃ (k : Nat) (y : SV), k ≤ 6 ∧ s51 = .int .i64 k ∧ Hid (wr.heap[nb]? = some (.cells y.row 34 (0, 0))) ∧ Hid (Told ws y k) ∧ Hid (Later w2 wr)) (fun i _ => 6 - (intOf i).toNat)
  case atStart => exact ⟨0, SV.zero, by omega, rfl, HN3, hide_ (fun i n hi => by omega), HL3⟩
  case round =>
    obtain ⟨k, y, hk6, rfl, HN, HT, HLr⟩ := hrel
    by_cases hlt : k < 6
    · obtain ⟨x, hx⟩ : ∃ x, ws[k + 1]? = some x := ⟨_, List.getElem?_eq_getElem (by rw [HW7.out]; omega)⟩
      obtain ⟨z, hz⟩ : ∃ z, y.nums[k]? = some z := ⟨_, List.getElem?_eq_getElem (by simpa [SV.nums] using hlt)⟩
      have hxc : wr.cell? ⟨sb, k + 1, none⟩ = some (.string ⟨x.toArray⟩) := by rw [cell_of_row _ _ (k + 1) _ _ _ (later_row HLr.out HWB2.out), List.getElem?_toArray, List.getElem?_map, hx]; rfl
      have HXL := hide_ (show x.length ≤ 67108864 from Nat.le_trans (words_mem (l := H0) (by rw [← HWS.out]; exact List.mem_of_getElem? hx)) HHL.out)
      have HX := hide_ hx
      have a1 : (k : Int) < 6 := by omega
      have a2 : (0 : Int) ≤ (k : Int) := by omega
      have a3 : IntKind.i64.wrap ((k : Int) + 1) = ((k + 1 : Nat) : Int) := by rw [IntWalk.i64_in] <;> omega
      have a4 : ((k + 1 : Nat) : Int) < 7 := by omega
      have a5 : (0 : Int) ≤ ((k + 1 : Nat) : Int) := by omega
      have HZ2 := hide_ hz
      clear hx hz
      go_wp2_with fail
      refine (atoiR_any (HE.out.later (HL2.out.trans HLr.out)) ⟨x.toArray⟩ (by show x.toArray.size ≤ _; simp; have := HXL.out; omega)).mono ?_; rintro e w4 ⟨⟨v, er, rfl, hv64, hvu⟩, hl4⟩
      have HN4 := hide_ (later_row hl4 HN.out)
      have HL4 := hide_ (HLr.out.trans hl4)
      have HT4 := hide_ (HT.out.next hlt hv64 HX.out hvu)
      have c4 := (cell_of_row _ _ k _ _ (0, 0) HN4.out).trans (row_nums HZ2.out)
      have g4 := frozen_of_row _ _ k _ _ HN4.out
      have HN5 := hide_ (show (w4.setCell ⟨nb, k, none⟩ (.int .i64 v)).heap[nb]? = some (.cells (y.put k v).row 34 (0, 0)) by
        rw [← SV.put_row y hlt v]; exact heap_setCell_same _ nb k _ _ _ HN4.out)
      have HL5 := hide_ (show Later w2 (w4.setCell ⟨nb, k, none⟩ (.int .i64 v)) from HL4.out.setCell (p := ⟨nb, k, none⟩) hnbs _)
      clear hl4 hv64 hvu hxc
      go_wp2_with fail
      go_roundw
      case rel => exact ⟨k + 1, y.put k v, by omega, by go_num, HN5, HT4, HL5⟩
      case measure => simp [intOf]; omega
    · have a1 : ¬ (k : Int) < 6 := by omega
      have HT6 := hide_ (show Told ws y 6 by have := HT.out; rwa [show k = 6 by omega] at this)
      have HL6 := hide_ (HL2.out.trans HLr.out)
      have HR6 := hide_ (later_row HLr.out HR2.out)
      have HSB6 := hide_ (later_row HLr.out HSB2.out)
      obtain ⟨⟨y0, y1, y2, y3, y4, y5⟩, _⟩ := six_nums HN.out
      obtain ⟨W7, hW7⟩ : ∃ W7, W7 = wr.alloc (.cells y.row 23) := ⟨_, rfl⟩
      obtain ⟨sd, hsd⟩ : ∃ sd, sd = wr.heap.size := ⟨_, rfl⟩
      have HS7 := hide_ (show W7.heap[sd]? = some (.cells y.row 23 (0, 0)) by rw [hW7, hsd]; exact heap_alloc_new wr _)
      have hl7 : Later wr W7 := by rw [hW7]; exact later_alloc _ _
      have HL7 := hide_ (HL6.out.trans hl7)
      have HR7 := hide_ (later_row hl7 HR6.out)
      have HSB7 := hide_ (later_row hl7 HSB6.out)
      have HW7 := hide_ hW7.symm
      unfold SV.row at HW7
      clear hW7 hl7
      have p1 : (1 : Int) ≤ (m : Int) := by omega
      go_wp2_with (rw [HW7.out])
      rw [← hsd]
      clear hsd
      obtain ⟨p, hp⟩ : ∃ p, p = m - 1 := ⟨_, rfl⟩
      rw [← hp]
      have HPM := hide_ (show m = p + 1 by omega)
      have hpb : p ≤ 67108864 := by omega
      clear hp
      go_loopw [11, 83] (fun s11 s83 wr => ∃ (k : Nat) (v : Value) (L : List AV), k ≤ p ∧ s83 = .int .i64 k ∧ s11 = v ∧ Hid (wr.ownsRow W7.heap.size 40 6 v L.length (arow L)) ∧ Hid (ActsOf Ls L k) ∧ Hid (Later W7 wr)) (fun _ i _ => p - (intOf i).toNat)
      case atStart => exact ⟨0, _, [], by omega, rfl, rfl, World.ownsRow_nil _ _ _ _, ⟨rfl, fun x hx => absurd hx List.not_mem_nil, fun i hi => absurd hi (Nat.not_lt_zero i)⟩, Later.refl _⟩
      case round =>
        obtain ⟨k, v, L, hkp, rfl, rfl, HO, HA, HLr⟩ := hrel
        obtain ⟨Av, cv, hv⟩ := own_form HO.out
        subst hv
        by_cases hlt : k < p
        · obtain ⟨l, hl⟩ : ∃ l, Ls[k + 1]? = some l := ⟨_, List.getElem?_eq_getElem (by rw [HM.out]; have := HPM.out; omega)⟩
          have hlc : wr.cell? ⟨lb, 1 + k, none⟩ = some (.string ⟨l.toArray⟩) := by rw [Nat.add_comm, cell_of_row _ _ (k + 1) _ _ _ (later_row HLr.out HSB7.out), List.getElem?_toArray, List.getElem?_map, hl]; rfl
          have HLL := hide_ (show l.length ≤ 67108864 from Nat.le_trans (lines_mem (l := t) (by rw [← HLS.out]; exact List.mem_of_getElem? hl)) HLT.out)
          have HLK := hide_ hl
          have b1 : (k : Int) < (p : Int) := by omega
          have b2 : (0 : Int) ≤ (k : Int) := by omega
          clear hl
          have hact := act_any (HE.out.later (HL7.out.trans HLr.out)) l (by have := HLL.out; omega)
          have hsz : W7.heap.size ≤ wr.heap.size := HLr.out.size
          unfold ActPost at hact
          cases hx : actF l with
          | none =>
            have HX := hide_ hx
            rw [hx] at hact
            have HAC := hide_ (show Calls Tryz.prog 9 #[.string ⟨l.toArray⟩] wr fun e w' => e = .returned (.tuple #[.agg #[.int .i64 0, .int .i64 0, .int .i64 0, .int .i64 0, .string ⟨#[]⟩, .string ⟨#[]⟩], .int .i64 17]) ∧ Later wr w' from hact)
            clear hact hx
            go_wp2_with fail
            refine HAC.out.mono ?_; rintro e w8 ⟨rfl, hl8⟩
            obtain ⟨lit, hlit⟩ : ∃ lit : Obj, lit = .cells #[.int .i64 0, .int .i64 0, .int .i64 0, .int .i64 0, .string ⟨#[]⟩, .string ⟨#[]⟩] 40 := ⟨_, rfl⟩
            have HL9 := hide_ (show Later w (w8.alloc lit) from ((HL7.out.trans HLr.out).trans hl8).trans (later_alloc _ _))
            have HR9 := hide_ (show (w8.alloc lit).heap[w.heap.size]? = some (.cells SV.zero.row 23 (0, 0)) from later_row (later_alloc _ _) (later_row hl8 (later_row HLr.out HR7.out)))
            obtain ⟨⟨r0, r1, r2, r3, r4, r5⟩, f0, f1, f2, f3, f4, f5⟩ := six_nums HR9.out
            simp only [SV.zero] at r0 r1 r2 r3 r4 r5
            obtain ⟨Wz, HWZ, HP, HLZ⟩ := zero_put HR9.out HL9.out
            subst hlit
            have HWZ := hide_ HWZ; have HP := hide_ HP; have HLZ := hide_ HLZ
            have HN := hide_ (show ∀ s L, (∀ x ∈ L, x.Ok) → scriptF s L ≠ (t, 0) from no_script fun s L ls pp hL => by
              have h1 := parts_size pp
              rw [← HLS.out, HM.out] at h1
              have := HPM.out; exact ActsOf.bad pp hL (k := k) (by omega) (by rw [← HLS.out]; exact HLK.out) HX.out)
            clear hl8 hlc
            go_wp2_with (rw [HWZ.out])
            exact read_ret rfl rfl rfl rfl HP.out ⟨.inr ⟨rfl, HN.out⟩, HLZ.out⟩
          | some x =>
            have HX := hide_ hx
            rw [hx] at hact
            have HAC := hide_ (show Calls Tryz.prog 9 #[.string ⟨l.toArray⟩] wr fun e w' => e = .returned (.tuple #[.agg #[.int .i64 x.kind, .int .i64 x.a, .int .i64 x.b, .int .i64 x.n, .string ⟨x.key.toArray⟩, .string ⟨x.val.toArray⟩], .int .i64 0]) ∧ Later wr w' from hact)
            clear hact hx
            go_wp2_with fail
            refine HAC.out.mono ?_; rintro e w8 ⟨rfl, hl8⟩
            obtain ⟨W9, hW9⟩ : ∃ W9, W9 = w8.alloc (.cells x.row 40) := ⟨_, rfl⟩
            have hl9 : Later wr W9 := by rw [hW9]; exact hl8.trans (later_alloc _ _)
            have HL9 := hide_ (show Later W7 W9 from HLr.out.trans hl9)
            have HX9 := hide_ (show W9.heap[w8.heap.size]? = some (.cells x.row 40 (0, 0)) by rw [hW9]; exact heap_alloc_new w8 _)
            have HO9 := hide_ (show W9.ownsRow W7.heap.size 40 6 (.slice Av L.length cv) L.length (arow L) by
              refine ⟨HO.out.1, ?_⟩
              rcases HO.out.2 with h0 | ⟨g, cap, cur, hv, hg, hh, hr⟩
              · exact .inl h0
              · exact .inr ⟨g, cap, cur, hv, hg, later_row hl9 hh, hr⟩)
            have HW9 := hide_ hW9.symm
            unfold AV.row at HW9
            obtain ⟨⟨r0, r1, r2, r3, r4, r5⟩, _⟩ := six_cells HX9.out
            have hsz9 : W7.heap.size ≤ W9.heap.size := HL9.out.size
            have hLk : L.length ≤ 67108864 := by have h1 := HA.out.1; have h2 := HPM.out; omega
            clear hW9 hl8 hlc hl9
            go_wp2_with (first | rw [HW9.out] | (at_builtin; refine wpList_append_rd _ rfl (.tmp 96) (.tmp 98) 24 rfl W7.heap.size 40 6 64 actT (.slice Av L.length cv) L.length (arow L) rfl ?c1 (some ⟨W9.heap.size, 0, none⟩) 1 1 x.cells rfl ?c2 ?c3 ?c4 ?c5 ?c6 ?c7 ?c8))
            case c1 => exact HO9.out.alloc _
            case c2 => exact Rd.newAt _ x.row 40 1 6 _ (0, 0) rfl rfl
            case c3 => exact acells_one x
            case c4 => omega
            case c5 => unfold maxLen; omega
            case c6 => simp; omega
            case c7 => exact fun h => nomatch h
            case c8 =>
              intro v10 w10 hown hg hat
              obtain ⟨A10, c10, hv10⟩ := own_form hown
              subst hv10
              have hl10 : Later W7 w10 := own_grown (Below.alloc HL9.out hsz9 _) (HO9.out.alloc (.cells x.row 40)) hg (by simp; omega)
              have HL10 := hide_ hl10
              have HO10 := hide_ (show w10.ownsRow W7.heap.size 40 6 (.slice A10 (L ++ [x]).length c10) (L ++ [x]).length (arow (L ++ [x])) by
                have e : arow (L ++ [x]) = arow L ++ x.cells := by simp [arow]
                have e2 : (L ++ [x]).length = L.length + 1 := by simp
                rw [e, e2]; exact hown)
              have HA10 := hide_ (HA.out.next HLK.out HX.out HLL.out)
              have hLn : L.length + 1 = (L ++ [x]).length := by simp
              rw [hLn]
              clear hown hg hat hl10
              go_wp2_with fail
              go_roundw
              case rel => exact ⟨k + 1, _, L ++ [x], by omega, by go_num, rfl, HO10, HA10, HL10⟩
              case measure => simp [intOf]; omega
        · have b1 : ¬ (k : Int) < (p : Int) := by omega
          have hkp' : k = p := by omega
          have HLr7 := hide_ (HL7.out.trans HLr.out)
          have HSr := hide_ (later_row HLr.out HS7.out)
          have HRr := hide_ (later_row HLr.out HR7.out)
          have HRD := hide_ (show Rd wr 6 Av L.length (arow L) from Rd.of_own HO.out)
          have HLn := hide_ (show L.length = p by rw [HA.out.1, hkp'])
          have hln := HLn.out
          have hLs : L.length ≤ 4398046511104 := by have h1 := HPM.out; omega
          obtain ⟨⟨s0, s1, s2, s3, s4, s5⟩, _⟩ := six_nums HSr.out
          have hscr := script_any (HE.out.later HLr7.out) y HT6.out.ok HRD.out rfl hLs HA.out.2.1 (c := cv)
          have HSC := hide_ (show Calls Tryz.prog 10 #[.agg #[.int .i64 y.n0, .int .i64 y.n1, .int .i64 y.n2, .int .i64 y.n3, .int .i64 y.n4, .int .i64 y.n5], .slice Av L.length cv] wr (ScriptPost y L wr) from hscr)
          clear hscr hkp' hln hLs
          go_wp2_with fail
          unfold ScriptPost at HSC
          refine HSC.out.mono ?_; rintro e w11 ⟨rfl, hl11⟩
          have HL11 := hide_ (HLr7.out.trans hl11)
          have HR11 := hide_ (later_row hl11 HRr.out)
          have HS11 := hide_ (later_row hl11 HSr.out)
          have HRD11 := hide_ (HRD.out.below hl11)
          obtain ⟨T, hT⟩ : ∃ T, T = (scriptF y L).1 := ⟨_, rfl⟩
          obtain ⟨E, hE⟩ : ∃ E, E = (scriptF y L).2 := ⟨_, rfl⟩
          have HTE := hide_ (show scriptF y L = (T, E) by rw [hT, hE])
          rw [← hT, ← hE]
          unfold strV
          have HO11 := hide_ (show w11.ownsRow W7.heap.size 40 6 (.slice Av L.length cv) L.length (arow L) by
            refine ⟨HO.out.1, ?_⟩
            rcases HO.out.2 with h0 | ⟨g, cap, cur, hv, hg, hh, hr⟩
            · exact .inl h0
            · exact .inr ⟨g, cap, cur, hv, hg, later_row hl11 hh, hr⟩)
          have hd7 := theap_lt HR7.out
          clear hT hE hl11
          by_cases hgood : E = 0 ∧ T = t
          · obtain ⟨rfl, rfl⟩ := hgood
            obtain ⟨⟨r0, r1, r2, r3, r4, r5⟩, f0, f1, f2, f3, f4, f5⟩ := six_nums HR11.out
            obtain ⟨⟨x0, x1, x2, x3, x4, x5⟩, _⟩ := six_nums HS11.out
            simp only [SV.zero] at r0 r1 r2 r3 r4 r5
            obtain ⟨Wz, hWz⟩ : ∃ Wz, Wz = putS w11 w.heap.size y := ⟨_, rfl⟩
            have HP := hide_ (show Wz.heap[w.heap.size]? = some (.cells y.row 23 (0, 0)) by rw [hWz]; exact putS_row y HR11.out)
            have HLZ := hide_ (show Later w Wz by rw [hWz]; exact putS_below y HL11.out (Nat.le_refl _))
            have HRZ := hide_ (show Rd Wz 6 Av L.length (arow L) by
              rw [hWz]
              refine Rd.of_own (base := W7.heap.size) (e := 40) (c := cv) ⟨HO11.out.1, ?_⟩
              rcases HO11.out.2 with h0 | ⟨g, cap, cur, hv, hg, hh, hr⟩
              · exact .inl h0
              · exact .inr ⟨g, cap, cur, hv, hg, putS_other y hh (by omega), hr⟩)
            have HWZ := hide_ hWz.symm
            unfold putS at HWZ
            clear hWz
            go_wp2_with (rw [HWZ.out])
            exact read_ret rfl rfl rfl rfl HP.out ⟨.inl ⟨y, Av, _, cv, L, rfl, HRZ.out, rfl, HT6.out.ok, HA.out.2.1, HTE.out⟩, HLZ.out⟩
          · have HN := hide_ (show ∀ s L, (∀ x ∈ L, x.Ok) → scriptF s L ≠ (t, 0) from fun s' L' hok e => by
              obtain ⟨ls, pp⟩ := script_parts e
              have h2 := pp.lines
              rw [← HLS.out] at h2
              have h3 := HH0.out
              rw [h2] at h3
              have h3 : headF s' = H0 := by simpa using h3
              have h4 := head_words s'
              rw [h3, ← HWS.out] at h4
              have hT := HT6.out
              rw [h4] at hT
              have hys := hT.eq (sound_ok pp.sound)
              have h5 := parts_size pp
              rw [← HLS.out, HM.out] at h5
              have h6 := HPM.out
              have hA := HA.out
              rw [HLS.out] at hA
              have hLL := ActsOf.eq pp hok hA (by omega)
              rw [← hys, ← hLL, HTE.out] at e
              injection e with e1 e2
              exact hgood ⟨e2, e1⟩)
            obtain ⟨⟨r0, r1, r2, r3, r4, r5⟩, f0, f1, f2, f3, f4, f5⟩ := six_nums HR11.out
            simp only [SV.zero] at r0 r1 r2 r3 r4 r5
            obtain ⟨Wz, HWZ, HP, HLZ⟩ := zero_put HR11.out HL11.out
            have HWZ := hide_ HWZ; have HP := hide_ HP; have HLZ := hide_ HLZ
            by_cases hE0 : E = 0
            · subst hE0
              have q9 : (T == t) = false := by
                have : T ≠ t := fun h => hgood ⟨rfl, h⟩
                simpa using this
              clear hgood
              go_wp2_with (rw [HWZ.out])
              exact read_ret rfl rfl rfl rfl HP.out ⟨.inr ⟨rfl, HN.out⟩, HLZ.out⟩
            · clear hgood
              go_wp2_with (rw [HWZ.out])
              exact read_ret rfl rfl rfl rfl HP.out ⟨.inr ⟨rfl, HN.out⟩, HLZ.out⟩

end Go.Proofs.YtjkopohmcabfjaaGreatDoor
