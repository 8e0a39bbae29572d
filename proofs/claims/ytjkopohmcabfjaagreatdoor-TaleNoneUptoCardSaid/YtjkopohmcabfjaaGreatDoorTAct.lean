/-
  tale.Act: the act of a line.
-/
import Derived.Test.YtjkopohmcabfjaaGreatDoorTActC
import Derived.Test.YtjkopohmcabfjaaGreatDoorSplit
namespace Go.Proofs.YtjkopohmcabfjaaGreatDoor
open Go.RowKit
set_option linter.unusedVariables false
set_option linter.unusedSimpArgs false
set_option maxHeartbeats 3000000 in
set_option maxRecDepth 100000 in
theorem act_any {B : Nat} {w : World} (h : Env B w) (l : List UInt8) (hl : l.length ≤ 1073741824) : Calls Tryz.prog 9 #[.string ⟨l.toArray⟩] w (ActPost l w) := by
  have HE := hide_ h
  obtain ⟨W0, hW0⟩ : ∃ W0, W0 = w.alloc (.cells AV.zero.row 40) := ⟨_, rfl⟩
  have hrow : W0.heap[w.heap.size]? = some (.cells AV.zero.row 40 (0, 0)) := by rw [hW0]; exact heap_alloc_new w _
  have hl0 : Later w W0 := by rw [hW0]; exact later_alloc _ _
  have HW0 := hide_ hW0.symm; have HL0 := hide_ hl0; have HROW := hide_ hrow
  have HE0 := hide_ (h.later hl0)
  obtain ⟨ws, hws⟩ : ∃ ws, ws = wordsOf l := ⟨_, rfl⟩
  have HWS := hide_ hws
  have hwl := words_size_le l
  rw [← hws] at hwl
  clear h hW0 hl0 hrow hws
  have hmf : ∀ (fn : Fn) (first cap : Array Value) (w : World), (Instr.makeFunc fn first cap).run Tryz.prog w = .ok (.func fn first cap) w := fun _ _ _ _ => rfl
  unfold AV.row AV.zero at HW0
  go_enter Tryz.func9, Tryz.ntmps9
  go_wp2_with fail
  rw [HW0.out]
  refine (split_any HE0.out l hl).mono ?_; rintro e w1 ⟨rfl, hw1⟩
  rw [← HWS.out] at hw1 ⊢
  have hl1 : Later W0 w1 := by rw [hw1]; exact later_alloc _ _
  have hsb : w1.heap[W0.heap.size]? = some (.cells (ws.map strV).toArray 9 (0, 0)) := by rw [hw1]; exact heap_alloc_new _ _
  have hz1 : W0.heap.size < w1.heap.size := theap_lt hsb
  obtain ⟨tb, htb⟩ : ∃ tb, tb = w1.heap.size := ⟨_, rfl⟩
  obtain ⟨sb, hsbn⟩ : ∃ sb, sb = W0.heap.size := ⟨_, rfl⟩
  obtain ⟨W2, hW2⟩ : ∃ W2, W2 = w1.alloc (.cells #[.slice (some ⟨sb, 0, none⟩) ws.length ws.length] 32) := ⟨_, rfl⟩
  have hb2 : W2.heap[tb]? = some (.cells #[.slice (some ⟨sb, 0, none⟩) ws.length ws.length] 32 (0, 0)) := by rw [hW2, htb]; exact heap_alloc_new _ _
  have hl2 : Later w1 W2 := by rw [hW2]; exact later_alloc _ _
  have hs2 : W2.heap[sb]? = some (.cells (ws.map strV).toArray 9 (0, 0)) := by rw [hsbn]; exact later_row hl2 hsb
  have HL2 := hide_ ((HL0.out.trans hl1).trans hl2)
  have HR2 := hide_ (later_row hl2 (later_row hl1 HROW.out))
  have HT2 := hide_ hb2; have HS2 := hide_ hs2
  have HE2 := hide_ (HE.out.later HL2.out)
  have HW2 := hide_ hW2.symm
  have hrsz : w.heap.size < sb := by rw [hsbn]; exact theap_lt HROW.out
  have hsbt : sb < tb := by rw [hsbn, htb]; omega
  rw [← hsbn]
  clear hw1 hl1 hsb hz1 hsbn hW2 hb2 hl2 hs2
  go_wp2_with fail
  rw [HW2.out, ← htb]
  refine (kinds_any _).mono ?_; rintro e w3 ⟨rfl, hw3⟩
  have hl3 : Later W2 w3 := by rw [hw3]; exact later_alloc _ _
  have hk3 : w3.heap[W2.heap.size]? = some (.cells (kindsT.map strV).toArray 9 (0, 0)) := by rw [hw3]; exact heap_alloc_new _ _
  obtain ⟨w0, hw0⟩ : ∃ w0, w0 = ws.headD [] := ⟨_, rfl⟩
  have hwpos : 1 ≤ ws.length := by rw [HWS.out, words_size]; omega
  have hws0 : ws[0]? = some w0 := by rw [hw0]; cases ws with | nil => simp at hwpos | cons x r => rfl
  have hw0l : w0.length ≤ 4294967296 := by have := words_mem (l := l) (x := w0) (by rw [← HWS.out]; exact List.mem_of_getElem? hws0); omega
  have hix := index_any (w := w3) (bk := W2.heap.size) (xs := kindsT) (c := #[.pointer (some ⟨tb, 0, none⟩)]) (p := testW w0) hk3 (by decide) (fun W x hlW => by
    have h1 := later_row (hl3.trans hlW) HT2.out
    have h2 := later_row (hl3.trans hlW) HS2.out
    exact test_any (w := W) (t := tb) (b := sb) (n := ws.length) (cap := ws.length) (w0 := w0) (by rw [cell_of_row _ _ 0 _ _ _ h1]; rfl) (by rw [cell_of_row _ _ 0 _ _ _ h2, List.getElem?_toArray, List.getElem?_map, hws0]; rfl) hwpos hw0l x)
  have HIX := hide_ hix
  have HL3 := hide_ (HL2.out.trans hl3)
  have HR3 := hide_ (later_row hl3 HR2.out); have HT3 := hide_ (later_row hl3 HT2.out); have HS3 := hide_ (later_row hl3 HS2.out)
  obtain ⟨kb, hkb⟩ : ∃ kb, kb = W2.heap.size := ⟨_, rfl⟩
  rw [← hkb] at hix HIX ⊢
  obtain ⟨KD, hKD⟩ : ∃ KD, KD = idxOf (testW w0) kindsT := ⟨_, rfl⟩
  have HKD := hide_ hKD
  rw [← hKD] at hix HIX
  have hK0 : KD ≠ 0 := by rw [hKD]; exact kind_ne0 w0
  have hK1 : -1 ≤ KD := by rw [hKD]; exact idxOf_ge _ _
  have hK2 : KD ≤ 16 := by have := idxOf_lt (testW w0) kindsT; rw [← hKD] at this; have e : kindsT.length = 17 := rfl; omega
  have HWH := hide_ hw0
  clear hw3 hl3 hk3 hw0 hix hkb hKD
  go_wp2_with fail
  subst htb
  refine HIX.out.mono ?_; rintro e w4 ⟨rfl, hl4⟩
  obtain ⟨tb, htb⟩ : ∃ tb, tb = w1.heap.size := ⟨_, rfl⟩
  rw [← htb] at HT3 hsbt ⊢
  have HL4 := hide_ (HL3.out.trans hl4)
  have HR4 := hide_ (later_row hl4 HR3.out); have HT4 := hide_ (later_row hl4 HT3.out); have HS4 := hide_ (later_row hl4 HS3.out)
  have HE4 := hide_ (HE.out.later HL4.out)
  clear HIX HR3 HT3 HS3 HL3 HR2 HT2 HS2 HL2 HE2 HW2 HW0 HROW HE0 HL0 hl4
  by_cases hkn : KD < 0
  · have HN := hide_ (show actF l = none by
      unfold actF
      rw [← HWS.out, ← HWH.out, ← HKD.out, if_pos hkn])
    obtain ⟨⟨r0, r1, r2, r3, r4, r5⟩, f0, f1, f2, f3, f4, f5⟩ := six_cells HR4.out
    simp only [AV.zero] at r0 r1 r2 r3 r4 r5
    obtain ⟨W5, hW5⟩ : ∃ W5, W5 = put6 w4 w.heap.size AV.zero := ⟨_, rfl⟩
    have HP := hide_ (show W5.heap[w.heap.size]? = some (.cells (AV.zero).row 40 (0, 0)) by rw [hW5]; exact put6_row AV.zero HR4.out)
    have HLW5 := hide_ (show Later w W5 by rw [hW5]; exact put6_below AV.zero HL4.out (Nat.le_refl _))
    have HWW := hide_ hW5.symm
    unfold put6 AV.zero at HWW
    clear hW5
    go_wp2_with (rw [HWW.out])
    exact act_ret rfl rfl rfl HP.out ⟨by rw [HN.out]; rfl, HLW5.out⟩
  · obtain ⟨k, rfl⟩ : ∃ k : Nat, KD = (k : Int) := ⟨KD.toNat, by omega⟩
    have k1 : 1 ≤ k := by omega
    have k2 : k ≤ 16 := by omega
    have k3 : (0 : Int) ≤ (k : Int) := by omega
    have k4 : (k : Int) < 17 := by omega
    obtain ⟨kt, hkt⟩ : ∃ kt, kt = kindsT.getD k [] := ⟨_, rfl⟩
    obtain ⟨Wd, hWd⟩ : ∃ Wd, Wd = wordT.getD k [] := ⟨_, rfl⟩
    obtain ⟨Pt, hPt⟩ : ∃ Pt, Pt = partT.getD k [] := ⟨_, rfl⟩
    have hat := kinds_at k1 k2
    have hcut := cut_kind k1 k2
    have hkl : kt.length ≤ 16 := by rw [hkt]; exact kind_len k1 k2
    have hpl := (part_len k1 k2).1
    have hpart := part_of k1 k2
    rw [← hkt] at hat hcut
    rw [← hWd, ← hPt] at hcut
    rw [← hPt] at hpl hpart
    have HCT := hide_ (show ∀ (W : World) (m : Int), W.cell? ⟨2, 0, none⟩ = some (.int .i64 m) → Calls Tryz.prog 25 #[.string ⟨kt.toArray⟩, .string ⟨#[32]⟩] W fun e w' => e = .returned (.tuple #[.string ⟨Wd.toArray⟩, .string ⟨Pt.toArray⟩, .bool true]) ∧ ∃ n, w' = W.drewN n from fun W m hm => by
      have hc := Tryz.strings_Cut ⟨kt.toArray⟩ ⟨#[32]⟩ m W (by show kt.toArray.size < _; simp; omega) hm
      have ec : Lib.cut (⟨kt.toArray⟩ : ByteArray).data.toList (⟨#[32]⟩ : ByteArray).data.toList = (Wd, Pt, true) := hcut
      rw [ec] at hc; exact hc)
    have HAT := hide_ hat; have HPART := hide_ hpart
    have HACT := hide_ (show actF l = if ws.length = Pt.length + 1 then match putAll ⟨k, 0, 0, 0, [], []⟩ Pt ws.tail with
        | some x => if lineF x = some l then some x else none
        | none => none else none by
      unfold actF
      rw [← HWS.out, ← HWH.out, ← HKD.out, if_neg hkn, Int.toNat_natCast, ← hPt]; rfl)
    clear hat hcut hkt hWd hPt hpart hkn hK0 hK1 hK2
    go_wp2_with fail
    refine (kinds_any _).mono ?_; rintro e w5 ⟨rfl, hw5⟩
    have hl5 : Later w4 w5 := by rw [hw5]; exact later_alloc _ _
    have hk5 : w5.heap[w4.heap.size]? = some (.cells (kindsT.map strV).toArray 9 (0, 0)) := by rw [hw5]; exact heap_alloc_new _ _
    have hkc : w5.cell? ⟨w4.heap.size, k, none⟩ = some (.string ⟨kt.toArray⟩) := by rw [cell_of_row _ _ k _ _ _ hk5, List.getElem?_toArray]; exact HAT.out
    have HL5 := hide_ (HL4.out.trans hl5)
    have HR5 := hide_ (later_row hl5 HR4.out); have HT5 := hide_ (later_row hl5 HT4.out); have HS5 := hide_ (later_row hl5 HS4.out)
    have HE5 := hide_ (HE.out.later HL5.out)
    clear hw5 hl5 hk5
    go_wp2_with fail
    obtain ⟨mm, _, hmm⟩ := HE5.out.most
    refine (HCT.out w5 mm hmm).mono ?_; rintro e w6 ⟨rfl, nd, hw6⟩
    have hl6 : Later w5 w6 := by rw [hw6]; exact below_drewN (Later.refl _) nd
    have HL6 := hide_ (HL5.out.trans hl6)
    have HR6 := hide_ (later_row hl6 HR5.out); have HT6 := hide_ (later_row hl6 HT5.out); have HS6 := hide_ (later_row hl6 HS5.out)
    have HE6 := hide_ (HE.out.later HL6.out)
    have ht6 : w6.cell? ⟨w1.heap.size, 0, none⟩ = some (.slice (some ⟨sb, 0, none⟩) ws.length ws.length) := by rw [← htb, cell_of_row _ _ 0 _ _ _ HT6.out]; rfl
    clear hw6 hl6 hmm hkc HR5 HT5 HS5 HE5 HL5 HR4 HT4 HS4 HL4 HE4 HCT HAT
    by_cases hwn : ws.length = Pt.length + 1
    · obtain ⟨X0, hX0⟩ : ∃ X0 : AV, X0 = ⟨k, 0, 0, 0, [], []⟩ := ⟨_, rfl⟩
      have HAC := hide_ (show actF l = match putAll X0 Pt ws.tail with
        | some x => if lineF x = some l then some x else none
        | none => none by rw [HACT.out, if_pos hwn, hX0])
      obtain ⟨V7, hV7⟩ : ∃ V7, V7 = w6.alloc (.cells #[.int .i64 k, .int .i64 0, .int .i64 0, .int .i64 0, .string ⟨#[]⟩, .string ⟨#[]⟩] 40) := ⟨_, rfl⟩
      have hd7 : V7.heap[w6.heap.size]? = some (.cells X0.row 40 (0, 0)) := by rw [hV7, hX0]; exact heap_alloc_new w6 _
      have hlv : Later w6 V7 := by rw [hV7]; exact later_alloc _ _
      have HV7 := hide_ hV7.symm
      have hiter := World.iter_heap V7 ⟨Pt.toArray⟩ 0
      obtain ⟨U7, hU7⟩ : ∃ U7, U7 = V7.iter ⟨Pt.toArray⟩ 0 := ⟨_, rfl⟩
      have hlu : Later V7 U7 := by rw [hU7]; exact later_alloc _ _
      rw [← hU7] at hiter
      have hvs : V7.heap.size = w6.heap.size + 1 := by rw [hV7]; exact Array.size_push ..
      rw [hvs] at hiter
      obtain ⟨d, hd⟩ : ∃ d, d = w6.heap.size := ⟨_, rfl⟩
      obtain ⟨it, hit⟩ : ∃ it, it = d + 1 := ⟨_, rfl⟩
      rw [← hd, ← hit] at hiter
      rw [← hd] at hd7
      have HU7 := hide_ hU7.symm
      have HD0 := hide_ (later_row hlu hd7)
      have HI0 := hide_ hiter
      have HLU := hide_ (hlv.trans hlu)
      have HX0 := hide_ hX0
      have HXS := hide_ (show X0.Small l.length by rw [hX0]; exact ⟨by simp, by simp, by simp, Nat.zero_le _, Nat.zero_le _⟩)
      have HXK := hide_ (show X0.kind = (k : Int) by rw [hX0])
      have hwd : w.heap.size < w6.heap.size := theap_lt HR6.out
      have hsd : sb < d := by rw [hd]; exact theap_lt HS6.out
      have htd : w1.heap.size < d := by rw [hd, ← htb]; exact theap_lt HT6.out
      clear hX0 hV7 hU7 hlv hlu hiter hvs hd7 ht6
      have ht6 : w6.cell? ⟨w1.heap.size, 0, none⟩ = some (.slice (some ⟨sb, 0, none⟩) (Pt.length + 1) (Pt.length + 1)) := by rw [← hwn, ← htb, cell_of_row _ _ 0 _ _ _ HT6.out]; rfl
      go_wp2_with fail
      rw [HV7.out, HU7.out, ← hd, ← hit]
      have hdz : w6.heap.size ≤ d := by omega
      have hiz : w6.heap.size ≤ it := by omega
      have hdit : d ≠ it := by omega
      clear ht6 hd hit
      go_loopw [] (fun wr => ∃ (i : Nat) (x : AV), i ≤ Pt.length ∧ Hid (putAll X0 Pt ws.tail = putAll x (Pt.drop i) (ws.tail.drop i)) ∧ Hid (x.Small l.length) ∧ Hid (x.kind = (k : Int)) ∧
        Hid (wr.heap[d]? = some (.cells x.row 40 (0, 0))) ∧ Hid (wr.heap[it]? = some (.stringIter ⟨Pt.toArray⟩ i)) ∧ Hid (Later w6 wr)) (fun wr => Pt.length - wr.iterPos it)
      case atStart => exact ⟨0, X0, by omega, hide_ rfl, HXS, HXK, HD0, HI0, HLU⟩
      case round =>
        obtain ⟨i, x, hi, HPA, HSM, HKX, HD, HI, HL⟩ := hrel
        have HL7c := hide_ (HL6.out.trans HL.out)
        have hwl7 : w6.heap.size ≤ wr.heap.size := HL.out.size
        by_cases hlt : i < Pt.length
        · obtain ⟨c, hc⟩ : ∃ c, Pt[i]? = some c := ⟨_, List.getElem?_eq_getElem hlt⟩
          obtain ⟨u, hu⟩ : ∃ u, ws.tail[i]? = some u := ⟨_, List.getElem?_eq_getElem (by rw [List.length_tail]; omega)⟩
          have hu1 : ws[i + 1]? = some u := by rw [← hu]; cases ws with | nil => simp at hwpos | cons y r => rfl
          have hul : u.length ≤ l.length := words_mem (by rw [← HWS.out]; exact List.mem_of_getElem? hu1)
          have hpos : i < (⟨Pt.toArray⟩ : ByteArray).size := by show i < Pt.toArray.size; simpa using hlt
          have hcc : (⟨Pt.toArray⟩ : ByteArray)[i]'hpos = c := by
            have h := (List.getElem?_eq_some_iff.1 hc).2
            rw [← h]; rfl
          have hpc := HPART.out c (List.mem_of_getElem? hc)
          have hnx := fun ty => Lib.run_next_ascii_at (P := Tryz.prog) wr it ⟨Pt.toArray⟩ i ty HI.out hpos (by rw [hcc]; rcases hpc with rfl | rfl | rfl | rfl | rfl <;> decide)
          rw [hcc] at hnx
          have HIH := hide_ (Lib.iterAt_heap wr it ⟨Pt.toArray⟩ i (i + 1) HI.out)
          have HIO := hide_ (fun j hj => Lib.iterAt_other wr it j ⟨Pt.toArray⟩ (i + 1) hj)
          have HIS := hide_ (Lib.iterAt_size wr it ⟨Pt.toArray⟩ (i + 1))
          have HIL := hide_ (show Later w6 (wr.iterAt it ⟨Pt.toArray⟩ (i + 1)) from Lib.below_iterAt HL.out hiz ⟨Pt.toArray⟩ (i + 1))
          obtain ⟨W8, hW8⟩ : ∃ W8, W8 = wr.iterAt it ⟨Pt.toArray⟩ (i + 1) := ⟨_, rfl⟩
          rw [← hW8] at hnx HIH HIO HIS HIL
          have HD8 := hide_ ((HIO.out d hdit).trans HD.out)
          have HST := hide_ (putAll_drop (x := x) hc hu)
          have hi1 : i + 1 ≤ Pt.length := hlt
          have HE8 := hide_ (HE.out.later (HL6.out.trans HIL.out))
          have HT8 := hide_ (later_row HIL.out HT6.out)
          have HS8 := hide_ (later_row HIL.out HS6.out)
          have HR8 := hide_ (later_row HIL.out HR6.out)
          have ht8 : W8.cell? ⟨w1.heap.size, 0, none⟩ = some (.slice (some ⟨sb, 0, none⟩) (Pt.length + 1) (Pt.length + 1)) := by rw [← hwn, ← htb, cell_of_row _ _ 0 _ _ _ HT8.out]; rfl
          have hs8 : W8.cell? ⟨sb, i + 1, none⟩ = some (.string ⟨u.toArray⟩) := by rw [cell_of_row _ _ (i + 1) _ _ _ HS8.out, List.getElem?_toArray, List.getElem?_map, hu1]; rfl
          obtain ⟨q, ok, hq⟩ : ∃ q ok, unquoteV u = (q, ok) := ⟨_, _, rfl⟩
          have HQ := hide_ hq
          have HUQ := hide_ (show Calls Tryz.prog 26 #[.string ⟨u.toArray⟩] W8 fun e w' => e = .returned (.tuple #[.string ⟨q.toArray⟩, .bool ok]) ∧ Later W8 w' by
            have h := unquote_any HE8.out ⟨u.toArray⟩ (by show u.toArray.size ≤ _; simp; omega)
            unfold UnqPost at h
            rw [show (⟨u.toArray⟩ : ByteArray).data.toList = u from rfl, hq] at h
            exact h)
          have HAI := hide_ (show ∀ W, Later W8 W → Calls Tryz.prog 8 #[.string ⟨u.toArray⟩] W fun e w' => (∃ v g, e = .returned (.tuple #[.int .i64 v, g]) ∧ (Lib.atoiAll u = .ok v ∧ g = .nilIface ∨ (∀ v, Lib.atoiAll u ≠ .ok v) ∧ ∃ N, g = .iface 118 (.pointer (some ⟨N, 0, none⟩)))) ∧ Later W w' from fun W hlW => by
            refine (atoi_any (HE8.out.later hlW) ⟨u.toArray⟩ (by show u.toArray.size ≤ _; simp; omega)).mono ?_
            rintro e w' ⟨⟨v, hv⟩, hl⟩
            refine ⟨?_, hl⟩
            rcases hv with ⟨h1, rfl⟩ | ⟨h1, N, rfl⟩
            · exact ⟨v, _, rfl, .inl ⟨h1, rfl⟩⟩
            · exact ⟨v, _, rfl, .inr ⟨h1, N, rfl⟩⟩)
          clear hW8 hcc hpos hc hlt hu hu1 hq
          rcases hpc with rfl | rfl | rfl | rfl | rfl
          · go_wp2_with fail
            refine HUQ.out.mono ?_; rintro e w9 ⟨rfl, hl9⟩
            have ht9 : w9.cell? ⟨w1.heap.size, 0, none⟩ = some (.slice (some ⟨sb, 0, none⟩) (Pt.length + 1) (Pt.length + 1)) := by rw [← hwn, ← htb, cell_of_row _ _ 0 _ _ _ (later_row hl9 HT8.out)]; rfl
            have hs9 : w9.cell? ⟨sb, i + 1, none⟩ = some (.string ⟨u.toArray⟩) := (by have h := later_row hl9 HS8.out; rw [cell_of_row _ _ (i + 1) _ _ _ h, ← cell_of_row _ _ (i + 1) _ _ _ HS8.out]; exact hs8)
            have HL9 := hide_ hl9
            clear hl9
            go_wp2_with fail
            refine (HAI.out w9 HL9.out).mono ?_; rintro e w10 ⟨⟨v, g, rfl, hvg⟩, hl10⟩
            have hl8 := HL9.out.trans hl10
            have HD10 := hide_ (later_row hl8 HD8.out)
            have HI10 := hide_ (later_row hl8 HIH.out)
            have HR10 := hide_ (later_row hl8 HR8.out)
            have HL10 := hide_ (show Later w6 w10 from HIL.out.trans hl8)
            have HVG := hide_ hvg
            obtain ⟨⟨o0, o1, o2, o3, o4, o5⟩, p0, p1, p2, p3, p4, p5⟩ := six_cells HD10.out
            clear hl10 hl8 hvg ht8 hs8 ht9 hs9 hnx
            obtain ⟨V, hV⟩ : ∃ V, V = w10.setCell ⟨d, 1, none⟩ (.int .i64 v) := ⟨_, rfl⟩
            have HDV := hide_ (show V.heap[d]? = some (.cells ({ x with a := v }).row 40 (0, 0)) by rw [hV]; exact heap_setCell_same w10 d 1 _ _ (.int .i64 v) HD10.out)
            have HIV := hide_ (show V.heap[it]? = some (.stringIter ⟨Pt.toArray⟩ (i + 1)) by rw [hV]; exact (Below.heap_setCell w10 ⟨d, 1, none⟩ (.int .i64 v) it (fun e => hdit e.symm)).trans HI10.out)
            have HRV := hide_ (show V.heap[w.heap.size]? = some (.cells AV.zero.row 40 (0, 0)) by rw [hV]; exact (Below.heap_setCell w10 ⟨d, 1, none⟩ (.int .i64 v) w.heap.size (by show w.heap.size ≠ d; omega)).trans HR10.out)
            have HLV := hide_ (show Later w6 V by rw [hV]; exact HL10.out.setCell (p := ⟨d, 1, none⟩) hdz _)
            have HVV := hide_ hV.symm
            clear hV
            rcases HVG.out with ⟨hat, rfl⟩ | ⟨hat, N, rfl⟩
            · have hpp : putP x 97 u = some ({ x with a := v }) := by unfold putP; rw [hat]; rfl
              have HPA2 := hide_ (show putAll X0 Pt ws.tail = putAll ({ x with a := v }) (Pt.drop (i + 1)) (ws.tail.drop (i + 1)) by rw [HPA.out, HST.out, hpp])
              have HSM2 := hide_ (putP_small HSM.out hul hpp)
              have HKX2 := hide_ ((putP_kind hpp).trans HKX.out)
              clear hpp hat
              go_wp2_with (rw [HVV.out])
              go_roundw
              case rel => exact ⟨i + 1, _, hi1, HPA2, HSM2, HKX2, HDV, HIV, HLV⟩
              case measure => simp only [World.iterPos, HIV.out, HI.out]; omega
            · have hpp : putP x 97 u = none := by
                unfold putP
                cases hx : Lib.atoiAll u with
                | ok v => exact absurd hx (hat v)
                | _ => rfl
              have HN := hide_ (show actF l = none by rw [HAC.out, HPA.out, HST.out, hpp])
              clear hpp hat
              obtain ⟨⟨r0, r1, r2, r3, r4, r5⟩, f0, f1, f2, f3, f4, f5⟩ := six_cells HRV.out
              simp only [AV.zero] at r0 r1 r2 r3 r4 r5
              obtain ⟨Vz, hVz⟩ : ∃ Vz, Vz = put6 V w.heap.size AV.zero := ⟨_, rfl⟩
              have HP := hide_ (show Vz.heap[w.heap.size]? = some (.cells (AV.zero).row 40 (0, 0)) by rw [hVz]; exact put6_row AV.zero HRV.out)
              have HLVz := hide_ (show Later w Vz by rw [hVz]; exact put6_below AV.zero (HL6.out.trans HLV.out) (Nat.le_refl _))
              have HWZ := hide_ hVz.symm
              unfold put6 AV.zero at HWZ
              clear hVz
              go_wp2_with (first | rw [HVV.out] | rw [HWZ.out])
              exact act_ret rfl rfl rfl HP.out ⟨by rw [HN.out]; rfl, HLVz.out⟩
          · go_wp2_with fail
            refine HUQ.out.mono ?_; rintro e w9 ⟨rfl, hl9⟩
            have ht9 : w9.cell? ⟨w1.heap.size, 0, none⟩ = some (.slice (some ⟨sb, 0, none⟩) (Pt.length + 1) (Pt.length + 1)) := by rw [← hwn, ← htb, cell_of_row _ _ 0 _ _ _ (later_row hl9 HT8.out)]; rfl
            have hs9 : w9.cell? ⟨sb, i + 1, none⟩ = some (.string ⟨u.toArray⟩) := (by have h := later_row hl9 HS8.out; rw [cell_of_row _ _ (i + 1) _ _ _ h, ← cell_of_row _ _ (i + 1) _ _ _ HS8.out]; exact hs8)
            have HL9 := hide_ hl9
            clear hl9
            go_wp2_with fail
            refine (HAI.out w9 HL9.out).mono ?_; rintro e w10 ⟨⟨v, g, rfl, hvg⟩, hl10⟩
            have hl8 := HL9.out.trans hl10
            have HD10 := hide_ (later_row hl8 HD8.out)
            have HI10 := hide_ (later_row hl8 HIH.out)
            have HR10 := hide_ (later_row hl8 HR8.out)
            have HL10 := hide_ (show Later w6 w10 from HIL.out.trans hl8)
            have HVG := hide_ hvg
            obtain ⟨⟨o0, o1, o2, o3, o4, o5⟩, p0, p1, p2, p3, p4, p5⟩ := six_cells HD10.out
            clear hl10 hl8 hvg ht8 hs8 ht9 hs9 hnx
            obtain ⟨V, hV⟩ : ∃ V, V = w10.setCell ⟨d, 2, none⟩ (.int .i64 v) := ⟨_, rfl⟩
            have HDV := hide_ (show V.heap[d]? = some (.cells ({ x with b := v }).row 40 (0, 0)) by rw [hV]; exact heap_setCell_same w10 d 2 _ _ (.int .i64 v) HD10.out)
            have HIV := hide_ (show V.heap[it]? = some (.stringIter ⟨Pt.toArray⟩ (i + 1)) by rw [hV]; exact (Below.heap_setCell w10 ⟨d, 2, none⟩ (.int .i64 v) it (fun e => hdit e.symm)).trans HI10.out)
            have HRV := hide_ (show V.heap[w.heap.size]? = some (.cells AV.zero.row 40 (0, 0)) by rw [hV]; exact (Below.heap_setCell w10 ⟨d, 2, none⟩ (.int .i64 v) w.heap.size (by show w.heap.size ≠ d; omega)).trans HR10.out)
            have HLV := hide_ (show Later w6 V by rw [hV]; exact HL10.out.setCell (p := ⟨d, 2, none⟩) hdz _)
            have HVV := hide_ hV.symm
            clear hV
            rcases HVG.out with ⟨hat, rfl⟩ | ⟨hat, N, rfl⟩
            · have hpp : putP x 98 u = some ({ x with b := v }) := by unfold putP; rw [hat]; rfl
              have HPA2 := hide_ (show putAll X0 Pt ws.tail = putAll ({ x with b := v }) (Pt.drop (i + 1)) (ws.tail.drop (i + 1)) by rw [HPA.out, HST.out, hpp])
              have HSM2 := hide_ (putP_small HSM.out hul hpp)
              have HKX2 := hide_ ((putP_kind hpp).trans HKX.out)
              clear hpp hat
              go_wp2_with (rw [HVV.out])
              go_roundw
              case rel => exact ⟨i + 1, _, hi1, HPA2, HSM2, HKX2, HDV, HIV, HLV⟩
              case measure => simp only [World.iterPos, HIV.out, HI.out]; omega
            · have hpp : putP x 98 u = none := by
                unfold putP
                cases hx : Lib.atoiAll u with
                | ok v => exact absurd hx (hat v)
                | _ => rfl
              have HN := hide_ (show actF l = none by rw [HAC.out, HPA.out, HST.out, hpp])
              clear hpp hat
              obtain ⟨⟨r0, r1, r2, r3, r4, r5⟩, f0, f1, f2, f3, f4, f5⟩ := six_cells HRV.out
              simp only [AV.zero] at r0 r1 r2 r3 r4 r5
              obtain ⟨Vz, hVz⟩ : ∃ Vz, Vz = put6 V w.heap.size AV.zero := ⟨_, rfl⟩
              have HP := hide_ (show Vz.heap[w.heap.size]? = some (.cells (AV.zero).row 40 (0, 0)) by rw [hVz]; exact put6_row AV.zero HRV.out)
              have HLVz := hide_ (show Later w Vz by rw [hVz]; exact put6_below AV.zero (HL6.out.trans HLV.out) (Nat.le_refl _))
              have HWZ := hide_ hVz.symm
              unfold put6 AV.zero at HWZ
              clear hVz
              go_wp2_with (first | rw [HVV.out] | rw [HWZ.out])
              exact act_ret rfl rfl rfl HP.out ⟨by rw [HN.out]; rfl, HLVz.out⟩
          · go_wp2_with fail
            refine HUQ.out.mono ?_; rintro e w9 ⟨rfl, hl9⟩
            have ht9 : w9.cell? ⟨w1.heap.size, 0, none⟩ = some (.slice (some ⟨sb, 0, none⟩) (Pt.length + 1) (Pt.length + 1)) := by rw [← hwn, ← htb, cell_of_row _ _ 0 _ _ _ (later_row hl9 HT8.out)]; rfl
            have hs9 : w9.cell? ⟨sb, i + 1, none⟩ = some (.string ⟨u.toArray⟩) := (by have h := later_row hl9 HS8.out; rw [cell_of_row _ _ (i + 1) _ _ _ h, ← cell_of_row _ _ (i + 1) _ _ _ HS8.out]; exact hs8)
            have HL9 := hide_ hl9
            clear hl9
            go_wp2_with fail
            refine (HAI.out w9 HL9.out).mono ?_; rintro e w10 ⟨⟨v, g, rfl, hvg⟩, hl10⟩
            have hl8 := HL9.out.trans hl10
            have HD10 := hide_ (later_row hl8 HD8.out)
            have HI10 := hide_ (later_row hl8 HIH.out)
            have HR10 := hide_ (later_row hl8 HR8.out)
            have HL10 := hide_ (show Later w6 w10 from HIL.out.trans hl8)
            have HVG := hide_ hvg
            obtain ⟨⟨o0, o1, o2, o3, o4, o5⟩, p0, p1, p2, p3, p4, p5⟩ := six_cells HD10.out
            clear hl10 hl8 hvg ht8 hs8 ht9 hs9 hnx
            obtain ⟨V, hV⟩ : ∃ V, V = w10.setCell ⟨d, 3, none⟩ (.int .i64 v) := ⟨_, rfl⟩
            have HDV := hide_ (show V.heap[d]? = some (.cells ({ x with n := v }).row 40 (0, 0)) by rw [hV]; exact heap_setCell_same w10 d 3 _ _ (.int .i64 v) HD10.out)
            have HIV := hide_ (show V.heap[it]? = some (.stringIter ⟨Pt.toArray⟩ (i + 1)) by rw [hV]; exact (Below.heap_setCell w10 ⟨d, 3, none⟩ (.int .i64 v) it (fun e => hdit e.symm)).trans HI10.out)
            have HRV := hide_ (show V.heap[w.heap.size]? = some (.cells AV.zero.row 40 (0, 0)) by rw [hV]; exact (Below.heap_setCell w10 ⟨d, 3, none⟩ (.int .i64 v) w.heap.size (by show w.heap.size ≠ d; omega)).trans HR10.out)
            have HLV := hide_ (show Later w6 V by rw [hV]; exact HL10.out.setCell (p := ⟨d, 3, none⟩) hdz _)
            have HVV := hide_ hV.symm
            clear hV
            rcases HVG.out with ⟨hat, rfl⟩ | ⟨hat, N, rfl⟩
            · have hpp : putP x 110 u = some ({ x with n := v }) := by unfold putP; rw [hat]; rfl
              have HPA2 := hide_ (show putAll X0 Pt ws.tail = putAll ({ x with n := v }) (Pt.drop (i + 1)) (ws.tail.drop (i + 1)) by rw [HPA.out, HST.out, hpp])
              have HSM2 := hide_ (putP_small HSM.out hul hpp)
              have HKX2 := hide_ ((putP_kind hpp).trans HKX.out)
              clear hpp hat
              go_wp2_with (rw [HVV.out])
              go_roundw
              case rel => exact ⟨i + 1, _, hi1, HPA2, HSM2, HKX2, HDV, HIV, HLV⟩
              case measure => simp only [World.iterPos, HIV.out, HI.out]; omega
            · have hpp : putP x 110 u = none := by
                unfold putP
                cases hx : Lib.atoiAll u with
                | ok v => exact absurd hx (hat v)
                | _ => rfl
              have HN := hide_ (show actF l = none by rw [HAC.out, HPA.out, HST.out, hpp])
              clear hpp hat
              obtain ⟨⟨r0, r1, r2, r3, r4, r5⟩, f0, f1, f2, f3, f4, f5⟩ := six_cells HRV.out
              simp only [AV.zero] at r0 r1 r2 r3 r4 r5
              obtain ⟨Vz, hVz⟩ : ∃ Vz, Vz = put6 V w.heap.size AV.zero := ⟨_, rfl⟩
              have HP := hide_ (show Vz.heap[w.heap.size]? = some (.cells (AV.zero).row 40 (0, 0)) by rw [hVz]; exact put6_row AV.zero HRV.out)
              have HLVz := hide_ (show Later w Vz by rw [hVz]; exact put6_below AV.zero (HL6.out.trans HLV.out) (Nat.le_refl _))
              have HWZ := hide_ hVz.symm
              unfold put6 AV.zero at HWZ
              clear hVz
              go_wp2_with (first | rw [HVV.out] | rw [HWZ.out])
              exact act_ret rfl rfl rfl HP.out ⟨by rw [HN.out]; rfl, HLVz.out⟩
          · go_wp2_with fail
            refine HUQ.out.mono ?_; rintro e w9 ⟨rfl, hl9⟩
            have ht9 : w9.cell? ⟨w1.heap.size, 0, none⟩ = some (.slice (some ⟨sb, 0, none⟩) (Pt.length + 1) (Pt.length + 1)) := by rw [← hwn, ← htb, cell_of_row _ _ 0 _ _ _ (later_row hl9 HT8.out)]; rfl
            have hs9 : w9.cell? ⟨sb, i + 1, none⟩ = some (.string ⟨u.toArray⟩) := (by have h := later_row hl9 HS8.out; rw [cell_of_row _ _ (i + 1) _ _ _ h, ← cell_of_row _ _ (i + 1) _ _ _ HS8.out]; exact hs8)
            have HL9 := hide_ hl9
            clear hl9
            go_wp2_with fail
            refine (HAI.out w9 HL9.out).mono ?_; rintro e w10 ⟨⟨v, g, rfl, hvg⟩, hl10⟩
            have hl8 := HL9.out.trans hl10
            have HD10 := hide_ (later_row hl8 HD8.out)
            have HI10 := hide_ (later_row hl8 HIH.out)
            have HR10 := hide_ (later_row hl8 HR8.out)
            have HL10 := hide_ (show Later w6 w10 from HIL.out.trans hl8)
            have HVG := hide_ hvg
            obtain ⟨⟨o0, o1, o2, o3, o4, o5⟩, p0, p1, p2, p3, p4, p5⟩ := six_cells HD10.out
            clear hl10 hl8 hvg ht8 hs8 ht9 hs9 hnx
            obtain ⟨V, hV⟩ : ∃ V, V = w10.setCell ⟨d, 4, none⟩ (.string ⟨q.toArray⟩) := ⟨_, rfl⟩
            have HDV := hide_ (show V.heap[d]? = some (.cells ({ x with key := q }).row 40 (0, 0)) by rw [hV]; exact heap_setCell_same w10 d 4 _ _ (.string ⟨q.toArray⟩) HD10.out)
            have HIV := hide_ (show V.heap[it]? = some (.stringIter ⟨Pt.toArray⟩ (i + 1)) by rw [hV]; exact (Below.heap_setCell w10 ⟨d, 4, none⟩ (.string ⟨q.toArray⟩) it (fun e => hdit e.symm)).trans HI10.out)
            have HRV := hide_ (show V.heap[w.heap.size]? = some (.cells AV.zero.row 40 (0, 0)) by rw [hV]; exact (Below.heap_setCell w10 ⟨d, 4, none⟩ (.string ⟨q.toArray⟩) w.heap.size (by show w.heap.size ≠ d; omega)).trans HR10.out)
            have HLV := hide_ (show Later w6 V by rw [hV]; exact HL10.out.setCell (p := ⟨d, 4, none⟩) hdz _)
            have HVV := hide_ hV.symm
            clear hV
            cases ok with
            | true =>
              have hpp : putP x 107 u = some ({ x with key := q }) := by unfold putP; rw [HQ.out]; rfl
              have HPA2 := hide_ (show putAll X0 Pt ws.tail = putAll ({ x with key := q }) (Pt.drop (i + 1)) (ws.tail.drop (i + 1)) by rw [HPA.out, HST.out, hpp])
              have HSM2 := hide_ (putP_small HSM.out hul hpp)
              have HKX2 := hide_ ((putP_kind hpp).trans HKX.out)
              clear hpp
              go_wp2_with (rw [HVV.out])
              go_roundw
              case rel => exact ⟨i + 1, _, hi1, HPA2, HSM2, HKX2, HDV, HIV, HLV⟩
              case measure => simp only [World.iterPos, HIV.out, HI.out]; omega
            | false =>
              have hpp : putP x 107 u = none := by unfold putP; rw [HQ.out]; rfl
              have HN := hide_ (show actF l = none by rw [HAC.out, HPA.out, HST.out, hpp])
              clear hpp
              obtain ⟨⟨r0, r1, r2, r3, r4, r5⟩, f0, f1, f2, f3, f4, f5⟩ := six_cells HRV.out
              simp only [AV.zero] at r0 r1 r2 r3 r4 r5
              obtain ⟨Vz, hVz⟩ : ∃ Vz, Vz = put6 V w.heap.size AV.zero := ⟨_, rfl⟩
              have HP := hide_ (show Vz.heap[w.heap.size]? = some (.cells (AV.zero).row 40 (0, 0)) by rw [hVz]; exact put6_row AV.zero HRV.out)
              have HLVz := hide_ (show Later w Vz by rw [hVz]; exact put6_below AV.zero (HL6.out.trans HLV.out) (Nat.le_refl _))
              have HWZ := hide_ hVz.symm
              unfold put6 AV.zero at HWZ
              clear hVz
              go_wp2_with (first | rw [HVV.out] | rw [HWZ.out])
              exact act_ret rfl rfl rfl HP.out ⟨by rw [HN.out]; rfl, HLVz.out⟩
          · go_wp2_with fail
            refine HUQ.out.mono ?_; rintro e w9 ⟨rfl, hl9⟩
            have ht9 : w9.cell? ⟨w1.heap.size, 0, none⟩ = some (.slice (some ⟨sb, 0, none⟩) (Pt.length + 1) (Pt.length + 1)) := by rw [← hwn, ← htb, cell_of_row _ _ 0 _ _ _ (later_row hl9 HT8.out)]; rfl
            have hs9 : w9.cell? ⟨sb, i + 1, none⟩ = some (.string ⟨u.toArray⟩) := (by have h := later_row hl9 HS8.out; rw [cell_of_row _ _ (i + 1) _ _ _ h, ← cell_of_row _ _ (i + 1) _ _ _ HS8.out]; exact hs8)
            have HL9 := hide_ hl9
            clear hl9
            go_wp2_with fail
            refine (HAI.out w9 HL9.out).mono ?_; rintro e w10 ⟨⟨v, g, rfl, hvg⟩, hl10⟩
            have hl8 := HL9.out.trans hl10
            have HD10 := hide_ (later_row hl8 HD8.out)
            have HI10 := hide_ (later_row hl8 HIH.out)
            have HR10 := hide_ (later_row hl8 HR8.out)
            have HL10 := hide_ (show Later w6 w10 from HIL.out.trans hl8)
            have HVG := hide_ hvg
            obtain ⟨⟨o0, o1, o2, o3, o4, o5⟩, p0, p1, p2, p3, p4, p5⟩ := six_cells HD10.out
            clear hl10 hl8 hvg ht8 hs8 ht9 hs9 hnx
            obtain ⟨V, hV⟩ : ∃ V, V = w10.setCell ⟨d, 5, none⟩ (.string ⟨q.toArray⟩) := ⟨_, rfl⟩
            have HDV := hide_ (show V.heap[d]? = some (.cells ({ x with val := q }).row 40 (0, 0)) by rw [hV]; exact heap_setCell_same w10 d 5 _ _ (.string ⟨q.toArray⟩) HD10.out)
            have HIV := hide_ (show V.heap[it]? = some (.stringIter ⟨Pt.toArray⟩ (i + 1)) by rw [hV]; exact (Below.heap_setCell w10 ⟨d, 5, none⟩ (.string ⟨q.toArray⟩) it (fun e => hdit e.symm)).trans HI10.out)
            have HRV := hide_ (show V.heap[w.heap.size]? = some (.cells AV.zero.row 40 (0, 0)) by rw [hV]; exact (Below.heap_setCell w10 ⟨d, 5, none⟩ (.string ⟨q.toArray⟩) w.heap.size (by show w.heap.size ≠ d; omega)).trans HR10.out)
            have HLV := hide_ (show Later w6 V by rw [hV]; exact HL10.out.setCell (p := ⟨d, 5, none⟩) hdz _)
            have HVV := hide_ hV.symm
            clear hV
            cases ok with
            | true =>
              have hpp : putP x 118 u = some ({ x with val := q }) := by unfold putP; rw [HQ.out]; rfl
              have HPA2 := hide_ (show putAll X0 Pt ws.tail = putAll ({ x with val := q }) (Pt.drop (i + 1)) (ws.tail.drop (i + 1)) by rw [HPA.out, HST.out, hpp])
              have HSM2 := hide_ (putP_small HSM.out hul hpp)
              have HKX2 := hide_ ((putP_kind hpp).trans HKX.out)
              clear hpp
              go_wp2_with (rw [HVV.out])
              go_roundw
              case rel => exact ⟨i + 1, _, hi1, HPA2, HSM2, HKX2, HDV, HIV, HLV⟩
              case measure => simp only [World.iterPos, HIV.out, HI.out]; omega
            | false =>
              have hpp : putP x 118 u = none := by unfold putP; rw [HQ.out]; rfl
              have HN := hide_ (show actF l = none by rw [HAC.out, HPA.out, HST.out, hpp])
              clear hpp
              obtain ⟨⟨r0, r1, r2, r3, r4, r5⟩, f0, f1, f2, f3, f4, f5⟩ := six_cells HRV.out
              simp only [AV.zero] at r0 r1 r2 r3 r4 r5
              obtain ⟨Vz, hVz⟩ : ∃ Vz, Vz = put6 V w.heap.size AV.zero := ⟨_, rfl⟩
              have HP := hide_ (show Vz.heap[w.heap.size]? = some (.cells (AV.zero).row 40 (0, 0)) by rw [hVz]; exact put6_row AV.zero HRV.out)
              have HLVz := hide_ (show Later w Vz by rw [hVz]; exact put6_below AV.zero (HL6.out.trans HLV.out) (Nat.le_refl _))
              have HWZ := hide_ hVz.symm
              unfold put6 AV.zero at HWZ
              clear hVz
              go_wp2_with (first | rw [HVV.out] | rw [HWZ.out])
              exact act_ret rfl rfl rfl HP.out ⟨by rw [HN.out]; rfl, HLVz.out⟩
        · obtain rfl : i = Pt.length := by omega
          have hnx := fun ty => Lib.run_next_end_at (P := Tryz.prog) wr it ⟨Pt.toArray⟩ Pt.length ty HI.out (by show ¬ Pt.length < Pt.toArray.size; simp)
          have hpa : putAll X0 Pt ws.tail = some x := by rw [HPA.out, List.drop_length]; rfl
          have HAX := hide_ (show actF l = if lineF x = some l then some x else none by rw [HAC.out, hpa])
          have HOK := hide_ (show x.Ok from ⟨by rw [HKX.out]; omega, HSM.out.a, HSM.out.b, HSM.out.n, by have := HSM.out.key; omega, by have := HSM.out.val; omega⟩)
          obtain ⟨⟨o0, o1, o2, o3, o4, o5⟩, _⟩ := six_cells HD.out
          have HRL := hide_ (later_row HL.out HR6.out)
          clear hpa hlt hi
          rcases hlf : lineF x with _ | t
          · have HLN := hide_ (show Calls Tryz.prog 17 #[x.val6] wr fun e w' => e = .returned (.tuple #[.string ⟨#[]⟩, .int .i64 1]) ∧ Later wr w' by
              have h := line_any (HE.out.later (HL6.out.trans HL.out)) x HOK.out
              unfold LinePost at h; rw [hlf] at h; exact h)
            have HN := hide_ (show actF l = none by rw [HAX.out, hlf]; rfl)
            clear hlf
            go_wp2_with fail
            refine HLN.out.mono ?_; rintro e w8 ⟨rfl, hl8⟩
            have HR8 := hide_ (later_row hl8 HRL.out)
            have HL8 := hide_ ((HL6.out.trans HL.out).trans hl8)
            clear hl8 hnx o0 o1 o2 o3 o4 o5
            obtain ⟨⟨r0, r1, r2, r3, r4, r5⟩, f0, f1, f2, f3, f4, f5⟩ := six_cells HR8.out
            simp only [AV.zero] at r0 r1 r2 r3 r4 r5
            obtain ⟨Vz, hVz⟩ : ∃ Vz, Vz = put6 w8 w.heap.size AV.zero := ⟨_, rfl⟩
            have HP := hide_ (show Vz.heap[w.heap.size]? = some (.cells (AV.zero).row 40 (0, 0)) by rw [hVz]; exact put6_row AV.zero HR8.out)
            have HLVz := hide_ (show Later w Vz by rw [hVz]; exact put6_below AV.zero HL8.out (Nat.le_refl _))
            have HWW := hide_ hVz.symm
            unfold put6 AV.zero at HWW
            clear hVz
            go_wp2_with (rw [HWW.out])
            exact act_ret rfl rfl rfl HP.out ⟨by rw [HN.out]; rfl, HLVz.out⟩
          · have HLN := hide_ (show Calls Tryz.prog 17 #[x.val6] wr fun e w' => e = .returned (.tuple #[.string ⟨t.toArray⟩, .int .i64 0]) ∧ Later wr w' by
              have h := line_any (HE.out.later (HL6.out.trans HL.out)) x HOK.out
              unfold LinePost at h; rw [hlf] at h; exact h)
            by_cases htl : t = l
            · have HN := hide_ (show actF l = some x by rw [HAX.out, hlf, htl, if_pos rfl])
              subst htl
              clear hlf
              go_wp2_with fail
              refine HLN.out.mono ?_; rintro e w8 ⟨rfl, hl8⟩
              have HR8 := hide_ (later_row hl8 HRL.out)
              have HD8 := hide_ (later_row hl8 HD.out)
              have HL8 := hide_ ((HL6.out.trans HL.out).trans hl8)
              clear hl8 hnx o0 o1 o2 o3 o4 o5
              obtain ⟨⟨o0, o1, o2, o3, o4, o5⟩, _⟩ := six_cells HD8.out
              obtain ⟨⟨r0, r1, r2, r3, r4, r5⟩, f0, f1, f2, f3, f4, f5⟩ := six_cells HR8.out
              simp only [AV.zero] at r0 r1 r2 r3 r4 r5
              obtain ⟨Vz, hVz⟩ : ∃ Vz, Vz = put6 w8 w.heap.size x := ⟨_, rfl⟩
              have HP := hide_ (show Vz.heap[w.heap.size]? = some (.cells (x).row 40 (0, 0)) by rw [hVz]; exact put6_row x HR8.out)
              have HLVz := hide_ (show Later w Vz by rw [hVz]; exact put6_below x HL8.out (Nat.le_refl _))
              have HWW := hide_ hVz.symm
              unfold put6 at HWW
              clear hVz
              go_wp2_with (rw [HWW.out])
              exact act_ret rfl rfl rfl HP.out ⟨by rw [HN.out]; rfl, HLVz.out⟩
            · have HN := hide_ (show actF l = none by rw [HAX.out, hlf, if_neg (fun e => htl (by injection e))])
              have hsl : (t == l) = false := beq_false_of_ne htl
              clear hlf
              go_wp2_with fail
              refine HLN.out.mono ?_; rintro e w8 ⟨rfl, hl8⟩
              have HR8 := hide_ (later_row hl8 HRL.out)
              have HL8 := hide_ ((HL6.out.trans HL.out).trans hl8)
              clear hl8 hnx o0 o1 o2 o3 o4 o5
              obtain ⟨⟨r0, r1, r2, r3, r4, r5⟩, f0, f1, f2, f3, f4, f5⟩ := six_cells HR8.out
              simp only [AV.zero] at r0 r1 r2 r3 r4 r5
              obtain ⟨Vz, hVz⟩ : ∃ Vz, Vz = put6 w8 w.heap.size AV.zero := ⟨_, rfl⟩
              have HP := hide_ (show Vz.heap[w.heap.size]? = some (.cells (AV.zero).row 40 (0, 0)) by rw [hVz]; exact put6_row AV.zero HR8.out)
              have HLVz := hide_ (show Later w Vz by rw [hVz]; exact put6_below AV.zero HL8.out (Nat.le_refl _))
              have HWW := hide_ hVz.symm
              unfold put6 AV.zero at HWW
              clear hVz
              go_wp2_with (rw [HWW.out])
              exact act_ret rfl rfl rfl HP.out ⟨by rw [HN.out]; rfl, HLVz.out⟩
    · have HN := hide_ (show actF l = none by rw [HACT.out, if_neg hwn])
      obtain ⟨⟨r0, r1, r2, r3, r4, r5⟩, f0, f1, f2, f3, f4, f5⟩ := six_cells HR6.out
      simp only [AV.zero] at r0 r1 r2 r3 r4 r5
      obtain ⟨W7, hW7⟩ : ∃ W7, W7 = put6 w6 w.heap.size AV.zero := ⟨_, rfl⟩
      have HP := hide_ (show W7.heap[w.heap.size]? = some (.cells (AV.zero).row 40 (0, 0)) by rw [hW7]; exact put6_row AV.zero HR6.out)
      have HLW7 := hide_ (show Later w W7 by rw [hW7]; exact put6_below AV.zero HL6.out (Nat.le_refl _))
      have HWW := hide_ hW7.symm
      unfold put6 AV.zero at HWW
      clear hW7
      go_wp2_with (rw [HWW.out])
      exact act_ret rfl rfl rfl HP.out ⟨by rw [HN.out]; rfl, HLW7.out⟩

end Go.Proofs.YtjkopohmcabfjaaGreatDoor
