/-
  The document's line of an act.
-/
import Derived.Test.YtapiglfbkncahaaDoorTActC
import Derived.Test.YtapiglfbkncahaaDoorTNum
import Derived.Test.YtapiglfbkncahaaDoorTLQuote
import Derived.Test.YtapiglfbkncahaaDoorSplit
namespace Go.Proofs.YtapiglfbkncahaaDoor
open Go.RowKit
set_option linter.unusedVariables false
set_option linter.unusedSimpArgs false
def LLPost (x : AV) (w : World) (e : Ending) (w' : World) : Prop := (∃ s b, e = .returned (.tuple #[strV s, .bool b]) ∧ (b = true → lineF x = some s) ∧ (b = false → lineF x = none)) ∧ Later w w'
theorem part_nodup {k : Nat} (h1 : 1 ≤ k) (h2 : k ≤ 16) : (partT.getD k []).Nodup := by
  have key : ∀ k : Fin 17, (partT.getD k.val []).Nodup := by decide +kernel
  exact key ⟨k, by omega⟩
theorem word_at {k : Nat} (h2 : k ≤ 16) : (wordT.map strV)[k]? = some (strV (wordT.getD k [])) := by
  have hl : k < wordT.length := by show k < 17; omega
  rw [List.getElem?_map, List.getElem?_eq_getElem hl, List.getD_eq_getElem?_getD, List.getElem?_eq_getElem hl]; rfl
theorem part_at {k : Nat} (h2 : k ≤ 16) : (partT.map strV)[k]? = some (strV (partT.getD k [])) := by
  have hl : k < partT.length := by show k < 17; omega
  rw [List.getElem?_map, List.getElem?_eq_getElem hl, List.getD_eq_getElem?_getD, List.getElem?_eq_getElem hl]; rfl
theorem lessP_kind (x : AV) (c : UInt8) : lessP { x with kind := 0 } c = { lessP x c with kind := 0 } := by
  unfold lessP
  split
  · rfl
  · split
    · rfl
    · split
      · rfl
      · split <;> rfl
theorem lessF_kind (x : AV) (P : List UInt8) : P.foldl lessP { x with kind := 0 } = { P.foldl lessP x with kind := 0 } := by
  induction P generalizing x with
  | nil => rfl
  | cons c r ih => rw [List.foldl_cons, List.foldl_cons, lessP_kind, ih]
theorem lessP_enc (x : AV) (p c : UInt8) (hp : p = 97 ∨ p = 98 ∨ p = 110 ∨ p = 107 ∨ p = 118) (hc : c = 97 ∨ c = 98 ∨ c = 110 ∨ c = 107 ∨ c = 118) (h : p ≠ c) : encP (lessP x p) c = encP x c := by
  rcases hp with rfl | rfl | rfl | rfl | rfl <;> rcases hc with rfl | rfl | rfl | rfl | rfl <;> first | exact absurd rfl h | rfl
theorem lessF_enc (P : List UInt8) : ∀ (x : AV) (c : UInt8), (∀ p, p ∈ P → p = 97 ∨ p = 98 ∨ p = 110 ∨ p = 107 ∨ p = 118) → (c = 97 ∨ c = 98 ∨ c = 110 ∨ c = 107 ∨ c = 118) → c ∉ P → encP (P.foldl lessP x) c = encP x c := by
  induction P with
  | nil => intros; rfl
  | cons p r ih =>
    intro x c hp hc hn
    rw [List.foldl_cons, ih _ _ (fun q hq => hp q (List.mem_cons_of_mem _ hq)) hc (fun h => hn (List.mem_cons_of_mem _ h))]
    exact lessP_enc x p c (hp p List.mem_cons_self) hc (fun e => hn (by rw [e]; exact List.mem_cons_self))
theorem nodup_take {P : List UInt8} (h : P.Nodup) {i : Nat} {c : UInt8} (hc : P[i]? = some c) : c ∉ P.take i := fun hm => by
  obtain ⟨hi, e⟩ := List.getElem?_eq_some_iff.1 hc
  obtain ⟨j, hj, e2⟩ := List.mem_iff_getElem.1 hm
  rw [List.getElem_take] at e2
  rw [List.length_take] at hj
  exact List.pairwise_iff_getElem.1 h j i (by omega) hi (by omega) (by rw [e2, e])
theorem lessP_small {x : AV} {m : Nat} (h : x.Small m) (c : UInt8) : (lessP x c).Small m := by
  unfold lessP
  split
  · exact ⟨by simp, h.b, h.n, h.key, h.val⟩
  · split
    · exact ⟨h.a, by simp, h.n, h.key, h.val⟩
    · split
      · exact ⟨h.a, h.b, by simp, h.key, h.val⟩
      · split
        · exact ⟨h.a, h.b, h.n, Nat.zero_le _, h.val⟩
        · exact ⟨h.a, h.b, h.n, h.key, Nat.zero_le _⟩
theorem lessF_small {m : Nat} (P : List UInt8) : ∀ {x : AV}, x.Small m → (P.foldl lessP x).Small m := by
  induction P with
  | nil => exact fun h => h
  | cons c r ih => exact fun h => ih (lessP_small h c)
theorem joinW_snoc (L : List (List UInt8)) (y : List UInt8) (x : List UInt8) : joinW (x :: L ++ [y]) = joinW (x :: L) ++ 32 :: y := by
  induction L generalizing x with
  | nil => rfl
  | cons z r ih => 
    have := ih z
    show x ++ 32 :: joinW (z :: r ++ [y]) = (x ++ 32 :: joinW (z :: r)) ++ 32 :: y
    rw [this]; simp
theorem eql_act (x y : AV) (W : World) : (binOp .eql 23 x.val6 y.val6).run Tryd.prog W = .ok (.bool (decide (x = y))) W := by
  have hS : Tryd.prog.underlying 23 = some (.struct (Tryd.prog.fieldsOf 23)) := by kernel_rfl
  have hp : Tryd.prog.stoodInHeld 23 = false := by kernel_rfl
  unfold AV.val6
  rw [run_eql_struct, show (10000 : Nat) = 9999 + 1 from rfl, run_equalIn_agg W 9999 23 _ _ hS hp]
  simp only [Program.fieldsOf, Tryd.underlying23]
  go_simp
  try simp only [ba_inj]
  obtain ⟨x1, x2, x3, x4, x5, x6⟩ := x
  obtain ⟨y1, y2, y3, y4, y5, y6⟩ := y
  by_cases h1 : x1 = y1 <;> by_cases h2 : x2 = y2 <;> by_cases h3 : x3 = y3 <;> by_cases h4 : x4 = y4 <;> by_cases h5 : x5 = y5 <;> by_cases h6 : x6 = y6 <;> simp [h1, h2, h3, h4, h5, h6]
def AV.box (x : AV) : Obj := .cells #[.int .i64 x.kind, .int .i64 x.a, .int .i64 x.b, .int .i64 x.n, .string ⟨x.key.toArray⟩, .string ⟨x.val.toArray⟩] 23
def wordO : Obj := .cells #[.string ⟨#[]⟩, .string ⟨#[115, 101, 110, 100]⟩, .string ⟨#[100, 114, 111, 112]⟩, .string ⟨#[116, 119, 105, 110]⟩, .string ⟨#[115, 112, 111, 105, 108]⟩, .string ⟨#[116, 105, 99, 107]⟩, .string ⟨#[99, 114, 97, 115, 104]⟩, .string ⟨#[115, 116, 97, 114, 116]⟩, .string ⟨#[98, 101, 103, 105, 110]⟩, .string ⟨#[103, 101, 116]⟩, .string ⟨#[108, 105, 115, 116]⟩, .string ⟨#[112, 117, 116]⟩, .string ⟨#[99, 108, 101, 97, 114]⟩, .string ⟨#[119, 105, 112, 101]⟩, .string ⟨#[101, 110, 100]⟩, .string ⟨#[100, 114, 97, 105, 110]⟩, .string ⟨#[102, 117, 115, 101]⟩] 9
def partO : Obj := .cells #[.string ⟨#[]⟩, .string ⟨#[97]⟩, .string ⟨#[97]⟩, .string ⟨#[97]⟩, .string ⟨#[97, 98, 110]⟩, .string ⟨#[97]⟩, .string ⟨#[97]⟩, .string ⟨#[97, 98, 110]⟩, .string ⟨#[97]⟩, .string ⟨#[97, 107]⟩, .string ⟨#[97, 107, 118]⟩, .string ⟨#[97, 107, 118]⟩, .string ⟨#[97, 107]⟩, .string ⟨#[97, 107, 118]⟩, .string ⟨#[97]⟩, .string ⟨#[110]⟩, .string ⟨#[97, 110]⟩] 9
theorem wordO_eq : wordO = .cells (wordT.map strV).toArray 9 := rfl
theorem partO_eq : partO = .cells (partT.map strV).toArray 9 := rfl
set_option maxHeartbeats 1000000 in
set_option maxRecDepth 100000 in
theorem lline_any {w : World} (x : AV) (hx : x.Ok) : Calls Tryd.prog 8 #[x.val6] w (LLPost x w) := by
  have HX := hide_ hx
  obtain ⟨kd, a, b, n, key, val⟩ := x
  obtain ⟨a1, a2, a3, al⟩ := alloc3_at w (AV.box ⟨kd, a, b, n, key, val⟩) wordO partO
  have HL0 := hide_ al
  have hkb := hx.kind
  simp only at hkb
  have HA1 := hide_ a1; have HA2 := hide_ a2; have HA3 := hide_ a3
  have m0 := cell_of_row _ _ 0 _ _ (0, 0) a1
  have HW : Hid (((w.alloc (AV.box ⟨kd, a, b, n, key, val⟩)).alloc wordO).alloc partO = ((w.alloc (AV.box ⟨kd, a, b, n, key, val⟩)).alloc wordO).alloc partO) := hide_ rfl
  obtain ⟨W3, hW3⟩ : ∃ W3, W3 = ((w.alloc (AV.box ⟨kd, a, b, n, key, val⟩)).alloc wordO).alloc partO := ⟨_, rfl⟩
  rw [← hW3] at HA1 HA2 HA3 HL0
  rw [wordO_eq] at HA2
  rw [partO_eq] at HA3
  have HW3 := hide_ hW3.symm
  unfold AV.box wordO partO at HW3 m0
  clear hx al a1 a2 a3 HW hW3
  unfold AV.val6
  by_cases hk1 : kd < 1
  · have HN := hide_ (show lineF ⟨kd, a, b, n, key, val⟩ = none by unfold lineF; rw [if_neg (by simp only; omega)])
    go_enter Tryd.func8, Tryd.ntmps8
    go_wp2_with fail
    rw [HW3.out]
    go_ret2
    exact ⟨⟨[], false, rfl, (fun h => nomatch h), fun _ => HN.out⟩, HL0.out⟩
  · by_cases hk2 : 16 < kd
    · have HN := hide_ (show lineF ⟨kd, a, b, n, key, val⟩ = none by unfold lineF; rw [if_neg (by simp only; omega)])
      have e1 : decide (kd < 1) = false := decide_eq_false (by omega)
      have e2 : decide (16 < kd) = true := decide_eq_true hk2
      go_enter Tryd.func8, Tryd.ntmps8
      go_wp2_with fail
      rw [HW3.out]
      go_ret2
      exact ⟨⟨[], false, rfl, (fun h => nomatch h), fun _ => HN.out⟩, HL0.out⟩
    · obtain ⟨k, rfl⟩ : ∃ k : Nat, kd = (k : Int) := ⟨kd.toNat, by omega⟩
      have k1 : 1 ≤ k := by omega
      have k2 : k ≤ 16 := by omega
      have k3 : (0 : Int) ≤ (k : Int) := by omega
      have k4 : (k : Int) < 17 := by omega
      have k5 : (k : Int) ≤ 16 := by omega
      have e1 : decide ((k : Int) < 1) = false := decide_eq_false (by omega)
      have e2 : decide ((16 : Int) < (k : Int)) = false := decide_eq_false (by omega)
      obtain ⟨Wd, hWd⟩ : ∃ Wd, Wd = wordT.getD k [] := ⟨_, rfl⟩
      obtain ⟨Pt, hPt⟩ : ∃ Pt, Pt = partT.getD k [] := ⟨_, rfl⟩
      have c1 : W3.cell? ⟨w.heap.size + 1, k, none⟩ = some (.string ⟨Wd.toArray⟩) := by rw [cell_of_row _ _ k _ _ (0, 0) HA2.out, List.getElem?_toArray, word_at k2, ← hWd]; rfl
      have c2 : W3.cell? ⟨w.heap.size + 1 + 1, k, none⟩ = some (.string ⟨Pt.toArray⟩) := by rw [cell_of_row _ _ k _ _ (0, 0) HA3.out, List.getElem?_toArray, part_at k2, ← hPt]; rfl
      rw [← HW3.out] at c1 c2
      have HWD := hide_ hWd; have HPT := hide_ hPt
      clear hWd hPt
      go_enter Tryd.func8, Tryd.ntmps8
      go_wp2_with fail
      rw [HW3.out]
      have HND := hide_ (show Pt.Nodup by rw [HPT.out]; exact part_nodup k1 k2)
      have HPART := hide_ (show ∀ c, c ∈ Pt → c = 97 ∨ c = 98 ∨ c = 110 ∨ c = 107 ∨ c = 118 by rw [HPT.out]; exact part_of k1 k2)
      have hpl : Pt.length ≤ 3 := by rw [HPT.out]; exact (part_len k1 k2).1
      have hwl : Wd.length ≤ 16 := by rw [HWD.out]; exact (part_len k1 k2).2
      obtain ⟨X, hX⟩ : ∃ X : AV, X = ⟨k, a, b, n, key, val⟩ := ⟨_, rfl⟩
      have HXX := hide_ hX
      have HXO := hide_ (show X.Ok by rw [hX]; exact HX.out)
      have HA0 := hide_ (show W3.heap[w.heap.size]? = some (.cells ((Pt.take 0).foldl lessP X).row 23 (0, 0)) by rw [hX]; exact HA1.out)
      clear hX c1 c2 e1 e2 m0 HW3 HX
      go_loopw [6, 8] (fun s6 s8 wr => ∃ (i : Nat) (D : List UInt8), i ≤ Pt.length ∧ s6 = .string ⟨D.toArray⟩ ∧ s8 = .int .i64 i ∧ Hid (D = joinW (Wd :: (Pt.take i).map (encP X))) ∧ Hid (wr.heap[w.heap.size]? = some (.cells ((Pt.take i).foldl lessP X).row 23 (0, 0))) ∧ Hid (Later w wr)) (fun _ s8 _ => Pt.length - (intOf s8).toNat)
      case atStart => exact ⟨0, Wd, by omega, rfl, rfl, hide_ rfl, HA0, HL0⟩
      case round =>
        obtain ⟨i, D, hi, rfl, rfl, HD, HA, HL⟩ := hrel
        have hDl : D.length ≤ 140737488355328 - 4398046511106 := by
          have h := joinW_len (M := 4398046511105) (Wd :: (Pt.take i).map (encP X)) (fun y hy => by
            rcases List.mem_cons.1 hy with rfl | hy
            · omega
            · obtain ⟨p, _, rfl⟩ := List.mem_map.1 hy; exact encP_len X HXO.out p)
          simp only [List.length_cons, List.length_map, List.length_take] at h
          rw [← HD.out] at h
          omega
        obtain ⟨Y, hY⟩ : ∃ Y, Y = (Pt.take i).foldl lessP X := ⟨_, rfl⟩
        have HAY := hide_ (show wr.heap[w.heap.size]? = some (.cells Y.row 23 (0, 0)) by rw [hY]; exact HA.out)
        have HY := hide_ hY
        obtain ⟨⟨o0, o1, o2, o3, o4, o5⟩, p0, p1, p2, p3, p4, p5⟩ := six_cells HAY.out
        clear hY
        by_cases hlt : i < Pt.length
        · obtain ⟨c, hc⟩ : ∃ c, Pt[i]? = some c := ⟨_, List.getElem?_eq_getElem hlt⟩
          have hib : (⟨Pt.toArray⟩ : ByteArray)[i]'(by show i < Pt.toArray.size; simpa using hlt) = c := by
            have h := (List.getElem?_eq_some_iff.1 hc).2
            rw [← h]; rfl
          have hpc := HPART.out c (List.mem_of_getElem? hc)
          have HEY := hide_ (show encP Y c = encP X c by rw [HY.out]; exact lessF_enc _ X c (fun p hp => HPART.out p (List.mem_of_mem_take hp)) hpc (nodup_take HND.out hc))
          have HTK := hide_ (take_snoc hc)
          have hel := encP_len X HXO.out c
          have HSM := hide_ (show Y.Small 1099511627776 by rw [HY.out]; exact lessF_small _ ⟨HXO.out.a, HXO.out.b, HXO.out.n, HXO.out.key, HXO.out.val⟩)
          obtain ⟨E, hE⟩ : ∃ E, E = encP X c := ⟨_, rfl⟩
          rw [← hE] at hel
          have HEE := hide_ (show E = encP Y c by rw [hE, HEY.out])
          have HD2 := hide_ (show D ++ 32 :: E = joinW (Wd :: (Pt.take (i + 1)).map (encP X)) by rw [HTK.out, List.map_append, HD.out, hE]; exact (joinW_snoc _ _ _).symm)
          have hd1 : (D.length : Int) ≤ 136339441844222 := by omega
          have hd2 : (E.length : Int) ≤ 4398046511105 := by omega
          have hi1 : i + 1 ≤ Pt.length := hlt
          clear hc hE
          rcases hpc with rfl | rfl | rfl | rfl | rfl
          · have HCA := hide_ (show Calls Tryd.prog 12 #[.int .i64 Y.a] wr fun e w' => e = .returned (.string ⟨E.toArray⟩) ∧ Later wr w' from (number_any Y.a HSM.out.a.1 HSM.out.a.2).mono fun e w' h => ⟨by rw [h.1, HEE.out]; rfl, h.2⟩)
            go_wp2_with fail
            refine HCA.out.mono ?_; rintro e w8 ⟨rfl, hl8⟩
            have HD8 := hide_ (later_row hl8 HAY.out)
            obtain ⟨⟨r0, r1, r2, r3, r4, r5⟩, f0, f1, f2, f3, f4, f5⟩ := six_cells HD8.out
            obtain ⟨V, hV⟩ : ∃ V, V = w8.setCell ⟨w.heap.size, 1, none⟩ (.int .i64 0) := ⟨_, rfl⟩
            have HDV := hide_ (show V.heap[w.heap.size]? = some (.cells ((Pt.take (i + 1)).foldl lessP X).row 23 (0, 0)) by
              rw [hV, HTK.out, List.foldl_append, ← HY.out]; exact heap_setCell_same w8 w.heap.size 1 _ _ (.int .i64 0) HD8.out)
            have HLV := hide_ (show Later w V by rw [hV]; exact (HL.out.trans hl8).setCell (p := ⟨w.heap.size, 1, none⟩) (Nat.le_refl _) _)
            have HVV := hide_ hV.symm
            clear hV hl8 o0 o1 o2 o3 o4 o5 p0 p1 p2 p3 p4 p5
            go_wp2_with (rw [HVV.out])
            go_roundw
            case rel => exact ⟨i + 1, D ++ 32 :: E, hi1, by rw [show (⟨D.toArray⟩ : ByteArray) ++ ⟨#[32]⟩ ++ ⟨E.toArray⟩ = ⟨(D ++ 32 :: E).toArray⟩ from ba_ext (by simp)], by go_num, HD2, HDV, HLV⟩
            case measure => simp only [intOf]; omega
          · have HCA := hide_ (show Calls Tryd.prog 12 #[.int .i64 Y.b] wr fun e w' => e = .returned (.string ⟨E.toArray⟩) ∧ Later wr w' from (number_any Y.b HSM.out.b.1 HSM.out.b.2).mono fun e w' h => ⟨by rw [h.1, HEE.out]; rfl, h.2⟩)
            go_wp2_with fail
            refine HCA.out.mono ?_; rintro e w8 ⟨rfl, hl8⟩
            have HD8 := hide_ (later_row hl8 HAY.out)
            obtain ⟨⟨r0, r1, r2, r3, r4, r5⟩, f0, f1, f2, f3, f4, f5⟩ := six_cells HD8.out
            obtain ⟨V, hV⟩ : ∃ V, V = w8.setCell ⟨w.heap.size, 2, none⟩ (.int .i64 0) := ⟨_, rfl⟩
            have HDV := hide_ (show V.heap[w.heap.size]? = some (.cells ((Pt.take (i + 1)).foldl lessP X).row 23 (0, 0)) by
              rw [hV, HTK.out, List.foldl_append, ← HY.out]; exact heap_setCell_same w8 w.heap.size 2 _ _ (.int .i64 0) HD8.out)
            have HLV := hide_ (show Later w V by rw [hV]; exact (HL.out.trans hl8).setCell (p := ⟨w.heap.size, 2, none⟩) (Nat.le_refl _) _)
            have HVV := hide_ hV.symm
            clear hV hl8 o0 o1 o2 o3 o4 o5 p0 p1 p2 p3 p4 p5
            go_wp2_with (rw [HVV.out])
            go_roundw
            case rel => exact ⟨i + 1, D ++ 32 :: E, hi1, by rw [show (⟨D.toArray⟩ : ByteArray) ++ ⟨#[32]⟩ ++ ⟨E.toArray⟩ = ⟨(D ++ 32 :: E).toArray⟩ from ba_ext (by simp)], by go_num, HD2, HDV, HLV⟩
            case measure => simp only [intOf]; omega
          · have HCA := hide_ (show Calls Tryd.prog 12 #[.int .i64 Y.n] wr fun e w' => e = .returned (.string ⟨E.toArray⟩) ∧ Later wr w' from (number_any Y.n HSM.out.n.1 HSM.out.n.2).mono fun e w' h => ⟨by rw [h.1, HEE.out]; rfl, h.2⟩)
            go_wp2_with fail
            refine HCA.out.mono ?_; rintro e w8 ⟨rfl, hl8⟩
            have HD8 := hide_ (later_row hl8 HAY.out)
            obtain ⟨⟨r0, r1, r2, r3, r4, r5⟩, f0, f1, f2, f3, f4, f5⟩ := six_cells HD8.out
            obtain ⟨V, hV⟩ : ∃ V, V = w8.setCell ⟨w.heap.size, 3, none⟩ (.int .i64 0) := ⟨_, rfl⟩
            have HDV := hide_ (show V.heap[w.heap.size]? = some (.cells ((Pt.take (i + 1)).foldl lessP X).row 23 (0, 0)) by
              rw [hV, HTK.out, List.foldl_append, ← HY.out]; exact heap_setCell_same w8 w.heap.size 3 _ _ (.int .i64 0) HD8.out)
            have HLV := hide_ (show Later w V by rw [hV]; exact (HL.out.trans hl8).setCell (p := ⟨w.heap.size, 3, none⟩) (Nat.le_refl _) _)
            have HVV := hide_ hV.symm
            clear hV hl8 o0 o1 o2 o3 o4 o5 p0 p1 p2 p3 p4 p5
            go_wp2_with (rw [HVV.out])
            go_roundw
            case rel => exact ⟨i + 1, D ++ 32 :: E, hi1, by rw [show (⟨D.toArray⟩ : ByteArray) ++ ⟨#[32]⟩ ++ ⟨E.toArray⟩ = ⟨(D ++ 32 :: E).toArray⟩ from ba_ext (by simp)], by go_num, HD2, HDV, HLV⟩
            case measure => simp only [intOf]; omega
          · have HCA := hide_ (show Calls Tryd.prog 19 #[.string ⟨Y.key.toArray⟩] wr fun e w' => e = .returned (.string ⟨E.toArray⟩) ∧ Later wr w' from (lquote_any Y.key HSM.out.key).mono fun e w' h => ⟨by rw [h.1, HEE.out]; rfl, h.2⟩)
            go_wp2_with fail
            refine HCA.out.mono ?_; rintro e w8 ⟨rfl, hl8⟩
            have HD8 := hide_ (later_row hl8 HAY.out)
            obtain ⟨⟨r0, r1, r2, r3, r4, r5⟩, f0, f1, f2, f3, f4, f5⟩ := six_cells HD8.out
            obtain ⟨V, hV⟩ : ∃ V, V = w8.setCell ⟨w.heap.size, 4, none⟩ (.string ⟨#[]⟩) := ⟨_, rfl⟩
            have HDV := hide_ (show V.heap[w.heap.size]? = some (.cells ((Pt.take (i + 1)).foldl lessP X).row 23 (0, 0)) by
              rw [hV, HTK.out, List.foldl_append, ← HY.out]; exact heap_setCell_same w8 w.heap.size 4 _ _ (.string ⟨#[]⟩) HD8.out)
            have HLV := hide_ (show Later w V by rw [hV]; exact (HL.out.trans hl8).setCell (p := ⟨w.heap.size, 4, none⟩) (Nat.le_refl _) _)
            have HVV := hide_ hV.symm
            clear hV hl8 o0 o1 o2 o3 o4 o5 p0 p1 p2 p3 p4 p5
            go_wp2_with (rw [HVV.out])
            go_roundw
            case rel => exact ⟨i + 1, D ++ 32 :: E, hi1, by rw [show (⟨D.toArray⟩ : ByteArray) ++ ⟨#[32]⟩ ++ ⟨E.toArray⟩ = ⟨(D ++ 32 :: E).toArray⟩ from ba_ext (by simp)], by go_num, HD2, HDV, HLV⟩
            case measure => simp only [intOf]; omega
          · have HCA := hide_ (show Calls Tryd.prog 19 #[.string ⟨Y.val.toArray⟩] wr fun e w' => e = .returned (.string ⟨E.toArray⟩) ∧ Later wr w' from (lquote_any Y.val HSM.out.val).mono fun e w' h => ⟨by rw [h.1, HEE.out]; rfl, h.2⟩)
            go_wp2_with fail
            refine HCA.out.mono ?_; rintro e w8 ⟨rfl, hl8⟩
            have HD8 := hide_ (later_row hl8 HAY.out)
            obtain ⟨⟨r0, r1, r2, r3, r4, r5⟩, f0, f1, f2, f3, f4, f5⟩ := six_cells HD8.out
            obtain ⟨V, hV⟩ : ∃ V, V = w8.setCell ⟨w.heap.size, 5, none⟩ (.string ⟨#[]⟩) := ⟨_, rfl⟩
            have HDV := hide_ (show V.heap[w.heap.size]? = some (.cells ((Pt.take (i + 1)).foldl lessP X).row 23 (0, 0)) by
              rw [hV, HTK.out, List.foldl_append, ← HY.out]; exact heap_setCell_same w8 w.heap.size 5 _ _ (.string ⟨#[]⟩) HD8.out)
            have HLV := hide_ (show Later w V by rw [hV]; exact (HL.out.trans hl8).setCell (p := ⟨w.heap.size, 5, none⟩) (Nat.le_refl _) _)
            have HVV := hide_ hV.symm
            clear hV hl8 o0 o1 o2 o3 o4 o5 p0 p1 p2 p3 p4 p5
            go_wp2_with (rw [HVV.out])
            go_roundw
            case rel => exact ⟨i + 1, D ++ 32 :: E, hi1, by rw [show (⟨D.toArray⟩ : ByteArray) ++ ⟨#[32]⟩ ++ ⟨E.toArray⟩ = ⟨(D ++ 32 :: E).toArray⟩ from ba_ext (by simp)], by go_num, HD2, HDV, HLV⟩
            case measure => simp only [intOf]; omega
        · obtain rfl : i = Pt.length := by omega
          obtain ⟨V, hV⟩ : ∃ V, V = wr.setCell ⟨w.heap.size, 0, none⟩ (.int .i64 0) := ⟨_, rfl⟩
          obtain ⟨Z, hZ⟩ : ∃ Z : AV, Z = { Y with kind := 0 } := ⟨_, rfl⟩
          have HDV := hide_ (show V.heap[w.heap.size]? = some (.cells Z.row 23 (0, 0)) by rw [hV, hZ]; exact heap_setCell_same wr w.heap.size 0 _ _ (.int .i64 0) HAY.out)
          have HLV := hide_ (show Later w V by rw [hV]; exact HL.out.setCell (p := ⟨w.heap.size, 0, none⟩) (Nat.le_refl _) _)
          have HZR := hide_ (show Z = restF X k by rw [hZ, HY.out, List.take_length]; unfold restF; rw [lessF_kind, HPT.out])
          have HF := hide_ (show lineF X = if Z = AV.zero then some D else none by
            unfold lineF
            rw [show X.kind = (k : Int) by rw [HXX.out], if_pos (by omega), Int.toNat_natCast, ← HZR.out]; unfold wordsF; rw [← HWD.out, ← HPT.out, HD.out, List.take_length])
          have HVV := hide_ hV.symm
          obtain ⟨⟨r0, r1, r2, r3, r4, r5⟩, _⟩ := six_cells HDV.out
          have r0 := later_drew_cell r0; have r1 := later_drew_cell r1; have r2 := later_drew_cell r2; have r3 := later_drew_cell r3; have r4 := later_drew_cell r4; have r5 := later_drew_cell r5
          have hne : ∀ W : World, (binOp .eql 23 (.agg #[.int .i64 Z.kind, .int .i64 Z.a, .int .i64 Z.b, .int .i64 Z.n, .string ⟨Z.key.toArray⟩, .string ⟨Z.val.toArray⟩]) (.agg #[.int .i64 0, .int .i64 0, .int .i64 0, .int .i64 0, .string ⟨#[]⟩, .string ⟨#[]⟩])).run Tryd.prog W = .ok (.bool (decide (Z = AV.zero))) W := eql_act Z AV.zero
          have hgu := guard_act
          clear hV hZ
          go_wp2_with (rw [HVV.out])
          refine wp_region_k (by kernel_rfl) ?_
          refine wpAnyK_take 0 (v := ?_) rfl (by kernel_rfl) (by kernel_rfl) (by kernel_rfl) (fun _ _ _ h => h) (by rfl) (by intro W hSw; go_simp; with_reducible rfl) ?_; try simp only [Act.put, List.setIfInBounds_toArray, List.set_cons_zero, List.set_cons_succ]
          refine wpAnyK_take 1 (v := ?_) rfl (by kernel_rfl) (by kernel_rfl) (by kernel_rfl) (fun _ _ _ h => h) (by rfl) (by intro W hSw; go_simp; with_reducible rfl) ?_; try simp only [Act.put, List.setIfInBounds_toArray, List.set_cons_zero, List.set_cons_succ]
          refine wpAnyK_take 2 (v := ?_) rfl (by kernel_rfl) (by kernel_rfl) (by kernel_rfl) (fun _ _ _ h => h) (by rfl) (by intro W hSw; go_simp; with_reducible rfl) ?_; try simp only [Act.put, List.setIfInBounds_toArray, List.set_cons_zero, List.set_cons_succ]
          refine wpAnyK_take 3 (v := ?_) rfl (by kernel_rfl) (by kernel_rfl) (by kernel_rfl) (fun _ _ _ h => h) (by rfl) (by intro W hSw; go_simp; with_reducible rfl) ?_; try simp only [Act.put, List.setIfInBounds_toArray, List.set_cons_zero, List.set_cons_succ]
          refine wpAnyK_take 4 (v := ?_) rfl (by kernel_rfl) (by kernel_rfl) (by kernel_rfl) (fun _ _ _ h => h) (by rfl) (by intro W hSw; go_simp; with_reducible rfl) ?_; try simp only [Act.put, List.setIfInBounds_toArray, List.set_cons_zero, List.set_cons_succ]
          refine wpAnyK_take 5 (v := ?_) rfl (by kernel_rfl) (by kernel_rfl) (by kernel_rfl) (fun _ _ _ h => h) (by rfl) (by intro W hSw; go_simp; with_reducible rfl) ?_; try simp only [Act.put, List.setIfInBounds_toArray, List.set_cons_zero, List.set_cons_succ]
          refine wpAnyK_done (by kernel_rfl) ?_ _
          go_wp2_with fail
          go_ret2
          refine ⟨⟨D, decide (Z = AV.zero), rfl, fun h => ?_, fun h => ?_⟩, below_drewN HLV.out 1⟩
          · rw [← HXX.out, HF.out, if_pos (of_decide_eq_true h)]
          · rw [← HXX.out, HF.out, if_neg (of_decide_eq_false h)]

end Go.Proofs.YtapiglfbkncahaaDoor
