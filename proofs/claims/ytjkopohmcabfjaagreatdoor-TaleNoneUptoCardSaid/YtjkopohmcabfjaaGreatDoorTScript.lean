/-
  tale.Script: a setting and acts as a text.
-/
import Derived.Test.YtjkopohmcabfjaaGreatDoorTSound
import Derived.Test.YtjkopohmcabfjaaGreatDoorTActC
import Derived.Test.YtjkopohmcabfjaaGreatDoorSplit
import Derived.Test.YtjkopohmcabfjaaGreatDoorRec
namespace Go.Proofs.YtjkopohmcabfjaaGreatDoor
open Go.RowKit
set_option linter.unusedVariables false
set_option linter.unusedSimpArgs false
def arow (L : List AV) : List Value := L.flatMap AV.cells
theorem acells_len (x : AV) : x.cells.length = 6 := rfl
theorem acells_one (x : AV) : ∀ u ∈ x.cells, u.oneCell' = true := by
  intro u hu
  simp only [AV.cells, List.mem_cons, List.not_mem_nil, or_false] at hu
  rcases hu with rfl | rfl | rfl | rfl | rfl | rfl <;> rfl
theorem arow_len (L : List AV) : (arow L).length = L.length * 6 := rec_len acells_len L
theorem arow_one (L : List AV) : ∀ u ∈ arow L, u.oneCell' = true := rec_one acells_one L
theorem arow_at {L : List AV} {i : Nat} {x : AV} (h : L[i]? = some x) (j : Nat) (hj : j < 6) : (arow L)[i * 6 + j]? = x.cells[j]? := rec_at acells_len h j hj
theorem Rd.act {w : World} {A : Option Addr} {n : Nat} {L : List AV} (h : Rd w 6 A n (arow L)) {i : Nat} {x : AV} (hi : L[i]? = some x) :
    ∃ b o, A = some ⟨b, o, none⟩ ∧ w.cell? ⟨b, o + i * 6, none⟩ = some (.int .i64 x.kind) ∧ w.cell? ⟨b, o + i * 6 + 1, none⟩ = some (.int .i64 x.a) ∧ w.cell? ⟨b, o + i * 6 + 2, none⟩ = some (.int .i64 x.b) ∧
      w.cell? ⟨b, o + i * 6 + 3, none⟩ = some (.int .i64 x.n) ∧ w.cell? ⟨b, o + i * 6 + 4, none⟩ = some (.string ⟨x.key.toArray⟩) ∧ w.cell? ⟨b, o + i * 6 + 5, none⟩ = some (.string ⟨x.val.toArray⟩) := by
  have h0 := arow_at hi 0 (by omega); have h1 := arow_at hi 1 (by omega); have h2 := arow_at hi 2 (by omega); have h3 := arow_at hi 3 (by omega); have h4 := arow_at hi 4 (by omega); have h5 := arow_at hi 5 (by omega)
  have hl := (List.getElem?_eq_some_iff.1 (h0.trans (by rfl : x.cells[0]? = some (.int .i64 x.kind)))).1
  obtain ⟨b, o, e, hc⟩ := h.2 (by omega)
  exact ⟨b, o, e, hc _ _ h0, hc _ _ h1, hc _ _ h2, hc _ _ h3, hc _ _ h4, hc _ _ h5⟩
/-- A row of another type is not the builder's. -/
theorem bld_other {w : World} {B b k : Nat} {v : Value} {l : List UInt8} {cs : Array Value} {t : TypeId} {fz : Nat × Nat} (h : Bld w B b v l) (hk : w.heap[k]? = some (.cells cs t fz)) (h1 : t ≠ 5) (h2 : t ≠ 51) :
    v.ownBlock ≠ some k ∧ k ≠ b := by
  obtain ⟨_, ⟨p, _, hb⟩, ho⟩ := h
  constructor
  · intro e
    rcases ho.2 with ⟨rfl, _⟩ | ⟨g, cap, cur, rfl, _, hg, _⟩
    · cases e
    · have : g = k := by injection e
      subst this
      rw [hg] at hk; injection hk with hk; injection hk with _ hk; exact h1 hk.symm
  · rintro rfl
    rw [hb] at hk; injection hk with hk; injection hk with _ hk; exact h2 hk.symm
theorem Wrote.row' {w w' : World} {B b k : Nat} {v v' : Value} {l : List UInt8} {cs : Array Value} {t : TypeId} {fz : Nat × Nat} (hw : Wrote w w' b v v') (h : Bld w B b v l) (hk : w.heap[k]? = some (.cells cs t fz)) (h1 : t ≠ 5) (h2 : t ≠ 51) :
    w'.heap[k]? = some (.cells cs t fz) :=
  (hw.block k (theap_lt hk) (bld_other h hk h1 h2).2 (bld_other h hk h1 h2).1).trans hk
theorem itoa_len21 {n : Int} (h : I64 n) : (Lib.itoa n).length ≤ 21 := Lib.itoa_length_le n h.1 h.2
theorem line_lenM {x : AV} (hx : x.Ok) (hk : x.key.length ≤ 67108864) (hv : x.val.length ≤ 67108864) {l : List UInt8} (h : lineF x = some l) : l.length ≤ 1073741832 := by
  unfold lineF at h
  split at h
  · rename_i hkd
    split at h
    · injection h with h
      have hp := part_len (k := x.kind.toNat) (by omega) (by omega)
      have enc : ∀ p, (encP x p).length ≤ 268435457 := fun p => by
        have h1 := Lib.itoa_length_le x.a hx.a.1 hx.a.2
        have h2 := Lib.itoa_length_le x.b hx.b.1 hx.b.2
        have h3 := Lib.itoa_length_le x.n hx.n.1 hx.n.2
        have h4 := quoteL_len x.key
        have h5 := quoteL_len x.val
        unfold encP
        split
        · omega
        · split
          · omega
          · split
            · omega
            · split <;> omega
      have := joinW_len (M := 268435457) (wordsF x x.kind.toNat) (fun y hy => by
        rcases List.mem_cons.1 hy with rfl | hy
        · omega
        · obtain ⟨p, _, rfl⟩ := List.mem_map.1 hy; exact enc p)
      rw [h] at this
      have e : (wordsF x x.kind.toNat).length = (partT.getD x.kind.toNat []).length + 1 := by simp [wordsF]
      rw [e] at this
      have h4 : ((partT.getD x.kind.toNat []).length + 1) * (268435457 + 1) ≤ 4 * (268435457 + 1) := Nat.mul_le_mul_right _ (by omega)
      omega
    · cases h
  · cases h
structure AV.Mid (x : AV) : Prop where
  ok : x.Ok
  key : x.key.length ≤ 67108864
  val : x.val.length ≤ 67108864
/-- A setting's numbers, one behind the other. -/
def headK (s : SV) (k : Nat) : List UInt8 := yardW ++ ((s.nums.take k).map Lib.itoa).flatMap (32 :: ·)
theorem headK_next {s : SV} {k : Nat} {n : Int} (h : s.nums[k]? = some n) : headK s (k + 1) = headK s k ++ 32 :: Lib.itoa n := by
  unfold headK
  rw [take_snoc h]; simp
theorem headK_end (s : SV) : headK s 6 = headF s := by rw [headF_flat]; rfl
theorem headK_len {s : SV} (hs : s.Ok) : ∀ k, (headK s k).length ≤ 4 + k * 22
  | 0 => by simp [headK, yardW]
  | k + 1 => by
    have ih := headK_len hs k
    cases h : s.nums[k]? with
    | none =>
      have hk : s.nums.length ≤ k := List.getElem?_eq_none_iff.1 h
      have e : headK s (k + 1) = headK s k := by unfold headK; rw [List.take_of_length_le hk, List.take_of_length_le (by omega)]
      rw [e]; omega
    | some n =>
      have := itoa_len21 (hs n (List.mem_of_getElem? h))
      rw [headK_next h]; simp; omega
theorem row_nums {s : SV} {k : Nat} {n : Int} (h : s.nums[k]? = some n) : s.row[k]? = some (.int .i64 n) := by
  have e : s.row.toList = s.nums.map (Value.int .i64) := rfl
  rw [← Array.getElem?_toList, e, List.getElem?_map, h]; rfl
theorem body_len : ∀ {L : List AV} {ls : List (List UInt8)}, linesF L = some ls → (∀ x ∈ L, x.Mid) → (ls.flatMap (10 :: ·)).length ≤ L.length * 1073741833
  | [], ls, h, _ => by simp [linesF] at h; subst h; simp
  | x :: r, ls, h, hx => by
    unfold linesF at h
    split at h
    · rename_i l hl
      split at h
      · rename_i ms h2; injection h with h; subst h
        have ih := body_len h2 (fun y hy => hx y (List.mem_cons_of_mem _ hy))
        have hm := hx x List.mem_cons_self
        have := line_lenM hm.ok hm.key hm.val hl
        simp only [List.flatMap_cons, List.length_append, List.length_cons, Nat.succ_mul]
        omega
      · cases h
    · cases h
def ScriptPost (s : SV) (L : List AV) (w : World) (e : Ending) (w' : World) : Prop := e = .returned (.tuple #[strV (scriptF s L).1, .int .i64 (scriptF s L).2]) ∧ Later w w'
set_option maxHeartbeats 4000000 in
set_option maxRecDepth 100000 in
theorem script_any {B : Nat} {w : World} (h : Env B w) (s : SV) (hs : s.Ok) {A : Option Addr} {n c : Nat} {L : List AV} (hr : Rd w 6 A n (arow L)) (hl : L.length = n) (hn : n ≤ 4398046511104) (hx : ∀ x ∈ L, x.Mid) :
    Calls Tryz.prog 10 #[s.val, .slice A n c] w (ScriptPost s L w) := by
  have HE := hide_ h; have HS := hide_ hs; have HR := hide_ hr; have HL := hide_ hl; have HX := hide_ hx
  have hn2 : (n : Int) ≤ 4398046511104 := by omega
  unfold SV.val
  obtain ⟨W1, hW1⟩ : ∃ W1, W1 = w.alloc (.cells s.row 23) := ⟨_, rfl⟩
  have hr1 : W1.heap[w.heap.size]? = some (.cells s.row 23 (0, 0)) := by rw [hW1]; exact heap_alloc_new w _
  have HR1 := hide_ hr1
  have HL1 := hide_ (show Later w W1 by rw [hW1]; exact later_alloc _ _)
  have HW1 := hide_ hW1.symm
  unfold SV.row at HW1
  obtain ⟨⟨o0, o1, o2, o3, o4, o5⟩, _⟩ := six_nums hr1
  clear hW1 hr1 h hs hr hl hx
  go_enter Tryz.func10, Tryz.ntmps10
  go_wp2_with (rw [HW1.out])
  refine (sound_any s).mono ?_; rintro e w2 ⟨rfl, hl2⟩
  have HL2 := hide_ (HL1.out.trans hl2)
  have HR2 := hide_ (later_row hl2 HR1.out)
  obtain ⟨⟨p0, p1, p2, p3, p4, p5⟩, _⟩ := six_nums HR2.out
  clear o0 o1 o2 o3 o4 o5 hl2
  cases hsf : soundF s
  · have HSF := hide_ hsf
    clear hsf
    go_wp2_with fail
    go_ret2
    exact ⟨by unfold scriptF; rw [if_pos HSF.out]; rfl, HL2.out⟩
  have HSF := hide_ hsf
  clear hsf
  by_cases hbig : (4096 : Int) < (n : Int)
  · go_wp2_with fail
    go_ret2
    exact ⟨by unfold scriptF; rw [if_neg (by rw [HSF.out]; decide), if_pos (by rw [HL.out]; omega)]; rfl, HL2.out⟩
  have HBIG := hide_ hbig
  have hbig' : (n : Int) ≤ 4096 := by omega
  obtain ⟨W3, hW3⟩ : ∃ W3, W3 = w2.alloc (.cells #[.pointer none, .slice none 0 0] 51) := ⟨_, rfl⟩
  obtain ⟨bb, hbb⟩ : ∃ bb, bb = w2.heap.size := ⟨_, rfl⟩
  have HB3 := hide_ (show Bld W3 w.heap.size bb (.slice none 0 0) [] by rw [hW3, hbb]; exact Bld.fresh w2 HL2.out.size)
  have HL3 := hide_ (show Later w W3 by rw [hW3]; exact HL2.out.trans (later_alloc _ _))
  have HR3 := hide_ (show W3.heap[w.heap.size]? = some (.cells s.row 23 (0, 0)) by rw [hW3]; exact later_row (later_alloc _ _) HR2.out)
  have HW3 := hide_ hW3.symm
  have HBB := hide_ hbb.symm
  clear hW3 hbb
  go_wp2_with (rw [HW3.out, HBB.out])
  refine (writeString_any HB3.out ⟨#[121, 97, 114, 100]⟩ (by simp [ByteArray.size]) HL3.out.size).mono ?_; rintro e w4 ⟨rfl, v4, hb4, hr4⟩
  have HB4 := hide_ (show Bld w4 w.heap.size bb v4 (headK s 0) from hb4)
  have HL4 := hide_ (show Later w w4 from hr4.below HB3.out HL3.out HL3.out.size HL3.out.size)
  have HR4 := hide_ (hr4.row' HB3.out HR3.out (by decide) (by decide))
  obtain ⟨⟨q0, q1, q2, q3, q4, q5⟩, _⟩ := six_nums HR4.out
  clear hb4 hr4 p0 p1 p2 p3 p4 p5
  go_wp2_with fail
  refine (numbers_any s).mono ?_; rintro e w5 ⟨nb, rfl, hn5, hnb, hl5⟩
  have HB5 := hide_ (HB4.out.later hl5)
  have HL5 := hide_ (HL4.out.trans hl5)
  have HN5 := hide_ hn5
  clear hn5 hnb hl5 q0 q1 q2 q3 q4 q5
  go_wp2_with fail
  go_loopw [23] (fun s23 wr => ∃ (k : Nat) (v : Value), k ≤ 6 ∧ s23 = .int .i64 k ∧ Hid (Bld wr w.heap.size bb v (headK s k)) ∧ Hid (wr.heap[nb]? = some (.cells s.row 3 (0, 0))) ∧ Hid (Later w wr)) (fun i _ => 6 - (intOf i).toNat)
  case atStart => exact ⟨0, v4, by omega, rfl, HB5, HN5, HL5⟩
  case round =>
    obtain ⟨k, v, hk6, rfl, HB, HN, HLr⟩ := hrel
    by_cases hlt : k < 6
    · obtain ⟨m, hm⟩ : ∃ m, s.nums[k]? = some m := ⟨_, List.getElem?_eq_getElem (by simpa [SV.nums] using hlt)⟩
      have HMO := hide_ (HS.out m (List.mem_of_getElem? hm))
      have HNX := hide_ (headK_next hm)
      have c1 := (cell_of_row _ _ k _ _ (0, 0) HN.out).trans (row_nums hm)
      have a1 : (k : Int) < 6 := by omega
      have a2 : (0 : Int) ≤ (k : Int) := by omega
      clear hm
      go_wp2_with fail
      refine (itoa_any (HE.out.later HLr.out) m HMO.out.1 HMO.out.2).mono ?_; rintro e w6 ⟨rfl, hl6⟩
      have HB6 := hide_ (HB.out.later hl6)
      have HN6 := hide_ (later_row hl6 HN.out)
      have HL6 := hide_ (HLr.out.trans hl6)
      have hsz : w.heap.size ≤ w6.heap.size := HL6.out.size
      have HLN := hide_ (headK_len HS.out k)
      have HIT := hide_ (itoa_len21 HMO.out)
      obtain ⟨T, hT⟩ : ∃ T : ByteArray, T = ⟨(Lib.itoa m).toArray⟩ := ⟨_, rfl⟩
      have hTs : T.size ≤ 21 := by rw [hT]; exact HIT.out
      have HTD := hide_ (show T.data.toList = Lib.itoa m by rw [hT])
      rw [← hT]
      clear hl6 c1 hT
      go_wp2_with fail
      have HCAT := hide_ (show (({ data := #[32] } : ByteArray) ++ T).data.toList = 32 :: Lib.itoa m by
        rw [ByteArray.data_append, Array.toList_append, HTD.out]; rfl)
      have HCS := hide_ (show (({ data := #[32] } : ByteArray) ++ T).size ≤ 22 by
        rw [ByteArray.size_append]; have : ({ data := #[32] } : ByteArray).size = 1 := rfl; omega)
      refine (writeString_any HB6.out _ (by have h1 := HCS.out; have h2 := HLN.out; omega) hsz).mono ?_; rintro e w7 ⟨rfl, v7, hb7, hr7⟩
      have HB7 := hide_ (show Bld w7 w.heap.size bb v7 (headK s (k + 1)) by rw [HNX.out, ← HCAT.out]; exact hb7)
      have HL7 := hide_ (show Later w w7 from hr7.below HB6.out HL6.out hsz hsz)
      have HN7 := hide_ (hr7.row' HB6.out HN6.out (by decide) (by decide))
      clear hb7 hr7
      go_wp2_with fail
      go_roundw
      case rel => exact ⟨k + 1, v7, by omega, by go_num, HB7, HN7, HL7⟩
      case measure => simp [intOf]; omega
    · have hk6' : k = 6 := by omega
      have a1 : ¬ (k : Int) < 6 := by omega
      have HB6 := hide_ (show Bld wr w.heap.size bb v (headF s ++ ([] : List (List UInt8)).flatMap (10 :: ·)) by have := HB.out; rw [hk6', headK_end] at this; simpa using this)
      have HFL := hide_ (show (headF s).length ≤ 136 by rw [← headK_end]; exact headK_len HS.out 6)
      clear HN5 HN HB HB5 hlt hk6' hk6
      go_wp2_with fail
      go_loopw [34] (fun s34 wr => ∃ (k : Nat) (v : Value) (ls : List (List UInt8)), k ≤ n ∧ s34 = .int .i64 k ∧ Hid (linesF (L.take k) = some ls) ∧ Hid (Bld wr w.heap.size bb v (headF s ++ ls.flatMap (10 :: ·))) ∧ Hid (Later w wr)) (fun i _ => n - (intOf i).toNat)
      case atStart => exact ⟨0, v, [], by omega, rfl, hide_ rfl, HB6, HLr⟩
      case round =>
        obtain ⟨k, v, ls, hkn, rfl, HLS, HB, HLr⟩ := hrel
        by_cases hlt : k < n
        · obtain ⟨x, hx⟩ : ∃ x, L[k]? = some x := ⟨_, List.getElem?_eq_getElem (by rw [HL.out]; exact hlt)⟩
          obtain ⟨b0, o0, rfl, l0, l1, l2, l3, l4, l5⟩ := (HR.out.below HLr.out).act hx
          have HXM := hide_ (HX.out x (List.mem_of_getElem? hx))
          have HXI := hide_ (List.mem_of_getElem? hx)
          have HTS := hide_ (take_snoc hx)
          have a1 : (k : Int) < (n : Int) := by omega
          have a2 : (0 : Int) ≤ (k : Int) := by omega
          have a3 : (k : Int) ≤ 4096 := by omega
          obtain ⟨W8, hW8⟩ : ∃ W8, W8 = wr.alloc (.cells x.row 40) := ⟨_, rfl⟩
          have HR8 := hide_ (show W8.heap[wr.heap.size]? = some (.cells x.row 40 (0, 0)) by rw [hW8]; exact heap_alloc_new wr _)
          have HL8 := hide_ (show Later w W8 by rw [hW8]; exact HLr.out.trans (later_alloc _ _))
          have HB8 := hide_ (show Bld W8 w.heap.size bb v (headF s ++ ls.flatMap (10 :: ·)) by rw [hW8]; exact HB.out.later (later_alloc _ _))
          have HW8 := hide_ hW8.symm
          unfold AV.row at HW8
          obtain ⟨⟨y0, y1, y2, y3, y4, y5⟩, _⟩ := six_cells HR8.out
          have hline := line_any (HE.out.later HL8.out) x HXM.out.ok
          have HLI := hide_ (show Calls Tryz.prog 17 #[.agg #[.int .i64 x.kind, .int .i64 x.a, .int .i64 x.b, .int .i64 x.n, .string ⟨x.key.toArray⟩, .string ⟨x.val.toArray⟩]] W8 (LinePost x W8) from hline)
          clear hx hW8 hline
          go_wp2_with (rw [HW8.out])
          unfold LinePost at HLI
          refine HLI.out.mono ?_; rintro e w9 ⟨rfl, hl9⟩
          have HL9 := hide_ (HL8.out.trans hl9)
          have hsz9 : w.heap.size ≤ w9.heap.size := HL9.out.size
          have HB9 := hide_ (HB8.out.later hl9)
          clear hl9 y0 y1 y2 y3 y4 y5 l0 l1 l2 l3 l4 l5
          cases hc : lineF x with
          | none =>
            have HC := hide_ hc
            clear hc
            simp only [Option.getD_none, Option.isSome_none]
            go_wp2_with fail
            go_ret2
            exact ⟨by unfold scriptF; rw [if_neg (by rw [HSF.out]; decide), if_neg (by rw [HL.out]; omega), linesF_none HXI.out HC.out]; rfl, HL9.out⟩
          | some l =>
            have HC := hide_ hc
            have HLN := hide_ (line_lenM HXM.out.ok HXM.out.key HXM.out.val hc)
            have HLB := hide_ (body_len HLS.out (fun y hy => HX.out y (List.mem_of_mem_take hy)))
            clear hc
            simp only [Option.getD_some, Option.isSome_some]
            obtain ⟨T, hT⟩ : ∃ T : ByteArray, T = ⟨l.toArray⟩ := ⟨_, rfl⟩
            have hTs : T.size ≤ 1073741832 := by rw [hT]; exact HLN.out
            have HTD := hide_ (show T.data.toList = l by rw [hT])
            unfold strV
            rw [← hT]
            clear hT
            go_wp2_with fail
            have HCAT := hide_ (show (({ data := #[10] } : ByteArray) ++ T).data.toList = 10 :: l by
              rw [ByteArray.data_append, Array.toList_append, HTD.out]; rfl)
            have HCS := hide_ (show (({ data := #[10] } : ByteArray) ++ T).size ≤ 1073741833 by
              rw [ByteArray.size_append]; have : ({ data := #[10] } : ByteArray).size = 1 := rfl; omega)
            have HTL := hide_ (show (L.take k).length ≤ 4096 by rw [List.length_take]; omega)
            refine (writeString_any HB9.out _ (by
              have h1 := HCS.out; have h2 := HLB.out; have h3 := HFL.out
              have h4 : (L.take k).length * 1073741833 ≤ 4096 * 1073741833 := Nat.mul_le_mul_right _ HTL.out
              rw [List.length_append]; omega) hsz9).mono ?_; rintro e w10 ⟨rfl, v10, hb10, hr10⟩
            have HB10 := hide_ (show Bld w10 w.heap.size bb v10 (headF s ++ (ls ++ [l]).flatMap (10 :: ·)) by
              have e : headF s ++ (ls ++ [l]).flatMap (10 :: ·) = headF s ++ ls.flatMap (10 :: ·) ++ (10 :: l) := by simp
              rw [e, ← HCAT.out]; exact hb10)
            have HL10 := hide_ (show Later w w10 from hr10.below HB9.out HL9.out hsz9 hsz9)
            have HLS2 := hide_ (show linesF (L.take (k + 1)) = some (ls ++ [l]) by rw [HTS.out]; exact linesF_snoc HLS.out HC.out)
            clear hb10 hr10
            go_wp2_with fail
            go_roundw
            case rel => exact ⟨k + 1, v10, _, by omega, by go_num, HLS2, HB10, HL10⟩
            case measure => simp [intOf]; omega
        · obtain rfl : k = n := by omega
          have HLS2 := hide_ (show linesF L = some ls by have := HLS.out; rwa [List.take_of_length_le (by rw [HL.out]; exact Nat.le_refl _)] at this)
          have HLB := hide_ (body_len HLS2.out HX.out)
          have hszr : w.heap.size ≤ wr.heap.size := HLr.out.size
          clear HLS
          go_wp2_with fail
          refine (Tryz.Builder_String_any _ _ _ _ HB.out.isBuilder hszr).mono ?_; rintro e w11 ⟨rfl, hb11⟩
          have HL11 := hide_ (show Later w w11 from Below.trans HLr.out hb11)
          obtain ⟨T, hT⟩ : ∃ T : ByteArray, T = ⟨(headF s ++ ls.flatMap (10 :: ·)).toArray⟩ := ⟨_, rfl⟩
          have hTs : T.size ≤ 4398046556160 := by
            rw [hT]
            have h1 := HLB.out
            have h3 := HFL.out
            have h4 : L.length * 1073741833 ≤ 4096 * 1073741833 := Nat.mul_le_mul_right _ (by rw [HL.out]; omega)
            show (headF s ++ ls.flatMap (10 :: ·)).toArray.size ≤ _
            rw [List.size_toArray, List.length_append]; omega
          have HTD := hide_ (show T.data.toList = headF s ++ ls.flatMap (10 :: ·) by rw [hT])
          rw [← hT]
          clear hT hb11
          go_wp2_with fail
          go_ret2
          refine ⟨?_, HL11.out⟩
          unfold scriptF
          rw [if_neg (by rw [HSF.out]; decide), if_neg (by rw [HL.out]; omega), HLS2.out]
          have e : (T ++ ({ data := #[10] } : ByteArray)) = ⟨(headF s ++ ls.flatMap (10 :: ·) ++ [10]).toArray⟩ := ba_ext (by
            rw [ByteArray.data_append, Array.toList_append, HTD.out])
          rw [e]; rfl

end Go.Proofs.YtjkopohmcabfjaaGreatDoor
