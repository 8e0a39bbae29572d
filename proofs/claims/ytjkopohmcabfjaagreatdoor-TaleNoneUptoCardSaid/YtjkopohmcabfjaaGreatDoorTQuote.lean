/-
  tale.quote: a text as a word.
-/
import Derived.Test.YtjkopohmcabfjaaGreatDoorTBld
import Derived.Test.YtjkopohmcabfjaaGreatDoorTMath
import Derived.Laws.IdiomStrings
import Derived.Lib.AppendIntMem
namespace Go.Proofs.YtjkopohmcabfjaaGreatDoor
open Go.RowKit
set_option linter.unusedVariables false
set_option linter.unusedSimpArgs false
/-- What the library's variables hold, whatever is done from block B on. -/
structure Env (B : Nat) (w : World) : Prop where
  size : B ≤ w.heap.size
  tab : Lib.TabBelow Tryz.prog B w "internal/strconv.uint64pow10" .u64 Lib.pow10Tab
  most : ∃ m, 2 < B ∧ w.cell? ⟨2, 0, none⟩ = some (.int .i64 m)
  syn : ∃ t p, 0 < B ∧ w.cell? ⟨0, 0, none⟩ = some (.iface t p)
  rng : ∃ t p, 1 < B ∧ w.cell? ⟨1, 0, none⟩ = some (.iface t p)
theorem Env.on {B : Nat} {w w' : World} (h : Env B w) (hb : Below B w w') : Env B w' := by
  obtain ⟨m, m1, m2⟩ := h.most
  obtain ⟨t, p, s1, s2⟩ := h.syn
  obtain ⟨t', p', r1, r2⟩ := h.rng
  exact ⟨Nat.le_trans h.size hb.size, h.tab.on hb, ⟨m, m1, (hb.cell (p := ⟨_, 0, none⟩) m1).trans m2⟩, ⟨t, p, s1, (hb.cell (p := ⟨_, 0, none⟩) s1).trans s2⟩, ⟨t', p', r1, (hb.cell (p := ⟨_, 0, none⟩) r1).trans r2⟩⟩
theorem Env.later {B : Nat} {w w' : World} (h : Env B w) (hb : Later w w') : Env B w' := h.on (Below.mono hb h.size)
theorem heap_setCell_fz {w : World} {b : Nat} {cs : Array Value} {t : TypeId} {fz : Nat × Nat} (h : w.heap[b]? = some (.cells cs t fz)) (j : Nat) (u : Value) : (w.setCell ⟨b, j, none⟩ u).heap[b]? = some (.cells (cs.setIfInBounds j u) t fz) := by
  simp [World.setCell, Array.getElem?_modify, h]
/-- '[]byte(s)': a new row of its bytes. -/
theorem bytes_new (W : World) (s : ByteArray) : ∃ (c : Nat) (cs : Array Value) (W2 : World), (convert 9 49 (.string s)).run Tryz.prog W = .ok (.slice (some ⟨W.heap.size, 0, none⟩) s.size c) W2 ∧ Later W W2 ∧ W2.heap.size = W.heap.size + 1 ∧
    W2.heap[W.heap.size]? = some (.cells cs 5 (cs.size, cs.size + 1)) ∧ s.size ≤ cs.size ∧ s.size ≤ c ∧ ∀ (j : Nat) (u : UInt8), s.data.toList[j]? = some u → cs[j]? = some (bv u) := by
  have hcv := run_bytes_of_string (P := Tryz.prog) W 9 49 5 s Tryz.underlying9 Tryz.underlying49 Tryz.underlying5
  have hsz : s.data.size = s.size := rfl
  refine ⟨_, bytesRow s _, _, hcv, (Below.refl W.heap.size W).drew.alloc (Nat.le_refl _) _, by simp, heap_alloc_new W.drew _, ?_, grownCap_ge W _ _ _, fun j u hu => ?_⟩
  · simp [bytesRow]
  · have hj := (List.getElem?_eq_some_iff.1 hu)
    have h1 : j < s.data.size := by simpa using hj.1
    have h2 : s.data[j] = u := by simpa using hj.2
    unfold bytesRow
    rw [Array.getElem?_append_left (by simpa using h1)]
    have e : s.data[j]? = some u := by rw [Array.getElem?_eq_getElem h1, h2]
    simp [e, bv]
theorem itoa_any {B : Nat} {w : World} (h : Env B w) (n : Int) (h0 : -9223372036854775808 ≤ n) (h1 : n ≤ 9223372036854775807) :
    Calls Tryz.prog 29 #[.int .i64 n] w fun e w' => e = .returned (.string ⟨(Lib.itoa n).toArray⟩) ∧ Later w w' := by
  refine (Tryz.strconv_Itoa n h0 h1 w h.tab.here).mono ?_
  rintro e w' ⟨rfl, k, os, rfl⟩
  exact ⟨rfl, Lib.below_grow _ w (Nat.le_refl _) k os⟩
theorem ba_ext {a b : ByteArray} (h : a.data.toList = b.data.toList) : a = b := by
  cases a; cases b; simp at h; simp [h]
set_option maxHeartbeats 4000000 in
set_option maxRecDepth 100000 in
theorem quote_any {B : Nat} {w : World} (h : Env B w) (s : ByteArray) (hlen : 4 * s.size + 1 ≤ 140737488355328) :
    Calls Tryz.prog 44 #[.string s] w fun e w' => e = .returned (.string ⟨(quoteL s.data.toList).toArray⟩) ∧ Later w w' := by
  have HE := hide_ h
  have hsl : s.data.toList.length = s.size := by simp
  have HSL := hide_ hsl
  have HQL := hide_ (fun k => quoteL_len (s.data.toList.take k))
  have hf := Bld.fresh w (Nat.le_refl w.heap.size)
  have HF := hide_ hf
  obtain ⟨W1, hW1⟩ : ∃ W1, W1 = w.alloc (.cells #[.pointer none, .slice none 0 0] 51) := ⟨_, rfl⟩
  have hl1 : Later w W1 := by rw [hW1]; exact later_alloc _ _
  rw [← hW1] at hf
  have HF1 := hide_ hf
  have HL1 := hide_ hl1
  have HW1 := hide_ hW1.symm
  have hs1 : w.heap.size + 1 = W1.heap.size := by rw [hW1]; simp
  have hn : (s.size : Int) ≤ 35184372088832 := by omega
  clear h hsl hf hl1 hW1 HF
  go_enter Tryz.func44, Tryz.ntmps44
  go_wp2_with fail
  rw [HW1.out]
  refine (writeByte_any HF1.out 39 (by show (0 : Nat) + 1 ≤ _; omega) (by omega)).mono ?_; rintro e w2 ⟨rfl, v2, hb2, hr2⟩
  have HB2 := hide_ hb2
  have HL2 := hide_ (show Later w w2 from hr2.below HF1.out HL1.out (by omega) (by omega))
  obtain ⟨c, cs, W3, hcv, hl3, hs3, hrow, hcl, hsc, hcs⟩ := bytes_new w2 s
  have HB3 := hide_ (HB2.out.later hl3)
  have HL3 := hide_ (HL2.out.trans hl3)
  have HROW := hide_ hrow; have HCS := hide_ hcs
  have HNE := hide_ (show v2.ownBlock ≠ some w2.heap.size from fun e => by have := (HB2.out.2.2.lt _ e).2; omega)
  have hlt2 := HB2.out.lt
  clear hb2 hr2 hl3 hrow hcs
  go_wp2_with fail
  go_loopw [10] (fun s10 wr => ∃ (i : Nat) (v : Value), i ≤ s.size ∧ s10 = .int .i64 i ∧ Hid (Bld wr w.heap.size w.heap.size v (quoteL (s.data.toList.take i))) ∧ Hid (v.ownBlock ≠ some w2.heap.size) ∧ Hid (wr.heap[w2.heap.size]? = some (.cells cs 5 (cs.size, cs.size + 1))) ∧ Hid (Later w wr)) (fun s10 _ => s.size - (intOf s10).toNat)
  case atStart => exact ⟨0, v2, by omega, rfl, HB3, HNE, HROW, HL3⟩
  case round =>
    obtain ⟨i, v, hi, rfl, HB, HN, HR, HL⟩ := hrel
    have r3 : (0 : Int) ≤ (i : Int) := by omega
    have r5 : (i : Int) ≤ 35184372088832 := by omega
    by_cases hlt : i < s.size
    · have r1 : (i : Int) < (s.size : Int) := by omega
      obtain ⟨b, hb⟩ : ∃ b, s.data.toList[i]? = some b := ⟨_, List.getElem?_eq_getElem (by rw [HSL.out]; omega)⟩
      have c0 : wr.cell? ⟨w2.heap.size, i, none⟩ = some (.int .u8 (b.toNat : Int)) := by rw [cell_of_row _ _ i _ _ _ HR.out]; exact HCS.out i b hb
      have HTS := hide_ (show quoteL (s.data.toList.take (i + 1)) = quoteL (s.data.toList.take i) ++ quoteB b by rw [take_snoc hb, quoteL_snoc])
      have hq := HQL.out (i + 1)
      rw [HTS.out, List.length_append, List.length_take, HSL.out, Nat.min_eq_left (show i + 1 ≤ s.size by omega)] at hq
      have hw2 : w2.heap.size < wr.heap.size := theap_lt HR.out
      have hbw : w.heap.size ≤ wr.heap.size := HL.out.size
      have hb0 : (0 : Int) ≤ (b.toNat : Int) := by omega
      have hb1 : (b.toNat : Int) ≤ 255 := by have := b.toNat_lt; omega
      have HIT := hide_ (fun (W : World) (hl : Later w W) => itoa_any (HE.out.later hl) (1000 + (b.toNat : Int)) (by omega) (by omega))
      have HI4 := hide_ (itoa_thousand_len b)
      have HI3 := hide_ (three_itoa b)
      clear hb
      by_cases hp : plainB b = true
      · have hp' := hp
        unfold plainB at hp'
        simp only [Bool.and_eq_true, decide_eq_true_eq, bne_iff_ne] at hp'
        obtain ⟨⟨⟨p1, p2⟩, p3⟩, p4⟩ := hp'
        have q1 : (32 : Int) < (b.toNat : Int) := by omega
        have q2 : (b.toNat : Int) < 127 := by omega
        have q3 : ((b.toNat : Int) != 39) = true := by rw [bne_iff_ne]; omega
        have q4 : ((b.toNat : Int) != 126) = true := by rw [bne_iff_ne]; omega
        have HQB := hide_ (show quoteB b = [b] by unfold quoteB; rw [if_pos hp])
        rw [HQB.out] at hq
        have hq1 : (quoteL (s.data.toList.take i)).length + 1 ≤ 140737488355328 := by simp at hq; omega
        clear hp p1 p2 p3 p4 hq
        go_wp2_with fail
        refine (writeByte_any HB.out b hq1 hbw).mono ?_; rintro e w4 ⟨rfl, v4, hb4, hr4⟩
        have HB4 := hide_ (show Bld w4 w.heap.size w.heap.size v4 (quoteL (s.data.toList.take (i + 1))) by rw [HTS.out, HQB.out]; exact hb4)
        have HR4 := hide_ ((hr4.block _ hw2 (by omega) HN.out).trans HR.out)
        have HN4 := hide_ (show v4.ownBlock ≠ some w2.heap.size from fun e => by
          rcases hr4.row _ e with h | h
          · exact HN.out h
          · omega)
        have HL4 := hide_ (show Later w w4 from hr4.below HB.out HL.out hbw hbw)
        clear hb4 hr4 c0 hq1
        go_wp2_with fail
        go_roundw
        case rel => exact ⟨i + 1, v4, by omega, by go_num, HB4, HN4, HR4, HL4⟩
        case measure => simp [intOf]; omega
      · have HQB := hide_ (show quoteB b = 126 :: threeB b by unfold quoteB; rw [if_neg hp])
        have hcase : ¬ (32 : Int) < (b.toNat : Int) ∨ ((32 : Int) < (b.toNat : Int) ∧ ¬ (b.toNat : Int) < 127) ∨ ((32 : Int) < (b.toNat : Int) ∧ (b.toNat : Int) < 127 ∧ ((b.toNat : Int) != 39) = false) ∨
            ((32 : Int) < (b.toNat : Int) ∧ (b.toNat : Int) < 127 ∧ ((b.toNat : Int) != 39) = true ∧ ((b.toNat : Int) != 126) = false) := by
          unfold plainB at hp
          simp only [Bool.and_eq_true, decide_eq_true_eq, bne_iff_ne] at hp
          rw [bne_eq_false_iff_eq, bne_eq_false_iff_eq, bne_iff_ne]
          omega
        rw [HQB.out] at hq
        have hq1 : (quoteL (s.data.toList.take i)).length + 4 ≤ 140737488355328 := by simp [threeB] at hq; omega
        clear hp hq
        rcases hcase with q1 | ⟨q1, q2⟩ | ⟨q1, q2, q3⟩ | ⟨q1, q2, q3, q4⟩
        all_goals
          go_wp2_with fail
          refine (HIT.out _ HL.out).mono ?_; rintro e w4 ⟨rfl, hl4⟩
          have HB3' := hide_ (HB.out.later hl4)
          have HR3' := hide_ ((hl4.block _ hw2).trans HR.out)
          have HL3' := hide_ (HL.out.trans hl4)
          have hsz4 : wr.heap.size ≤ w4.heap.size := hl4.size
          have hbw4 : w.heap.size ≤ w4.heap.size := Nat.le_trans hbw hsz4
          have hw24 : w2.heap.size < w4.heap.size := Nat.lt_of_lt_of_le hw2 hsz4
          obtain ⟨T, hT⟩ : ∃ T : ByteArray, T = ⟨(Lib.itoa (1000 + (b.toNat : Int))).toArray⟩ := ⟨_, rfl⟩
          have hT4 : T.size = 4 := by rw [hT, ← HI4.out]; simp [ByteArray.size]
          have hT3 := HI3.out
          rw [← hT]
          have HT3 := hide_ (show T.data.toList.drop 1 = threeB b by rw [hT]; exact hT3)
          clear hl4 c0 hT hT3
          have HCAT := hide_ (show (({ data := #[126] } : ByteArray) ++ T.extract 1 4).data.toList = 126 :: threeB b by
            have h := Lib.extract_to_end T 1
            rw [hT4] at h
            rw [ByteArray.data_append, Array.toList_append, h, HT3.out]; rfl)
          have HCS2 := hide_ (show (({ data := #[126] } : ByteArray) ++ T.extract 1 4).size = 4 by
            have h := congrArg List.length HCAT.out
            rw [Array.length_toList] at h
            exact h)
          go_wp2_with fail
          refine (writeString_any HB3'.out _ (by rw [HCS2.out]; exact hq1) hbw4).mono ?_; rintro e w5 ⟨rfl, v5, hb5, hr5⟩
          have HB5 := hide_ (show Bld w5 w.heap.size w.heap.size v5 (quoteL (s.data.toList.take (i + 1))) by rw [HTS.out, HQB.out, ← HCAT.out]; exact hb5)
          have HR5 := hide_ ((hr5.block _ hw24 (by omega) HN.out).trans HR3'.out)
          have HN5 := hide_ (show v5.ownBlock ≠ some w2.heap.size from fun e => by
            rcases hr5.row _ e with h | h
            · exact HN.out h
            · omega)
          have HL5 := hide_ (show Later w w5 from hr5.below HB3'.out HL3'.out hbw4 hbw4)
          clear hb5 hr5 hq1 hT4
          go_wp2_with fail
          go_roundw
          case rel => exact ⟨i + 1, v5, by omega, by go_num, HB5, HN5, HR5, HL5⟩
          case measure => simp [intOf]; omega
    · have r1 : ¬ (i : Int) < (s.size : Int) := by omega
      obtain rfl : i = s.size := by omega
      have HB5 := hide_ (show Bld wr w.heap.size w.heap.size v (quoteL s.data.toList) by
        have := HB.out; rwa [List.take_of_length_le (Nat.le_of_eq HSL.out)] at this)
      have hbw : w.heap.size ≤ wr.heap.size := HL.out.size
      go_wp2_with fail
      refine (Tryz.Builder_String_any _ _ _ _ HB5.out.isBuilder hbw).mono ?_; rintro e w5 ⟨rfl, hb5⟩
      go_wp2_with fail
      go_ret
      exact ⟨rfl, Below.trans HL.out hb5⟩

end Go.Proofs.YtjkopohmcabfjaaGreatDoor
