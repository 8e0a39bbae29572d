/-
  The document's quote: a text as a word.
-/
import Derived.Test.YtapiglfbkncahaaDoorTLineA
import Derived.Test.YtapiglfbkncahaaDoorSplit
namespace Go.Proofs.YtapiglfbkncahaaDoor
open Go.RowKit
set_option linter.unusedVariables false
set_option linter.unusedSimpArgs false
def QPost (l : List UInt8) (w : World) (e : Ending) (w' : World) : Prop := e = .returned (strV (quoteL l)) ∧ Later w w'
theorem own_alloc {w : World} {B n : Nat} {v : Value} {xs : List Value} (h : w.ownsRow B 5 1 v n xs) (o : Obj) : (w.alloc o).ownsRow B 5 1 v n xs := h.alloc _
theorem three_bvs (b : UInt8) : bvs (126 :: threeB b) = [bv 126, .int .u8 (48 + (b.toNat : Int) / 100), .int .u8 (48 + (b.toNat : Int) / 10 % 10), .int .u8 (48 + (b.toNat : Int) % 10)] := by
  have key : ∀ x : BitVec 8, ((48 + (⟨x⟩ : UInt8) / 100).toNat : Int) = 48 + ((⟨x⟩ : UInt8).toNat : Int) / 100 ∧ ((48 + (⟨x⟩ : UInt8) / 10 % 10).toNat : Int) = 48 + ((⟨x⟩ : UInt8).toNat : Int) / 10 % 10 ∧ ((48 + (⟨x⟩ : UInt8) % 10).toNat : Int) = 48 + ((⟨x⟩ : UInt8).toNat : Int) % 10 := by decide +kernel
  obtain ⟨h1, h2, h3⟩ := key b.toBitVec
  have h1 : ((48 + b / 100).toNat : Int) = 48 + (b.toNat : Int) / 100 := h1
  have h2 : ((48 + b / 10 % 10).toNat : Int) = 48 + (b.toNat : Int) / 10 % 10 := h2
  have h3 : ((48 + b % 10).toNat : Int) = 48 + (b.toNat : Int) % 10 := h3
  unfold bvs threeB
  simp only [List.map_cons, List.map_nil, bv, h1, h2, h3]
set_option maxHeartbeats 1000000 in
set_option maxRecDepth 100000 in
theorem lquote_any {w : World} (l : List UInt8) (hlen : l.length ≤ 1099511627776) :
    Calls Tryd.prog 19 #[.string ⟨l.toArray⟩] w (QPost l w) := by
  have hown : (w.alloc (.cells #[.int .u8 39] 5)).ownsRow w.heap.size 5 1 (.slice (some ⟨w.heap.size, 0, none⟩) 1 1) 1 (bvs [39]) :=
    ⟨rfl, .inr ⟨w.heap.size, 1, _, rfl, Nat.le_refl _, heap_alloc_new w _, Nat.le_refl _, by decide, rfl, rfl⟩⟩
  have HOW := hide_ hown
  have HLA := hide_ (later_alloc w (.cells #[.int .u8 39] 5))
  have hln : (l.length : Int) ≤ 1099511627776 := by omega
  clear hown
  go_enter Tryd.func19, Tryd.ntmps19
  go_wp2_with fail
  generalize w.alloc (.cells #[.int .u8 39] 5) = W1 at HOW HLA ⊢
  go_loopw [3, 4] (fun s3 s4 wr => ∃ (i : Nat) (v : Value), i ≤ l.length ∧ s4 = .int .i64 i ∧ s3 = v ∧ Hid (wr.ownsRow w.heap.size 5 1 v (quoteL (l.take i)).length (bvs (quoteL (l.take i)))) ∧ Hid (Later w wr)) (fun _ s4 _ => l.length - (intOf s4).toNat)
  case atStart => exact ⟨0, _, by omega, rfl, rfl, HOW, HLA⟩
  case round =>
    obtain ⟨i, v, hi, rfl, rfl, HO, HL⟩ := hrel
    obtain ⟨Av, cv, hv⟩ := own_form HO.out
    subst hv
    have hwl : w.heap.size ≤ wr.heap.size := HL.out.size
    have hql := quoteL_len (l.take i)
    rw [List.length_take, Nat.min_eq_left hi] at hql
    obtain ⟨Q, hQ⟩ : ∃ Q, Q = quoteL (l.take i) := ⟨_, rfl⟩
    rw [← hQ] at hql HO ⊢
    have HQ := hide_ hQ
    clear hQ
    have hqn : Q.length ≤ 5497558138881 := by omega
    by_cases hlt : i < l.length
    · obtain ⟨b, hb⟩ : ∃ b, l[i]? = some b := ⟨_, List.getElem?_eq_getElem hlt⟩
      have hib : (⟨l.toArray⟩ : ByteArray)[i]'(by show i < l.toArray.size; simpa using hlt) = b := by
        have h := (List.getElem?_eq_some_iff.1 hb).2
        rw [← h]; rfl
      have HTS := hide_ (show quoteL (l.take (i + 1)) = Q ++ quoteB b by rw [take_snoc hb, quoteL_snoc, HQ.out])
      have hb0 : (0 : Int) ≤ (b.toNat : Int) := by omega
      have hb1 : (b.toNat : Int) ≤ 255 := by have := b.toNat_lt; omega
      clear hb
      by_cases hp : plainB b = true
      · have hp' := hp
        unfold plainB at hp'
        simp only [Bool.and_eq_true, decide_eq_true_eq, bne_iff_ne] at hp'
        obtain ⟨⟨⟨p1, p2⟩, p3⟩, p4⟩ := hp'
        have q1 : (33 : Int) ≤ (b.toNat : Int) := by omega
        have q2 : (b.toNat : Int) ≤ 125 := by omega
        have q3 : ((b.toNat : Int) != 39) = true := by rw [bne_iff_ne]; omega
        have d1 : decide ((33 : Int) ≤ (b.toNat : Int)) = true := decide_eq_true q1
        have d2 : decide ((b.toNat : Int) ≤ 125) = true := decide_eq_true q2
        have HB := hide_ (show quoteB b = [b] by unfold quoteB; rw [if_pos hp])
        go_wp2_with (at_builtin; refine wpList_append_rd _ rfl (.tmp 26) (.tmp 28) 59 rfl w.heap.size 5 1 1 byteT (.slice Av Q.length cv) Q.length (bvs Q) rfl ?c1 (some ⟨wr.heap.size, 0, none⟩) 1 1 [bv b] rfl ?c2 ?c3 ?c4 ?c5 ?c6 ?c7 ?c8)
        case c1 => exact HO.out.alloc _
        case c2 => exact Rd.newAt _ #[bv b] 5 1 1 _ (0, 0) rfl rfl
        case c3 => simp [bv, Value.oneCell']
        case c4 => omega
        case c5 => unfold maxLen; omega
        case c6 => simp; omega
        case c7 => exact fun h => nomatch h
        case c8 =>
          intro v9 w9 hown9 hg9 hat9
          have hl9 : Later w w9 := own_grown (Below.alloc HL.out hwl _) (HO.out.alloc _) hg9 (by simp; omega)
          have HO9 := hide_ (show w9.ownsRow w.heap.size 5 1 v9 (quoteL (l.take (i + 1))).length (bvs (quoteL (l.take (i + 1)))) by
            rw [HTS.out, HB.out]
            simpa [bvs] using hown9)
          have HL9 := hide_ hl9
          clear hown9 hg9 hat9 hl9
          go_wp2_with fail
          go_roundw
          case rel => exact ⟨i + 1, v9, by omega, by go_num, rfl, HO9, HL9⟩
          case measure => simp only [intOf]; omega
      · have hp' := hp
        unfold plainB at hp'
        simp only [Bool.and_eq_true, decide_eq_true_eq, bne_iff_ne] at hp'
        have HB := hide_ (show bvs (quoteB b) = [bv 126, .int .u8 (48 + (b.toNat : Int) / 100), .int .u8 (48 + (b.toNat : Int) / 10 % 10), .int .u8 (48 + (b.toNat : Int) % 10)] by
          unfold quoteB; rw [if_neg hp]; exact three_bvs b)
        have HB4 := hide_ (show (quoteB b).length = 4 by unfold quoteB; rw [if_neg hp]; rfl)
        have q3 : ¬ ((33 : Int) ≤ (b.toNat : Int) ∧ (b.toNat : Int) ≤ 125 ∧ (b.toNat : Int) ≠ 39) := by
          rintro ⟨h1, h2, h3⟩
          exact hp' ⟨⟨⟨by omega, by omega⟩, by omega⟩, by omega⟩
        clear hp' hp
        rcases (show (b.toNat : Int) < 33 ∨ (33 ≤ (b.toNat : Int) ∧ 125 < (b.toNat : Int)) ∨ (33 ≤ (b.toNat : Int) ∧ (b.toNat : Int) ≤ 125 ∧ (b.toNat : Int) = 39) by omega) with h | ⟨h, h'⟩ | ⟨h, h', h''⟩
        all_goals clear q3
        · have d1 : decide ((33 : Int) ≤ (b.toNat : Int)) = false := decide_eq_false (by omega)
          go_wp2_with (at_builtin; refine wpList_append_rd _ rfl (.tmp 30) (.tmp 41) 59 rfl w.heap.size 5 1 1 byteT (.slice Av Q.length cv) Q.length (bvs Q) rfl ?c1 (some ⟨wr.heap.size, 0, none⟩) 4 4 [bv 126, .int .u8 (48 + (b.toNat : Int) / 100), .int .u8 (48 + (b.toNat : Int) / 10 % 10), .int .u8 (48 + (b.toNat : Int) % 10)] rfl ?c2 ?c3 ?c4 ?c5 ?c6 ?c7 ?c8)
          case c1 => exact HO.out.alloc _
          case c2 => exact Rd.newAt _ #[bv 126, .int .u8 (48 + (b.toNat : Int) / 100), .int .u8 (48 + (b.toNat : Int) / 10 % 10), .int .u8 (48 + (b.toNat : Int) % 10)] 5 4 1 _ (0, 0) rfl rfl
          case c3 => simp [bv, Value.oneCell']
          case c4 => omega
          case c5 => unfold maxLen; omega
          case c6 => simp; omega
          case c7 => exact fun h => nomatch h
          case c8 =>
            intro v9 w9 hown9 hg9 hat9
            have hl9 : Later w w9 := own_grown (Below.alloc HL.out hwl _) (HO.out.alloc _) hg9 (by simp; omega)
            have HO9 := hide_ (show w9.ownsRow w.heap.size 5 1 v9 (quoteL (l.take (i + 1))).length (bvs (quoteL (l.take (i + 1)))) by
              rw [HTS.out]
              have e : bvs (Q ++ quoteB b) = bvs Q ++ [bv 126, .int .u8 (48 + (b.toNat : Int) / 100), .int .u8 (48 + (b.toNat : Int) / 10 % 10), .int .u8 (48 + (b.toNat : Int) % 10)] := by unfold bvs at HB ⊢; rw [List.map_append, HB.out]
              rw [e, List.length_append, HB4.out]
              exact hown9)
            have HL9 := hide_ hl9
            clear hown9 hg9 hat9 hl9
            go_wp2_with fail
            go_roundw
            case rel => exact ⟨i + 1, v9, by omega, by go_num, rfl, HO9, HL9⟩
            case measure => simp only [intOf]; omega
        · have d1 : decide ((33 : Int) ≤ (b.toNat : Int)) = true := decide_eq_true (by omega)
          have d2 : decide ((b.toNat : Int) ≤ 125) = false := decide_eq_false (by omega)
          go_wp2_with (at_builtin; refine wpList_append_rd _ rfl (.tmp 30) (.tmp 41) 59 rfl w.heap.size 5 1 1 byteT (.slice Av Q.length cv) Q.length (bvs Q) rfl ?c1 (some ⟨wr.heap.size, 0, none⟩) 4 4 [bv 126, .int .u8 (48 + (b.toNat : Int) / 100), .int .u8 (48 + (b.toNat : Int) / 10 % 10), .int .u8 (48 + (b.toNat : Int) % 10)] rfl ?c2 ?c3 ?c4 ?c5 ?c6 ?c7 ?c8)
          case c1 => exact HO.out.alloc _
          case c2 => exact Rd.newAt _ #[bv 126, .int .u8 (48 + (b.toNat : Int) / 100), .int .u8 (48 + (b.toNat : Int) / 10 % 10), .int .u8 (48 + (b.toNat : Int) % 10)] 5 4 1 _ (0, 0) rfl rfl
          case c3 => simp [bv, Value.oneCell']
          case c4 => omega
          case c5 => unfold maxLen; omega
          case c6 => simp; omega
          case c7 => exact fun h => nomatch h
          case c8 =>
            intro v9 w9 hown9 hg9 hat9
            have hl9 : Later w w9 := own_grown (Below.alloc HL.out hwl _) (HO.out.alloc _) hg9 (by simp; omega)
            have HO9 := hide_ (show w9.ownsRow w.heap.size 5 1 v9 (quoteL (l.take (i + 1))).length (bvs (quoteL (l.take (i + 1)))) by
              rw [HTS.out]
              have e : bvs (Q ++ quoteB b) = bvs Q ++ [bv 126, .int .u8 (48 + (b.toNat : Int) / 100), .int .u8 (48 + (b.toNat : Int) / 10 % 10), .int .u8 (48 + (b.toNat : Int) % 10)] := by unfold bvs at HB ⊢; rw [List.map_append, HB.out]
              rw [e, List.length_append, HB4.out]
              exact hown9)
            have HL9 := hide_ hl9
            clear hown9 hg9 hat9 hl9
            go_wp2_with fail
            go_roundw
            case rel => exact ⟨i + 1, v9, by omega, by go_num, rfl, HO9, HL9⟩
            case measure => simp only [intOf]; omega
        · have d1 : decide ((33 : Int) ≤ (b.toNat : Int)) = true := decide_eq_true (by omega)
          have d2 : decide ((b.toNat : Int) ≤ 125) = true := decide_eq_true (by omega)
          have d3 : ((b.toNat : Int) != 39) = false := by rw [bne_eq_false_iff_eq]; omega
          clear h h' h''
          go_wp2_with (at_builtin; refine wpList_append_rd _ rfl (.tmp 30) (.tmp 41) 59 rfl w.heap.size 5 1 1 byteT (.slice Av Q.length cv) Q.length (bvs Q) rfl ?c1 (some ⟨wr.heap.size, 0, none⟩) 4 4 [bv 126, .int .u8 (48 + (b.toNat : Int) / 100), .int .u8 (48 + (b.toNat : Int) / 10 % 10), .int .u8 (48 + (b.toNat : Int) % 10)] rfl ?c2 ?c3 ?c4 ?c5 ?c6 ?c7 ?c8)
          case c1 => exact HO.out.alloc _
          case c2 => exact Rd.newAt _ #[bv 126, .int .u8 (48 + (b.toNat : Int) / 100), .int .u8 (48 + (b.toNat : Int) / 10 % 10), .int .u8 (48 + (b.toNat : Int) % 10)] 5 4 1 _ (0, 0) rfl rfl
          case c3 => simp [bv, Value.oneCell']
          case c4 => omega
          case c5 => unfold maxLen; omega
          case c6 => simp; omega
          case c7 => exact fun h => nomatch h
          case c8 =>
            intro v9 w9 hown9 hg9 hat9
            have hl9 : Later w w9 := own_grown (Below.alloc HL.out hwl _) (HO.out.alloc _) hg9 (by simp; omega)
            have HO9 := hide_ (show w9.ownsRow w.heap.size 5 1 v9 (quoteL (l.take (i + 1))).length (bvs (quoteL (l.take (i + 1)))) by
              rw [HTS.out]
              have e : bvs (Q ++ quoteB b) = bvs Q ++ [bv 126, .int .u8 (48 + (b.toNat : Int) / 100), .int .u8 (48 + (b.toNat : Int) / 10 % 10), .int .u8 (48 + (b.toNat : Int) % 10)] := by unfold bvs at HB ⊢; rw [List.map_append, HB.out]
              rw [e, List.length_append, HB4.out]
              exact hown9)
            have HL9 := hide_ hl9
            clear hown9 hg9 hat9 hl9
            go_wp2_with fail
            go_roundw
            case rel => exact ⟨i + 1, v9, by omega, by go_num, rfl, HO9, HL9⟩
            case measure => simp only [intOf]; omega
    · obtain rfl : i = l.length := by omega
      have HQL := hide_ (show Q = quoteL l by rw [HQ.out, List.take_length])
      have hs : (convert 59 9 (.slice Av Q.length cv)).run Tryd.prog wr = .ok (.string ⟨Q.toArray⟩) wr := run_str_n _ _ 5 cv rfl Tryd.underlying59 Tryd.underlying5 Tryd.underlying9 (own_nil HO.out) (Rd.of_own HO.out)
      go_wp2_with fail
      go_ret
      exact ⟨by rw [← HQL.out]; rfl, HL.out⟩

end Go.Proofs.YtapiglfbkncahaaDoor
