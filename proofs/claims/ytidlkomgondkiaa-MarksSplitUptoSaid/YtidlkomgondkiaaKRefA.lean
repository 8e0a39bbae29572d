/-
  The document's answer: Same, in, Insert.
-/
import Derived.Test.YtidlkomgondkiaaKSpanE
namespace Go.Proofs.Ytidlkomgondkiaa
open Go.RowKit
set_option linter.unusedVariables false
set_option linter.unusedSimpArgs false
set_option maxHeartbeats 1000000 in
theorem in_any {w : World} {A : Option Addr} {n c : Nat} {L : List Spn} (x : ByteArray) (hr : Rd w 2 A n (srow L)) (hl : L.length = n) (hn : n ≤ 4398046511104) :
    Calls Try.prog 80 #[.slice A n c, .string x] w fun e w' => (∃ r : Bool, e = .returned (.bool r) ∧ (r = true ↔ InL L x)) ∧ Later w w' := by
  have HR := hide_ hr
  have HL := hide_ hl
  have hn2 : (n : Int) ≤ 4398046511104 := by omega
  clear hr hl
  go_enter Try.func80, Try.ntmps80
  go_wp2_with fail
  go_loopw [5] (fun s5 wr => ∃ k : Nat, k ≤ n ∧ s5 = .int .i64 k ∧ Hid (Later w wr) ∧ Hid (¬ InL (L.take k) x)) (fun i _ => n - (intOf i).toNat)
  case atStart => exact ⟨0, Nat.zero_le _, rfl, Later.refl w, hide_ (by simpa using InL.nil)⟩
  case round =>
    obtain ⟨k, hk, rfl, HB, HI⟩ := hrel
    by_cases hlt : k < n
    · have q1 : (k : Int) < (n : Int) := by omega
      have q2 : (k : Int) ≤ 4398046511104 := by omega
      obtain ⟨s, hs⟩ : ∃ s, L[k]? = some s := ⟨_, List.getElem?_eq_getElem (by rw [HL.out]; exact hlt)⟩
      obtain ⟨b, o, rfl, c1, c2⟩ := (HR.out.below HB.out).span hs
      have HS := hide_ hs
      have HT := hide_ (take_next hs)
      clear hs
      by_cases hin : InS s x
      · have hh := fun W => rhas_b s x true (by simp [hin]) W
        have HIN := hide_ hin
        clear hin
        go_wp2_with (go_at_call 93; refine (hh _).mono ?_; rintro e w1 ⟨rfl, hb1⟩; have HB1 := hide_ (HB.out.trans hb1); clear hb1)
        go_ret
        exact ⟨⟨true, rfl, by simp; exact ⟨s, List.mem_of_getElem? HS.out, HIN.out⟩⟩, HB1.out⟩
      · have hh := fun W => rhas_b s x false (by simp [hin]) W
        have HIN := hide_ hin
        clear hin
        go_wp2_with (go_at_call 93; refine (hh _).mono ?_; rintro e w1 ⟨rfl, hb1⟩; have HB1 := hide_ (Later.trans HB.out hb1); clear hb1)
        go_roundw
        case rel => exact ⟨k + 1, by omega, by go_num, HB1.out, by rw [HT.out, inl_snoc]; intro h; rcases h with h | h; exact HI.out h; exact HIN.out h⟩
        case measure => simp [intOf]; omega
    · have hkn : k = n := by omega
      have HI2 := hide_ (show ¬ InL L x by have := HI.out; rw [hkn, ← HL.out, List.take_length] at this; exact this)
      clear hkn
      go_wp2_with fail
      go_ret
      exact ⟨⟨false, rfl, by simp; exact HI2.out⟩, HB.out⟩
/-- Texts in memory. -/
def strs (L : List ByteArray) : List Value := L.map Value.string
theorem strs_len (L : List ByteArray) : (strs L).length = L.length := List.length_map _
theorem strs_one (L : List ByteArray) : ∀ u ∈ strs L, u.oneCell' = true := by
  intro u hu
  obtain ⟨x, _, rfl⟩ := List.mem_map.1 hu
  rfl
theorem stringT : ElemT Try.prog 123 9 1 16 := elem_mk (z := .string ByteArray.empty) Try.underlying123 (by kernel_rfl) rfl (by decide)
theorem Rd.str {w : World} {A : Option Addr} {n : Nat} {L : List ByteArray} (h : Rd w 1 A n (strs L)) {i : Nat} {s : ByteArray} (hi : L[i]? = some s) : ∃ b o, A = some ⟨b, o, none⟩ ∧ w.cell? ⟨b, o + i, none⟩ = some (.string s) := by
  have h1 : (strs L)[i]? = some (.string s) := by simp [strs, hi]
  obtain ⟨b, o, e, hc⟩ := h.2 (by have := (List.getElem?_eq_some_iff.1 h1).1; omega)
  exact ⟨b, o, e, hc _ _ h1⟩
/-- A text among rising ones. -/
def InsOf (L : List ByteArray) (s : ByteArray) (L' : List ByteArray) : Prop := (Up L → Up L') ∧ ∀ t, t ∈ L' ↔ t ∈ L ∨ t = s
theorem ins_same {L : List ByteArray} {s : ByteArray} {k : Nat} (h : L[k]? = some s) : InsOf L s L :=
  ⟨id, fun t => ⟨.inl, fun h2 => by rcases h2 with h2 | rfl; exact h2; exact List.mem_of_getElem? h⟩⟩
theorem ins_new {L : List ByteArray} {s : ByteArray} {k : Nat} (h1 : ∀ (j : Nat) t, j < k → L[j]? = some t → t < s) (h2 : ∀ t, L[k]? = some t → s < t) : InsOf L s (L.take k ++ [s] ++ L.drop k) := by
  refine ⟨fun hu => ?_, fun t => ?_⟩
  · have hu2 : Up (L.take k ++ L.drop k) := by rw [List.take_append_drop]; exact hu
    refine up_insert hu2 (fun t ht => ?_) fun t ht => ?_
    · obtain ⟨j, hj⟩ := List.getElem?_of_mem ht
      rw [List.getElem?_take] at hj
      split at hj
      · rename_i hjk; exact h1 j t hjk hj
      · cases hj
    · rw [Up.append] at hu2
      cases hd : L.drop k with
      | nil => rw [hd] at ht; cases ht
      | cons a M =>
        rw [hd] at ht hu2
        have ha : L[k]? = some a := by
          have := congrArg (fun l => l[0]?) hd
          simpa using this
        have := h2 a ha
        rcases List.mem_cons.1 ht with rfl | ht
        · exact this
        · have := hu2.2.1.1 t ht; grind
  · conv => rhs; rw [← List.take_append_drop k L]
    simp only [List.mem_append, List.mem_singleton]
    constructor
    · rintro ((h | h) | h)
      · exact .inl (.inl h)
      · exact .inr h
      · exact .inl (.inr h)
    · rintro ((h | h) | h)
      · exact .inl (.inl h)
      · exact .inr h
      · exact .inl (.inr h)
/-- What Insert leaves. -/
def InsPost (B n : Nat) (L : List ByteArray) (s : ByteArray) (w : World) (e : Ending) (w' : World) : Prop :=
  (∃ (v : Value) (L' : List ByteArray) (n' : Nat), e = .returned v ∧ L'.length = n' ∧ n' ≤ n + 1 ∧ InsOf L s L' ∧ w'.ownsRow B 9 1 v n' (strs L')) ∧ Later w w'
set_option maxHeartbeats 2000000 in
theorem insert_any {w : World} {B n c : Nat} {A : Option Addr} {L : List ByteArray} (s : ByteArray) (ho : w.ownsRow B 9 1 (.slice A n c) n (strs L)) (hn : n ≤ 1099511627776) (hBw : B ≤ w.heap.size) :
    Calls Try.prog 92 #[.slice A n c, .string s] w (InsPost B n L s w) := by
  have HO := hide_ ho
  have HR := hide_ (Rd.of_own ho)
  have hl : L.length = n := by have := ho.1; rw [strs_len] at this; omega
  have HL := hide_ hl
  have hcap := own_cap ho
  have hcap2 : (n : Int) ≤ (c : Int) := by omega
  have hn2 : (n : Int) ≤ 1099511627776 := by omega
  have HA := hide_ (own_nil ho)
  clear ho hl
  go_enter Try.func92, Try.ntmps92
  go_wp2_with fail
  go_loop [5] (fun s5 => ∃ k : Nat, k ≤ n ∧ s5 = .int .i64 k ∧ Hid (∀ (j : Nat) t, j < k → L[j]? = some t → t < s)) (fun i => n - (intOf i).toNat)
  case atStart => exact ⟨0, Nat.zero_le _, rfl, fun j t hj => absurd hj (Nat.not_lt_zero _)⟩
  case round =>
    obtain ⟨k, hk, rfl, HI⟩ := hrel
    have q0 : (0 : Int) ≤ (k : Int) := by omega
    have q2 : (k : Int) ≤ 1099511627776 := by omega
    by_cases hlt : k < n
    · have q1 : (k : Int) < (n : Int) := by omega
      obtain ⟨t, ht⟩ : ∃ t, L[k]? = some t := ⟨_, List.getElem?_eq_getElem (by rw [HL.out]; exact hlt)⟩
      obtain ⟨b, o, rfl, c1⟩ := HR.out.str ht
      have HT := hide_ ht
      clear ht
      rcases (show t < s ∨ t = s ∨ s < t by grind) with hc | hc | hc
      · have f1 : Op.bytesLess t.toList s.toList = true := by rw [bl]; simpa
        have HC := hide_ hc
        clear hc
        go_wp2_with fail
        go_round
        case rel =>
          refine ⟨k + 1, by omega, by go_num, fun j u hj hu => ?_⟩
          by_cases hjk : j = k
          · subst hjk
            have h1 := HT.out
            rw [h1] at hu
            injection hu with hu
            subst hu
            exact HC.out
          · exact HI.out j u (by omega) hu
        case measure => simp [intOf]; omega
      · subst hc
        have f1 : Op.bytesLess t.toList t.toList = false := by rw [bl, decide_eq_false (by grind)]
        go_wp2_with fail
        go_ret
        exact ⟨⟨_, L, n, rfl, HL.out, by omega, ins_same HT.out, HO.out⟩, Later.refl w⟩
      · have f1 : Op.bytesLess t.toList s.toList = false := by rw [bl]; simp; grind
        have f2 : (t.toList == s.toList) = false := by rw [beq_ba]; simp; rintro rfl; grind
        have HN := hide_ (ins_new (k := k) HI.out fun u hu => by have h1 := HT.out; rw [h1] at hu; injection hu with hu; subst hu; exact hc)
        have HRT := hide_ (show Rd w 1 (some ⟨b, o, none⟩) k (strs (L.take k)) by have := HR.out.take hk; rw [Nat.mul_one] at this; simpa [strs, List.map_take] using this)
        have HNK := hide_ (show (some ⟨b, o, none⟩ : Option Addr) = none → k = 0 from fun h => nomatch h)
        have i5 : ¬ c = k := by omega
        have i6 : (k : Int) ≤ (c : Int) := by omega
        have i7 : k ≤ c := by omega
        have i8 : (k : Int) ≤ (n : Int) := by omega
        have HRC := hide_ (show Rd w 1 (some ⟨b, o + k, none⟩) (n - k) (strs (L.drop k)) by
          have := Rd.cut HR.out (k := k) (cap := c) hk hcap
          simp only [i5, if_false, Option.map_some, add_plain, Nat.mul_one] at this
          simpa [strs, List.map_drop] using this)
        have HNC := hide_ (show (some ⟨b, o + k, none⟩ : Option Addr) = none → n - k = 0 from fun h => nomatch h)
        clear hc
        go_wp2_with (first | (at_builtin; (refine wpList_append_rd _ rfl (.tmp 34) (.tmp 37) 123 rfl w.heap.size 9 1 16 stringT _ 0 [] rfl (own_new w #[] 9 1 0 w.heap.size rfl (Nat.zero_le _) (Nat.le_refl _)) _ k _ (strs (L.take k)) rfl (HRT.out.alloc _) (strs_one _) (by omega) (by unfold maxLen; omega) (by simp) HNK.out ?_; intro v2 w2 ho2 hg2 hat2; have hb2 := own_grown ((Below.refl w.heap.size w).alloc (Nat.le_refl _) _) (own_new w #[] 9 1 0 w.heap.size rfl (Nat.zero_le _) (Nat.le_refl _)) hg2 (by simp); obtain ⟨A2, c2, rfl⟩ := own_form ho2; simp only [Nat.zero_add, List.nil_append] at ho2; have HO2 := hide_ ho2; have HB2 := hide_ hb2; clear ho2 hb2 hg2 hat2)) | (at_builtin; (refine wpList_append_rd _ rfl (.tmp 39) (.tmp 41) 123 rfl w.heap.size 9 1 16 stringT _ k (strs (L.take k)) rfl (HO2.out.alloc _) _ 1 _ [Value.string s] rfl (Rd.newAt _ #[.string s] 9 1 1 _ (0, 0) rfl rfl) (by intro u hu; simp at hu; subst hu; rfl) (by omega) (by unfold maxLen; omega) (by have := HB2.out.size; simp; omega) (fun h => nomatch h) ?_; intro v3 w3 ho3 hg3 hat3; have hb3 := own_grown (HB2.out.alloc HB2.out.size _) (HO2.out.alloc _) hg3 (by have := HB2.out.size; simp; omega); obtain ⟨A3, c3, rfl⟩ := own_form ho3; have HO3 := hide_ ho3; have HB3 := hide_ hb3; clear ho3 hb3 hg3 hat3)) | (at_builtin; (refine wpList_append_rd _ rfl (.tmp 43) (.tmp 46) 123 rfl w.heap.size 9 1 16 stringT _ (k + 1) (strs (L.take k) ++ [Value.string s]) rfl HO3.out _ (n - k) _ (strs (L.drop k)) rfl (HRC.out.below HB3.out) (strs_one _) (by omega) (by unfold maxLen; omega) HB3.out.size HNC.out ?_; intro v4 w4 ho4 hg4 hat4; have hb4 := own_grown HB3.out HO3.out hg4 HB3.out.size; have HO4 := hide_ ho4; have HB4 := hide_ hb4; clear ho4 hb4 hg4 hat4)))
        go_ret
        have h4 := own_base HO4.out hBw
        exact ⟨⟨_, L.take k ++ [s] ++ L.drop k, k + 1 + (n - k), rfl, by have := HL.out; simp; omega, by omega, HN.out, by simpa [strs] using h4⟩, HB4.out⟩
    · have hkn : k = n := by omega
      have HN := hide_ (ins_new (k := k) HI.out fun u hu => by have := (List.getElem?_eq_some_iff.1 hu).1; have := HL.out; omega)
      have HRT := hide_ (show Rd w 1 A k (strs (L.take k)) by have := HR.out.take hk; rw [Nat.mul_one] at this; simpa [strs, List.map_take] using this)
      have i6 : (k : Int) ≤ (c : Int) := by omega
      have i7 : k ≤ c := by omega
      have i8 : (k : Int) ≤ (n : Int) := by omega
      have HRC1 := hide_ (Rd.cut HR.out (k := k) (cap := c) hk hcap)
      have hd0 : strs (L.drop k) = [] := by rw [List.drop_of_length_le (by rw [HL.out]; omega)]; rfl
      have HD0 := hide_ hd0
      have HKN := hide_ hkn
      clear hd0 hkn
      have hge : ¬ (k : Int) < (n : Int) := by omega
      rcases sown_cases HO.out with ⟨rfl, hn0, hc0, _⟩ | ⟨g, rfl⟩
      · have HNK := hide_ (show (none : Option Addr) = none → k = 0 from fun _ => by omega)
        have HNC := hide_ (show (none : Option Addr) = none → n - k = 0 from fun _ => by omega)
        have HRC := hide_ (show Rd w 1 none (n - k) (strs (L.drop k)) by rw [HD0.out, show n - k = 0 from by omega]; exact Rd.nil _ _ _)
        have i5 : c = k := by omega
        obtain rfl : k = 0 := by omega
        subst hn0 hc0
        go_wp2_with (first | (at_builtin; (refine wpList_append_rd _ rfl (.tmp 34) (.tmp 37) 123 rfl w.heap.size 9 1 16 stringT _ 0 [] rfl (own_new w #[] 9 1 0 w.heap.size rfl (Nat.zero_le _) (Nat.le_refl _)) _ 0 _ (strs (L.take 0)) rfl (HRT.out.alloc _) (strs_one _) (by omega) (by unfold maxLen; omega) (by simp) HNK.out ?_; intro v2 w2 ho2 hg2 hat2; have hb2 := own_grown ((Below.refl w.heap.size w).alloc (Nat.le_refl _) _) (own_new w #[] 9 1 0 w.heap.size rfl (Nat.zero_le _) (Nat.le_refl _)) hg2 (by simp); obtain ⟨A2, c2, rfl⟩ := own_form ho2; simp only [Nat.zero_add, List.nil_append] at ho2; have HO2 := hide_ ho2; have HB2 := hide_ hb2; clear ho2 hb2 hg2 hat2)) | (at_builtin; (refine wpList_append_rd _ rfl (.tmp 39) (.tmp 41) 123 rfl w.heap.size 9 1 16 stringT _ 0 (strs (L.take 0)) rfl (HO2.out.alloc _) _ 1 _ [Value.string s] rfl (Rd.newAt _ #[.string s] 9 1 1 _ (0, 0) rfl rfl) (by intro u hu; simp at hu; subst hu; rfl) (by omega) (by unfold maxLen; omega) (by have := HB2.out.size; simp; omega) (fun h => nomatch h) ?_; intro v3 w3 ho3 hg3 hat3; have hb3 := own_grown (HB2.out.alloc HB2.out.size _) (HO2.out.alloc _) hg3 (by have := HB2.out.size; simp; omega); obtain ⟨A3, c3, rfl⟩ := own_form ho3; have HO3 := hide_ ho3; have HB3 := hide_ hb3; clear ho3 hb3 hg3 hat3)) | (at_builtin; (refine wpList_append_rd _ rfl (.tmp 43) (.tmp 46) 123 rfl w.heap.size 9 1 16 stringT _ (0 + 1) (strs (L.take 0) ++ [Value.string s]) rfl HO3.out _ (0 - 0) _ (strs (L.drop 0)) rfl (HRC.out.below HB3.out) (strs_one _) (by omega) (by unfold maxLen; omega) HB3.out.size HNC.out ?_; intro v4 w4 ho4 hg4 hat4; have hb4 := own_grown HB3.out HO3.out hg4 HB3.out.size; have HO4 := hide_ ho4; have HB4 := hide_ hb4; clear ho4 hb4 hg4 hat4)))
        go_ret
        have h4 := own_base HO4.out hBw
        exact ⟨⟨_, L.take 0 ++ [s] ++ L.drop 0, 0 + 1 + (0 - 0), rfl, by rw [List.eq_nil_of_length_eq_zero HL.out]; rfl, by omega, HN.out, by simpa [strs] using h4⟩, HB4.out⟩
      · have HNK := hide_ (show (some ⟨g, 0, none⟩ : Option Addr) = none → k = 0 from fun h => nomatch h)
        by_cases i5 : c = k
        · have HRC := hide_ (show Rd w 1 (some ⟨g, 0, none⟩) (n - k) (strs (L.drop k)) by have := HRC1.out; rw [if_pos i5] at this; simpa [strs, List.map_drop] using this)
          have HNC := hide_ (show (some ⟨g, 0, none⟩ : Option Addr) = none → n - k = 0 from fun h => nomatch h)
          go_wp2_with (first | (at_builtin; (refine wpList_append_rd _ rfl (.tmp 34) (.tmp 37) 123 rfl w.heap.size 9 1 16 stringT _ 0 [] rfl (own_new w #[] 9 1 0 w.heap.size rfl (Nat.zero_le _) (Nat.le_refl _)) _ k _ (strs (L.take k)) rfl (HRT.out.alloc _) (strs_one _) (by omega) (by unfold maxLen; omega) (by simp) HNK.out ?_; intro v2 w2 ho2 hg2 hat2; have hb2 := own_grown ((Below.refl w.heap.size w).alloc (Nat.le_refl _) _) (own_new w #[] 9 1 0 w.heap.size rfl (Nat.zero_le _) (Nat.le_refl _)) hg2 (by simp); obtain ⟨A2, c2, rfl⟩ := own_form ho2; simp only [Nat.zero_add, List.nil_append] at ho2; have HO2 := hide_ ho2; have HB2 := hide_ hb2; clear ho2 hb2 hg2 hat2)) | (at_builtin; (refine wpList_append_rd _ rfl (.tmp 39) (.tmp 41) 123 rfl w.heap.size 9 1 16 stringT _ k (strs (L.take k)) rfl (HO2.out.alloc _) _ 1 _ [Value.string s] rfl (Rd.newAt _ #[.string s] 9 1 1 _ (0, 0) rfl rfl) (by intro u hu; simp at hu; subst hu; rfl) (by omega) (by unfold maxLen; omega) (by have := HB2.out.size; simp; omega) (fun h => nomatch h) ?_; intro v3 w3 ho3 hg3 hat3; have hb3 := own_grown (HB2.out.alloc HB2.out.size _) (HO2.out.alloc _) hg3 (by have := HB2.out.size; simp; omega); obtain ⟨A3, c3, rfl⟩ := own_form ho3; have HO3 := hide_ ho3; have HB3 := hide_ hb3; clear ho3 hb3 hg3 hat3)) | (at_builtin; (refine wpList_append_rd _ rfl (.tmp 43) (.tmp 46) 123 rfl w.heap.size 9 1 16 stringT _ (k + 1) (strs (L.take k) ++ [Value.string s]) rfl HO3.out _ (n - k) _ (strs (L.drop k)) rfl (HRC.out.below HB3.out) (strs_one _) (by omega) (by unfold maxLen; omega) HB3.out.size HNC.out ?_; intro v4 w4 ho4 hg4 hat4; have hb4 := own_grown HB3.out HO3.out hg4 HB3.out.size; have HO4 := hide_ ho4; have HB4 := hide_ hb4; clear ho4 hb4 hg4 hat4)))
          go_ret
          have h4 := own_base HO4.out hBw
          exact ⟨⟨_, L.take k ++ [s] ++ L.drop k, k + 1 + (n - k), rfl, by have := HL.out; simp; omega, by omega, HN.out, by simpa [strs] using h4⟩, HB4.out⟩
        · have HRC := hide_ (show Rd w 1 (some ⟨g, 0 + k, none⟩) (n - k) (strs (L.drop k)) by
            have := HRC1.out
            simp only [i5, if_false, Option.map_some, add_plain, Nat.mul_one] at this
            simpa [strs, List.map_drop] using this)
          simp only [Nat.zero_add] at HRC
          have HNC := hide_ (show (some ⟨g, k, none⟩ : Option Addr) = none → n - k = 0 from fun h => nomatch h)
          go_wp2_with (first | (at_builtin; (refine wpList_append_rd _ rfl (.tmp 34) (.tmp 37) 123 rfl w.heap.size 9 1 16 stringT _ 0 [] rfl (own_new w #[] 9 1 0 w.heap.size rfl (Nat.zero_le _) (Nat.le_refl _)) _ k _ (strs (L.take k)) rfl (HRT.out.alloc _) (strs_one _) (by omega) (by unfold maxLen; omega) (by simp) HNK.out ?_; intro v2 w2 ho2 hg2 hat2; have hb2 := own_grown ((Below.refl w.heap.size w).alloc (Nat.le_refl _) _) (own_new w #[] 9 1 0 w.heap.size rfl (Nat.zero_le _) (Nat.le_refl _)) hg2 (by simp); obtain ⟨A2, c2, rfl⟩ := own_form ho2; simp only [Nat.zero_add, List.nil_append] at ho2; have HO2 := hide_ ho2; have HB2 := hide_ hb2; clear ho2 hb2 hg2 hat2)) | (at_builtin; (refine wpList_append_rd _ rfl (.tmp 39) (.tmp 41) 123 rfl w.heap.size 9 1 16 stringT _ k (strs (L.take k)) rfl (HO2.out.alloc _) _ 1 _ [Value.string s] rfl (Rd.newAt _ #[.string s] 9 1 1 _ (0, 0) rfl rfl) (by intro u hu; simp at hu; subst hu; rfl) (by omega) (by unfold maxLen; omega) (by have := HB2.out.size; simp; omega) (fun h => nomatch h) ?_; intro v3 w3 ho3 hg3 hat3; have hb3 := own_grown (HB2.out.alloc HB2.out.size _) (HO2.out.alloc _) hg3 (by have := HB2.out.size; simp; omega); obtain ⟨A3, c3, rfl⟩ := own_form ho3; have HO3 := hide_ ho3; have HB3 := hide_ hb3; clear ho3 hb3 hg3 hat3)) | (at_builtin; (refine wpList_append_rd _ rfl (.tmp 43) (.tmp 46) 123 rfl w.heap.size 9 1 16 stringT _ (k + 1) (strs (L.take k) ++ [Value.string s]) rfl HO3.out _ (n - k) _ (strs (L.drop k)) rfl (HRC.out.below HB3.out) (strs_one _) (by omega) (by unfold maxLen; omega) HB3.out.size HNC.out ?_; intro v4 w4 ho4 hg4 hat4; have hb4 := own_grown HB3.out HO3.out hg4 HB3.out.size; have HO4 := hide_ ho4; have HB4 := hide_ hb4; clear ho4 hb4 hg4 hat4)))
          go_ret
          have h4 := own_base HO4.out hBw
          exact ⟨⟨_, L.take k ++ [s] ++ L.drop k, k + 1 + (n - k), rfl, by have := HL.out; simp; omega, by omega, HN.out, by simpa [strs] using h4⟩, HB4.out⟩
end Go.Proofs.Ytidlkomgondkiaa
