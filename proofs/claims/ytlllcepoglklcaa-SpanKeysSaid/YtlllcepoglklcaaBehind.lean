/-
  Behind: the least key behind all that begin with a text; and Next.
-/
import Derived.Test.YtlllcepoglklcaaSpanD
import Derived.Test.YtlllcepoglklcaaRegion
import Derived.Test.YtlllcepoglklcaaSufLay
import Derived.IntWalk
namespace Go.Proofs.Ytlllcepoglklcaa
open Go.RowKit
set_option linter.unusedVariables false
set_option linter.unusedSimpArgs false
theorem next_any (s : ByteArray) (hs : s.size ≤ 4611686018427387904) (w : World) : Calls Try.prog 15 #[.string s] w fun e w' => e = .returned (.string (s ++ ⟨#[0]⟩)) ∧ w = w' := by
  have h : ∀ W, (Op.stringOp .add s ⟨#[0]⟩).run Try.prog W = .ok (.string (s ++ ⟨#[0]⟩)) W := fun W => run_string_add_sum W s ⟨#[0]⟩ (by show s.size + 1 ≤ 9223372036854775807; omega)
  go_enter Try.func15, Try.ntmps15
  go_wp2_with fail
  go_ret
  exact ⟨rfl, rfl⟩
/-- How much of the first n stays when what is 255 at the end goes. -/
def keep (l : List UInt8) : Nat → Nat
  | 0 => 0
  | n + 1 => if l.getD n 0 = 255 then keep l n else n + 1
theorem keep_le (l : List UInt8) (n : Nat) : keep l n ≤ n := by
  induction n with
  | zero => exact Nat.le_refl _
  | succ n ih => unfold keep; split <;> omega
theorem keep_last (l : List UInt8) (n : Nat) (h : 0 < keep l n) : l.getD (keep l n - 1) 0 ≠ 255 := by
  induction n with
  | zero => simp [keep] at h
  | succ n ih =>
    unfold keep at h ⊢
    split
    · rename_i h2; rw [if_pos h2] at h; exact ih h
    · rename_i h2; simpa using h2
theorem keep_all (l : List UInt8) (n : Nat) : ∀ i, keep l n ≤ i → i < n → l.getD i 0 = 255 := by
  induction n with
  | zero => intro i _ h; omega
  | succ n ih =>
    intro i h1 h2
    unfold keep at h1
    split at h1
    · rename_i h3
      by_cases hi : i = n
      · subst hi; exact h3
      · exact ih i h1 (by omega)
    · omega
theorem take_last {l : List UInt8} {n : Nat} (hn : n < l.length) : l.take (n + 1) = l.take n ++ [l.getD n 0] := by
  rw [List.take_add_one, List.getElem?_eq_getElem hn, List.getD_eq_getElem?_getD, List.getElem?_eq_getElem hn]; rfl
theorem suffix_yes {l : List UInt8} {n : Nat} (hn : n < l.length) (h : l.getD n 0 = 255) : Lib.hasSuffix (l.take (n + 1)) [255] = true ∧ Lib.trimSuffix (l.take (n + 1)) [255] = l.take n := by
  have h1 : Lib.hasSuffix (l.take (n + 1)) [255] = true := by
    unfold Lib.hasSuffix
    rw [List.isSuffixOf_iff_suffix, take_last hn, h]
    exact List.suffix_append _ _
  refine ⟨h1, ?_⟩
  unfold Lib.trimSuffix
  rw [if_pos h1, List.length_take, Nat.min_eq_left (by omega), List.take_take]
  congr 1
  simp
theorem suffix_no {l : List UInt8} {n : Nat} (hn : n ≤ l.length) (h : n = 0 ∨ l.getD (n - 1) 0 ≠ 255) : Lib.hasSuffix (l.take n) [255] = false ∧ Lib.trimSuffix (l.take n) [255] = l.take n := by
  have h1 : Lib.hasSuffix (l.take n) [255] = false := by
    rw [Bool.eq_false_iff]
    unfold Lib.hasSuffix
    intro hs
    rw [List.isSuffixOf_iff_suffix] at hs
    obtain ⟨t, ht⟩ := hs
    have hlen := congrArg List.length ht
    simp at hlen
    obtain ⟨m, rfl⟩ : ∃ m, n = m + 1 := ⟨n - 1, by omega⟩
    rw [take_last (by omega)] at ht
    have := (List.append_inj' ht rfl).2
    rcases h with h | h
    · omega
    · apply h
      injection this with this
      simpa using this.symm
  refine ⟨h1, ?_⟩
  unfold Lib.trimSuffix
  rw [h1]; rfl
theorem cut_yes {l : List UInt8} {n : Nat} {u : ByteArray} (hu : u.data.toList = l.take (n + 1)) (hn : n < l.length) (h : l.getD n 0 = 255) (hs : u.size ≤ 4611686018427387904) (w : World) :
    Calls Try.prog 25 #[.string u, .string ⟨#[255]⟩] w fun e w' => e = .returned (.tuple #[.string ⟨(l.take n).toArray⟩, .bool true]) ∧ w' = w := by
  have hcon := Any.strings_CutSuffix cutSuffix u ⟨#[255]⟩ w (by omega)
  change Calls Try.prog 25 _ w _ at hcon
  have hy := suffix_yes hn h
  rw [hu, show (⟨#[255]⟩ : ByteArray).data.toList = [255] from rfl, hy.1, hy.2] at hcon
  exact hcon
theorem cut_no {l : List UInt8} {n : Nat} {u : ByteArray} (hu : u.data.toList = l.take n) (hn : n ≤ l.length) (h : n = 0 ∨ l.getD (n - 1) 0 ≠ 255) (hs : u.size ≤ 4611686018427387904) (w : World) :
    Calls Try.prog 25 #[.string u, .string ⟨#[255]⟩] w fun e w' => e = .returned (.tuple #[.string ⟨(l.take n).toArray⟩, .bool false]) ∧ w' = w := by
  have hcon := Any.strings_CutSuffix cutSuffix u ⟨#[255]⟩ w (by omega)
  change Calls Try.prog 25 _ w _ at hcon
  have hy := suffix_no hn h
  rw [hu, show (⟨#[255]⟩ : ByteArray).data.toList = [255] from rfl, hy.1, hy.2] at hcon
  exact hcon
theorem size_mk (L : List UInt8) : (⟨L.toArray⟩ : ByteArray).size = L.length := by show L.toArray.size = _; simp
/-- What is measured of a string, and of a bool. -/
def mStr : Value → Nat | .string u => u.size | _ => 0
def mBool : Value → Nat | .bool true => 1 | _ => 0
theorem byte_up (c : UInt8) (h : c ≠ 255) : IntKind.u8.wrap ((c.toNat : Int) + 1) = (((c + 1).toNat : Nat) : Int) := by
  have hc : c.toNat ≠ 255 := fun h2 => h (UInt8.toNat_inj.1 (by simpa using h2))
  have hl := c.toNat_lt
  rw [IntWalk.u8_in _ (by omega), UInt8.toNat_add]
  show (c.toNat : Int) + 1 = (((c.toNat + 1) % 256 : Nat) : Int)
  rw [Nat.mod_eq_of_lt (by omega)]; omega
set_option maxHeartbeats 1000000 in
theorem behind_any (s : ByteArray) (hs : s.size ≤ 140737488351232) (w : World) : Calls Try.prog 16 #[.string s] w fun e w' =>
    ((keep s.data.toList s.data.toList.length = 0 ∧ e = .returned (.tuple #[.string ByteArray.empty, .int .i64 4])) ∨
     (∃ k u, keep s.data.toList s.data.toList.length = k + 1 ∧ e = .returned (.tuple #[.string u, .int .i64 0]) ∧ u.data.toList = s.data.toList.take k ++ [s.data.toList.getD k 0 + 1])) ∧ Below w.heap.size w w' := by
  obtain ⟨l, hl⟩ : ∃ l, l = s.data.toList := ⟨_, rfl⟩
  have hll : l.length = s.size := by rw [hl]; simp
  have HL := hide_ hl
  have HLL := hide_ hll
  rw [← hl]
  have hn : l.length ≤ 140737488351232 := by omega
  clear hl hll
  go_enter Try.func16, Try.ntmps16
  go_wp2_with fail
  go_loop [4, 5] (fun s4 s5 => ∃ (n : Nat) (u : ByteArray) (more : Bool), s4 = .string u ∧ s5 = .bool more ∧ Hid (u.data.toList = l.take n) ∧ n ≤ l.length ∧ Hid (keep l n = keep l l.length) ∧ Hid (more = false → n = 0 ∨ l.getD (n - 1) 0 ≠ 255)) (fun s4 s5 => mStr s4 + mBool s5)
  case atStart => exact ⟨l.length, s, true, rfl, rfl, by rw [List.take_length]; exact HL.out.symm, Nat.le_refl _, rfl, fun h => by cases h⟩
  case round =>
    obtain ⟨n, u, more, rfl, rfl, HU, hnl, HK, HM⟩ := hrel
    have husz : u.size = n := by
      have h1 : u.data.toList.length = n := by rw [HU.out, List.length_take]; omega
      simpa using h1
    cases more with
    | true =>
      have HZ := hide_ husz
      rcases Nat.eq_zero_or_pos n with h0 | h0
      · subst h0
        have hc := fun W => cut_no HU.out hnl (.inl rfl) (by omega) W
        clear husz
        go_wp2_with (go_at_call 25; refine (hc _).mono ?_; rintro e w' ⟨rfl, rfl⟩)
        go_round
        case rel => exact ⟨0, _, false, rfl, rfl, hide_ (by simp), hnl, HK, fun _ => .inl rfl⟩
        case measure =>
          have h1 := HZ.out
          have h2 : (⟨#[]⟩ : ByteArray).size = 0 := rfl
          simp only [mStr, mBool, h1]
          show (⟨#[]⟩ : ByteArray).size + 0 < 0 + 1
          rw [h2]; omega
      · obtain ⟨m, rfl⟩ : ∃ m, n = m + 1 := ⟨n - 1, by omega⟩
        by_cases h255 : l.getD m 0 = 255
        · have hc := fun W => cut_yes HU.out (by omega) h255 (by omega) W
          have HK2 := hide_ (show keep l m = keep l l.length by rw [← HK.out, keep, if_pos h255])
          clear husz h255
          go_wp2_with (go_at_call 25; refine (hc _).mono ?_; rintro e w' ⟨rfl, rfl⟩)
          go_round
          case rel => exact ⟨m, _, true, rfl, rfl, rfl, by omega, HK2, fun h => by cases h⟩
          case measure =>
            have h1 := HZ.out
            have h2 : (⟨(l.take m).toArray⟩ : ByteArray).size = m := by rw [size_mk, List.length_take]; omega
            simp only [mStr, mBool, h1, h2]; omega
        · have hc := fun W => cut_no HU.out hnl (.inr h255) (by omega) W
          have H5 := hide_ h255
          clear husz h255
          go_wp2_with (go_at_call 25; refine (hc _).mono ?_; rintro e w' ⟨rfl, rfl⟩)
          go_round
          case rel => exact ⟨m + 1, _, false, rfl, rfl, rfl, by omega, HK, fun _ => .inr H5.out⟩
          case measure =>
            have h1 := HZ.out
            have h2 : (⟨(l.take (m + 1)).toArray⟩ : ByteArray).size = (m + 1) := by rw [size_mk, List.length_take]; omega
            simp only [mStr, mBool, h1, h2]; omega
    | false =>
      have hM := HM.out rfl
      rcases Nat.eq_zero_or_pos n with h0 | h0
      · subst h0
        have HK0 := hide_ (show keep l l.length = 0 by rw [← HK.out]; rfl)
        obtain rfl : u = ByteArray.empty := ba_ext (by rw [HU.out]; rfl)
        clear husz hM
        go_wp2_with fail
        go_ret2
        exact ⟨.inl ⟨HK0.out, rfl⟩, Below.refl _ _⟩
      · obtain ⟨k, rfl⟩ : ∃ k, n = k + 1 := ⟨n - 1, by omega⟩
        have hc0 : l.getD k 0 ≠ 255 := by rcases hM with h | h; omega; simpa using h
        have HC := hide_ hc0
        have HK0 := hide_ (show keep l l.length = k + 1 by rw [← HK.out, keep, if_neg hc0])
        have hne : u.toList ≠ [] := by
          rw [Lib.toList_data]; intro h; have h1 : u.data.toList.length = 0 := by rw [h]; rfl
          have h2 : u.data.toList.length = u.size := by simp
          omega
        have he1 : u.toList.isEmpty = false := by cases h : u.toList with | nil => exact absurd h hne | cons _ _ => rfl
        have he2 : (u.toList == ([] : List UInt8)) = false := by rw [beq_eq_false_iff_ne]; exact hne
        have hk2 : (k : Int) ≤ 140737488351232 := by omega
        clear hM hc0 hne
        go_wp2_with fail
        have hku : k < u.size := by omega
        have hcu : u[k]'hku = l.getD k 0 := by
          have h1 : u.data.toList[k]? = (l.take (k + 1))[k]? := by rw [HU.out]
          rw [List.getElem?_take, if_pos (by omega), List.getElem?_eq_getElem (show k < l.length by omega)] at h1
          rw [List.getD_eq_getElem?_getD, List.getElem?_eq_getElem (by omega)]
          have h2 : u.data.toList[k]? = some (u[k]'hku) := by rw [Array.getElem?_toList, Array.getElem?_eq_getElem (show k < u.data.size from hku)]; rfl
          rw [h2] at h1
          injection h1
        obtain ⟨c, hc⟩ : ∃ c, c = u[k]'hku + 1 := ⟨_, rfl⟩
        have hck := byte_up (u[k]'hku) (by rw [hcu]; exact HC.out)
        rw [← hc] at hck
        have HCC := hide_ (hc.trans (by rw [hcu]))
        have hconv : (convert 46 9 (.slice (some ⟨w.heap.size, 0, none⟩) 1 1)).run Try.prog (w.alloc (.cells #[.int .u8 (c.toNat : Int)] 5)).drew = .ok (.string ⟨#[c]⟩) (w.alloc (.cells #[.int .u8 (c.toNat : Int)] 5)).drew :=
          run_str_rd 46 9 5 1 (l := [c]) Try.underlying46 Try.underlying5 Try.underlying9 (by simp) (Rd.new w #[.int .u8 (c.toNat : Int)] 5 1 (0, 0) rfl)
        have hadd := fun W => run_string_add_sum (P := Try.prog) W (u.extract 0 k) ⟨#[c]⟩ (by rw [ByteArray.size_extract]; show _ + 1 ≤ 9223372036854775807; omega)
        have a1 : (0 : Int) ≤ (k : Int) := by omega
        have a2 : (k : Int) ≤ (k : Int) + 1 := by omega
        have a3 : (k : Int) < (k : Int) + 1 := by omega
        have a4 : k < k + 1 := by omega
        clear hcu hc
        refine wp_region_k (by kernel_rfl) ?_
        refine wpAnyK_take 0 (v := ?_) rfl (by kernel_rfl) (by kernel_rfl) (by kernel_rfl) (fun _ _ _ h => h) (by rfl) (by intro W hSw; go_simp; with_reducible rfl) ?_; try simp only [Act.put, List.setIfInBounds_toArray, List.set_cons_zero, List.set_cons_succ]
        refine wpAnyK_take 1 (v := ?_) rfl (by kernel_rfl) (by kernel_rfl) (by kernel_rfl) (fun _ _ _ h => h) (by rfl) (by intro W hSw; go_simp; with_reducible rfl) ?_; try simp only [Act.put, List.setIfInBounds_toArray, List.set_cons_zero, List.set_cons_succ]
        refine wpAnyK_take 2 (v := ?_) rfl (by kernel_rfl) (by kernel_rfl) (by kernel_rfl) (fun _ _ _ h => h) (by rfl) (by intro W hSw; go_simp; with_reducible rfl) ?_; try simp only [Act.put, List.setIfInBounds_toArray, List.set_cons_zero, List.set_cons_succ]
        refine wpAnyK_take 3 (v := ?_) rfl (by kernel_rfl) (by kernel_rfl) (by kernel_rfl) (fun _ _ _ h => h) (by rfl) (by intro W hSw; go_simp; with_reducible rfl) ?_; try simp only [Act.put, List.setIfInBounds_toArray, List.set_cons_zero, List.set_cons_succ]
        refine wpAnyK_take 4 (v := ?_) rfl (by kernel_rfl) (by kernel_rfl) (by kernel_rfl) (fun _ _ _ h => h) (by rfl) (by intro W hSw; go_simp; with_reducible rfl) ?_; try simp only [Act.put, List.setIfInBounds_toArray, List.set_cons_zero, List.set_cons_succ]
        refine wpAnyK_take 5 (v := ?_) rfl (by kernel_rfl) (by kernel_rfl) (by kernel_rfl) (fun _ _ _ h => h) (by rfl) (by intro W hSw; go_simp; with_reducible rfl) ?_; try simp only [Act.put, List.setIfInBounds_toArray, List.set_cons_zero, List.set_cons_succ]
        refine wpAnyK_take 6 (v := ?_) rfl (by kernel_rfl) (by kernel_rfl) (by kernel_rfl) (fun _ _ _ h => h) (by rfl) (by intro W hSw; go_simp; with_reducible rfl) ?_; try simp only [Act.put, List.setIfInBounds_toArray, List.set_cons_zero, List.set_cons_succ]
        refine wpAnyK_one 7 (by kernel_rfl) rfl (fun K hK => ?_)
        go_simp
        refine hK.out _ _ (Below.alloc (Below.refl _ _) (Nat.le_refl _) _) ?_
        clear hK K; try simp only [Act.put, List.setIfInBounds_toArray, List.set_cons_zero, List.set_cons_succ]
        refine wpAnyK_one 8 (by kernel_rfl) rfl (fun K hK => ?_)
        go_simp
        refine hK.out _ _ (Later.refl _) ?_
        clear hK K; try simp only [Act.put, List.setIfInBounds_toArray, List.set_cons_zero, List.set_cons_succ]
        refine wpAnyK_take 9 (v := ?_) rfl (by kernel_rfl) (by kernel_rfl) (by kernel_rfl) (fun _ _ _ h => h) (by rfl) (by intro W hSw; go_simp; with_reducible rfl) ?_; try simp only [Act.put, List.setIfInBounds_toArray, List.set_cons_zero, List.set_cons_succ]
        refine wpAnyK_take 10 (v := ?_) rfl (by kernel_rfl) (by kernel_rfl) (by kernel_rfl) (fun _ _ _ h => h) (by rfl) (by intro W hSw; go_simp; with_reducible rfl) ?_; try simp only [Act.put, List.setIfInBounds_toArray, List.set_cons_zero, List.set_cons_succ]
        refine wpAnyK_take 11 (v := ?_) rfl (by kernel_rfl) (by kernel_rfl) (by kernel_rfl) (fun _ _ _ h => h) (by rfl) (by intro W hSw; go_simp; with_reducible rfl) ?_; try simp only [Act.put, List.setIfInBounds_toArray, List.set_cons_zero, List.set_cons_succ]
        refine wpAnyK_done (by kernel_rfl) ?_ _
        go_wp2_with fail
        go_ret2
        refine ⟨.inr ⟨k, _, HK0.out, rfl, ?_⟩, ?_⟩
        · have h1 : (u.extract 0 k).data.toList = l.take k := by
            have h2 : (u.extract 0 k).data.toList = u.data.toList.take k := by simp [ByteArray.data_extract]
            rw [h2, HU.out, List.take_take]; congr 1; omega
          rw [ByteArray.toList_data_append, h1, HCC.out]
        · exact ((Below.refl _ _).alloc (Nat.le_refl _) _).drew

end Go.Proofs.Ytlllcepoglklcaa
