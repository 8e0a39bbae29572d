/-
  The document's Behind.
-/
import Derived.Test.YtlllcepoglklcaaSpanE
namespace Go.Proofs.Ytlllcepoglklcaa
open Go.RowKit
set_option linter.unusedVariables false
set_option linter.unusedSimpArgs false
theorem str_at {s : ByteArray} {l : List UInt8} (h : s.data.toList = l) {k : Nat} (hk : k < s.size) : s[k]'hk = l.getD k 0 := by
  subst h
  have h2 : s.data.toList[k]? = some (s[k]'hk) := by rw [Array.getElem?_toList, Array.getElem?_eq_getElem (show k < s.data.size from hk)]; rfl
  rw [List.getD_eq_getElem?_getD, h2]; rfl
theorem eq255 (c : UInt8) : (((c.toNat : Int)) == 255) = decide (c = 255) := by
  by_cases h : c = 255
  · subst h; rfl
  · simp only [h, decide_false]
    rw [beq_eq_false_iff_ne]
    intro h2
    exact h (UInt8.toNat_inj.1 (by show c.toNat = 255; omega))
set_option maxHeartbeats 1000000 in
theorem rbehind_any (s : ByteArray) (hs : s.size ≤ 140737488351232) (w : World) : Calls Try.prog 17 #[.string s] w fun e w' =>
    ((keep s.data.toList s.data.toList.length = 0 ∧ e = .returned (.tuple #[.string ByteArray.empty, .bool false])) ∨
     (∃ k u, keep s.data.toList s.data.toList.length = k + 1 ∧ e = .returned (.tuple #[.string u, .bool true]) ∧ u.data.toList = s.data.toList.take k ++ [s.data.toList.getD k 0 + 1])) ∧ Below w.heap.size w w' := by
  obtain ⟨l, hl⟩ : ∃ l, l = s.data.toList := ⟨_, rfl⟩
  have hll : l.length = s.size := by rw [hl]; simp
  have HL := hide_ hl
  have HLL := hide_ hll
  rw [← hl]
  have hn : l.length ≤ 140737488351232 := by omega
  clear hl hll
  go_enter Try.func17, Try.ntmps17
  go_wp2_with fail
  go_loop [4] (fun s4 => ∃ n : Nat, s4 = .int .i64 n ∧ n ≤ l.length ∧ Hid (keep l n = keep l l.length)) (fun s4 => (intOf s4).toNat)
  case atStart => exact ⟨l.length, by rw [HLL.out], Nat.le_refl _, rfl⟩
  case round =>
    obtain ⟨n, rfl, hnl, HK⟩ := hrel
    rcases Nat.eq_zero_or_pos n with h0 | h0
    · subst h0
      have HK0 := hide_ (show keep l l.length = 0 by rw [← HK.out]; rfl)
      go_wp2_with fail
      go_ret2
      exact ⟨.inl ⟨HK0.out, rfl⟩, Below.refl _ _⟩
    · obtain ⟨k, rfl⟩ : ∃ k, n = k + 1 := ⟨n - 1, by omega⟩
      have hls := HLL.out
      have hks : k < s.size := by omega
      have hat := str_at HL.out.symm hks
      have hk2 : (k : Int) ≤ 140737488351232 := by omega
      have hk3 : (k : Int) < (s.size : Int) := by omega
      have hk4 : (k : Int) ≤ (s.size : Int) := by omega
      have hk5 : k ≤ s.size := by omega
      have HKS := hide_ hls
      clear hls
      by_cases h255 : l.getD k 0 = 255
      · have e1 : (((s[k]'hks).toNat : Int) == 255) = true := by rw [hat, eq255, h255]; rfl
        have HK2 := hide_ (show keep l k = keep l l.length by rw [← HK.out, keep, if_pos h255])
        clear hat h255
        go_wp2_with fail
        go_round
        case rel => exact ⟨k, rfl, by omega, HK2⟩
        case measure => simp [intOf]
      · have e1 : (((s[k]'hks).toNat : Int) == 255) = false := by rw [hat, eq255]; simpa using h255
        have HC := hide_ h255
        have HK0 := hide_ (show keep l l.length = k + 1 by rw [← HK.out, keep, if_neg h255])
        clear h255
        obtain ⟨c, hc⟩ : ∃ c, c = s[k]'hks + 1 := ⟨_, rfl⟩
        have hck := byte_up (s[k]'hks) (by rw [hat]; exact HC.out)
        rw [← hc] at hck
        have HCC := hide_ (hc.trans (by rw [hat]))
        have hconv : (convert 46 9 (.slice (some ⟨w.heap.size, 0, none⟩) 1 1)).run Try.prog (w.alloc (.cells #[.int .u8 (c.toNat : Int)] 5)).drew = .ok (.string ⟨#[c]⟩) (w.alloc (.cells #[.int .u8 (c.toNat : Int)] 5)).drew :=
          run_str_rd 46 9 5 1 (l := [c]) Try.underlying46 Try.underlying5 Try.underlying9 (by simp) (Rd.new w #[.int .u8 (c.toNat : Int)] 5 1 (0, 0) rfl)
        have hadd := fun W => run_string_add_sum (P := Try.prog) W (s.extract 0 k) ⟨#[c]⟩ (by rw [ByteArray.size_extract]; show _ + 1 ≤ 9223372036854775807; omega)
        clear hat hc
        go_wp2_with fail
        have k1 : IntKind.i64.wrap (k : Int) = (k : Int) := IntWalk.i64_in _ (by omega)
        have k2 : (0 : Int) ≤ (k : Int) := by omega
        refine wp_region_k (by kernel_rfl) ?_
        refine wpAnyK_take 0 (v := ?_) rfl (by kernel_rfl) (by kernel_rfl) (by kernel_rfl) (fun _ _ _ h => h) (by rfl) (by intro W hSw; go_simp; with_reducible rfl) ?_; try simp only [Act.put, List.setIfInBounds_toArray, List.set_cons_zero, List.set_cons_succ]
        refine wpAnyK_take 1 (v := ?_) rfl (by kernel_rfl) (by kernel_rfl) (by kernel_rfl) (fun _ _ _ h => h) (by rfl) (by intro W hSw; go_simp; with_reducible rfl) ?_; try simp only [Act.put, List.setIfInBounds_toArray, List.set_cons_zero, List.set_cons_succ]
        refine wpAnyK_take 2 (v := ?_) rfl (by kernel_rfl) (by kernel_rfl) (by kernel_rfl) (fun _ _ _ h => h) (by rfl) (by intro W hSw; go_simp; with_reducible rfl) ?_; try simp only [Act.put, List.setIfInBounds_toArray, List.set_cons_zero, List.set_cons_succ]
        refine wpAnyK_take 3 (v := ?_) rfl (by kernel_rfl) (by kernel_rfl) (by kernel_rfl) (fun _ _ _ h => h) (by rfl) (by intro W hSw; go_simp; with_reducible rfl) ?_; try simp only [Act.put, List.setIfInBounds_toArray, List.set_cons_zero, List.set_cons_succ]
        refine wpAnyK_take 4 (v := ?_) rfl (by kernel_rfl) (by kernel_rfl) (by kernel_rfl) (fun _ _ _ h => h) (by rfl) (by intro W hSw; go_simp; with_reducible rfl) ?_; try simp only [Act.put, List.setIfInBounds_toArray, List.set_cons_zero, List.set_cons_succ]
        refine wpAnyK_take 5 (v := ?_) rfl (by kernel_rfl) (by kernel_rfl) (by kernel_rfl) (fun _ _ _ h => h) (by rfl) (by intro W hSw; go_simp; with_reducible rfl) ?_; try simp only [Act.put, List.setIfInBounds_toArray, List.set_cons_zero, List.set_cons_succ]
        refine wpAnyK_take 6 (v := ?_) rfl (by kernel_rfl) (by kernel_rfl) (by kernel_rfl) (fun _ _ _ h => h) (by rfl) (by intro W hSw; go_simp; with_reducible rfl) ?_; try simp only [Act.put, List.setIfInBounds_toArray, List.set_cons_zero, List.set_cons_succ]
        refine wpAnyK_take 7 (v := ?_) rfl (by kernel_rfl) (by kernel_rfl) (by kernel_rfl) (fun _ _ _ h => h) (by rfl) (by intro W hSw; go_simp; with_reducible rfl) ?_; try simp only [Act.put, List.setIfInBounds_toArray, List.set_cons_zero, List.set_cons_succ]
        refine wpAnyK_take 8 (v := ?_) rfl (by kernel_rfl) (by kernel_rfl) (by kernel_rfl) (fun _ _ _ h => h) (by rfl) (by intro W hSw; go_simp; with_reducible rfl) ?_; try simp only [Act.put, List.setIfInBounds_toArray, List.set_cons_zero, List.set_cons_succ]
        refine wpAnyK_one 9 (by kernel_rfl) rfl (fun K hK => ?_)
        go_simp
        refine hK.out _ _ (Below.alloc (Below.refl _ _) (Nat.le_refl _) _) ?_
        clear hK K; try simp only [Act.put, List.setIfInBounds_toArray, List.set_cons_zero, List.set_cons_succ]
        refine wpAnyK_one 10 (by kernel_rfl) rfl (fun K hK => ?_)
        go_simp
        refine hK.out _ _ (Later.refl _) ?_
        clear hK K; try simp only [Act.put, List.setIfInBounds_toArray, List.set_cons_zero, List.set_cons_succ]
        refine wpAnyK_take 11 (v := ?_) rfl (by kernel_rfl) (by kernel_rfl) (by kernel_rfl) (fun _ _ _ h => h) (by rfl) (by intro W hSw; go_simp; with_reducible rfl) ?_; try simp only [Act.put, List.setIfInBounds_toArray, List.set_cons_zero, List.set_cons_succ]
        refine wpAnyK_take 12 (v := ?_) rfl (by kernel_rfl) (by kernel_rfl) (by kernel_rfl) (fun _ _ _ h => h) (by rfl) (by intro W hSw; go_simp; with_reducible rfl) ?_; try simp only [Act.put, List.setIfInBounds_toArray, List.set_cons_zero, List.set_cons_succ]
        refine wpAnyK_take 13 (v := ?_) rfl (by kernel_rfl) (by kernel_rfl) (by kernel_rfl) (fun _ _ _ h => h) (by rfl) (by intro W hSw; go_simp; with_reducible rfl) ?_; try simp only [Act.put, List.setIfInBounds_toArray, List.set_cons_zero, List.set_cons_succ]
        refine wpAnyK_done (by kernel_rfl) ?_ _
        clear k1
        go_wp2_with fail
        go_ret2
        refine ⟨.inr ⟨k, _, HK0.out, rfl, ?_⟩, ?_⟩
        · have h1 : (s.extract 0 k).data.toList = l.take k := by
            have h2 : (s.extract 0 k).data.toList = s.data.toList.take k := by simp [ByteArray.data_extract]
            rw [h2, HL.out]
          rw [ByteArray.toList_data_append, h1, HCC.out]
        · exact ((Below.refl _ _).alloc (Nat.le_refl _) _).drew

end Go.Proofs.Ytlllcepoglklcaa
