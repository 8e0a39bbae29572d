/-
  book: clone and lay of one record.
-/
import Derived.Test.YtlgnnmpfipmjeaaGreatZkBook
import Derived.Test.YtlgnnmpfipmjeaaGreatZkFPutB
import Derived.Test.YtlgnnmpfipmjeaaGreatZkZone
namespace Go.Proofs.YtlgnnmpfipmjeaaGreat
open Go.RowKit
set_option linter.unusedVariables false
set_option linter.unusedSimpArgs false
theorem rowsT : ElemT Tryz.prog 61 43 1 24 := elem_mk (z := .slice none 0 0) Tryz.underlying61 (by kernel_rfl) rfl (by decide)
set_option maxHeartbeats 2000000 in
set_option maxRecDepth 100000 in
theorem bclone_one {w : World} {g b o n c cc : Nat} {l : List UInt8} (hg : w.cell? ⟨g, 0, none⟩ = some (.slice (some ⟨b, o, none⟩) n c)) (hr : Rd w 1 (some ⟨b, o, none⟩) n (bvs l)) (hl : l.length = n) (hn : n ≤ 1048576) :
    Calls Tryz.prog 40 #[.slice (some ⟨g, 0, none⟩) 1 cc] w fun e w' => ∃ A c' x, e = .returned (.slice A 1 c') ∧ w'.ownsRow w.heap.size 43 1 (.slice A 1 c') 1 [x] ∧ x.oneCell' = true ∧ Later w w' := by
  have HG := hide_ hg; have HR := hide_ hr; have HL := hide_ hl
  clear hg hr hl
  go_enter Tryz.func40, Tryz.ntmps40
  go_wp2_with fail
  go_loopw [3, 8] (fun s3 s8 wr => ∃ (k : Nat) (A : Option Addr) (c' : Nat) (xs : List Value), k ≤ 1 ∧ s8 = .int .i64 k ∧ s3 = .slice A k c' ∧ Hid (wr.ownsRow w.heap.size 43 1 (.slice A k c') k xs) ∧ Hid (∀ u ∈ xs, u.oneCell' = true) ∧ Hid (Later w wr)) (fun _ i _ => 1 - (intOf i).toNat)
  case atStart => exact ⟨0, none, 0, [], by omega, rfl, rfl, World.ownsRow_nil _ _ _ _, hide_ (by simp), Later.refl w⟩
  case round =>
    obtain ⟨k, A, c', xs, hk, rfl, rfl, HO, HX, HB⟩ := hrel
    by_cases h0 : k = 0
    · subst h0
      have e0 := later_cell HG.out wr HB.out
      have HC := hide_ (bytesClone_any (c := c) (HR.out.below HB.out) HL.out hn)
      go_wp2_with fail
      refine HC.out.mono ?_; rintro e w2 ⟨v2, rfl, ho2, hl2⟩
      obtain ⟨A2, c2, hv2⟩ := own_form ho2
      subst hv2
      have HO2 := hide_ (own_below HO.out hl2)
      have HB2 := hide_ (HB.out.trans hl2)
      clear ho2 hl2 e0 HC
      go_wp2_with (at_builtin; refine wpList_append_rd _ rfl (.tmp 12) (.tmp 15) 61 rfl w.heap.size 43 1 24 rowsT (.slice A 0 c') 0 xs rfl ?c1 (some ⟨w2.heap.size, 0, none⟩) 1 1 [.slice A2 n c2] rfl ?c2 ?c3 (by omega) (by unfold maxLen; omega) ?c6 (fun h => by cases h) ?c8)
      case c1 => exact own_below HO2.out (later_alloc _ _)
      case c2 => exact Rd.newAt _ #[.slice A2 n c2] 43 1 1 _ (0, 0) rfl rfl
      case c3 => intro u hu; rw [List.mem_singleton] at hu; subst hu; rfl
      case c6 => have := HB2.out.size; simp; omega
      case c8 =>
        intro v9 w9 hown hg hat
        obtain ⟨A9, c9, hv9⟩ := own_form hown
        subst hv9
        have HOF := hide_ hown
        have HXF := hide_ (show ∀ u ∈ xs ++ [Value.slice A2 n c2], u.oneCell' = true from by
          intro u hu
          rcases List.mem_append.1 hu with hu | hu
          · exact HX.out u hu
          · rw [List.mem_singleton] at hu; subst hu; rfl)
        have HBF := hide_ (show Later w w9 from own_grown (HB2.out.al _) (own_below HO2.out (later_alloc _ _)) hg (by have := HB2.out.size; simp; omega))
        clear hown hg hat
        go_wp2_with fail
        go_roundw
        case rel => exact ⟨1, A9, c9, _, by omega, rfl, rfl, HOF, HXF, HBF⟩
        case measure => simp [intOf]
    · obtain rfl : k = 1 := by omega
      go_wp2_with fail
      go_ret
      obtain ⟨x, rfl⟩ : ∃ x, xs = [x] := by
        have h := HO.out.1
        match xs, h with
        | [x], _ => exact ⟨x, rfl⟩
      exact ⟨A, c', x, rfl, HO.out, HX.out x (by simp), HB.out⟩
set_option maxHeartbeats 4000000 in
set_option maxRecDepth 100000 in
theorem blay_one {w : World} {B b t : Nat} {v vr : Value} {used room : Nat} (h : BookAt w B b t v vr used room) {g gb o n c cc : Nat} {l : List UInt8} (hg : w.cell? ⟨g, 0, none⟩ = some (.slice (some ⟨gb, o, none⟩) n c)) (hr : Rd w 1 (some ⟨gb, o, none⟩) n (bvs l)) (hl : l.length = n) (hn : n ≤ 65000) :
    Calls Tryz.prog 82 #[.pointer (some ⟨b, 0, none⟩), .slice (some ⟨g, 0, none⟩) 1 cc] w fun e w' => ∃ v' m, e = .returned (.tuple #[v', .int .i64 0]) ∧ m.length ≤ n + 7 ∧ 0 < m.length ∧ w'.ownsRow w.heap.size 5 1 v' m.length (bvs m) ∧ Later w w' := by
  have HG := hide_ hg; have HR := hide_ hr; have HL := hide_ hl
  have HRDY := hide_ (bready_any h)
  clear hg hr hl h
  go_enter Tryz.func82, Tryz.ntmps82
  go_wp2_with fail
  refine HRDY.out.mono ?_; rintro e w1 ⟨rfl, rfl⟩
  have HWR := hide_ (WrAt.fresh w1 (B := w1.heap.size) (Nat.le_refl _))
  go_wp2_with fail
  obtain ⟨W2, hW2⟩ : ∃ W2, W2 = w1.alloc (Obj.cells #[Value.slice none 0 0, Value.int IntKind.i64 0] 110) := ⟨_, rfl⟩
  rw [← hW2] at HWR ⊢
  have HL2 := hide_ (show Later w1 W2 by rw [hW2]; exact later_alloc _ _)
  have HZ2 := hide_ (show W2.heap.size = w1.heap.size + 1 by rw [hW2]; simp)
  clear hW2
  go_loopw [19] (fun s19 wr => ∃ (k : Nat) (v' : Value) (s : List UInt8), k ≤ 1 ∧ s19 = .int .i64 k ∧ Hid (WrAt wr w1.heap.size w1.heap.size v' (s, 0)) ∧ Hid (Later w1 wr) ∧ Hid (k = 0 → s = []) ∧ Hid (k = 1 → s.length ≤ n + 7 ∧ 0 < s.length)) (fun i _ => 1 - (intOf i).toNat)
  case atStart => exact ⟨0, .slice none 0 0, [], by omega, rfl, HWR, HL2, fun _ => rfl, fun h => by cases h⟩
  case round =>
    obtain ⟨k, v', s, hk, rfl, HW, HB, HS0, HS1⟩ := hrel
    by_cases h0 : k = 0
    · subst h0
      obtain rfl := HS0.out rfl
      have e0 := later_cell HG.out wr HB.out
      have hn2 : ¬ (65532 : Int) < (n : Int) := by omega
      have HC := hide_ (seal_any (some ⟨gb, o, none⟩) c l wr (by rw [HL.out]; omega) (fun h => by cases h) (by rw [HL.out]; exact HR.out.below HB.out))
      rw [HL.out] at HC
      go_wp2_with fail
      refine HC.out.mono ?_; rintro e w2 ⟨v2, rfl, ho2, hl2⟩
      obtain ⟨A2, c2, hv2⟩ := own_form ho2
      subst hv2
      have hsl : (sealed l).length = 4 + n := by unfold sealed; rw [List.length_append, HL.out]; rfl
      have hs : (convert 43 9 (.slice A2 (4 + n) c2)).run Tryz.prog w2 = .ok (.string ⟨(sealed l).toArray⟩) w2 := run_str_n _ _ 5 c2 hsl Tryz.underlying43 Tryz.underlying5 Tryz.underlying9 (own_nil ho2) (Rd.of_own ho2)
      have HW2 := hide_ (HW.out.later hl2)
      have HB2 := hide_ (HB.out.trans hl2)
      have hsz : (⟨(sealed l).toArray⟩ : ByteArray).size = 4 + n := by rw [← hsl]; rfl
      obtain ⟨sb, hsb⟩ : ∃ sb : ByteArray, sb = ⟨(sealed l).toArray⟩ := ⟨_, rfl⟩
      rw [← hsb] at hs hsz
      have HSZ := hide_ hsz
      have HPT := hide_ (show (putT sb.data.toList).length ≤ n + 7 ∧ 0 < (putT sb.data.toList).length by
        have h1 := putT_len (s := sb.data.toList) (by rw [Array.length_toList]; show sb.size ≤ _; omega)
        have h2 : sb.data.toList.length = 4 + n := by rw [Array.length_toList]; exact hsz
        refine ⟨by omega, ?_⟩
        unfold putT; rw [List.length_append]; have := putN_pos sb.data.toList.length; omega)
      have HWT := hide_ (show wTexts [sb] (([] : List UInt8), 0) = (putT sb.data.toList, 0) by
        unfold wTexts; rw [if_neg (by omega)]; unfold wTexts; rfl)
      clear ho2 hl2 hsl hsz hsb HC e0
      go_wp2_with fail
      refine (texts_any (HW2.out.later (later_alloc _ _)) (A := some ⟨w2.heap.size, 0, none⟩) (n := 1) (L := [sb]) (by exact Rd.fresh1 rfl) rfl (by omega) (by intro y hy; rw [List.mem_singleton] at hy; subst hy; have := HSZ.out; omega) (by
        intro a ha; injection ha with ha; subst ha
        rintro (hf | hf)
        · have := HW2.out.lt; simp at hf; omega
        · have := (HW2.out.2.2.lt _ hf).2; simp at this) (by simp) (by have := HB2.out.size; simp; omega)).mono ?_; rintro e w3 ⟨rfl, hp3⟩
      rw [HWT.out] at hp3
      obtain ⟨v3, ht3, hh3, hd3⟩ := hp3
      have HT3 := hide_ ht3
      have HB3 := hide_ (show Later w1 w3 from Below.trans (HB2.out.al _) (hh3.below (B := w1.heap.size) (by have := HB2.out.size; simp; omega) (by
        rintro k (hk | hk)
        · omega
        · exact (HW2.out.2.2.lt _ hk).1)))
      clear ht3 hh3 hd3 hs
      go_wp2_with fail
      go_roundw
      case rel => exact ⟨1, v3, putT sb.data.toList, by omega, rfl, HT3, HB3, hide_ (fun h => by cases h), hide_ (fun _ => HPT.out)⟩
      case measure => simp [intOf]
    · obtain rfl : k = 1 := by omega
      have HWB := hide_ (wbytes_any HW.out)
      go_wp2_with fail
      refine HWB.out.mono ?_; rintro e w2 ⟨rfl, rfl⟩
      go_wp2_with fail
      go_ret2
      exact ⟨v', s, rfl, (HS1.out trivial).1, (HS1.out trivial).2, HW.out.2.2, HB.out⟩

end Go.Proofs.YtlgnnmpfipmjeaaGreat
