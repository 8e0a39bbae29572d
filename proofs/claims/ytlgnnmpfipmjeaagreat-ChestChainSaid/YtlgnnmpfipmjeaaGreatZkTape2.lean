/-
  tape: Sync, Add; Bytes of an empty one.
-/
import Derived.Test.YtlgnnmpfipmjeaaGreatZkTape
import Derived.Test.YtlgnnmpfipmjeaaGreatZkZone
namespace Go.Proofs.YtlgnnmpfipmjeaaGreat
open Go.RowKit
set_option linter.unusedVariables false
set_option linter.unusedSimpArgs false
set_option maxHeartbeats 2000000 in
set_option maxRecDepth 100000 in
theorem tsync_any {w : World} {B p : Nat} {v : Value} {l : List UInt8} {sure room : Nat} (h : TapeAt w B p v l sure room) (hr : room ≤ 1048576) :
    Calls Tryz.prog 85 #[.pointer (some ⟨p, 0, none⟩)] w fun e w' => e = .returned (.int .i64 0) ∧ TapeAt w' B p v l l.length room ∧ Hits (· = p) w w' := by
  have HH := hide_ h
  have HW := hide_ (twrite_any h 0 (Nat.zero_le _) hr)
  obtain ⟨A1, c1, hv1⟩ := own_form h.2.2
  subst hv1
  have d0 := cell_of_row _ _ 0 _ _ (0, 0) h.2.1
  have d1 := cell_of_row _ _ 1 _ _ (0, 0) h.2.1
  have g1 := frozen_of_row _ _ 1 _ _ h.2.1
  have HHF := hide_ ((Hits.refl (· = p) w).setCell (g := p) (fun _ => rfl) 1 (.int .i64 l.length))
  have HF := hide_ (show TapeAt (w.setCell ⟨p, 1, none⟩ (.int .i64 l.length)) B p (.slice A1 l.length c1) l l.length room from ⟨h.1, heap_setCell_same w p 1 _ _ _ h.2.1, HHF.out.own h.2.2 (fun g hg e => h.ne (by rw [hg, e]))⟩)
  clear h
  go_enter Tryz.func85, Tryz.ntmps85
  go_wp2_with fail
  refine HW.out.mono ?_; rintro e w1 ⟨rfl, rfl⟩
  go_wp2_with fail
  go_ret
  exact ⟨rfl, HF.out, HHF.out⟩
set_option maxHeartbeats 4000000 in
set_option maxRecDepth 100000 in
theorem tadd_any {w : World} {B p : Nat} {v : Value} {l : List UInt8} {sure room : Nat} (h : TapeAt w B p v l sure room) (hr : room ≤ 1048576) {A : Option Addr} {m c : Nat} {news : List UInt8} (hR : Rd w 1 A m (bvs news)) (hm : news.length = m) (hA : A = none → m = 0) (hroom : l.length + m ≤ room) (hB : B ≤ w.heap.size) :
    Calls Tryz.prog 84 #[.pointer (some ⟨p, 0, none⟩), .slice A m c] w fun e w' => e = .returned (.int .i64 0) ∧ ∃ v', TapeAt w' B p v' (l ++ news) sure room ∧ Hits (wFp p v) w w' ∧ NS w v v' := by
  have HH := hide_ h
  have HR := hide_ hR; have HM := hide_ hm; have HA := hide_ hA
  have HW := hide_ (twrite_any h (l.length + m) hroom hr)
  obtain ⟨A1, c1, hv1⟩ := own_form h.2.2
  subst hv1
  have d0 := cell_of_row _ _ 0 _ _ (0, 0) h.2.1
  have q1 : (l.length : Int) ≤ 1048576 := by omega
  have q2 : (m : Int) ≤ 1048576 := by omega
  have HRM := hide_ hroom
  have HRR := hide_ hr
  clear h hR hm hA hr hroom
  go_enter Tryz.func84, Tryz.ntmps84
  go_wp2_with fail
  rw [show ((l.length : Int) + (m : Int)) = ((l.length + m : Nat) : Int) by omega]
  refine HW.out.mono ?_; rintro e w1 ⟨rfl, rfl⟩
  go_wp2_with (at_builtin; refine wpList_append_rd _ rfl (.tmp 25) (.tmp 26) 43 rfl B 5 1 1 kbyteT (.slice A1 l.length c1) l.length (bvs l) rfl HH.out.2.2 A m c (bvs news) rfl HR.out (bvs_one _) (by have := HRM.out; have := HRR.out; omega) (by have := HRM.out; have := HRR.out; unfold maxLen; omega) hB HA.out ?c8)
  case c8 =>
    intro v9 w9 hown hg hat
    obtain ⟨A9, c9, hv9⟩ := own_form hown
    subst hv9
    have hne := HH.out.ne
    have hrow := (hg.block p (theap_lt HH.out.2.1) (fun e => hne e.symm)).trans HH.out.2.1
    have e0 := cell_of_row _ _ 0 _ _ (0, 0) hrow
    have f0 := frozen_of_row _ _ 0 _ _ hrow
    have HNS := hide_ (NS.of_at hat (Nat.le_refl _))
    have hne9 : (Value.slice A9 (l.length + m) c9).ownBlock ≠ some p := HNS.out.ne (theap_lt HH.out.2.1) hne
    have HHF := hide_ (show Hits (wFp p (.slice A1 l.length c1)) w1 (w9.setCell ⟨p, 0, none⟩ (Value.slice A9 (l.length + m) c9)) from ((Hits.refl (wFp p (.slice A1 l.length c1)) w1).grown hg (fun g hg _ => .inr hg)).setCell (g := p) (fun _ => .inl rfl) 0 _)
    have HF := hide_ (show TapeAt (w9.setCell ⟨p, 0, none⟩ (Value.slice A9 (l.length + m) c9)) B p (Value.slice A9 (l.length + m) c9) (l ++ news) sure room from ⟨HH.out.1, heap_setCell_same w9 p 0 _ _ _ hrow, ((Hits.refl (· = p) w9).setCell (g := p) (fun _ => rfl) 0 _).own (by
      have e : (l ++ news).length = l.length + m := by rw [List.length_append, HM.out]
      rw [e, show bvs (l ++ news) = bvs l ++ bvs news by simp [bvs]]; exact hown) (fun g hg e => hne9 (by rw [hg, e]))⟩)
    clear hown hg hat hrow hne hne9 d0
    go_wp2_with fail
    go_ret
    exact ⟨rfl, _, HF.out, HHF.out, HNS.out⟩
set_option maxHeartbeats 2000000 in
set_option maxRecDepth 100000 in
theorem bclone_nil (w : World) (c : Nat) : Calls Tryz.prog 69 #[.slice none 0 c] w fun e w' => e = .returned (.slice none 0 0) ∧ w' = w := by
  have hE := fun W => eql_slice_nil_any (P := Tryz.prog) Tryz.underlying43 W none 0 c 0 0
  go_enter Tryz.func69, Tryz.ntmps69
  go_wp2_with fail
  go_ret
  exact ⟨rfl, rfl⟩
set_option maxHeartbeats 2000000 in
set_option maxRecDepth 100000 in
theorem tbytes_nil {w : World} {B p : Nat} {c sure room : Nat} (h : TapeAt w B p (.slice none 0 c) [] sure room) :
    Calls Tryz.prog 36 #[.pointer (some ⟨p, 0, none⟩)] w fun e w' => e = .returned (.tuple #[.slice none 0 0, .int .i64 0]) ∧ w' = w := by
  have HR := hide_ (tready_any h)
  have d0 := cell_of_row _ _ 0 _ _ (0, 0) h.2.1
  clear h
  go_enter Tryz.func36, Tryz.ntmps36
  go_wp2_with fail
  refine HR.out.mono ?_; rintro e w1 ⟨rfl, rfl⟩
  go_wp2_with fail
  refine (bclone_nil _ _).mono ?_; rintro e w2 ⟨rfl, rfl⟩
  go_wp2_with fail
  go_ret2
  exact ⟨rfl, rfl⟩

end Go.Proofs.YtlgnnmpfipmjeaaGreat
