/-
  Texts of this seat in one: GStuck.
-/
import Derived.Test.YtcmollfhlillfaaGreatDoorM47
import Derived.Test.YtcmollfhlillfaaGreatDoorM46
import Derived.Test.YtcmollfhlillfaaGreatDoorM30
/-
  The law FrontStuck's walk.
-/
namespace Go.Proofs.YtcmollfhlillfaaGreatDoor
open Go.RowKit
set_option linter.unusedVariables false
set_option linter.unusedSimpArgs false
theorem tk_ok1 (n : Int) (h0 : 0 ≤ n) (h1 : n ≤ 1000) : TkOk (fs1 n) where
  begun := rfl
  go := by rw [tickA_fs1]; exact go_cur (b := openB { fs0 with begun := true }) rfl (adv_ok rfl rfl rfl (.inl rfl) rfl rfl rfl (by decide))
  all := all_ok rfl rfl
  n := Nat.le_of_ble_eq_true rfl
  al := fun u hu => by cases hu
  len := by rw [(tickF_fs1 n).2]; exact Nat.le_of_ble_eq_true rfl
  stuck := ⟨h0, by show n ≤ 1000000000000; omega⟩
  num := ⟨by show (0 : Int) ≤ 0; decide, by show (0 : Int) ≤ 1000000000000; decide⟩
  res := fun b e hv => by
    rw [tickA_fs1] at e ⊢
    injection e with e
    subst e
    have h := openOk (s := { fs0 with begun := true }) (fr_ok rfl rfl rfl (by show (0 : Int) ≤ 50; decide) (by show (50 : Int) ≤ 1000000; decide))
    exact ⟨h.bnd, h.len, h.jobs, h.sound, h.refs⟩
  psh := fun b V e hv => by
    rw [tickA_fs1] at e
    injection e with e
    subst e
    cases hv
theorem tick_fs1 {w : World} {f : Nat} {X : List Nat} (n : Int) (h0 : 0 ≤ n) (h1 : n ≤ 1000) (h : FrH w f (fs1 n) X) : Calls Tryz.prog 16 #[.pointer (some ⟨f, 0, none⟩)] w (TurnW w f X (fs1 (n + 1)) [resM]) := by
  have h2 := tick_res h (tk_ok1 n h0 h1) rfl rfl
  rw [(tickF_fs1 n).1, (tickF_fs1 n).2] at h2
  exact h2
theorem tick_fs0 {w : World} {f : Nat} {X : List Nat} (h : FrH w f fs0 X) : Calls Tryz.prog 16 #[.pointer (some ⟨f, 0, none⟩)] w (TurnW w f X (fs1 0) [resM]) := by
  have h2 := tick_first h rfl rfl (fr_ok rfl rfl rfl (by show (0 : Int) ≤ 50; decide) (by show (50 : Int) ≤ 1000000; decide))
  rw [first_list] at h2
  exact h2.mono fun e w' h3 => h3.mid
set_option maxHeartbeats 8000000 in
set_option maxRecDepth 100000 in
theorem stuck_law {w : World} (hG : OwnG w) (x : Int) (hx0 : 0 ≤ x) (hx1 : x < 256) :
    Calls Tryz.prog 6 #[.int .u8 x] w fun e w' => e = .returned (.bool true) ∧ Later w w' := by
  have HG := hide_ hG
  have HGL := hide_ (show 0 < w.heap.size from cell_lt hG.c0)
  obtain ⟨N, hN⟩ : ∃ N : Nat, (N : Int) = x % 50 := ⟨(x % 50).toNat, by omega⟩
  have hN50 : N < 50 := by omega
  have HN := hide_ hN
  clear hG
  go_enter Tryz.func6, Tryz.ntmps6
  go_wp2_with fail
  refine (begin_any w).mono ?_
  rintro e w1 ⟨g, X, fb, rfl, hg1, hX1, hl1⟩
  have HG1 := hide_ hg1; have HX1 := hide_ hX1; have HL1 := hide_ hl1
  clear hg1 hX1 hl1
  go_wp2_with fail
  refine (awake_any w1).mono ?_
  rintro e w2 ⟨rfl, hl2⟩
  have hg2 := HG1.out.later hl2
  have HL2 := hide_ (HL1.out.trans hl2)
  obtain ⟨c, hat, hX⟩ := id hg2
  have hgr := GmAt.cells hat
  unfold gmRow at hgr
  have c0 : w2.cell? ⟨g, 0, none⟩ = some (.pointer (some ⟨fb, 0, none⟩)) := cell_of_row _ _ 0 _ _ (0, 0) hgr
  have glt := theap_lt hgr
  have HAT := hide_ hat
  have HXB := hide_ (show ∀ k ∈ g :: c.xs.flatten, w.heap.size ≤ k by rw [← hX]; exact HX1.out)
  have HTK := hide_ (tick_fs0 (f := fb) (show FrH w2 fb fs0 c.Xf from (GmAt.p hat).fr))
  clear hl2 hg2 hat hX hgr
  go_wp2_with fail
  refine HTK.out.mono ?_
  rintro e w5 h5
  obtain ⟨A5, n5, cc5, Y5, X15, rfl, hn5, hg15, hp5, hv5, hy5, hh15, hf15, _⟩ := GmAt.take HAT.out h5
  have HSN := hide_ (gsend_any hg15 hp5 hn5 hv5 hy5 (fun m hm => by rw [List.mem_singleton.1 hm]; exact ⟨rfl, rfl, by decide⟩) (by rw [← hn5]; exact Nat.le_of_ble_eq_true rfl))
  have HL5 := hide_ (show Later w w5 from Below.trans HL2.out (hh15.below (B := w.heap.size) HL2.out.size HXB.out))
  have HX5 := hide_ (show ∀ k ∈ X15, w.heap.size ≤ k from fun k hk => (hf15 k hk).elim (HXB.out k) fun h => Nat.le_trans HL2.out.size h)
  clear h5 hn5 hg15 hp5 hv5 hy5 hh15 hf15 c0 glt HTK
  go_wp2_with fail
  refine HSN.out.mono ?_
  rintro e w6 ⟨rfl, X6, hg6, hh6, hf6⟩
  have HL6 := hide_ (show Later w w6 from Below.trans HL5.out (hh6.below (B := w.heap.size) HL5.out.size HX5.out))
  have HG6 := hide_ (show ∃ Xi, GmE w6 g (St fb ((0 : Nat) : Int) 0 0) Xi ∧ ∀ k ∈ Xi, w.heap.size ≤ k from ⟨X6, ⟨_, hg6⟩, fun k hk => (hf6 k hk).elim (HX5.out k) fun h => Nat.le_trans HL5.out.size h⟩)
  clear hg6 hh6 hf6 HSN
  go_wp2_with fail
  go_loopw [4] (fun s4 wr => ∃ i : Nat, i ≤ N ∧ s4 = .int .i64 i ∧ Hid (∃ Xi, GmE wr g (St fb ((i : Nat) : Int) 0 0) Xi ∧ ∀ k ∈ Xi, w.heap.size ≤ k) ∧ Hid (Later w wr)) (fun i _ => N - (intOf i).toNat)
  case atStart => exact ⟨0, Nat.zero_le _, rfl, HG6, HL6⟩
  case round =>
    obtain ⟨i, hi, rfl, HE, HT⟩ := hrel
    obtain ⟨Xi, ⟨Z, hg⟩, hxb⟩ := HE.out
    obtain ⟨c, hat, hX⟩ := id hg
    have hgr := GmAt.cells hat
    unfold gmRow at hgr
    have c0 : wr.cell? ⟨g, 0, none⟩ = some (.pointer (some ⟨fb, 0, none⟩)) := cell_of_row _ _ 0 _ _ (0, 0) hgr
    have glt := theap_lt hgr
    have hn := HN.out
    by_cases hlt : i < N
    · have q1 : (i : Int) < x % 50 := by omega
      have hst := stuck_any (show FrH wr fb (fs1 ((i : Nat) : Int)) c.Xf from (GmAt.p hat).fr)
      have HST := hide_ (show Calls Tryz.prog 13 #[.pointer (some ⟨fb, 0, none⟩)] wr fun e w' => e = .returned (.int .i64 (i : Int)) ∧ w' = wr from hst)
      have HTK := hide_ (tick_fs1 (f := fb) ((i : Nat) : Int) (by omega) (by omega) (show FrH wr fb (fs1 ((i : Nat) : Int)) c.Xf from (GmAt.p hat).fr))
      have HAT := hide_ hat
      have HXB := hide_ (show ∀ k ∈ g :: c.xs.flatten, w.heap.size ≤ k by rw [← hX]; exact hxb)
      clear hg hxb hat hX hgr hst hn
      go_wp2_with fail
      refine HST.out.mono ?_
      rintro e w7 ⟨rfl, rfl⟩
      go_wp2_with fail
      refine HTK.out.mono ?_
      rintro e w8 h8
      obtain ⟨A5, n5, cc5, Y5, X15, rfl, hn5, hg15, hp5, hv5, hy5, hh15, hf15, _⟩ := GmAt.take HAT.out h8
      have HL8 := hide_ (show Later w w8 from Below.trans HT.out (hh15.below (B := w.heap.size) HT.out.size HXB.out))
      have HE8 := hide_ (show ∃ Xi, GmE w8 g (St fb ((i + 1 : Nat) : Int) 0 0) Xi ∧ ∀ k ∈ Xi, w.heap.size ≤ k from ⟨X15, ⟨Z, by
        rw [show ((i + 1 : Nat) : Int) = (i : Int) + 1 by omega]; exact hg15⟩, fun k hk => (hf15 k hk).elim (HXB.out k) fun h => Nat.le_trans HT.out.size h⟩)
      clear h8 hn5 hg15 hp5 hv5 hy5 hh15 hf15 c0 glt
      go_wp2_with fail
      go_roundw
      case rel => exact ⟨i + 1, by omega, by go_num, HE8, HL8⟩
      case measure => simp [intOf]; omega
    · obtain rfl : i = N := by omega
      have q1 : ¬ (i : Int) < x % 50 := by omega
      have HGE := hide_ (show GmE wr g (St fb ((i : Nat) : Int) 0 0) Xi from ⟨Z, hg⟩)
      have hown : 0 ∉ Xi := fun hm => by have h1 := hxb _ hm; have := HGL.out; omega
      have HCM := hide_ (show Calls Tryz.prog 12 #[.pointer (some ⟨g, 0, none⟩), .int .i64 3] wr (TPost wr g Xi (St fb ((i : Nat) : Int) 3 0)) from calm_any (calm_ok fb ((i : Nat) : Int)) HGE.out (HG.out.later HT.out) hown (by decide))
      have HXB := hide_ hxb
      clear hg hxb hat hX hgr hn hown c0 glt
      go_wp2_with fail
      refine HCM.out.mono ?_
      rintro e w7 ⟨rfl, X7, ⟨Z7, hg7⟩, hh7, hf7⟩
      have HL7 := hide_ (show Later w w7 from Below.trans HT.out (hh7.below (B := w.heap.size) HT.out.size HXB.out))
      obtain ⟨c7, hat7, _⟩ := hg7
      have hgr7 := GmAt.cells hat7
      obtain ⟨Ae, ce, hue⟩ : ∃ Ae ce, c7.ue = .slice Ae 0 ce := by
        obtain ⟨Ae, ce, e2⟩ := slice_len (GmAt.p hat7).seen
        injection e2 with e2
        exact ⟨Ae, ce, e2⟩
      unfold gmRow at hgr7
      rw [hue] at hgr7
      have c0 : w7.cell? ⟨g, 0, none⟩ = some (.pointer (some ⟨fb, 0, none⟩)) := cell_of_row _ _ 0 _ _ (0, 0) hgr7
      have glt := theap_lt hgr7
      have HGR7 := hide_ hgr7
      have hfr : FrH w7 fb (fs6 3 []) c7.Xf := (GmAt.p hat7).fr
      have HFR := hide_ hfr
      have HEN := hide_ (show Calls Tryz.prog 10 #[.pointer (some ⟨fb, 0, none⟩)] w7 fun e w' => e = .returned (.tuple #[.int .i64 1050, .int .i64 1050]) ∧ Later w7 w' from ends_any hfr)
      clear hh7 hf7 hat7 hue hgr7 hfr HCM
      go_wp2_with fail
      refine HEN.out.mono ?_
      rintro e w8 ⟨rfl, hl8⟩
      have hgr8 := later_row hl8 HGR7.out
      have c0' : w8.cell? ⟨g, 0, none⟩ = some (.pointer (some ⟨fb, 0, none⟩)) := cell_of_row _ _ 0 _ _ (0, 0) hgr8
      have c12 : w8.cell? ⟨g, 12, none⟩ = some (.slice Ae 0 ce) := cell_of_row _ _ 12 _ _ (0, 0) hgr8
      have glt8 := theap_lt hgr8
      have HST := hide_ (show Calls Tryz.prog 13 #[.pointer (some ⟨fb, 0, none⟩)] w8 fun e w' => e = .returned (.int .i64 0) ∧ w' = w8 from stuck_any (HFR.out.later hl8))
      have HL8 := hide_ (HL7.out.trans hl8)
      clear hl8 hgr8 c0 glt
      go_wp2_with fail
      refine HST.out.mono ?_
      rintro e w9 ⟨rfl, rfl⟩
      go_wp2_with fail
      go_ret
      exact ⟨rfl, HL8.out⟩

end Go.Proofs.YtcmollfhlillfaaGreatDoor
