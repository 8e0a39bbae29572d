/-
  frame: getChanges, GetBatch, of what was written.
-/
import Derived.Test.YtlgnnmpfipmjeaaGreatZkFBatch
import Derived.Test.YtlgnnmpfipmjeaaGreatZkKRead
import Derived.Test.YtlgnnmpfipmjeaaGreatZkZone
import Derived.Laws.ResultCell
import Derived.Laws.Rows
namespace Go.Proofs.YtlgnnmpfipmjeaaGreat
open Go.RowKit
set_option linter.unusedVariables false
set_option linter.unusedSimpArgs false
theorem chgT : ElemT Tryz.prog 36 45 3 40 := elem_mk (z := .agg #[.int .i64 0, .string ByteArray.empty, .string ByteArray.empty]) Tryz.underlying36 (by kernel_rfl) rfl (by decide)
theorem rCount_put {n m : Nat} (hn : n < 9223372036854775808) (hm : n ≤ m) (r : List UInt8) : rCount m (putN n ++ r, 0) = (n, (r, 0)) := by
  unfold rCount; rw [rNum_put hn]; simp only; rw [if_neg (by omega)]
theorem Hits.own' {w w' : World} {p : Nat} (h : Hits (· = p) w w') {B n c size : Nat} {e : TypeId} {A : Option Addr} {xs : List Value} (ho : w.ownsRow B e size (.slice A n c) n xs) (hp : p < B) : w'.ownsRow B e size (.slice A n c) n xs :=
  h.own ho fun k hk e => by subst e; have := (ho.lt _ hk).1; omega
theorem RdrAt.grown {w w' : World} {p : Nat} {s : RS} (h : RdrAt w p s) {B size n : Nat} {e : TypeId} {v : Value} {xs : List Value} (ho : w.ownsRow B e size v n xs) (h1 : e ≠ 5) (h2 : e ≠ 123) (hg : w.grownBy w' v.ownBlock) : RdrAt w' p s := by
  obtain ⟨A, c, g1, g2, g3, g4, g5, g6⟩ := h
  have hh : Hits (fun k => v.ownBlock = some k) w w' := (Hits.refl _ w).grown hg fun g hg _ => hg
  have hn1 : ¬ v.ownBlock = some p := fun hb => by
    obtain ⟨_, _, cs, hc⟩ := own_block ho hb
    rw [hc] at g1; injection g1 with g1; injection g1 with _ g1; exact h2 g1
  have hn2 : ∀ a, A = some a → ¬ v.ownBlock = some a.block := fun a ha hb => by
    obtain ⟨_, cs, fz, h⟩ := g6 a ha
    obtain ⟨_, _, cs2, hc⟩ := own_block ho hb
    rw [hc] at h; injection h with h; injection h with _ h; exact h1 h
  exact ⟨A, c, hh.row g1 hn1, hh.rd g2 hn2, g3, g4, g5, fun a ha => (g6 a ha).hits hh (hn2 a ha)⟩
theorem crow_snoc (L : List Chg) (x : Chg) : crow (L ++ [x]) = crow L ++ [.int .i64 x.1, .string x.2.1, .string x.2.2] := by unfold crow; rw [List.flatMap_append]; simp [encC]
theorem ba_of (s : ByteArray) : (⟨s.data.toList.toArray⟩ : ByteArray) = s := by cases s; simp
set_option maxHeartbeats 4000000 in
set_option maxRecDepth 100000 in
theorem getChanges_any {w : World} {p : Nat} {L : List Chg} {n : Nat} {rest : List UInt8} (hl : L.length = n) (hn : n ≤ 4096) (hok : ∀ c ∈ L, ChOk c) (h : RdrAt w p (putN n ++ (L.flatMap encCh ++ rest), 0)) :
    Calls Tryz.prog 73 #[.pointer (some ⟨p, 0, none⟩), .int .i64 4096] w fun e w' => ∃ A c, e = .returned (.slice A n c) ∧ w'.ownsRow w.heap.size 45 3 (.slice A n c) n (crow L) ∧ RdrAt w' p (rest, 0) ∧ Hits (· = p) w w' := by
  have HL := hide_ hl; have HO := hide_ hok
  have hn2 : (n : Int) ≤ 4096 := by omega
  have HPL := hide_ h.lt
  have HCN := hide_ (rcount_any h (by simp) 4096 (by omega))
  rw [rCount_put (by omega) (by omega)] at HCN
  clear h hl hok
  go_enter Tryz.func73, Tryz.ntmps73
  go_wp2_with fail
  refine HCN.out.mono ?_; rintro e w1 ⟨rfl, hr1, hh1⟩
  have HR1 := hide_ hr1; have HH1 := hide_ hh1
  clear hr1 hh1
  go_wp2_with fail
  go_loopw [5, 6] (fun s5 s6 wr => ∃ (k : Nat) (A5 : Option Addr) (c5 : Nat), k ≤ n ∧ s5 = .slice A5 k c5 ∧ s6 = .int .i64 ((n : Int) - (k : Int)) ∧ Hid (wr.ownsRow w.heap.size 45 3 (.slice A5 k c5) k (crow (L.take k))) ∧ Hid (RdrAt wr p ((L.drop k).flatMap encCh ++ rest, 0)) ∧ Hid (Hits (· = p) w wr)) (fun _ i _ => (intOf i).toNat)
  case atStart => exact ⟨0, none, 0, Nat.zero_le _, rfl, by simp, hide_ (by rw [List.take_zero]; exact World.ownsRow_nil w1 w.heap.size 45 3), HR1, HH1⟩
  case round =>
    obtain ⟨k, A5, c5, hkn, rfl, rfl, HOW, HRD, HH⟩ := hrel
    have HER := hide_ (rerror_any HRD.out)
    by_cases hlt : k < n
    · obtain ⟨x, hx⟩ : ∃ x, L[k]? = some x := ⟨_, List.getElem?_eq_getElem (by rw [HL.out]; exact hlt)⟩
      have q1 : (0 : Int) < (n : Int) - (k : Int) := by omega
      have HX := hide_ (HO.out x (List.mem_of_getElem? hx))
      have hd : L.drop k = x :: L.drop (k + 1) := by
        have e := List.getElem?_eq_some_iff.1 hx
        rw [List.drop_eq_getElem_cons e.1, e.2]
      have HTK := hide_ (show L.take (k + 1) = L.take k ++ [x] by rw [List.take_add_one, hx]; rfl)
      have hrd : RdrAt wr p (putN x.1.toNat ++ (putT x.2.1.data.toList ++ (putT x.2.2.data.toList ++ ((L.drop (k + 1)).flatMap encCh ++ rest))), 0) := by
        have h := HRD.out
        rw [hd, List.flatMap_cons] at h
        unfold encCh at h ⊢
        simpa [List.append_assoc] using h
      have HN1 := hide_ (rnum_any hrd (by simp))
      have hk0 : ((x.1.toNat : Nat) : Int) = x.1 := by have := HX.out.k0; omega
      rw [rNum_put (by have := HX.out.k1; omega)] at HN1
      simp only [hk0] at HN1
      clear hx hd hrd hk0
      go_wp2_with fail
      refine HER.out.mono ?_; rintro e w2 ⟨rfl, rfl⟩
      go_wp2_with fail
      refine HN1.out.mono ?_; rintro e w3 ⟨rfl, hr3, hh3⟩
      have HN2 := hide_ (rtext_any hr3 (by simp))
      rw [rText_put (by have := HX.out.a; rw [Array.length_toList]; exact this)] at HN2
      simp only [ba_of] at HN2
      have HH3 := hide_ hh3
      clear hr3 hh3
      go_wp2_with fail
      refine HN2.out.mono ?_; rintro e w4 ⟨rfl, hr4, hh4⟩
      have HN3 := hide_ (rtext_any hr4 (by simp))
      rw [rText_put (by have := HX.out.b; rw [Array.length_toList]; exact this)] at HN3
      simp only [ba_of] at HN3
      have HH4 := hide_ hh4
      clear hr4 hh4
      go_wp2_with fail
      refine HN3.out.mono ?_; rintro e w5 ⟨rfl, hr5, hh5⟩
      have HR5 := hide_ hr5
      have HH5 := hide_ hh5
      clear hr5 hh5
      have HH6 := hide_ (show Hits (· = p) w w5 from ((HH.out.trans HH3.out (fun _ _ h => h)).trans HH4.out (fun _ _ h => h)).trans HH5.out (fun _ _ h => h))
      have HOW5 := hide_ (show w5.ownsRow w.heap.size 45 3 (.slice A5 k c5) k (crow (L.take k)) from HH5.out.own' (HH4.out.own' (HH3.out.own' HOW.out HPL.out) HPL.out) HPL.out)
      have q6 : IntKind.i64.wrap ((n : Int) - (k : Int) - 1) = (n : Int) - ((k + 1 : Nat) : Int) := by rw [IntWalk.i64_in] <;> omega
      clear HN1 HN2 HN3 HH3 HH4 HH5 HER HRD
      go_wp2_with (at_builtin; refine wpList_append_rd _ rfl (.tmp 19) (.tmp 27) 36 rfl w.heap.size 45 3 40 chgT (.slice A5 k c5) k (crow (L.take k)) rfl ?c1 (some ⟨w5.heap.size, 0, none⟩) 1 1 [.int .i64 x.1, .string x.2.1, .string x.2.2] rfl ?c2 ?c3 ?c4 ?c5 ?c6 ?c7 ?c8)
      case c1 => exact own_below HOW5.out (later_alloc _ _)
      case c2 => exact Rd.newAt _ #[.int .i64 x.1, .string x.2.1, .string x.2.2] 45 1 3 _ (0, 0) rfl rfl
      case c3 => intro u hu; simp only [List.mem_cons, List.not_mem_nil, or_false] at hu; rcases hu with rfl | rfl | rfl <;> rfl
      case c4 => omega
      case c5 => unfold maxLen; omega
      case c6 => have := HH6.out.size; simp; omega
      case c7 => intro h; cases h
      case c8 =>
        intro v9 w9 hown hg hat
        obtain ⟨A9, c9, hv9⟩ := own_form hown
        subst hv9
        have HOF := hide_ (show w9.ownsRow w.heap.size 45 3 (.slice A9 (k + 1) c9) (k + 1) (crow (L.take (k + 1))) by rw [HTK.out, crow_snoc]; exact hown)
        have HHF := hide_ (show Hits (· = p) w w9 from (HH6.out.alloc _).grown hg (fun g hg hlt => by
          have := (HOW5.out.lt _ hg).1; omega))
        have HRF := hide_ (show RdrAt w9 p ((L.drop (k + 1)).flatMap encCh ++ rest, 0) from
          (HR5.out.later (later_alloc _ _)).grown (own_below HOW5.out (later_alloc _ _)) (by decide) (by decide) hg)
        clear hown hg hat
        go_wp2_with fail
        go_roundw
        case rel => exact ⟨k + 1, A9, c9, by omega, rfl, by first | rfl | (rw [q6]), HOF, HRF, HHF⟩
        case measure => simp [intOf]; omega
    · obtain rfl : k = n := by omega
      have q1 : ¬ (0 : Int) < (k : Int) - (k : Int) := by omega
      go_wp2_with fail
      go_ret
      refine ⟨A5, c5, rfl, ?_, ?_, HH.out⟩
      · have h := HOW.out; rwa [List.take_of_length_le (by rw [HL.out]; exact Nat.le_refl _)] at h
      · have h := HRD.out; rw [List.drop_of_length_le (by rw [HL.out]; exact Nat.le_refl _)] at h; simpa using h
def put4 (w : World) (d : Nat) (p q r s : Value) : World := (((w.setCell ⟨d, 0, none⟩ p).setCell ⟨d, 1, none⟩ q).setCell ⟨d, 2, none⟩ r).setCell ⟨d, 3, none⟩ s
theorem put4_row {w : World} {d : Nat} {x0 x1 x2 x3 : Value} {t : TypeId} (h : w.heap[d]? = some (.cells #[x0, x1, x2, x3] t (0, 0))) (p q r s : Value) : (put4 w d p q r s).heap[d]? = some (.cells #[p, q, r, s] t (0, 0)) := by
  have h1 := heap_setCell_same w d 0 _ _ p h
  have h2 := heap_setCell_same _ d 1 _ _ q h1
  have h3 := heap_setCell_same _ d 2 _ _ r h2
  exact heap_setCell_same _ d 3 _ _ s h3
theorem put4_hits (w : World) (d : Nat) (p q r s : Value) : Hits (· = d) w (put4 w d p q r s) :=
  ((((Hits.refl (· = d) w).setCell (g := d) (fun _ => rfl) 0 p).setCell (g := d) (fun _ => rfl) 1 q).setCell (g := d) (fun _ => rfl) 2 r).setCell (g := d) (fun _ => rfl) 3 s
theorem getB_ret {R : Ending → World → Prop} {w : World} {d : Nat} {x0 x1 x2 x3 : Value} (hrow : w.heap[d]? = some (.cells #[x0, x1, x2, x3] 38 (0, 0))) {p q r s : Value} {e : Int} {a : Act} (hd : a.tmps.getD 2 undef = .pointer (some ⟨d, 0, none⟩)) (he : a.tmps.getD 3 undef = .int .i64 e) (hD : a.defers = [])
    (h : R (.returned (.tuple #[.agg #[p, q, r, s], .int .i64 e])) (put4 w d p q r s)) : bodyPost Tryz.prog Tryz.f45 R .ret a (put4 w d p q r s) := by
  have hl : (loadVar 38 ⟨d, 0, none⟩).run Tryz.prog (put4 w d p q r s) = .ok (.agg #[p, q, r, s]) (put4 w d p q r s) := run_loadVar_row _ d _ _ #[p, q, r, s] _ (.struct (Tryz.prog.fieldsOf 38)) (put4_row hrow p q r s) (by kernel_rfl) rfl (by kernel_rfl)
  refine bodyPost_ret (v := .tuple #[.agg #[p, q, r, s], .int .i64 e]) ?_ hD h
  rw [results_cell_tmp (fn := Tryz.f45) (p := 2) (u := 3) (ty := 38) rfl, hd, he]
  simp only [asAddr, Sem.run_pure, Result.andThen_ok, hl]
set_option maxHeartbeats 4000000 in
set_option maxRecDepth 100000 in
theorem getBatch_any {w : World} {A : Option Addr} {c : Nat} {b : BP} (hok : b.Ok) (hr : Rd w 1 A (encB b).length (bvs (encB b))) (hc : (encB b).length ≤ c) (hcc : c ≤ 9223372036854775807) (hb : ∀ a, A = some a → ∃ cs fz, w.heap[a.block]? = some (.cells cs 5 fz)) :
    Calls Tryz.prog 45 #[.slice A (encB b).length c] w fun e w' => ∃ A' c', e = .returned (.tuple #[.agg #[.int .i64 b.prev, .int .i64 b.ver, .int .i64 b.known, .slice A' b.chg.length c'], .int .i64 0]) ∧ w'.ownsRow w.heap.size 45 3 (.slice A' b.chg.length c') b.chg.length (crow b.chg) ∧ Later w w' := by
  have HR := hide_ hr; have HO := hide_ hok; have HBB := hide_ hb
  obtain ⟨W0, hW0⟩ : ∃ W0, W0 = w.alloc (Obj.cells #[Value.int IntKind.i64 0, Value.int IntKind.i64 0, Value.int IntKind.i64 0, Value.slice none 0 0] 38) := ⟨_, rfl⟩
  have HW := hide_ hW0.symm
  have HL0 := hide_ (show Later w W0 by rw [hW0]; exact later_alloc _ _)
  have hlen := encB_len hok
  have hAn : A = none → (encB b).length = 0 := fun h => by
    rcases Nat.eq_zero_or_pos (encB b).length with h0 | h0
    · exact h0
    · obtain ⟨b0, o0, e0, _⟩ := hr.2 (by rw [bvs_length]; exact h0)
      rw [h] at e0; cases e0
  have HNR := hide_ (newReader_any (w := W0) (A := A) (c := c) (l := encB b) (hr.below HL0.out) hc hcc (by have := hok.len; omega) hAn (fun a ha => by
    obtain ⟨cs, fz, h⟩ := hb a ha
    exact ⟨cs, fz, later_row HL0.out h⟩))
  clear hr hok hb hW0 hlen hAn
  go_enter Tryz.func45, Tryz.ntmps45
  go_wp2_with (rw [HW.out])
  refine HNR.out.mono ?_; rintro e w1 ⟨rfl, hr1, hl1⟩
  have HWLT := hide_ (show w.heap.size < W0.heap.size by have := congrArg (fun W : World => W.heap.size) HW.out; simp at this; omega)
  have hrow0 : W0.heap[w.heap.size]? = some (.cells #[Value.int IntKind.i64 0, Value.int IntKind.i64 0, Value.int IntKind.i64 0, Value.slice none 0 0] 38 (0, 0)) := by rw [← HW.out]; exact heap_alloc_new w _
  have hrow1 := later_row hl1 hrow0
  have hrd : RdrAt w1 W0.heap.size (putN b.prev ++ (putN b.ver ++ (putN b.known ++ (putN b.chg.length ++ (b.chg.flatMap encCh ++ [])))), 0) := by
    have h := hr1; unfold encB at h; simpa [List.append_assoc] using h
  have HL1 := hide_ (HL0.out.trans hl1)
  have HN1 := hide_ (rnum_any hrd (by simp))
  rw [rNum_put HO.out.prev] at HN1
  clear hr1 hrd hrow0 hl1
  go_wp2_with fail
  refine HN1.out.mono ?_; rintro e w2 ⟨rfl, hr2, hh2⟩
  have HN2 := hide_ (rnum_any hr2 (by simp))
  rw [rNum_put HO.out.ver] at HN2
  have HH2 := hide_ hh2
  clear hr2 hh2
  go_wp2_with fail
  refine HN2.out.mono ?_; rintro e w3 ⟨rfl, hr3, hh3⟩
  have HN3 := hide_ (rnum_any hr3 (by simp))
  rw [rNum_put HO.out.known] at HN3
  have HH3 := hide_ hh3
  clear hr3 hh3
  go_wp2_with fail
  refine HN3.out.mono ?_; rintro e w4 ⟨rfl, hr4, hh4⟩
  have HN4 := hide_ (getChanges_any (L := b.chg) rfl HO.out.len HO.out.ch hr4)
  have HH4 := hide_ hh4
  clear hr4 hh4
  go_wp2_with fail
  refine HN4.out.mono ?_; rintro e w5 ⟨A5, c5, rfl, ho5, hr5, hh5⟩
  have HH5 := hide_ (show Hits (· = W0.heap.size) w1 w5 from ((HH2.out.trans HH3.out (fun _ _ h => h)).trans HH4.out (fun _ _ h => h)).trans hh5 (fun _ _ h => h))
  have HL5 := hide_ (show Later w w5 from Below.trans HL1.out (HH5.out.below (B := w.heap.size) HL1.out.size (fun k hk => by have := HWLT.out; omega)))
  have HROW5 := hide_ (HH5.out.row hrow1 (fun e => by have := HWLT.out; omega))
  have HOW5 := hide_ (own_base ho5 (base' := w.heap.size) (by have h1 := HL1.out.size; have h2 := HH2.out.size; have h3 := HH3.out.size; have h4 := HH4.out.size; omega))
  have HR5 := hide_ hr5
  clear HN1 HN2 HN3 HN4 HH2 HH3 HH4 HH5 HR HBB HL1 ho5 hr5 hh5 hrow1
  obtain ⟨W6, hW6⟩ : ∃ W6, W6 = w5.alloc (Obj.cells #[Value.int IntKind.i64 b.prev, Value.int IntKind.i64 b.ver, Value.int IntKind.i64 b.known, Value.slice A5 b.chg.length c5] 38) := ⟨_, rfl⟩
  have hrow6 := heap_alloc_new w5 (Obj.cells #[Value.int IntKind.i64 b.prev, Value.int IntKind.i64 b.ver, Value.int IntKind.i64 b.known, Value.slice A5 b.chg.length c5] 38)
  have hl6 : Later w5 W6 := by rw [hW6]; exact later_alloc _ _
  rw [← hW6] at hrow6
  have HD6 := hide_ (rdone_any (HR5.out.later hl6) (by simp))
  have HOW6 := hide_ (own_below HOW5.out hl6)
  have HROW6 := hide_ (later_row hl6 HROW5.out)
  have HL6 := hide_ (HL5.out.trans hl6)
  have y0 := cell_of_row _ _ 0 _ _ (0, 0) hrow6
  have y1 := cell_of_row _ _ 1 _ _ (0, 0) hrow6
  have y2 := cell_of_row _ _ 2 _ _ (0, 0) hrow6
  have y3 := cell_of_row _ _ 3 _ _ (0, 0) hrow6
  have HBK := hide_ (batch_ok (c := c5) (prev := b.prev) (ver := b.ver) (known := b.known) (Rd.of_own HOW6.out) rfl HO.out.len HO.out.chg)
  have HY := hide_ hrow6
  have HW6 := hide_ hW6.symm
  clear hrow6 hl6 hW6
  go_wp2_with (rw [HW6.out])
  refine HD6.out.mono ?_; rintro e w7 ⟨rfl, rfl⟩
  rw [show rDone (([] : List UInt8), 0) = true from rfl]
  go_wp2_with fail
  refine HBK.out.mono ?_; rintro e w8 ⟨rfl, hl8⟩
  have HL8 := hide_ (HL6.out.trans hl8)
  have HOW8 := hide_ (own_below HOW6.out hl8)
  have hrow8 := later_row hl8 HROW6.out
  have hy8 := later_row hl8 HY.out
  have z0 := cell_of_row _ _ 0 _ _ (0, 0) hy8
  have z1 := cell_of_row _ _ 1 _ _ (0, 0) hy8
  have z2 := cell_of_row _ _ 2 _ _ (0, 0) hy8
  have z3 := cell_of_row _ _ 3 _ _ (0, 0) hy8
  have x0 := cell_of_row _ _ 0 _ _ (0, 0) hrow8
  have x1 := cell_of_row _ _ 1 _ _ (0, 0) hrow8
  have x2 := cell_of_row _ _ 2 _ _ (0, 0) hrow8
  have x3 := cell_of_row _ _ 3 _ _ (0, 0) hrow8
  have g0 := frozen_of_row _ _ 0 _ _ hrow8
  have g1 := frozen_of_row _ _ 1 _ _ hrow8
  have g2 := frozen_of_row _ _ 2 _ _ hrow8
  have g3 := frozen_of_row _ _ 3 _ _ hrow8
  have HROW8 := hide_ hrow8
  clear hl8 hy8 y0 y1 y2 y3 hrow8
  go_wp2_with fail
  refine getB_ret HROW8.out rfl rfl rfl ⟨A5, c5, rfl, ?_, ?_⟩
  · exact (put4_hits _ _ _ _ _ _).own HOW8.out fun k hk e => by
      subst e
      obtain ⟨_, _, cs, hc⟩ := own_block HOW8.out hk
      have h := HROW8.out
      rw [hc] at h; injection h with h; injection h with _ h; exact absurd h (by decide)
  · exact Below.trans HL8.out ((put4_hits _ _ _ _ _ _).below (B := w.heap.size) HL8.out.size fun k hk => by omega)

end Go.Proofs.YtlgnnmpfipmjeaaGreat
