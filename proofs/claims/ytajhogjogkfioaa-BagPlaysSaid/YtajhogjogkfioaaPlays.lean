/-
  BagPlays: for any room and any calls the bag answers as the document's bag does; it writes nothing that was there.
  Conditions: none.
-/
import Derived.Test.YtajhogjogkfioaaBHalf
import Derived.Test.YtajhogjogkfioaaBagAwake
import Derived.Test.YtajhogjogkfioaaShape
namespace Go.Proofs.Ytajhogjogkfioaa
open Go.ChangeShapes Go.WideShapes Go.ChangeAt Go.RowKit Go.Conc
set_option linter.unusedVariables false
set_option linter.unusedSimpArgs false
abbrev ActB := Int × Int × Int × List UInt8 × Int
/-- Calls lie here. -/
def ActBRow (w : World) (A : Option Addr) (n : Nat) (X : List ActB) : Prop := X.length = n ∧ ∀ (i : Nat) (a : ActB), X[i]? = some a → ∃ (b o : Nat) (TA : Option Addr) (tc : Nat) (u : UInt8), A = some ⟨b, o, none⟩ ∧
  w.cell? ⟨b, o + i * 5, none⟩ = some (.int .i64 a.1) ∧ w.cell? ⟨b, o + i * 5 + 1, none⟩ = some (.int .i64 a.2.1) ∧ w.cell? ⟨b, o + i * 5 + 2, none⟩ = some (.int .i64 a.2.2.1) ∧ w.cell? ⟨b, o + i * 5 + 3, none⟩ = some (.slice TA a.2.2.2.1.length tc) ∧
  w.cell? ⟨b, o + i * 5 + 4, none⟩ = some (.int .u8 (u.toNat : Int)) ∧ a.2.2.2.1.length ≤ tc ∧ tc ≤ maxLen ∧ (TA = none → a.2.2.2.1.length = 0) ∧ Rd w 1 TA a.2.2.2.1.length (bvs a.2.2.2.1)
section
variable {H : Type} {enc : TypeId × Value → H} {W : World} {b base : Nat} {held : Bool} {r : Reach}
def ActBSh : Sh ActB := fun w cs a => ∃ u0 u1 u2 u3 u4, cs = [u0, u1, u2, u3, u4] ∧ IntSh .i64 w [u0] a.1 ∧ IntSh .i64 w [u1] a.2.1 ∧ IntSh .i64 w [u2] a.2.2.1 ∧ BytesSh w [u3] a.2.2.2.1 ∧ IntSh .u8 w [u4] a.2.2.2.2
theorem bopens_acts : Opens enc Try.prog 22 (SliceSh 5 ActBSh) (sumM fun a : ActB => 0 + 0 + 0 + a.2.2.2.1.length + 0 + 5) :=
  opens_slice (size := 5) Try.underlying22 (by kernel_rfl) (by omega) (opens_struct5 Try.underlying34 (by kernel_rfl) ⟨rfl, rfl, rfl, rfl, rfl⟩ ⟨by kernel_rfl, by kernel_rfl, by kernel_rfl, by kernel_rfl, by kernel_rfl⟩
    (opens_int Try.underlying3) (opens_int Try.underlying3) (opens_int Try.underlying3) (opens_bytes Try.underlying32 Try.underlying5 (by kernel_rfl)) (opens_int Try.underlying5))
theorem bopen_acts {v : Value} {d : DataW H} {p : List MemPlace} (hv : Value.okWide Try.prog W r base 22 v) (h : DataW.Trod enc Try.prog W b (fun _ => true) held 22 v d p) :
    ∃ (A : Option Addr) (c : Nat) (X : List ActB), v = .slice A X.length c ∧ X.length ≤ maxLen ∧ ActBRow W A X.length X := by
  obtain ⟨X, hL, hbl⟩ := open_sh bopens_acts Try.underlying22 hv h
  obtain ⟨A, c, hv', hlc, hcm, hA, hx⟩ := hL
  injection hv' with hv'
  subst hv'
  refine ⟨A, c, X, rfl, by omega, rfl, fun i a hi => ?_⟩
  have hi2 := (List.getElem?_eq_some_iff.1 hi).1
  obtain ⟨b, o, rfl, he⟩ := hx (by omega)
  obtain ⟨us, hul, huc, hr⟩ := he i a hi
  obtain ⟨u0, u1, u2, u3, u4, rfl, ⟨e0, w0⟩, ⟨e1, w1⟩, ⟨e2, w2⟩, ⟨TA, tc, e3, t1, t2, t3, t4⟩, ⟨e4, w4⟩⟩ := hr
  injection e0 with e0; injection e1 with e1; injection e2 with e2; injection e3 with e3; injection e4 with e4
  subst e0 e1 e2 e3 e4
  have hw : 0 ≤ a.2.2.2.2 ∧ a.2.2.2.2 ≤ 255 := by simpa [Lit.wf, IntKind.min, IntKind.max, IntKind.signed, IntKind.bits] using w4
  have hu : ((UInt8.ofNat a.2.2.2.2.toNat).toNat : Int) = a.2.2.2.2 := by simp; omega
  exact ⟨b, o, TA, tc, UInt8.ofNat a.2.2.2.2.toNat, rfl, huc 0 _ rfl, huc 1 _ rfl, huc 2 _ rfl, huc 3 _ rfl, by rw [hu]; exact huc 4 _ rfl, t1, t2, t3, t4⟩
end
theorem blen {w : World} {B p c room : Nat} {L : List RL} (h : Half w B p c room L) : Calls Try.prog 16 #[.pointer (some ⟨p, 0, none⟩)] w fun e w' => e = .returned (.int .i64 (L.length : Int)) ∧ w = w' := by
  obtain ⟨sv, Ls, h1, rfl⟩ := h
  rw [List.length_map]; exact len_any h1
def Two (w : World) (B p c r room : Nat) (L : List RL) : Prop := Half w B p c room L ∧ (∃ lv, RAt w B r lv room L) ∧ Short L
theorem notbag_act (cs fz) : ¬ isBag2 (.cells cs 34 fz) := by
  rintro ((h | h) | ⟨_, _, h⟩)
  · exact absurd h (by decide)
  · exact absurd h (by decide)
  · injection h with _ h; cases h
theorem notbag_let (cs fz) : ¬ isBag2 (.cells cs 36 fz) := by
  rintro ((h | h) | ⟨_, _, h⟩)
  · exact absurd h (by decide)
  · exact absurd h (by decide)
  · injection h with _ h; cases h
theorem alloc2_at (w : World) (o1 o2 : Obj) : ((w.alloc o1).alloc o2).heap[w.heap.size]? = some o1 ∧ ((w.alloc o1).alloc o2).heap[w.heap.size + 1]? = some o2 ∧ Later w ((w.alloc o1).alloc o2) := by
  refine ⟨(Below.heap_alloc _ _ _ (by simp)).trans (heap_alloc_new w o1), ?_, (later_alloc _ _).trans (later_alloc _ _)⟩
  have h := heap_alloc_new (w.alloc o1) o2
  rwa [show (w.alloc o1).heap.size = w.heap.size + 1 by simp] at h
/-- The cells of one block are written. -/
structure Sets (w w' : World) (q : Nat) : Prop where
  os : w'.os = w.os
  tape : w'.tape = w.tape
  output : w'.output = w.output
  size : w'.heap.size = w.heap.size
  block : ∀ k, k ≠ q → w'.heap[k]? = w.heap[k]?
theorem Sets.below {B q : Nat} {w0 w w' : World} (h : Sets w w' q) (hb : Below B w0 w) (hq : B ≤ q) : Below B w0 w' :=
  ⟨h.os.trans hb.os, h.tape.trans hb.tape, h.output.trans hb.output, by rw [h.size]; exact hb.size, fun k hk => (h.block k (by omega)).trans (hb.block k hk)⟩
theorem Sets.own {w w' : World} {q base size n : Nat} {e : TypeId} {v : Value} {xs : List Value} (h : Sets w w' q) (ho : w.ownsRow base e size v n xs) (hq : q < base) : w'.ownsRow base e size v n xs := by
  refine ⟨ho.1, ?_⟩
  rcases ho.2 with h0 | ⟨g, cap, cur, hv, hb, hh, hr⟩
  · exact .inl h0
  · exact .inr ⟨g, cap, cur, hv, hb, (h.block g (by omega)).trans hh, hr⟩
theorem RAt.lets {w w' : World} {B r room q : Nat} {lv : Value} {L : List RL} (h : RAt w B r lv room L) (hs : Sets w w' q) (hr : q ≠ r) (hq : lv.ownBlock ≠ some q) : RAt w' B r lv room L := by
  refine ⟨(hs.block r (Ne.symm hr)).trans h.1, h.2.1, h.2.2.1, ?_⟩
  rcases h.2.2.2 with h0 | ⟨g, cap, cur, hv, hb, hh, hrr⟩
  · exact .inl h0
  · exact .inr ⟨g, cap, cur, hv, hb, (hs.block g (fun e => hq (by rw [hv, e]; rfl))).trans hh, hrr⟩
theorem let_set {w : World} {q : Nat} {x y z a b c : Value} (h : w.heap[q]? = some (.cells #[x, y, z] 36 (0, 0))) :
    Kept isRef w (((w.setCell ⟨q, 0, none⟩ a).setCell ⟨q, 1, none⟩ b).setCell ⟨q, 2, none⟩ c) ∧ Sets w (((w.setCell ⟨q, 0, none⟩ a).setCell ⟨q, 1, none⟩ b).setCell ⟨q, 2, none⟩ c) q := by
  have h1 := heap_setCell_same _ q 0 _ _ a h
  have h2 := heap_setCell_same _ q 1 _ _ b h1
  refine ⟨(Kept.setCell w ⟨q, 0, none⟩ a fun o ho => ?_).trans ((Kept.setCell _ ⟨q, 1, none⟩ b fun o ho => ?_).trans (Kept.setCell _ ⟨q, 2, none⟩ c fun o ho => ?_)), rfl, rfl, rfl, by simp [World.setCell], fun k hk => ?_⟩
  · have ho' : w.heap[q]? = some o := ho
    rw [h] at ho'; injection ho' with ho'; subst ho'; exact isRef_row _ _
  · have ho' : (w.setCell ⟨q, 0, none⟩ a).heap[q]? = some o := ho
    rw [h1] at ho'; injection ho' with ho'; subst ho'; exact isRef_row _ _
  · have ho' : ((w.setCell ⟨q, 0, none⟩ a).setCell ⟨q, 1, none⟩ b).heap[q]? = some o := ho
    rw [h2] at ho'; injection ho' with ho'; subst ho'; exact isRef_row _ _
  · rw [Below.heap_setCell _ _ _ _ hk, Below.heap_setCell _ _ _ _ hk, Below.heap_setCell _ _ _ _ hk]
set_option maxRecDepth 100000 in
set_option maxHeartbeats 16000000 in
theorem bagPlays_walk {w : World} (room : Int) (A : Option Addr) (n c : Nat) (X : List ActB) (hX : ActBRow w A n X) (hcm : n ≤ maxLen) :
    Calls Try.prog 3 #[.int .i64 room, .slice A n c] w fun e w' => e = .returned (.bool true) ∧ Below w.heap.size w w' := by
  have HX := hide_ hX
  unfold maxLen at hcm
  have hn2 : (n : Int) ≤ 9223372036854775807 := by omega
  clear hX
  by_cases hroom : 0 ≤ room ∧ room ≤ 4096
  rotate_left
  · have h2 : room < 0 ∨ (0 ≤ room ∧ 4096 < room) := by omega
    have HN := hide_ (new_bad room w h2)
    clear hroom
    rcases h2 with h2 | ⟨h2, h3⟩
    all_goals
      go_enter Try.func3, Try.ntmps3
      go_wp2_with fail
      refine HN.out.mono ?_; rintro e w1 ⟨rfl, rfl⟩
      go_wp2_with fail
      refine (awake_any _).mono ?_; rintro e w2 ⟨rfl, hb2⟩
      go_wp2_with fail
      go_ret
      exact ⟨rfl, hb2⟩
  · obtain ⟨rm, rfl⟩ : ∃ rm : Nat, room = (rm : Int) := ⟨room.toNat, by omega⟩
    have hr4 : rm ≤ 4096 := by omega
    have r0 : (0 : Int) ≤ (rm : Int) := by omega
    have r1 : (rm : Int) ≤ 4096 := by omega
    clear hroom
    go_enter Try.func3, Try.ntmps3
    go_wp2_with fail
    refine (new_any rm hr4 w).mono ?_; rintro e w1 ⟨p, c0, rfl, hB1, hb1⟩
    have HB1 := hide_ hB1; have HL1 := hide_ hb1
    clear hB1 hb1
    go_wp2_with fail
    refine (awake_any _).mono ?_; rintro e w2 ⟨rfl, hb2⟩
    obtain ⟨W3, hW3⟩ : ∃ W3, W3 = w2.alloc (.cells #[.slice none 0 0, .int .i64 (rm : Int)] 31) := ⟨_, rfl⟩
    have hl3 : Later w2 W3 := by rw [hW3]; exact later_alloc _ _
    have hs2 : w.heap.size ≤ w2.heap.size := Nat.le_trans HL1.out.size hb2.size
    have HT3 := hide_ (show Two W3 w.heap.size p c0 w2.heap.size rm [] from
      ⟨⟨_, [], (HB1.out.later hb2).later hl3, rfl⟩, ⟨.slice none 0 0, by rw [hW3]; exact heap_alloc_new w2 _, hs2, World.ownsRow_nil _ _ _ _⟩, fun x hx => nomatch hx⟩)
    have HL3 := hide_ (show Below w.heap.size w W3 from (HL1.out.trans (hb2.mono HL1.out.size)).trans (Below.mono hl3 hs2))
    have HW3 := hide_ hW3.symm
    clear hb2 hW3 hl3
    go_wp2_with (rw [HW3.out])
    go_loopw [8] (fun s8 wr => ∃ (k : Nat) (L : List RL), k ≤ n ∧ k ≤ 100 ∧ s8 = .int .i64 k ∧ Hid (Two wr w.heap.size p c0 w2.heap.size rm L) ∧ Hid (Below w.heap.size w wr)) (fun s8 _ => 100 - (intOf s8).toNat)
    case atStart => exact ⟨0, [], by omega, by omega, rfl, HT3, HL3⟩
    case round =>
      obtain ⟨k, L, hk, hk1, rfl, HT, HB⟩ := hrel
      have r3 : (0 : Int) ≤ (k : Int) := by omega
      have r5 : (k : Int) ≤ 100 := by omega
      by_cases hlt : k < n ∧ k < 100
      · have r6 : (k : Int) < (n : Int) := by omega
        have r7 : (k : Int) < 100 := by omega
        obtain ⟨a, ha⟩ : ∃ a, X[k]? = some a := ⟨_, List.getElem?_eq_getElem (by rw [HX.out.1]; omega)⟩
        obtain ⟨b, o, TA, tc, u, rfl, h0, h1, h2, h3, h4, t1, t2, t3, t4⟩ := HX.out.2 k a ha
        obtain ⟨x, i, q, t, uu⟩ := a
        have l0 := HB.out.cell (cell_lt h0) |>.trans h0
        have l1 := HB.out.cell (cell_lt h1) |>.trans h1
        have l2 := HB.out.cell (cell_lt h2) |>.trans h2
        have l3 := HB.out.cell (cell_lt h3) |>.trans h3
        have l4 := HB.out.cell (cell_lt h4) |>.trans h4
        obtain ⟨W4, hW4⟩ : ∃ W4, W4 = (wr.alloc (.cells #[.int .i64 x, .int .i64 i, .int .i64 q, .slice TA t.length tc, .int .u8 (u.toNat : Int)] 34)).alloc (.cells #[.int .i64 0, .string ⟨#[]⟩, .bool false] 36) := ⟨_, rfl⟩
        have ha2 := alloc2_at wr (.cells #[.int .i64 x, .int .i64 i, .int .i64 q, .slice TA t.length tc, .int .u8 (u.toNat : Int)] 34) (.cells #[.int .i64 0, .string ⟨#[]⟩, .bool false] 36)
        rw [← hW4] at ha2
        obtain ⟨hact, hlet, hl4⟩ := ha2
        have HW4 := hide_ hW4.symm
        have hsw : w.heap.size ≤ wr.heap.size := HB.out.size
        have hs4 : wr.heap.size + 2 ≤ W4.heap.size := by rw [hW4]; simp
        have HB4 := hide_ (HB.out.trans (Below.mono hl4 hsw))
        have HH4 := hide_ (HT.out.1.later hl4)
        obtain ⟨lv, HR⟩ := HT.out.2.1
        have HR4 := hide_ (HR.later hl4)
        have HSH := hide_ HT.out.2.2
        have hlb := HR.1
        have hrlt : w2.heap.size < wr.heap.size := heap_lt HR.1
        have HNB := hide_ (show lv.ownBlock ≠ some (wr.heap.size + 1) from fun e => by have := (HR.2.2.lt _ e).2; omega)
        have HACT := hide_ hact; have HLET := hide_ hlet
        have hlen := HT.out.1.len
        have HTX := hide_ (show Rd W4 1 TA t.length (bvs t) from (t4.below (HB4.out)))
        have HTA := hide_ t3; have HT4 := hide_ t4
        have a0 := cell_of_row _ _ 0 _ _ (0, 0) hact; have a1 := cell_of_row _ _ 1 _ _ (0, 0) hact; have a2 := cell_of_row _ _ 2 _ _ (0, 0) hact; have a3 := cell_of_row _ _ 3 _ _ (0, 0) hact; have a4 := cell_of_row _ _ 4 _ _ (0, 0) hact
        have b0 := cell_of_row _ _ 0 _ _ (0, 0) hlet; have b1 := cell_of_row _ _ 1 _ _ (0, 0) hlet; have b2 := cell_of_row _ _ 2 _ _ (0, 0) hlet
        unfold maxLen at t2
        clear h0 h1 h2 h3 h4 t3 t4 ha hact hlet hl4 hW4 HR hlb hlt
        have hx : x = 0 ∨ x = 1 ∨ x = 2 ∨ x = 3 ∨ x = 4 ∨ x = 5 ∨ (x ≠ 0 ∧ x ≠ 1 ∧ x ≠ 2 ∧ x ≠ 3 ∧ x ≠ 4 ∧ x ≠ 5) := by omega
        rcases hx with rfl | rfl | rfl | rfl | rfl | rfl | ⟨x0, x1, x2, x3, x4, x5⟩
        · go_wp2_with fail
          rw [HW4.out]
          refine (bsend HH4.out hr4 (by omega) i TA t.length tc t rfl HTA.out HTX.out).mono ?_; rintro e w5 ⟨rfl, hh5, hb5, hk5⟩
          have hact5 := hk5 _ _ HACT.out (notbag_act _ _)
          have d0 := cell_of_row _ _ 0 _ _ (0, 0) hact5
          have d1 := cell_of_row _ _ 1 _ _ (0, 0) hact5
          have d2 := cell_of_row _ _ 2 _ _ (0, 0) hact5
          have d3 := cell_of_row _ _ 3 _ _ (0, 0) hact5
          have d4 := cell_of_row _ _ 4 _ _ (0, 0) hact5
          have HLET5 := hide_ (hk5 _ _ HLET.out (notbag_let _ _))
          have HR5 := hide_ (HR4.out.kept hk5)
          have HH5 := hide_ hh5
          have HB5 := hide_ (HB4.out.trans hb5)
          have hs5 : W4.heap.size ≤ w5.heap.size := hb5.size
          clear hh5 hb5 hk5 hact5
          go_wp2_with fail
          refine (rsend HR5.out hr4 (by omega) i TA t.length tc t rfl HTA.out (HT4.out.below HB5.out)).mono ?_; rintro e wz ⟨rfl, ⟨lvz, hr6⟩, hb6, hk6, hro6⟩
          have HRz := hide_ hr6
          have HHz := hide_ (HH5.out.kept hk6)
          have HBz := hide_ (HB5.out.trans hb6)
          have HLz := hide_ ((hro6 _ (by omega) (by omega) HNB.out).trans HLET5.out)
          have HSz := hide_ (show Short (sendV rm L i t).2 from HSH.out.send)
          clear hr6 hb6 hk6 hro6 d0 d1 d2 d3 d4
          obtain ⟨Az, cz, hlvz⟩ := own_form HRz.out.2.2
          subst hlvz
          have e0 := later_drew_cell (cell_of_row _ _ 0 _ _ (0, 0) HLz.out)
          have e1 := later_drew_cell (cell_of_row _ _ 1 _ _ (0, 0) HLz.out)
          have er := later_drew_cell (cell_of_row _ _ 0 _ _ (0, 0) HRz.out.1)
          have hln := hide_ (fun (Wx : World) (hx : Later wz.drew Wx) => blen (HHz.out.later ((below_drewN (Later.refl wz) 1).trans hx)))
          have HTd := hide_ (show Two wz.drew w.heap.size p c0 w2.heap.size rm ((sendV rm L i t).2) from ⟨HHz.out.later (below_drewN (Later.refl wz) 1), ⟨_, HRz.out.later (below_drewN (Later.refl wz) 1)⟩, HSz.out⟩)
          have HBd := hide_ (below_drewN HBz.out 1)
          go_wp2_with fail
          refine wp_region_k (by kernel_rfl) ?_
          refine wpAnyK_take 0 (v := ?_) rfl (by kernel_rfl) (by kernel_rfl) (by kernel_rfl) (fun _ _ _ h => h) (by rfl) (by intro W hSw; go_simp; with_reducible rfl) ?_; try simp only [Act.put, List.setIfInBounds_toArray, List.set_cons_zero, List.set_cons_succ]
          refine wpAnyK_take 1 (v := ?_) rfl (by kernel_rfl) (by kernel_rfl) (by kernel_rfl) (fun _ _ _ h => h) (by rfl) (by intro W hSw; go_simp; with_reducible rfl) ?_; try simp only [Act.put, List.setIfInBounds_toArray, List.set_cons_zero, List.set_cons_succ]
          refine wpAnyK_take 2 (v := ?_) rfl (by kernel_rfl) (by kernel_rfl) (by kernel_rfl) (fun _ _ _ h => h) (by rfl) (by intro W hSw; go_simp; with_reducible rfl) ?_; try simp only [Act.put, List.setIfInBounds_toArray, List.set_cons_zero, List.set_cons_succ]
          refine wpAnyK_take 3 (v := ?_) rfl (by kernel_rfl) (by kernel_rfl) (by kernel_rfl) (fun _ _ _ h => h) (by rfl) (by intro W hSw; go_simp; with_reducible rfl) ?_; try simp only [Act.put, List.setIfInBounds_toArray, List.set_cons_zero, List.set_cons_succ]
          refine wpAnyK_take 4 (v := ?_) rfl (by kernel_rfl) (by kernel_rfl) (by kernel_rfl) (fun _ _ _ h => h) (by rfl) (by intro W hSw; go_simp; with_reducible rfl) ?_; try simp only [Act.put, List.setIfInBounds_toArray, List.set_cons_zero, List.set_cons_succ]
          refine wpAnyK_take 5 (v := ?_) rfl (by kernel_rfl) (by kernel_rfl) (by kernel_rfl) (fun _ _ _ h => h) (by rfl) (by intro W hSw; go_simp; with_reducible rfl) ?_; try simp only [Act.put, List.setIfInBounds_toArray, List.set_cons_zero, List.set_cons_succ]
          refine wpAnyK_take 6 (v := ?_) rfl (by kernel_rfl) (by kernel_rfl) (by kernel_rfl) (fun _ _ _ h => h) (by rfl) (by intro W hSw; go_simp; with_reducible rfl) ?_; try simp only [Act.put, List.setIfInBounds_toArray, List.set_cons_zero, List.set_cons_succ]
          refine wpAnyK_take 7 (v := ?_) rfl (by kernel_rfl) (by kernel_rfl) (by kernel_rfl) (fun _ _ _ h => h) (by rfl) (by intro W hSw; go_simp; with_reducible rfl) ?_; try simp only [Act.put, List.setIfInBounds_toArray, List.set_cons_zero, List.set_cons_succ]
          refine wpAnyK_take 8 (v := ?_) rfl (by kernel_rfl) (by kernel_rfl) (by kernel_rfl) (fun _ _ _ h => h) (by rfl) (by intro W hSw; go_simp; with_reducible rfl) ?_; try simp only [Act.put, List.setIfInBounds_toArray, List.set_cons_zero, List.set_cons_succ]
          refine wpAnyK_take 9 (v := ?_) rfl (by kernel_rfl) (by kernel_rfl) (by kernel_rfl) (fun _ _ _ h => h) (by rfl) (by intro W hSw; go_simp; with_reducible rfl) ?_; try simp only [Act.put, List.setIfInBounds_toArray, List.set_cons_zero, List.set_cons_succ]
          refine wpAnyK_take 10 (v := ?_) rfl (by kernel_rfl) (by kernel_rfl) (by kernel_rfl) (fun _ _ _ h => h) (by rfl) (by intro W hSw; go_simp; with_reducible rfl) ?_; try simp only [Act.put, List.setIfInBounds_toArray, List.set_cons_zero, List.set_cons_succ]
          refine wpAnyK_take 11 (v := ?_) rfl (by kernel_rfl) (by kernel_rfl) (by kernel_rfl) (fun _ _ _ h => h) (by rfl) (by intro W hSw; go_simp; with_reducible rfl) ?_; try simp only [Act.put, List.setIfInBounds_toArray, List.set_cons_zero, List.set_cons_succ]
          refine wpAnyK_take 12 (v := ?_) rfl (by kernel_rfl) (by kernel_rfl) (by kernel_rfl) (fun _ _ _ h => h) (by rfl) (by intro W hSw; go_simp; with_reducible rfl) ?_; try simp only [Act.put, List.setIfInBounds_toArray, List.set_cons_zero, List.set_cons_succ]
          refine wpAnyK_take 13 (v := ?_) rfl (by kernel_rfl) (by kernel_rfl) (by kernel_rfl) (fun _ _ _ h => h) (by rfl) (by intro W hSw; go_simp; with_reducible rfl) ?_; try simp only [Act.put, List.setIfInBounds_toArray, List.set_cons_zero, List.set_cons_succ]
          refine wpAnyK_take 14 (v := ?_) rfl (by kernel_rfl) (by kernel_rfl) (by kernel_rfl) (fun _ _ _ h => h) (by rfl) (by intro W hSw; go_simp; with_reducible rfl) ?_; try simp only [Act.put, List.setIfInBounds_toArray, List.set_cons_zero, List.set_cons_succ]
          refine wpAnyK_take 15 (v := ?_) rfl (by kernel_rfl) (by kernel_rfl) (by kernel_rfl) (fun _ _ _ h => h) (by rfl) (by intro W hSw; go_simp; with_reducible rfl) ?_; try simp only [Act.put, List.setIfInBounds_toArray, List.set_cons_zero, List.set_cons_succ]
          refine wpAnyK_take 16 (v := ?_) rfl (by kernel_rfl) (by kernel_rfl) (by kernel_rfl) (fun _ _ _ h => h) (by rfl) (by intro W hSw; go_simp; with_reducible rfl) ?_; try simp only [Act.put, List.setIfInBounds_toArray, List.set_cons_zero, List.set_cons_succ]
          refine wpAnyK_take 18 (v := ?_) rfl (by kernel_rfl) (by kernel_rfl) (by kernel_rfl) (fun _ _ _ h => h) (by rfl) (by intro W hSw; go_simp; with_reducible rfl) ?_; try simp only [Act.put, List.setIfInBounds_toArray, List.set_cons_zero, List.set_cons_succ]
          refine wpAnyK_take 19 (v := ?_) rfl (by kernel_rfl) (by kernel_rfl) (by kernel_rfl) (fun _ _ _ h => h) (by rfl) (by intro W hSw; go_simp; with_reducible rfl) ?_; try simp only [Act.put, List.setIfInBounds_toArray, List.set_cons_zero, List.set_cons_succ]
          refine wpAnyK_take 20 (v := ?_) rfl (by kernel_rfl) (by kernel_rfl) (by kernel_rfl) (fun _ _ _ h => h) (by rfl) (by intro W hSw; go_simp; with_reducible rfl) ?_; try simp only [Act.put, List.setIfInBounds_toArray, List.set_cons_zero, List.set_cons_succ]
          refine wpAnyK_take 21 (v := ?_) rfl (by kernel_rfl) (by kernel_rfl) (by kernel_rfl) (fun _ _ _ h => h) (by rfl) (by intro W hSw; go_simp; with_reducible rfl) ?_; try simp only [Act.put, List.setIfInBounds_toArray, List.set_cons_zero, List.set_cons_succ]
          refine wpAnyK_take 22 (v := ?_) rfl (by kernel_rfl) (by kernel_rfl) (by kernel_rfl) (fun _ _ _ h => h) (by rfl) (by intro W hSw; go_simp; with_reducible rfl) ?_; try simp only [Act.put, List.setIfInBounds_toArray, List.set_cons_zero, List.set_cons_succ]
          refine wpAnyK_one 17 (by kernel_rfl) rfl (fun K hK => ?_)
          go_simp
          refine (hln.out _ (Later.refl _)).mono ?_; rintro e w21 ⟨rfl, rfl⟩; have hlr := Later.refl wz.drew
          refine hK.out _ _ (by assumption) ?_
          clear hK K; try simp only [Act.put, List.setIfInBounds_toArray, List.set_cons_zero, List.set_cons_succ]
          refine wpAnyK_take 23 (v := ?_) rfl (by kernel_rfl) (by kernel_rfl) (by kernel_rfl) (fun _ _ _ h => h) (by rfl) (by intro W hSw; go_simp; with_reducible rfl) ?_; try simp only [Act.put, List.setIfInBounds_toArray, List.set_cons_zero, List.set_cons_succ]
          refine wpAnyK_take 24 (v := ?_) rfl (by kernel_rfl) (by kernel_rfl) (by kernel_rfl) (fun _ _ _ h => h) (by rfl) (by intro W hSw; go_simp; with_reducible rfl) ?_; try simp only [Act.put, List.setIfInBounds_toArray, List.set_cons_zero, List.set_cons_succ]
          refine wpAnyK_done (by kernel_rfl) ?_ _
          clear e0 e1 er hln
          go_wp2_with fail
          go_roundw
          case rel => exact ⟨k + 1, (sendV rm L i t).2, by omega, by omega, by go_num, HTd, HBd⟩
          case measure => simp [intOf]; omega
        · go_wp2_with fail
          rw [HW4.out]
          refine (bsend HH4.out hr4 (by omega) i TA t.length tc t rfl HTA.out HTX.out).mono ?_; rintro e w5 ⟨rfl, hh5, hb5, hk5⟩
          have hact5 := hk5 _ _ HACT.out (notbag_act _ _)
          have d0 := cell_of_row _ _ 0 _ _ (0, 0) hact5
          have d1 := cell_of_row _ _ 1 _ _ (0, 0) hact5
          have d2 := cell_of_row _ _ 2 _ _ (0, 0) hact5
          have d3 := cell_of_row _ _ 3 _ _ (0, 0) hact5
          have d4 := cell_of_row _ _ 4 _ _ (0, 0) hact5
          have HLET5 := hide_ (hk5 _ _ HLET.out (notbag_let _ _))
          have HR5 := hide_ (HR4.out.kept hk5)
          have HH5 := hide_ hh5
          have HB5 := hide_ (HB4.out.trans hb5)
          have hs5 : W4.heap.size ≤ w5.heap.size := hb5.size
          clear hh5 hb5 hk5 hact5
          go_wp2_with fail
          refine (rsend HR5.out hr4 (by omega) i TA t.length tc t rfl HTA.out (HT4.out.below HB5.out)).mono ?_; rintro e wz ⟨rfl, ⟨lvz, hr6⟩, hb6, hk6, hro6⟩
          have HRz := hide_ hr6
          have HHz := hide_ (HH5.out.kept hk6)
          have HBz := hide_ (HB5.out.trans hb6)
          have HLz := hide_ ((hro6 _ (by omega) (by omega) HNB.out).trans HLET5.out)
          have HSz := hide_ (show Short (sendV rm L i t).2 from HSH.out.send)
          clear hr6 hb6 hk6 hro6 d0 d1 d2 d3 d4
          obtain ⟨Az, cz, hlvz⟩ := own_form HRz.out.2.2
          subst hlvz
          have e0 := later_drew_cell (cell_of_row _ _ 0 _ _ (0, 0) HLz.out)
          have e1 := later_drew_cell (cell_of_row _ _ 1 _ _ (0, 0) HLz.out)
          have er := later_drew_cell (cell_of_row _ _ 0 _ _ (0, 0) HRz.out.1)
          have hln := hide_ (fun (Wx : World) (hx : Later wz.drew Wx) => blen (HHz.out.later ((below_drewN (Later.refl wz) 1).trans hx)))
          have HTd := hide_ (show Two wz.drew w.heap.size p c0 w2.heap.size rm ((sendV rm L i t).2) from ⟨HHz.out.later (below_drewN (Later.refl wz) 1), ⟨_, HRz.out.later (below_drewN (Later.refl wz) 1)⟩, HSz.out⟩)
          have HBd := hide_ (below_drewN HBz.out 1)
          go_wp2_with fail
          refine wp_region_k (by kernel_rfl) ?_
          refine wpAnyK_take 0 (v := ?_) rfl (by kernel_rfl) (by kernel_rfl) (by kernel_rfl) (fun _ _ _ h => h) (by rfl) (by intro W hSw; go_simp; with_reducible rfl) ?_; try simp only [Act.put, List.setIfInBounds_toArray, List.set_cons_zero, List.set_cons_succ]
          refine wpAnyK_take 1 (v := ?_) rfl (by kernel_rfl) (by kernel_rfl) (by kernel_rfl) (fun _ _ _ h => h) (by rfl) (by intro W hSw; go_simp; with_reducible rfl) ?_; try simp only [Act.put, List.setIfInBounds_toArray, List.set_cons_zero, List.set_cons_succ]
          refine wpAnyK_take 2 (v := ?_) rfl (by kernel_rfl) (by kernel_rfl) (by kernel_rfl) (fun _ _ _ h => h) (by rfl) (by intro W hSw; go_simp; with_reducible rfl) ?_; try simp only [Act.put, List.setIfInBounds_toArray, List.set_cons_zero, List.set_cons_succ]
          refine wpAnyK_take 3 (v := ?_) rfl (by kernel_rfl) (by kernel_rfl) (by kernel_rfl) (fun _ _ _ h => h) (by rfl) (by intro W hSw; go_simp; with_reducible rfl) ?_; try simp only [Act.put, List.setIfInBounds_toArray, List.set_cons_zero, List.set_cons_succ]
          refine wpAnyK_take 4 (v := ?_) rfl (by kernel_rfl) (by kernel_rfl) (by kernel_rfl) (fun _ _ _ h => h) (by rfl) (by intro W hSw; go_simp; with_reducible rfl) ?_; try simp only [Act.put, List.setIfInBounds_toArray, List.set_cons_zero, List.set_cons_succ]
          refine wpAnyK_take 5 (v := ?_) rfl (by kernel_rfl) (by kernel_rfl) (by kernel_rfl) (fun _ _ _ h => h) (by rfl) (by intro W hSw; go_simp; with_reducible rfl) ?_; try simp only [Act.put, List.setIfInBounds_toArray, List.set_cons_zero, List.set_cons_succ]
          refine wpAnyK_take 6 (v := ?_) rfl (by kernel_rfl) (by kernel_rfl) (by kernel_rfl) (fun _ _ _ h => h) (by rfl) (by intro W hSw; go_simp; with_reducible rfl) ?_; try simp only [Act.put, List.setIfInBounds_toArray, List.set_cons_zero, List.set_cons_succ]
          refine wpAnyK_take 7 (v := ?_) rfl (by kernel_rfl) (by kernel_rfl) (by kernel_rfl) (fun _ _ _ h => h) (by rfl) (by intro W hSw; go_simp; with_reducible rfl) ?_; try simp only [Act.put, List.setIfInBounds_toArray, List.set_cons_zero, List.set_cons_succ]
          refine wpAnyK_take 8 (v := ?_) rfl (by kernel_rfl) (by kernel_rfl) (by kernel_rfl) (fun _ _ _ h => h) (by rfl) (by intro W hSw; go_simp; with_reducible rfl) ?_; try simp only [Act.put, List.setIfInBounds_toArray, List.set_cons_zero, List.set_cons_succ]
          refine wpAnyK_take 9 (v := ?_) rfl (by kernel_rfl) (by kernel_rfl) (by kernel_rfl) (fun _ _ _ h => h) (by rfl) (by intro W hSw; go_simp; with_reducible rfl) ?_; try simp only [Act.put, List.setIfInBounds_toArray, List.set_cons_zero, List.set_cons_succ]
          refine wpAnyK_take 10 (v := ?_) rfl (by kernel_rfl) (by kernel_rfl) (by kernel_rfl) (fun _ _ _ h => h) (by rfl) (by intro W hSw; go_simp; with_reducible rfl) ?_; try simp only [Act.put, List.setIfInBounds_toArray, List.set_cons_zero, List.set_cons_succ]
          refine wpAnyK_take 11 (v := ?_) rfl (by kernel_rfl) (by kernel_rfl) (by kernel_rfl) (fun _ _ _ h => h) (by rfl) (by intro W hSw; go_simp; with_reducible rfl) ?_; try simp only [Act.put, List.setIfInBounds_toArray, List.set_cons_zero, List.set_cons_succ]
          refine wpAnyK_take 12 (v := ?_) rfl (by kernel_rfl) (by kernel_rfl) (by kernel_rfl) (fun _ _ _ h => h) (by rfl) (by intro W hSw; go_simp; with_reducible rfl) ?_; try simp only [Act.put, List.setIfInBounds_toArray, List.set_cons_zero, List.set_cons_succ]
          refine wpAnyK_take 13 (v := ?_) rfl (by kernel_rfl) (by kernel_rfl) (by kernel_rfl) (fun _ _ _ h => h) (by rfl) (by intro W hSw; go_simp; with_reducible rfl) ?_; try simp only [Act.put, List.setIfInBounds_toArray, List.set_cons_zero, List.set_cons_succ]
          refine wpAnyK_take 14 (v := ?_) rfl (by kernel_rfl) (by kernel_rfl) (by kernel_rfl) (fun _ _ _ h => h) (by rfl) (by intro W hSw; go_simp; with_reducible rfl) ?_; try simp only [Act.put, List.setIfInBounds_toArray, List.set_cons_zero, List.set_cons_succ]
          refine wpAnyK_take 15 (v := ?_) rfl (by kernel_rfl) (by kernel_rfl) (by kernel_rfl) (fun _ _ _ h => h) (by rfl) (by intro W hSw; go_simp; with_reducible rfl) ?_; try simp only [Act.put, List.setIfInBounds_toArray, List.set_cons_zero, List.set_cons_succ]
          refine wpAnyK_take 16 (v := ?_) rfl (by kernel_rfl) (by kernel_rfl) (by kernel_rfl) (fun _ _ _ h => h) (by rfl) (by intro W hSw; go_simp; with_reducible rfl) ?_; try simp only [Act.put, List.setIfInBounds_toArray, List.set_cons_zero, List.set_cons_succ]
          refine wpAnyK_take 18 (v := ?_) rfl (by kernel_rfl) (by kernel_rfl) (by kernel_rfl) (fun _ _ _ h => h) (by rfl) (by intro W hSw; go_simp; with_reducible rfl) ?_; try simp only [Act.put, List.setIfInBounds_toArray, List.set_cons_zero, List.set_cons_succ]
          refine wpAnyK_take 19 (v := ?_) rfl (by kernel_rfl) (by kernel_rfl) (by kernel_rfl) (fun _ _ _ h => h) (by rfl) (by intro W hSw; go_simp; with_reducible rfl) ?_; try simp only [Act.put, List.setIfInBounds_toArray, List.set_cons_zero, List.set_cons_succ]
          refine wpAnyK_take 20 (v := ?_) rfl (by kernel_rfl) (by kernel_rfl) (by kernel_rfl) (fun _ _ _ h => h) (by rfl) (by intro W hSw; go_simp; with_reducible rfl) ?_; try simp only [Act.put, List.setIfInBounds_toArray, List.set_cons_zero, List.set_cons_succ]
          refine wpAnyK_take 21 (v := ?_) rfl (by kernel_rfl) (by kernel_rfl) (by kernel_rfl) (fun _ _ _ h => h) (by rfl) (by intro W hSw; go_simp; with_reducible rfl) ?_; try simp only [Act.put, List.setIfInBounds_toArray, List.set_cons_zero, List.set_cons_succ]
          refine wpAnyK_take 22 (v := ?_) rfl (by kernel_rfl) (by kernel_rfl) (by kernel_rfl) (fun _ _ _ h => h) (by rfl) (by intro W hSw; go_simp; with_reducible rfl) ?_; try simp only [Act.put, List.setIfInBounds_toArray, List.set_cons_zero, List.set_cons_succ]
          refine wpAnyK_one 17 (by kernel_rfl) rfl (fun K hK => ?_)
          go_simp
          refine (hln.out _ (Later.refl _)).mono ?_; rintro e w21 ⟨rfl, rfl⟩; have hlr := Later.refl wz.drew
          refine hK.out _ _ (by assumption) ?_
          clear hK K; try simp only [Act.put, List.setIfInBounds_toArray, List.set_cons_zero, List.set_cons_succ]
          refine wpAnyK_take 23 (v := ?_) rfl (by kernel_rfl) (by kernel_rfl) (by kernel_rfl) (fun _ _ _ h => h) (by rfl) (by intro W hSw; go_simp; with_reducible rfl) ?_; try simp only [Act.put, List.setIfInBounds_toArray, List.set_cons_zero, List.set_cons_succ]
          refine wpAnyK_take 24 (v := ?_) rfl (by kernel_rfl) (by kernel_rfl) (by kernel_rfl) (fun _ _ _ h => h) (by rfl) (by intro W hSw; go_simp; with_reducible rfl) ?_; try simp only [Act.put, List.setIfInBounds_toArray, List.set_cons_zero, List.set_cons_succ]
          refine wpAnyK_done (by kernel_rfl) ?_ _
          clear e0 e1 er hln
          go_wp2_with fail
          go_roundw
          case rel => exact ⟨k + 1, (sendV rm L i t).2, by omega, by omega, by go_num, HTd, HBd⟩
          case measure => simp [intOf]; omega
        · go_wp2_with fail
          rw [HW4.out]
          refine (bsend HH4.out hr4 (by omega) i TA t.length tc t rfl HTA.out HTX.out).mono ?_; rintro e w5 ⟨rfl, hh5, hb5, hk5⟩
          have hact5 := hk5 _ _ HACT.out (notbag_act _ _)
          have d0 := cell_of_row _ _ 0 _ _ (0, 0) hact5
          have d1 := cell_of_row _ _ 1 _ _ (0, 0) hact5
          have d2 := cell_of_row _ _ 2 _ _ (0, 0) hact5
          have d3 := cell_of_row _ _ 3 _ _ (0, 0) hact5
          have d4 := cell_of_row _ _ 4 _ _ (0, 0) hact5
          have HLET5 := hide_ (hk5 _ _ HLET.out (notbag_let _ _))
          have HR5 := hide_ (HR4.out.kept hk5)
          have HH5 := hide_ hh5
          have HB5 := hide_ (HB4.out.trans hb5)
          have hs5 : W4.heap.size ≤ w5.heap.size := hb5.size
          clear hh5 hb5 hk5 hact5
          go_wp2_with fail
          refine (rsend HR5.out hr4 (by omega) i TA t.length tc t rfl HTA.out (HT4.out.below HB5.out)).mono ?_; rintro e wz ⟨rfl, ⟨lvz, hr6⟩, hb6, hk6, hro6⟩
          have HRz := hide_ hr6
          have HHz := hide_ (HH5.out.kept hk6)
          have HBz := hide_ (HB5.out.trans hb6)
          have HLz := hide_ ((hro6 _ (by omega) (by omega) HNB.out).trans HLET5.out)
          have HSz := hide_ (show Short (sendV rm L i t).2 from HSH.out.send)
          clear hr6 hb6 hk6 hro6 d0 d1 d2 d3 d4
          obtain ⟨Az, cz, hlvz⟩ := own_form HRz.out.2.2
          subst hlvz
          have e0 := later_drew_cell (cell_of_row _ _ 0 _ _ (0, 0) HLz.out)
          have e1 := later_drew_cell (cell_of_row _ _ 1 _ _ (0, 0) HLz.out)
          have er := later_drew_cell (cell_of_row _ _ 0 _ _ (0, 0) HRz.out.1)
          have hln := hide_ (fun (Wx : World) (hx : Later wz.drew Wx) => blen (HHz.out.later ((below_drewN (Later.refl wz) 1).trans hx)))
          have HTd := hide_ (show Two wz.drew w.heap.size p c0 w2.heap.size rm ((sendV rm L i t).2) from ⟨HHz.out.later (below_drewN (Later.refl wz) 1), ⟨_, HRz.out.later (below_drewN (Later.refl wz) 1)⟩, HSz.out⟩)
          have HBd := hide_ (below_drewN HBz.out 1)
          go_wp2_with fail
          refine wp_region_k (by kernel_rfl) ?_
          refine wpAnyK_take 0 (v := ?_) rfl (by kernel_rfl) (by kernel_rfl) (by kernel_rfl) (fun _ _ _ h => h) (by rfl) (by intro W hSw; go_simp; with_reducible rfl) ?_; try simp only [Act.put, List.setIfInBounds_toArray, List.set_cons_zero, List.set_cons_succ]
          refine wpAnyK_take 1 (v := ?_) rfl (by kernel_rfl) (by kernel_rfl) (by kernel_rfl) (fun _ _ _ h => h) (by rfl) (by intro W hSw; go_simp; with_reducible rfl) ?_; try simp only [Act.put, List.setIfInBounds_toArray, List.set_cons_zero, List.set_cons_succ]
          refine wpAnyK_take 2 (v := ?_) rfl (by kernel_rfl) (by kernel_rfl) (by kernel_rfl) (fun _ _ _ h => h) (by rfl) (by intro W hSw; go_simp; with_reducible rfl) ?_; try simp only [Act.put, List.setIfInBounds_toArray, List.set_cons_zero, List.set_cons_succ]
          refine wpAnyK_take 3 (v := ?_) rfl (by kernel_rfl) (by kernel_rfl) (by kernel_rfl) (fun _ _ _ h => h) (by rfl) (by intro W hSw; go_simp; with_reducible rfl) ?_; try simp only [Act.put, List.setIfInBounds_toArray, List.set_cons_zero, List.set_cons_succ]
          refine wpAnyK_take 4 (v := ?_) rfl (by kernel_rfl) (by kernel_rfl) (by kernel_rfl) (fun _ _ _ h => h) (by rfl) (by intro W hSw; go_simp; with_reducible rfl) ?_; try simp only [Act.put, List.setIfInBounds_toArray, List.set_cons_zero, List.set_cons_succ]
          refine wpAnyK_take 5 (v := ?_) rfl (by kernel_rfl) (by kernel_rfl) (by kernel_rfl) (fun _ _ _ h => h) (by rfl) (by intro W hSw; go_simp; with_reducible rfl) ?_; try simp only [Act.put, List.setIfInBounds_toArray, List.set_cons_zero, List.set_cons_succ]
          refine wpAnyK_take 6 (v := ?_) rfl (by kernel_rfl) (by kernel_rfl) (by kernel_rfl) (fun _ _ _ h => h) (by rfl) (by intro W hSw; go_simp; with_reducible rfl) ?_; try simp only [Act.put, List.setIfInBounds_toArray, List.set_cons_zero, List.set_cons_succ]
          refine wpAnyK_take 7 (v := ?_) rfl (by kernel_rfl) (by kernel_rfl) (by kernel_rfl) (fun _ _ _ h => h) (by rfl) (by intro W hSw; go_simp; with_reducible rfl) ?_; try simp only [Act.put, List.setIfInBounds_toArray, List.set_cons_zero, List.set_cons_succ]
          refine wpAnyK_take 8 (v := ?_) rfl (by kernel_rfl) (by kernel_rfl) (by kernel_rfl) (fun _ _ _ h => h) (by rfl) (by intro W hSw; go_simp; with_reducible rfl) ?_; try simp only [Act.put, List.setIfInBounds_toArray, List.set_cons_zero, List.set_cons_succ]
          refine wpAnyK_take 9 (v := ?_) rfl (by kernel_rfl) (by kernel_rfl) (by kernel_rfl) (fun _ _ _ h => h) (by rfl) (by intro W hSw; go_simp; with_reducible rfl) ?_; try simp only [Act.put, List.setIfInBounds_toArray, List.set_cons_zero, List.set_cons_succ]
          refine wpAnyK_take 10 (v := ?_) rfl (by kernel_rfl) (by kernel_rfl) (by kernel_rfl) (fun _ _ _ h => h) (by rfl) (by intro W hSw; go_simp; with_reducible rfl) ?_; try simp only [Act.put, List.setIfInBounds_toArray, List.set_cons_zero, List.set_cons_succ]
          refine wpAnyK_take 11 (v := ?_) rfl (by kernel_rfl) (by kernel_rfl) (by kernel_rfl) (fun _ _ _ h => h) (by rfl) (by intro W hSw; go_simp; with_reducible rfl) ?_; try simp only [Act.put, List.setIfInBounds_toArray, List.set_cons_zero, List.set_cons_succ]
          refine wpAnyK_take 12 (v := ?_) rfl (by kernel_rfl) (by kernel_rfl) (by kernel_rfl) (fun _ _ _ h => h) (by rfl) (by intro W hSw; go_simp; with_reducible rfl) ?_; try simp only [Act.put, List.setIfInBounds_toArray, List.set_cons_zero, List.set_cons_succ]
          refine wpAnyK_take 13 (v := ?_) rfl (by kernel_rfl) (by kernel_rfl) (by kernel_rfl) (fun _ _ _ h => h) (by rfl) (by intro W hSw; go_simp; with_reducible rfl) ?_; try simp only [Act.put, List.setIfInBounds_toArray, List.set_cons_zero, List.set_cons_succ]
          refine wpAnyK_take 14 (v := ?_) rfl (by kernel_rfl) (by kernel_rfl) (by kernel_rfl) (fun _ _ _ h => h) (by rfl) (by intro W hSw; go_simp; with_reducible rfl) ?_; try simp only [Act.put, List.setIfInBounds_toArray, List.set_cons_zero, List.set_cons_succ]
          refine wpAnyK_take 15 (v := ?_) rfl (by kernel_rfl) (by kernel_rfl) (by kernel_rfl) (fun _ _ _ h => h) (by rfl) (by intro W hSw; go_simp; with_reducible rfl) ?_; try simp only [Act.put, List.setIfInBounds_toArray, List.set_cons_zero, List.set_cons_succ]
          refine wpAnyK_take 16 (v := ?_) rfl (by kernel_rfl) (by kernel_rfl) (by kernel_rfl) (fun _ _ _ h => h) (by rfl) (by intro W hSw; go_simp; with_reducible rfl) ?_; try simp only [Act.put, List.setIfInBounds_toArray, List.set_cons_zero, List.set_cons_succ]
          refine wpAnyK_take 18 (v := ?_) rfl (by kernel_rfl) (by kernel_rfl) (by kernel_rfl) (fun _ _ _ h => h) (by rfl) (by intro W hSw; go_simp; with_reducible rfl) ?_; try simp only [Act.put, List.setIfInBounds_toArray, List.set_cons_zero, List.set_cons_succ]
          refine wpAnyK_take 19 (v := ?_) rfl (by kernel_rfl) (by kernel_rfl) (by kernel_rfl) (fun _ _ _ h => h) (by rfl) (by intro W hSw; go_simp; with_reducible rfl) ?_; try simp only [Act.put, List.setIfInBounds_toArray, List.set_cons_zero, List.set_cons_succ]
          refine wpAnyK_take 20 (v := ?_) rfl (by kernel_rfl) (by kernel_rfl) (by kernel_rfl) (fun _ _ _ h => h) (by rfl) (by intro W hSw; go_simp; with_reducible rfl) ?_; try simp only [Act.put, List.setIfInBounds_toArray, List.set_cons_zero, List.set_cons_succ]
          refine wpAnyK_take 21 (v := ?_) rfl (by kernel_rfl) (by kernel_rfl) (by kernel_rfl) (fun _ _ _ h => h) (by rfl) (by intro W hSw; go_simp; with_reducible rfl) ?_; try simp only [Act.put, List.setIfInBounds_toArray, List.set_cons_zero, List.set_cons_succ]
          refine wpAnyK_take 22 (v := ?_) rfl (by kernel_rfl) (by kernel_rfl) (by kernel_rfl) (fun _ _ _ h => h) (by rfl) (by intro W hSw; go_simp; with_reducible rfl) ?_; try simp only [Act.put, List.setIfInBounds_toArray, List.set_cons_zero, List.set_cons_succ]
          refine wpAnyK_one 17 (by kernel_rfl) rfl (fun K hK => ?_)
          go_simp
          refine (hln.out _ (Later.refl _)).mono ?_; rintro e w21 ⟨rfl, rfl⟩; have hlr := Later.refl wz.drew
          refine hK.out _ _ (by assumption) ?_
          clear hK K; try simp only [Act.put, List.setIfInBounds_toArray, List.set_cons_zero, List.set_cons_succ]
          refine wpAnyK_take 23 (v := ?_) rfl (by kernel_rfl) (by kernel_rfl) (by kernel_rfl) (fun _ _ _ h => h) (by rfl) (by intro W hSw; go_simp; with_reducible rfl) ?_; try simp only [Act.put, List.setIfInBounds_toArray, List.set_cons_zero, List.set_cons_succ]
          refine wpAnyK_take 24 (v := ?_) rfl (by kernel_rfl) (by kernel_rfl) (by kernel_rfl) (fun _ _ _ h => h) (by rfl) (by intro W hSw; go_simp; with_reducible rfl) ?_; try simp only [Act.put, List.setIfInBounds_toArray, List.set_cons_zero, List.set_cons_succ]
          refine wpAnyK_done (by kernel_rfl) ?_ _
          clear e0 e1 er hln
          go_wp2_with fail
          go_roundw
          case rel => exact ⟨k + 1, (sendV rm L i t).2, by omega, by omega, by go_num, HTd, HBd⟩
          case measure => simp [intOf]; omega
        · go_wp2_with fail
          rw [HW4.out]
          refine (blook HH4.out hr4 HSH.out i).mono ?_; rintro e w5 ⟨v5, rfl, ho5, hb5⟩
          have hact5 := (hb5.block _ (by omega)).trans HACT.out
          have d0 := cell_of_row _ _ 0 _ _ (0, 0) hact5
          have d1 := cell_of_row _ _ 1 _ _ (0, 0) hact5
          have d2 := cell_of_row _ _ 2 _ _ (0, 0) hact5
          have d3 := cell_of_row _ _ 3 _ _ (0, 0) hact5
          have d4 := cell_of_row _ _ 4 _ _ (0, 0) hact5
          have HLET5 := hide_ ((hb5.block _ (by omega)).trans HLET.out)
          have HR5 := hide_ (HR4.out.later hb5)
          have HH5 := hide_ (HH4.out.later hb5)
          have hs4' : w.heap.size ≤ W4.heap.size := by omega
          have HB5 := hide_ (HB4.out.trans (Below.mono hb5 hs4'))
          have hs5 : W4.heap.size ≤ w5.heap.size := hb5.size
          obtain ⟨A5, c5, hv5⟩ := own_form ho5
          subst hv5
          have HO5 := hide_ ho5
          clear ho5 hb5 hact5
          go_wp2_with fail
          refine (rlook HR5.out i).mono ?_; rintro e w6 ⟨rfl, hb6⟩
          have HLET6 := hide_ ((hb6.block _ (by omega)).trans HLET5.out)
          have HH6 := hide_ (HH5.out.later hb6)
          have HR6 := hide_ (HR5.out.later hb6)
          have HNB6 := HNB
          have HB6 := hide_ (HB5.out.trans (Below.mono hb6 (Nat.le_trans hs4' hs5)))
          have HO6 := hide_ (own_below HO5.out hb6)
          clear hb6
          have HLz := hide_ (heap_set3 (.int .i64 (lookV L i).1.dest) (.string ⟨(lookV L i).1.text.toArray⟩) (.bool (lookV L i).1.spoilt) HLET6.out)
          obtain ⟨wz, hwz⟩ : ∃ wz, wz = ((w6.setCell ⟨wr.heap.size + 1, 0, none⟩ (.int .i64 (lookV L i).1.dest)).setCell ⟨wr.heap.size + 1, 1, none⟩ (.string ⟨(lookV L i).1.text.toArray⟩)).setCell ⟨wr.heap.size + 1, 2, none⟩ (.bool (lookV L i).1.spoilt) := ⟨_, rfl⟩
          have HWZ := hide_ hwz.symm
          have hset := let_set (a := .int .i64 (lookV L i).1.dest) (b := .string ⟨(lookV L i).1.text.toArray⟩) (c := .bool (lookV L i).1.spoilt) HLET6.out
          rw [← hwz] at HLz hset
          have hq6 : wr.heap.size + 1 < w6.heap.size := heap_lt HLET6.out
          have HHz := hide_ (HH6.out.kept hset.1)
          have HRz := hide_ (HR6.out.lets hset.2 (by omega) HNB6.out)
          have HBz := hide_ (hset.2.below HB6.out (show w.heap.size ≤ wr.heap.size + 1 by omega))
          have hoz := hset.2.own HO6.out (by omega)
          have hs : (convert 32 9 (.slice A5 (lookV L i).1.text.length c5)).run Try.prog wz = .ok (.string ⟨(lookV L i).1.text.toArray⟩) wz := run_str_n _ _ 5 c5 rfl Try.underlying32 Try.underlying5 Try.underlying9 (own_nil hoz) (Rd.of_own hoz)
          have y0 := cell_of_row _ _ 0 _ _ (0, 0) HLET6.out
          have y1 := cell_of_row _ _ 1 _ _ (0, 0) HLET6.out
          have y2 := cell_of_row _ _ 2 _ _ (0, 0) HLET6.out
          have f0 := frozen_of_row _ _ 0 _ _ HLET6.out
          have f1 := frozen_of_row _ _ 1 _ _ HLET6.out
          have f2 := frozen_of_row _ _ 2 _ _ HLET6.out
          have HSz := hide_ (HSH.out)
          clear hset hoz hwz d0 d1 d2 d3 d4
          go_wp2_with (rw [HWZ.out])
          clear hs y0 y1 y2 f0 f1 f2
          obtain ⟨Az, cz, hlvz⟩ := own_form HRz.out.2.2
          subst hlvz
          have e0 := later_drew_cell (cell_of_row _ _ 0 _ _ (0, 0) HLz.out)
          have e1 := later_drew_cell (cell_of_row _ _ 1 _ _ (0, 0) HLz.out)
          have er := later_drew_cell (cell_of_row _ _ 0 _ _ (0, 0) HRz.out.1)
          have hln := hide_ (fun (Wx : World) (hx : Later wz.drew Wx) => blen (HHz.out.later ((below_drewN (Later.refl wz) 1).trans hx)))
          have HTd := hide_ (show Two wz.drew w.heap.size p c0 w2.heap.size rm (L) from ⟨HHz.out.later (below_drewN (Later.refl wz) 1), ⟨_, HRz.out.later (below_drewN (Later.refl wz) 1)⟩, HSz.out⟩)
          have HBd := hide_ (below_drewN HBz.out 1)
          go_wp2_with fail
          refine wp_region_k (by kernel_rfl) ?_
          refine wpAnyK_take 0 (v := ?_) rfl (by kernel_rfl) (by kernel_rfl) (by kernel_rfl) (fun _ _ _ h => h) (by rfl) (by intro W hSw; go_simp; with_reducible rfl) ?_; try simp only [Act.put, List.setIfInBounds_toArray, List.set_cons_zero, List.set_cons_succ]
          refine wpAnyK_take 1 (v := ?_) rfl (by kernel_rfl) (by kernel_rfl) (by kernel_rfl) (fun _ _ _ h => h) (by rfl) (by intro W hSw; go_simp; with_reducible rfl) ?_; try simp only [Act.put, List.setIfInBounds_toArray, List.set_cons_zero, List.set_cons_succ]
          refine wpAnyK_take 2 (v := ?_) rfl (by kernel_rfl) (by kernel_rfl) (by kernel_rfl) (fun _ _ _ h => h) (by rfl) (by intro W hSw; go_simp; with_reducible rfl) ?_; try simp only [Act.put, List.setIfInBounds_toArray, List.set_cons_zero, List.set_cons_succ]
          refine wpAnyK_take 3 (v := ?_) rfl (by kernel_rfl) (by kernel_rfl) (by kernel_rfl) (fun _ _ _ h => h) (by rfl) (by intro W hSw; go_simp; with_reducible rfl) ?_; try simp only [Act.put, List.setIfInBounds_toArray, List.set_cons_zero, List.set_cons_succ]
          refine wpAnyK_take 4 (v := ?_) rfl (by kernel_rfl) (by kernel_rfl) (by kernel_rfl) (fun _ _ _ h => h) (by rfl) (by intro W hSw; go_simp; with_reducible rfl) ?_; try simp only [Act.put, List.setIfInBounds_toArray, List.set_cons_zero, List.set_cons_succ]
          refine wpAnyK_take 5 (v := ?_) rfl (by kernel_rfl) (by kernel_rfl) (by kernel_rfl) (fun _ _ _ h => h) (by rfl) (by intro W hSw; go_simp; with_reducible rfl) ?_; try simp only [Act.put, List.setIfInBounds_toArray, List.set_cons_zero, List.set_cons_succ]
          refine wpAnyK_take 6 (v := ?_) rfl (by kernel_rfl) (by kernel_rfl) (by kernel_rfl) (fun _ _ _ h => h) (by rfl) (by intro W hSw; go_simp; with_reducible rfl) ?_; try simp only [Act.put, List.setIfInBounds_toArray, List.set_cons_zero, List.set_cons_succ]
          refine wpAnyK_take 7 (v := ?_) rfl (by kernel_rfl) (by kernel_rfl) (by kernel_rfl) (fun _ _ _ h => h) (by rfl) (by intro W hSw; go_simp; with_reducible rfl) ?_; try simp only [Act.put, List.setIfInBounds_toArray, List.set_cons_zero, List.set_cons_succ]
          refine wpAnyK_take 8 (v := ?_) rfl (by kernel_rfl) (by kernel_rfl) (by kernel_rfl) (fun _ _ _ h => h) (by rfl) (by intro W hSw; go_simp; with_reducible rfl) ?_; try simp only [Act.put, List.setIfInBounds_toArray, List.set_cons_zero, List.set_cons_succ]
          refine wpAnyK_take 9 (v := ?_) rfl (by kernel_rfl) (by kernel_rfl) (by kernel_rfl) (fun _ _ _ h => h) (by rfl) (by intro W hSw; go_simp; with_reducible rfl) ?_; try simp only [Act.put, List.setIfInBounds_toArray, List.set_cons_zero, List.set_cons_succ]
          refine wpAnyK_take 10 (v := ?_) rfl (by kernel_rfl) (by kernel_rfl) (by kernel_rfl) (fun _ _ _ h => h) (by rfl) (by intro W hSw; go_simp; with_reducible rfl) ?_; try simp only [Act.put, List.setIfInBounds_toArray, List.set_cons_zero, List.set_cons_succ]
          refine wpAnyK_take 11 (v := ?_) rfl (by kernel_rfl) (by kernel_rfl) (by kernel_rfl) (fun _ _ _ h => h) (by rfl) (by intro W hSw; go_simp; with_reducible rfl) ?_; try simp only [Act.put, List.setIfInBounds_toArray, List.set_cons_zero, List.set_cons_succ]
          refine wpAnyK_take 12 (v := ?_) rfl (by kernel_rfl) (by kernel_rfl) (by kernel_rfl) (fun _ _ _ h => h) (by rfl) (by intro W hSw; go_simp; with_reducible rfl) ?_; try simp only [Act.put, List.setIfInBounds_toArray, List.set_cons_zero, List.set_cons_succ]
          refine wpAnyK_take 13 (v := ?_) rfl (by kernel_rfl) (by kernel_rfl) (by kernel_rfl) (fun _ _ _ h => h) (by rfl) (by intro W hSw; go_simp; with_reducible rfl) ?_; try simp only [Act.put, List.setIfInBounds_toArray, List.set_cons_zero, List.set_cons_succ]
          refine wpAnyK_take 14 (v := ?_) rfl (by kernel_rfl) (by kernel_rfl) (by kernel_rfl) (fun _ _ _ h => h) (by rfl) (by intro W hSw; go_simp; with_reducible rfl) ?_; try simp only [Act.put, List.setIfInBounds_toArray, List.set_cons_zero, List.set_cons_succ]
          refine wpAnyK_take 15 (v := ?_) rfl (by kernel_rfl) (by kernel_rfl) (by kernel_rfl) (fun _ _ _ h => h) (by rfl) (by intro W hSw; go_simp; with_reducible rfl) ?_; try simp only [Act.put, List.setIfInBounds_toArray, List.set_cons_zero, List.set_cons_succ]
          refine wpAnyK_take 16 (v := ?_) rfl (by kernel_rfl) (by kernel_rfl) (by kernel_rfl) (fun _ _ _ h => h) (by rfl) (by intro W hSw; go_simp; with_reducible rfl) ?_; try simp only [Act.put, List.setIfInBounds_toArray, List.set_cons_zero, List.set_cons_succ]
          refine wpAnyK_take 18 (v := ?_) rfl (by kernel_rfl) (by kernel_rfl) (by kernel_rfl) (fun _ _ _ h => h) (by rfl) (by intro W hSw; go_simp; with_reducible rfl) ?_; try simp only [Act.put, List.setIfInBounds_toArray, List.set_cons_zero, List.set_cons_succ]
          refine wpAnyK_take 19 (v := ?_) rfl (by kernel_rfl) (by kernel_rfl) (by kernel_rfl) (fun _ _ _ h => h) (by rfl) (by intro W hSw; go_simp; with_reducible rfl) ?_; try simp only [Act.put, List.setIfInBounds_toArray, List.set_cons_zero, List.set_cons_succ]
          refine wpAnyK_take 20 (v := ?_) rfl (by kernel_rfl) (by kernel_rfl) (by kernel_rfl) (fun _ _ _ h => h) (by rfl) (by intro W hSw; go_simp; with_reducible rfl) ?_; try simp only [Act.put, List.setIfInBounds_toArray, List.set_cons_zero, List.set_cons_succ]
          refine wpAnyK_take 21 (v := ?_) rfl (by kernel_rfl) (by kernel_rfl) (by kernel_rfl) (fun _ _ _ h => h) (by rfl) (by intro W hSw; go_simp; with_reducible rfl) ?_; try simp only [Act.put, List.setIfInBounds_toArray, List.set_cons_zero, List.set_cons_succ]
          refine wpAnyK_take 22 (v := ?_) rfl (by kernel_rfl) (by kernel_rfl) (by kernel_rfl) (fun _ _ _ h => h) (by rfl) (by intro W hSw; go_simp; with_reducible rfl) ?_; try simp only [Act.put, List.setIfInBounds_toArray, List.set_cons_zero, List.set_cons_succ]
          refine wpAnyK_one 17 (by kernel_rfl) rfl (fun K hK => ?_)
          go_simp
          refine (hln.out _ (Later.refl _)).mono ?_; rintro e w21 ⟨rfl, rfl⟩; have hlr := Later.refl wz.drew
          refine hK.out _ _ (by assumption) ?_
          clear hK K; try simp only [Act.put, List.setIfInBounds_toArray, List.set_cons_zero, List.set_cons_succ]
          refine wpAnyK_take 23 (v := ?_) rfl (by kernel_rfl) (by kernel_rfl) (by kernel_rfl) (fun _ _ _ h => h) (by rfl) (by intro W hSw; go_simp; with_reducible rfl) ?_; try simp only [Act.put, List.setIfInBounds_toArray, List.set_cons_zero, List.set_cons_succ]
          refine wpAnyK_take 24 (v := ?_) rfl (by kernel_rfl) (by kernel_rfl) (by kernel_rfl) (fun _ _ _ h => h) (by rfl) (by intro W hSw; go_simp; with_reducible rfl) ?_; try simp only [Act.put, List.setIfInBounds_toArray, List.set_cons_zero, List.set_cons_succ]
          refine wpAnyK_done (by kernel_rfl) ?_ _
          clear e0 e1 er hln
          go_wp2_with fail
          go_roundw
          case rel => exact ⟨k + 1, L, by omega, by omega, by go_num, HTd, HBd⟩
          case measure => simp [intOf]; omega
        · go_wp2_with fail
          rw [HW4.out]
          refine (btake HH4.out hr4 (by omega) HSH.out i).mono ?_; rintro e w5 ⟨v5, rfl, ho5, hh5, hb5, hk5⟩
          have hact5 := hk5 _ _ HACT.out (notbag_act _ _)
          have d0 := cell_of_row _ _ 0 _ _ (0, 0) hact5
          have d1 := cell_of_row _ _ 1 _ _ (0, 0) hact5
          have d2 := cell_of_row _ _ 2 _ _ (0, 0) hact5
          have d3 := cell_of_row _ _ 3 _ _ (0, 0) hact5
          have d4 := cell_of_row _ _ 4 _ _ (0, 0) hact5
          have HLET5 := hide_ (hk5 _ _ HLET.out (notbag_let _ _))
          have HR5 := hide_ (HR4.out.kept hk5)
          have HH5 := hide_ hh5
          have HB5 := hide_ (HB4.out.trans hb5)
          have hs5 : W4.heap.size ≤ w5.heap.size := hb5.size
          obtain ⟨A5, c5, hv5⟩ := own_form ho5
          subst hv5
          have HO5 := hide_ ho5
          clear ho5 hh5 hb5 hk5 hact5
          go_wp2_with fail
          refine (rtake HR5.out hr4 hlen (by omega) i).mono ?_; rintro e w6 ⟨rfl, ⟨lv6, hr6, hnb6⟩, hb6, hk6, hro6⟩
          have HLET6 := hide_ ((hro6 _ (by omega) (by omega) HNB.out).trans HLET5.out)
          have HH6 := hide_ (HH5.out.kept hk6)
          have HR6 := hide_ hr6
          have HNB6 := hide_ (show lv6.ownBlock ≠ some (wr.heap.size + 1) from fun e => by
            rcases hnb6 _ e with h | h
            · exact HNB.out h
            · omega)
          have HB6 := hide_ (HB5.out.trans hb6)
          have HO6 := hide_ (own_of_kept HO5.out hk6 (by intro cs; rintro (h | h) <;> exact absurd h (by decide)))
          clear hr6 hnb6 hb6 hk6 hro6
          have HLz := hide_ (heap_set3 (.int .i64 (lookV L i).1.dest) (.string ⟨(lookV L i).1.text.toArray⟩) (.bool (lookV L i).1.spoilt) HLET6.out)
          obtain ⟨wz, hwz⟩ : ∃ wz, wz = ((w6.setCell ⟨wr.heap.size + 1, 0, none⟩ (.int .i64 (lookV L i).1.dest)).setCell ⟨wr.heap.size + 1, 1, none⟩ (.string ⟨(lookV L i).1.text.toArray⟩)).setCell ⟨wr.heap.size + 1, 2, none⟩ (.bool (lookV L i).1.spoilt) := ⟨_, rfl⟩
          have HWZ := hide_ hwz.symm
          have hset := let_set (a := .int .i64 (lookV L i).1.dest) (b := .string ⟨(lookV L i).1.text.toArray⟩) (c := .bool (lookV L i).1.spoilt) HLET6.out
          rw [← hwz] at HLz hset
          have hq6 : wr.heap.size + 1 < w6.heap.size := heap_lt HLET6.out
          have HHz := hide_ (HH6.out.kept hset.1)
          have HRz := hide_ (HR6.out.lets hset.2 (by omega) HNB6.out)
          have HBz := hide_ (hset.2.below HB6.out (show w.heap.size ≤ wr.heap.size + 1 by omega))
          have hoz := hset.2.own HO6.out (by omega)
          have hs : (convert 32 9 (.slice A5 (lookV L i).1.text.length c5)).run Try.prog wz = .ok (.string ⟨(lookV L i).1.text.toArray⟩) wz := run_str_n _ _ 5 c5 rfl Try.underlying32 Try.underlying5 Try.underlying9 (own_nil hoz) (Rd.of_own hoz)
          have y0 := cell_of_row _ _ 0 _ _ (0, 0) HLET6.out
          have y1 := cell_of_row _ _ 1 _ _ (0, 0) HLET6.out
          have y2 := cell_of_row _ _ 2 _ _ (0, 0) HLET6.out
          have f0 := frozen_of_row _ _ 0 _ _ HLET6.out
          have f1 := frozen_of_row _ _ 1 _ _ HLET6.out
          have f2 := frozen_of_row _ _ 2 _ _ HLET6.out
          have HSz := hide_ (show Short (takeL L i) from HSH.out.take)
          clear hset hoz hwz d0 d1 d2 d3 d4
          go_wp2_with (rw [HWZ.out])
          clear hs y0 y1 y2 f0 f1 f2
          obtain ⟨Az, cz, hlvz⟩ := own_form HRz.out.2.2
          subst hlvz
          have e0 := later_drew_cell (cell_of_row _ _ 0 _ _ (0, 0) HLz.out)
          have e1 := later_drew_cell (cell_of_row _ _ 1 _ _ (0, 0) HLz.out)
          have er := later_drew_cell (cell_of_row _ _ 0 _ _ (0, 0) HRz.out.1)
          have hln := hide_ (fun (Wx : World) (hx : Later wz.drew Wx) => blen (HHz.out.later ((below_drewN (Later.refl wz) 1).trans hx)))
          have HTd := hide_ (show Two wz.drew w.heap.size p c0 w2.heap.size rm ((takeL L i)) from ⟨HHz.out.later (below_drewN (Later.refl wz) 1), ⟨_, HRz.out.later (below_drewN (Later.refl wz) 1)⟩, HSz.out⟩)
          have HBd := hide_ (below_drewN HBz.out 1)
          go_wp2_with fail
          refine wp_region_k (by kernel_rfl) ?_
          refine wpAnyK_take 0 (v := ?_) rfl (by kernel_rfl) (by kernel_rfl) (by kernel_rfl) (fun _ _ _ h => h) (by rfl) (by intro W hSw; go_simp; with_reducible rfl) ?_; try simp only [Act.put, List.setIfInBounds_toArray, List.set_cons_zero, List.set_cons_succ]
          refine wpAnyK_take 1 (v := ?_) rfl (by kernel_rfl) (by kernel_rfl) (by kernel_rfl) (fun _ _ _ h => h) (by rfl) (by intro W hSw; go_simp; with_reducible rfl) ?_; try simp only [Act.put, List.setIfInBounds_toArray, List.set_cons_zero, List.set_cons_succ]
          refine wpAnyK_take 2 (v := ?_) rfl (by kernel_rfl) (by kernel_rfl) (by kernel_rfl) (fun _ _ _ h => h) (by rfl) (by intro W hSw; go_simp; with_reducible rfl) ?_; try simp only [Act.put, List.setIfInBounds_toArray, List.set_cons_zero, List.set_cons_succ]
          refine wpAnyK_take 3 (v := ?_) rfl (by kernel_rfl) (by kernel_rfl) (by kernel_rfl) (fun _ _ _ h => h) (by rfl) (by intro W hSw; go_simp; with_reducible rfl) ?_; try simp only [Act.put, List.setIfInBounds_toArray, List.set_cons_zero, List.set_cons_succ]
          refine wpAnyK_take 4 (v := ?_) rfl (by kernel_rfl) (by kernel_rfl) (by kernel_rfl) (fun _ _ _ h => h) (by rfl) (by intro W hSw; go_simp; with_reducible rfl) ?_; try simp only [Act.put, List.setIfInBounds_toArray, List.set_cons_zero, List.set_cons_succ]
          refine wpAnyK_take 5 (v := ?_) rfl (by kernel_rfl) (by kernel_rfl) (by kernel_rfl) (fun _ _ _ h => h) (by rfl) (by intro W hSw; go_simp; with_reducible rfl) ?_; try simp only [Act.put, List.setIfInBounds_toArray, List.set_cons_zero, List.set_cons_succ]
          refine wpAnyK_take 6 (v := ?_) rfl (by kernel_rfl) (by kernel_rfl) (by kernel_rfl) (fun _ _ _ h => h) (by rfl) (by intro W hSw; go_simp; with_reducible rfl) ?_; try simp only [Act.put, List.setIfInBounds_toArray, List.set_cons_zero, List.set_cons_succ]
          refine wpAnyK_take 7 (v := ?_) rfl (by kernel_rfl) (by kernel_rfl) (by kernel_rfl) (fun _ _ _ h => h) (by rfl) (by intro W hSw; go_simp; with_reducible rfl) ?_; try simp only [Act.put, List.setIfInBounds_toArray, List.set_cons_zero, List.set_cons_succ]
          refine wpAnyK_take 8 (v := ?_) rfl (by kernel_rfl) (by kernel_rfl) (by kernel_rfl) (fun _ _ _ h => h) (by rfl) (by intro W hSw; go_simp; with_reducible rfl) ?_; try simp only [Act.put, List.setIfInBounds_toArray, List.set_cons_zero, List.set_cons_succ]
          refine wpAnyK_take 9 (v := ?_) rfl (by kernel_rfl) (by kernel_rfl) (by kernel_rfl) (fun _ _ _ h => h) (by rfl) (by intro W hSw; go_simp; with_reducible rfl) ?_; try simp only [Act.put, List.setIfInBounds_toArray, List.set_cons_zero, List.set_cons_succ]
          refine wpAnyK_take 10 (v := ?_) rfl (by kernel_rfl) (by kernel_rfl) (by kernel_rfl) (fun _ _ _ h => h) (by rfl) (by intro W hSw; go_simp; with_reducible rfl) ?_; try simp only [Act.put, List.setIfInBounds_toArray, List.set_cons_zero, List.set_cons_succ]
          refine wpAnyK_take 11 (v := ?_) rfl (by kernel_rfl) (by kernel_rfl) (by kernel_rfl) (fun _ _ _ h => h) (by rfl) (by intro W hSw; go_simp; with_reducible rfl) ?_; try simp only [Act.put, List.setIfInBounds_toArray, List.set_cons_zero, List.set_cons_succ]
          refine wpAnyK_take 12 (v := ?_) rfl (by kernel_rfl) (by kernel_rfl) (by kernel_rfl) (fun _ _ _ h => h) (by rfl) (by intro W hSw; go_simp; with_reducible rfl) ?_; try simp only [Act.put, List.setIfInBounds_toArray, List.set_cons_zero, List.set_cons_succ]
          refine wpAnyK_take 13 (v := ?_) rfl (by kernel_rfl) (by kernel_rfl) (by kernel_rfl) (fun _ _ _ h => h) (by rfl) (by intro W hSw; go_simp; with_reducible rfl) ?_; try simp only [Act.put, List.setIfInBounds_toArray, List.set_cons_zero, List.set_cons_succ]
          refine wpAnyK_take 14 (v := ?_) rfl (by kernel_rfl) (by kernel_rfl) (by kernel_rfl) (fun _ _ _ h => h) (by rfl) (by intro W hSw; go_simp; with_reducible rfl) ?_; try simp only [Act.put, List.setIfInBounds_toArray, List.set_cons_zero, List.set_cons_succ]
          refine wpAnyK_take 15 (v := ?_) rfl (by kernel_rfl) (by kernel_rfl) (by kernel_rfl) (fun _ _ _ h => h) (by rfl) (by intro W hSw; go_simp; with_reducible rfl) ?_; try simp only [Act.put, List.setIfInBounds_toArray, List.set_cons_zero, List.set_cons_succ]
          refine wpAnyK_take 16 (v := ?_) rfl (by kernel_rfl) (by kernel_rfl) (by kernel_rfl) (fun _ _ _ h => h) (by rfl) (by intro W hSw; go_simp; with_reducible rfl) ?_; try simp only [Act.put, List.setIfInBounds_toArray, List.set_cons_zero, List.set_cons_succ]
          refine wpAnyK_take 18 (v := ?_) rfl (by kernel_rfl) (by kernel_rfl) (by kernel_rfl) (fun _ _ _ h => h) (by rfl) (by intro W hSw; go_simp; with_reducible rfl) ?_; try simp only [Act.put, List.setIfInBounds_toArray, List.set_cons_zero, List.set_cons_succ]
          refine wpAnyK_take 19 (v := ?_) rfl (by kernel_rfl) (by kernel_rfl) (by kernel_rfl) (fun _ _ _ h => h) (by rfl) (by intro W hSw; go_simp; with_reducible rfl) ?_; try simp only [Act.put, List.setIfInBounds_toArray, List.set_cons_zero, List.set_cons_succ]
          refine wpAnyK_take 20 (v := ?_) rfl (by kernel_rfl) (by kernel_rfl) (by kernel_rfl) (fun _ _ _ h => h) (by rfl) (by intro W hSw; go_simp; with_reducible rfl) ?_; try simp only [Act.put, List.setIfInBounds_toArray, List.set_cons_zero, List.set_cons_succ]
          refine wpAnyK_take 21 (v := ?_) rfl (by kernel_rfl) (by kernel_rfl) (by kernel_rfl) (fun _ _ _ h => h) (by rfl) (by intro W hSw; go_simp; with_reducible rfl) ?_; try simp only [Act.put, List.setIfInBounds_toArray, List.set_cons_zero, List.set_cons_succ]
          refine wpAnyK_take 22 (v := ?_) rfl (by kernel_rfl) (by kernel_rfl) (by kernel_rfl) (fun _ _ _ h => h) (by rfl) (by intro W hSw; go_simp; with_reducible rfl) ?_; try simp only [Act.put, List.setIfInBounds_toArray, List.set_cons_zero, List.set_cons_succ]
          refine wpAnyK_one 17 (by kernel_rfl) rfl (fun K hK => ?_)
          go_simp
          refine (hln.out _ (Later.refl _)).mono ?_; rintro e w21 ⟨rfl, rfl⟩; have hlr := Later.refl wz.drew
          refine hK.out _ _ (by assumption) ?_
          clear hK K; try simp only [Act.put, List.setIfInBounds_toArray, List.set_cons_zero, List.set_cons_succ]
          refine wpAnyK_take 23 (v := ?_) rfl (by kernel_rfl) (by kernel_rfl) (by kernel_rfl) (fun _ _ _ h => h) (by rfl) (by intro W hSw; go_simp; with_reducible rfl) ?_; try simp only [Act.put, List.setIfInBounds_toArray, List.set_cons_zero, List.set_cons_succ]
          refine wpAnyK_take 24 (v := ?_) rfl (by kernel_rfl) (by kernel_rfl) (by kernel_rfl) (fun _ _ _ h => h) (by rfl) (by intro W hSw; go_simp; with_reducible rfl) ?_; try simp only [Act.put, List.setIfInBounds_toArray, List.set_cons_zero, List.set_cons_succ]
          refine wpAnyK_done (by kernel_rfl) ?_ _
          clear e0 e1 er hln
          go_wp2_with fail
          go_roundw
          case rel => exact ⟨k + 1, (takeL L i), by omega, by omega, by go_num, HTd, HBd⟩
          case measure => simp [intOf]; omega
        · go_wp2_with fail
          rw [HW4.out]
          refine (btwin HH4.out hr4 (by omega) HSH.out i).mono ?_; rintro e w5 ⟨rfl, hh5, hb5, hk5⟩
          have hact5 := hk5 _ _ HACT.out (notbag_act _ _)
          have d0 := cell_of_row _ _ 0 _ _ (0, 0) hact5
          have d1 := cell_of_row _ _ 1 _ _ (0, 0) hact5
          have d2 := cell_of_row _ _ 2 _ _ (0, 0) hact5
          have d3 := cell_of_row _ _ 3 _ _ (0, 0) hact5
          have d4 := cell_of_row _ _ 4 _ _ (0, 0) hact5
          have HLET5 := hide_ (hk5 _ _ HLET.out (notbag_let _ _))
          have HR5 := hide_ (HR4.out.kept hk5)
          have HH5 := hide_ hh5
          have HB5 := hide_ (HB4.out.trans hb5)
          have hs5 : W4.heap.size ≤ w5.heap.size := hb5.size
          clear hh5 hb5 hk5 hact5
          go_wp2_with fail
          refine (rtwin HR5.out hr4 (by omega) i).mono ?_; rintro e wz ⟨rfl, ⟨lvz, hr6⟩, hb6, hk6, hro6⟩
          have HRz := hide_ hr6
          have HHz := hide_ (HH5.out.kept hk6)
          have HBz := hide_ (HB5.out.trans hb6)
          have HLz := hide_ ((hro6 _ (by omega) (by omega) HNB.out).trans HLET5.out)
          have HSz := hide_ (show Short (twinV rm L i).2 from HSH.out.twin)
          clear hr6 hb6 hk6 hro6 d0 d1 d2 d3 d4
          obtain ⟨Az, cz, hlvz⟩ := own_form HRz.out.2.2
          subst hlvz
          have e0 := later_drew_cell (cell_of_row _ _ 0 _ _ (0, 0) HLz.out)
          have e1 := later_drew_cell (cell_of_row _ _ 1 _ _ (0, 0) HLz.out)
          have er := later_drew_cell (cell_of_row _ _ 0 _ _ (0, 0) HRz.out.1)
          have hln := hide_ (fun (Wx : World) (hx : Later wz.drew Wx) => blen (HHz.out.later ((below_drewN (Later.refl wz) 1).trans hx)))
          have HTd := hide_ (show Two wz.drew w.heap.size p c0 w2.heap.size rm ((twinV rm L i).2) from ⟨HHz.out.later (below_drewN (Later.refl wz) 1), ⟨_, HRz.out.later (below_drewN (Later.refl wz) 1)⟩, HSz.out⟩)
          have HBd := hide_ (below_drewN HBz.out 1)
          go_wp2_with fail
          refine wp_region_k (by kernel_rfl) ?_
          refine wpAnyK_take 0 (v := ?_) rfl (by kernel_rfl) (by kernel_rfl) (by kernel_rfl) (fun _ _ _ h => h) (by rfl) (by intro W hSw; go_simp; with_reducible rfl) ?_; try simp only [Act.put, List.setIfInBounds_toArray, List.set_cons_zero, List.set_cons_succ]
          refine wpAnyK_take 1 (v := ?_) rfl (by kernel_rfl) (by kernel_rfl) (by kernel_rfl) (fun _ _ _ h => h) (by rfl) (by intro W hSw; go_simp; with_reducible rfl) ?_; try simp only [Act.put, List.setIfInBounds_toArray, List.set_cons_zero, List.set_cons_succ]
          refine wpAnyK_take 2 (v := ?_) rfl (by kernel_rfl) (by kernel_rfl) (by kernel_rfl) (fun _ _ _ h => h) (by rfl) (by intro W hSw; go_simp; with_reducible rfl) ?_; try simp only [Act.put, List.setIfInBounds_toArray, List.set_cons_zero, List.set_cons_succ]
          refine wpAnyK_take 3 (v := ?_) rfl (by kernel_rfl) (by kernel_rfl) (by kernel_rfl) (fun _ _ _ h => h) (by rfl) (by intro W hSw; go_simp; with_reducible rfl) ?_; try simp only [Act.put, List.setIfInBounds_toArray, List.set_cons_zero, List.set_cons_succ]
          refine wpAnyK_take 4 (v := ?_) rfl (by kernel_rfl) (by kernel_rfl) (by kernel_rfl) (fun _ _ _ h => h) (by rfl) (by intro W hSw; go_simp; with_reducible rfl) ?_; try simp only [Act.put, List.setIfInBounds_toArray, List.set_cons_zero, List.set_cons_succ]
          refine wpAnyK_take 5 (v := ?_) rfl (by kernel_rfl) (by kernel_rfl) (by kernel_rfl) (fun _ _ _ h => h) (by rfl) (by intro W hSw; go_simp; with_reducible rfl) ?_; try simp only [Act.put, List.setIfInBounds_toArray, List.set_cons_zero, List.set_cons_succ]
          refine wpAnyK_take 6 (v := ?_) rfl (by kernel_rfl) (by kernel_rfl) (by kernel_rfl) (fun _ _ _ h => h) (by rfl) (by intro W hSw; go_simp; with_reducible rfl) ?_; try simp only [Act.put, List.setIfInBounds_toArray, List.set_cons_zero, List.set_cons_succ]
          refine wpAnyK_take 7 (v := ?_) rfl (by kernel_rfl) (by kernel_rfl) (by kernel_rfl) (fun _ _ _ h => h) (by rfl) (by intro W hSw; go_simp; with_reducible rfl) ?_; try simp only [Act.put, List.setIfInBounds_toArray, List.set_cons_zero, List.set_cons_succ]
          refine wpAnyK_take 8 (v := ?_) rfl (by kernel_rfl) (by kernel_rfl) (by kernel_rfl) (fun _ _ _ h => h) (by rfl) (by intro W hSw; go_simp; with_reducible rfl) ?_; try simp only [Act.put, List.setIfInBounds_toArray, List.set_cons_zero, List.set_cons_succ]
          refine wpAnyK_take 9 (v := ?_) rfl (by kernel_rfl) (by kernel_rfl) (by kernel_rfl) (fun _ _ _ h => h) (by rfl) (by intro W hSw; go_simp; with_reducible rfl) ?_; try simp only [Act.put, List.setIfInBounds_toArray, List.set_cons_zero, List.set_cons_succ]
          refine wpAnyK_take 10 (v := ?_) rfl (by kernel_rfl) (by kernel_rfl) (by kernel_rfl) (fun _ _ _ h => h) (by rfl) (by intro W hSw; go_simp; with_reducible rfl) ?_; try simp only [Act.put, List.setIfInBounds_toArray, List.set_cons_zero, List.set_cons_succ]
          refine wpAnyK_take 11 (v := ?_) rfl (by kernel_rfl) (by kernel_rfl) (by kernel_rfl) (fun _ _ _ h => h) (by rfl) (by intro W hSw; go_simp; with_reducible rfl) ?_; try simp only [Act.put, List.setIfInBounds_toArray, List.set_cons_zero, List.set_cons_succ]
          refine wpAnyK_take 12 (v := ?_) rfl (by kernel_rfl) (by kernel_rfl) (by kernel_rfl) (fun _ _ _ h => h) (by rfl) (by intro W hSw; go_simp; with_reducible rfl) ?_; try simp only [Act.put, List.setIfInBounds_toArray, List.set_cons_zero, List.set_cons_succ]
          refine wpAnyK_take 13 (v := ?_) rfl (by kernel_rfl) (by kernel_rfl) (by kernel_rfl) (fun _ _ _ h => h) (by rfl) (by intro W hSw; go_simp; with_reducible rfl) ?_; try simp only [Act.put, List.setIfInBounds_toArray, List.set_cons_zero, List.set_cons_succ]
          refine wpAnyK_take 14 (v := ?_) rfl (by kernel_rfl) (by kernel_rfl) (by kernel_rfl) (fun _ _ _ h => h) (by rfl) (by intro W hSw; go_simp; with_reducible rfl) ?_; try simp only [Act.put, List.setIfInBounds_toArray, List.set_cons_zero, List.set_cons_succ]
          refine wpAnyK_take 15 (v := ?_) rfl (by kernel_rfl) (by kernel_rfl) (by kernel_rfl) (fun _ _ _ h => h) (by rfl) (by intro W hSw; go_simp; with_reducible rfl) ?_; try simp only [Act.put, List.setIfInBounds_toArray, List.set_cons_zero, List.set_cons_succ]
          refine wpAnyK_take 16 (v := ?_) rfl (by kernel_rfl) (by kernel_rfl) (by kernel_rfl) (fun _ _ _ h => h) (by rfl) (by intro W hSw; go_simp; with_reducible rfl) ?_; try simp only [Act.put, List.setIfInBounds_toArray, List.set_cons_zero, List.set_cons_succ]
          refine wpAnyK_take 18 (v := ?_) rfl (by kernel_rfl) (by kernel_rfl) (by kernel_rfl) (fun _ _ _ h => h) (by rfl) (by intro W hSw; go_simp; with_reducible rfl) ?_; try simp only [Act.put, List.setIfInBounds_toArray, List.set_cons_zero, List.set_cons_succ]
          refine wpAnyK_take 19 (v := ?_) rfl (by kernel_rfl) (by kernel_rfl) (by kernel_rfl) (fun _ _ _ h => h) (by rfl) (by intro W hSw; go_simp; with_reducible rfl) ?_; try simp only [Act.put, List.setIfInBounds_toArray, List.set_cons_zero, List.set_cons_succ]
          refine wpAnyK_take 20 (v := ?_) rfl (by kernel_rfl) (by kernel_rfl) (by kernel_rfl) (fun _ _ _ h => h) (by rfl) (by intro W hSw; go_simp; with_reducible rfl) ?_; try simp only [Act.put, List.setIfInBounds_toArray, List.set_cons_zero, List.set_cons_succ]
          refine wpAnyK_take 21 (v := ?_) rfl (by kernel_rfl) (by kernel_rfl) (by kernel_rfl) (fun _ _ _ h => h) (by rfl) (by intro W hSw; go_simp; with_reducible rfl) ?_; try simp only [Act.put, List.setIfInBounds_toArray, List.set_cons_zero, List.set_cons_succ]
          refine wpAnyK_take 22 (v := ?_) rfl (by kernel_rfl) (by kernel_rfl) (by kernel_rfl) (fun _ _ _ h => h) (by rfl) (by intro W hSw; go_simp; with_reducible rfl) ?_; try simp only [Act.put, List.setIfInBounds_toArray, List.set_cons_zero, List.set_cons_succ]
          refine wpAnyK_one 17 (by kernel_rfl) rfl (fun K hK => ?_)
          go_simp
          refine (hln.out _ (Later.refl _)).mono ?_; rintro e w21 ⟨rfl, rfl⟩; have hlr := Later.refl wz.drew
          refine hK.out _ _ (by assumption) ?_
          clear hK K; try simp only [Act.put, List.setIfInBounds_toArray, List.set_cons_zero, List.set_cons_succ]
          refine wpAnyK_take 23 (v := ?_) rfl (by kernel_rfl) (by kernel_rfl) (by kernel_rfl) (fun _ _ _ h => h) (by rfl) (by intro W hSw; go_simp; with_reducible rfl) ?_; try simp only [Act.put, List.setIfInBounds_toArray, List.set_cons_zero, List.set_cons_succ]
          refine wpAnyK_take 24 (v := ?_) rfl (by kernel_rfl) (by kernel_rfl) (by kernel_rfl) (fun _ _ _ h => h) (by rfl) (by intro W hSw; go_simp; with_reducible rfl) ?_; try simp only [Act.put, List.setIfInBounds_toArray, List.set_cons_zero, List.set_cons_succ]
          refine wpAnyK_done (by kernel_rfl) ?_ _
          clear e0 e1 er hln
          go_wp2_with fail
          go_roundw
          case rel => exact ⟨k + 1, (twinV rm L i).2, by omega, by omega, by go_num, HTd, HBd⟩
          case measure => simp [intOf]; omega
        · have y0 : (x == 0) = false := beq_eq_false_iff_ne.2 x0
          have y1 : (x == 1) = false := beq_eq_false_iff_ne.2 x1
          have y2 : (x == 2) = false := beq_eq_false_iff_ne.2 x2
          have y3 : (x == 3) = false := beq_eq_false_iff_ne.2 x3
          have y4 : (x == 4) = false := beq_eq_false_iff_ne.2 x4
          have y5 : (x == 5) = false := beq_eq_false_iff_ne.2 x5
          go_wp2_with fail
          rw [HW4.out]
          refine (bspoil HH4.out hr4 HSH.out i q u).mono ?_; rintro e w5 ⟨rfl, hh5, hb5, hk5⟩
          have hact5 := hk5 _ _ HACT.out (notbag_act _ _)
          have d0 := cell_of_row _ _ 0 _ _ (0, 0) hact5
          have d1 := cell_of_row _ _ 1 _ _ (0, 0) hact5
          have d2 := cell_of_row _ _ 2 _ _ (0, 0) hact5
          have d3 := cell_of_row _ _ 3 _ _ (0, 0) hact5
          have d4 := cell_of_row _ _ 4 _ _ (0, 0) hact5
          have HLET5 := hide_ (hk5 _ _ HLET.out (notbag_let _ _))
          have HR5 := hide_ (HR4.out.kept hk5)
          have HH5 := hide_ hh5
          have HB5 := hide_ (HB4.out.trans hb5)
          have hs5 : W4.heap.size ≤ w5.heap.size := hb5.size
          clear hh5 hb5 hk5 hact5
          go_wp2_with fail
          refine (rspoil HR5.out hr4 hlen (by omega) HSH.out i q u).mono ?_; rintro e wz ⟨rfl, ⟨lvz, hr6⟩, hb6, hk6, hro6⟩
          have HRz := hide_ hr6
          have HHz := hide_ (HH5.out.kept hk6)
          have HBz := hide_ (HB5.out.trans hb6)
          have HLz := hide_ ((hro6 _ (by omega) (by omega) HNB.out).trans HLET5.out)
          have HSz := hide_ (show Short (spoilV L i q u).2 from HSH.out.spoil)
          clear hr6 hb6 hk6 hro6 d0 d1 d2 d3 d4
          obtain ⟨Az, cz, hlvz⟩ := own_form HRz.out.2.2
          subst hlvz
          have e0 := later_drew_cell (cell_of_row _ _ 0 _ _ (0, 0) HLz.out)
          have e1 := later_drew_cell (cell_of_row _ _ 1 _ _ (0, 0) HLz.out)
          have er := later_drew_cell (cell_of_row _ _ 0 _ _ (0, 0) HRz.out.1)
          have hln := hide_ (fun (Wx : World) (hx : Later wz.drew Wx) => blen (HHz.out.later ((below_drewN (Later.refl wz) 1).trans hx)))
          have HTd := hide_ (show Two wz.drew w.heap.size p c0 w2.heap.size rm ((spoilV L i q u).2) from ⟨HHz.out.later (below_drewN (Later.refl wz) 1), ⟨_, HRz.out.later (below_drewN (Later.refl wz) 1)⟩, HSz.out⟩)
          have HBd := hide_ (below_drewN HBz.out 1)
          go_wp2_with fail
          refine wp_region_k (by kernel_rfl) ?_
          refine wpAnyK_take 0 (v := ?_) rfl (by kernel_rfl) (by kernel_rfl) (by kernel_rfl) (fun _ _ _ h => h) (by rfl) (by intro W hSw; go_simp; with_reducible rfl) ?_; try simp only [Act.put, List.setIfInBounds_toArray, List.set_cons_zero, List.set_cons_succ]
          refine wpAnyK_take 1 (v := ?_) rfl (by kernel_rfl) (by kernel_rfl) (by kernel_rfl) (fun _ _ _ h => h) (by rfl) (by intro W hSw; go_simp; with_reducible rfl) ?_; try simp only [Act.put, List.setIfInBounds_toArray, List.set_cons_zero, List.set_cons_succ]
          refine wpAnyK_take 2 (v := ?_) rfl (by kernel_rfl) (by kernel_rfl) (by kernel_rfl) (fun _ _ _ h => h) (by rfl) (by intro W hSw; go_simp; with_reducible rfl) ?_; try simp only [Act.put, List.setIfInBounds_toArray, List.set_cons_zero, List.set_cons_succ]
          refine wpAnyK_take 3 (v := ?_) rfl (by kernel_rfl) (by kernel_rfl) (by kernel_rfl) (fun _ _ _ h => h) (by rfl) (by intro W hSw; go_simp; with_reducible rfl) ?_; try simp only [Act.put, List.setIfInBounds_toArray, List.set_cons_zero, List.set_cons_succ]
          refine wpAnyK_take 4 (v := ?_) rfl (by kernel_rfl) (by kernel_rfl) (by kernel_rfl) (fun _ _ _ h => h) (by rfl) (by intro W hSw; go_simp; with_reducible rfl) ?_; try simp only [Act.put, List.setIfInBounds_toArray, List.set_cons_zero, List.set_cons_succ]
          refine wpAnyK_take 5 (v := ?_) rfl (by kernel_rfl) (by kernel_rfl) (by kernel_rfl) (fun _ _ _ h => h) (by rfl) (by intro W hSw; go_simp; with_reducible rfl) ?_; try simp only [Act.put, List.setIfInBounds_toArray, List.set_cons_zero, List.set_cons_succ]
          refine wpAnyK_take 6 (v := ?_) rfl (by kernel_rfl) (by kernel_rfl) (by kernel_rfl) (fun _ _ _ h => h) (by rfl) (by intro W hSw; go_simp; with_reducible rfl) ?_; try simp only [Act.put, List.setIfInBounds_toArray, List.set_cons_zero, List.set_cons_succ]
          refine wpAnyK_take 7 (v := ?_) rfl (by kernel_rfl) (by kernel_rfl) (by kernel_rfl) (fun _ _ _ h => h) (by rfl) (by intro W hSw; go_simp; with_reducible rfl) ?_; try simp only [Act.put, List.setIfInBounds_toArray, List.set_cons_zero, List.set_cons_succ]
          refine wpAnyK_take 8 (v := ?_) rfl (by kernel_rfl) (by kernel_rfl) (by kernel_rfl) (fun _ _ _ h => h) (by rfl) (by intro W hSw; go_simp; with_reducible rfl) ?_; try simp only [Act.put, List.setIfInBounds_toArray, List.set_cons_zero, List.set_cons_succ]
          refine wpAnyK_take 9 (v := ?_) rfl (by kernel_rfl) (by kernel_rfl) (by kernel_rfl) (fun _ _ _ h => h) (by rfl) (by intro W hSw; go_simp; with_reducible rfl) ?_; try simp only [Act.put, List.setIfInBounds_toArray, List.set_cons_zero, List.set_cons_succ]
          refine wpAnyK_take 10 (v := ?_) rfl (by kernel_rfl) (by kernel_rfl) (by kernel_rfl) (fun _ _ _ h => h) (by rfl) (by intro W hSw; go_simp; with_reducible rfl) ?_; try simp only [Act.put, List.setIfInBounds_toArray, List.set_cons_zero, List.set_cons_succ]
          refine wpAnyK_take 11 (v := ?_) rfl (by kernel_rfl) (by kernel_rfl) (by kernel_rfl) (fun _ _ _ h => h) (by rfl) (by intro W hSw; go_simp; with_reducible rfl) ?_; try simp only [Act.put, List.setIfInBounds_toArray, List.set_cons_zero, List.set_cons_succ]
          refine wpAnyK_take 12 (v := ?_) rfl (by kernel_rfl) (by kernel_rfl) (by kernel_rfl) (fun _ _ _ h => h) (by rfl) (by intro W hSw; go_simp; with_reducible rfl) ?_; try simp only [Act.put, List.setIfInBounds_toArray, List.set_cons_zero, List.set_cons_succ]
          refine wpAnyK_take 13 (v := ?_) rfl (by kernel_rfl) (by kernel_rfl) (by kernel_rfl) (fun _ _ _ h => h) (by rfl) (by intro W hSw; go_simp; with_reducible rfl) ?_; try simp only [Act.put, List.setIfInBounds_toArray, List.set_cons_zero, List.set_cons_succ]
          refine wpAnyK_take 14 (v := ?_) rfl (by kernel_rfl) (by kernel_rfl) (by kernel_rfl) (fun _ _ _ h => h) (by rfl) (by intro W hSw; go_simp; with_reducible rfl) ?_; try simp only [Act.put, List.setIfInBounds_toArray, List.set_cons_zero, List.set_cons_succ]
          refine wpAnyK_take 15 (v := ?_) rfl (by kernel_rfl) (by kernel_rfl) (by kernel_rfl) (fun _ _ _ h => h) (by rfl) (by intro W hSw; go_simp; with_reducible rfl) ?_; try simp only [Act.put, List.setIfInBounds_toArray, List.set_cons_zero, List.set_cons_succ]
          refine wpAnyK_take 16 (v := ?_) rfl (by kernel_rfl) (by kernel_rfl) (by kernel_rfl) (fun _ _ _ h => h) (by rfl) (by intro W hSw; go_simp; with_reducible rfl) ?_; try simp only [Act.put, List.setIfInBounds_toArray, List.set_cons_zero, List.set_cons_succ]
          refine wpAnyK_take 18 (v := ?_) rfl (by kernel_rfl) (by kernel_rfl) (by kernel_rfl) (fun _ _ _ h => h) (by rfl) (by intro W hSw; go_simp; with_reducible rfl) ?_; try simp only [Act.put, List.setIfInBounds_toArray, List.set_cons_zero, List.set_cons_succ]
          refine wpAnyK_take 19 (v := ?_) rfl (by kernel_rfl) (by kernel_rfl) (by kernel_rfl) (fun _ _ _ h => h) (by rfl) (by intro W hSw; go_simp; with_reducible rfl) ?_; try simp only [Act.put, List.setIfInBounds_toArray, List.set_cons_zero, List.set_cons_succ]
          refine wpAnyK_take 20 (v := ?_) rfl (by kernel_rfl) (by kernel_rfl) (by kernel_rfl) (fun _ _ _ h => h) (by rfl) (by intro W hSw; go_simp; with_reducible rfl) ?_; try simp only [Act.put, List.setIfInBounds_toArray, List.set_cons_zero, List.set_cons_succ]
          refine wpAnyK_take 21 (v := ?_) rfl (by kernel_rfl) (by kernel_rfl) (by kernel_rfl) (fun _ _ _ h => h) (by rfl) (by intro W hSw; go_simp; with_reducible rfl) ?_; try simp only [Act.put, List.setIfInBounds_toArray, List.set_cons_zero, List.set_cons_succ]
          refine wpAnyK_take 22 (v := ?_) rfl (by kernel_rfl) (by kernel_rfl) (by kernel_rfl) (fun _ _ _ h => h) (by rfl) (by intro W hSw; go_simp; with_reducible rfl) ?_; try simp only [Act.put, List.setIfInBounds_toArray, List.set_cons_zero, List.set_cons_succ]
          refine wpAnyK_one 17 (by kernel_rfl) rfl (fun K hK => ?_)
          go_simp
          refine (hln.out _ (Later.refl _)).mono ?_; rintro e w21 ⟨rfl, rfl⟩; have hlr := Later.refl wz.drew
          refine hK.out _ _ (by assumption) ?_
          clear hK K; try simp only [Act.put, List.setIfInBounds_toArray, List.set_cons_zero, List.set_cons_succ]
          refine wpAnyK_take 23 (v := ?_) rfl (by kernel_rfl) (by kernel_rfl) (by kernel_rfl) (fun _ _ _ h => h) (by rfl) (by intro W hSw; go_simp; with_reducible rfl) ?_; try simp only [Act.put, List.setIfInBounds_toArray, List.set_cons_zero, List.set_cons_succ]
          refine wpAnyK_take 24 (v := ?_) rfl (by kernel_rfl) (by kernel_rfl) (by kernel_rfl) (fun _ _ _ h => h) (by rfl) (by intro W hSw; go_simp; with_reducible rfl) ?_; try simp only [Act.put, List.setIfInBounds_toArray, List.set_cons_zero, List.set_cons_succ]
          refine wpAnyK_done (by kernel_rfl) ?_ _
          clear e0 e1 er hln
          go_wp2_with fail
          go_roundw
          case rel => exact ⟨k + 1, (spoilV L i q u).2, by omega, by omega, by go_num, HTd, HBd⟩
          case measure => simp [intOf]; omega
      · have h3 : ¬ (k : Int) < (n : Int) ∨ ((k : Int) < (n : Int) ∧ ¬ (k : Int) < 100) := by omega
        obtain ⟨lv, HR⟩ := HT.out.2.1
        have HHE := hide_ HT.out.1
        have HSE := hide_ HT.out.2.2
        have HRE := hide_ HR
        have hlen := HT.out.1.len
        clear hlt HT HR
        obtain ⟨we, rfl⟩ : ∃ we : World, we = wr := ⟨_, rfl⟩
        rcases h3 with q3 | ⟨q3, q4⟩
        all_goals
          go_wp2_with fail
          go_loopw [16] (fun s16 wx => ∃ (j : Nat), j ≤ L.length ∧ s16 = .int .i64 j ∧ Hid (Half wx w.heap.size p c0 rm L) ∧ Hid (RAt wx w.heap.size w2.heap.size lv rm L) ∧ Hid (Below w.heap.size w wx)) (fun s16 _ => L.length - (intOf s16).toNat)
          case atStart => exact ⟨0, by omega, rfl, HHE, HRE, HB⟩
          case round =>
            obtain ⟨j, hj, rfl, HH, HR, HB⟩ := hrel
            have z0 : (0 : Int) ≤ (j : Int) := by omega
            have z1 : (j : Int) ≤ 4096 := by omega
            by_cases hlt : j < L.length
            · have z2 : (j : Int) < (L.length : Int) := by omega
              obtain ⟨x, hx⟩ : ∃ x, L[j]? = some x := ⟨_, List.getElem?_eq_getElem hlt⟩
              have hlk : lookV L (j : Int) = (x, 0) := by unfold lookV at?; rw [if_pos z0, Int.toNat_natCast, hx]
              have hbl := blook HH.out hr4 HSE.out (j : Int)
              rw [hlk] at hbl
              have HBL := hide_ hbl
              obtain ⟨g, cap, hlv, _, hgl⟩ := HR.out.2.2.form (by omega)
              have k0 : wr.cell? ⟨w2.heap.size, 0, none⟩ = some (.slice (some ⟨g, 0, none⟩) L.length cap) := by rw [← hlv]; exact cell_of_row _ _ 0 _ _ (0, 0) HR.out.1
              have HX2 := hide_ hx
              have HLV := hide_ hlv
              clear hlk hbl hlv hx hlt
              go_wp2_with fail
              refine HBL.out.mono ?_; rintro e w5 ⟨v5, rfl, ho5, hb5⟩
              have HR5 := hide_ (HR.out.later hb5)
              have HH5 := hide_ (HH.out.later hb5)
              have hsx : w.heap.size ≤ wr.heap.size := HB.out.size
              have HB5 := hide_ (HB.out.trans (Below.mono hb5 hsx))
              obtain ⟨A5, c5, hv5⟩ := own_form ho5
              subst hv5
              have ho6 := HR5.out.2.2
              rw [HLV.out] at ho6
              have m0 : w5.cell? ⟨w2.heap.size, 0, none⟩ = some (.slice (some ⟨g, 0, none⟩) L.length cap) := by rw [← HLV.out]; exact cell_of_row _ _ 0 _ _ (0, 0) HR5.out.1
              have m1 : w5.cell? ⟨g, j * 3, none⟩ = some (.int .i64 x.dest) := (ho6.cellAt (j * 3) (by omega)).trans (rrow_at HX2.out 0 (by omega))
              have m2 : w5.cell? ⟨g, j * 3 + 1, none⟩ = some (.string ⟨x.text.toArray⟩) := (ho6.cellAt (j * 3 + 1) (by omega)).trans (rrow_at HX2.out 1 (by omega))
              have n0 := later_drew_cell m0
              have n1 := later_drew_cell m1
              have n2 := later_drew_cell m2
              have hs : ∀ W, Later w5.drew W → (convert 32 9 (.slice A5 x.text.length c5)).run Try.prog W = .ok (.string ⟨x.text.toArray⟩) W := fun W hW => run_str_n _ _ 5 c5 rfl Try.underlying32 Try.underlying5 Try.underlying9 (own_nil ho5) ((Rd.of_own ho5).drew.below hW)
              have HHd := hide_ (HH5.out.later (below_drewN (Later.refl w5) 1))
              have HRd := hide_ (HR5.out.later (below_drewN (Later.refl w5) 1))
              have HBd := hide_ (below_drewN HB5.out 1)
              clear hb5 ho5 ho6 m0 m1 m2 k0
              go_wp2_with fail
              refine wp_region_k (by kernel_rfl) ?_
              refine wpAnyK_take 0 (v := ?_) rfl (by kernel_rfl) (by kernel_rfl) (by kernel_rfl) (fun _ _ _ h => h) (by rfl) (by intro W hSw; go_simp; with_reducible rfl) ?_; try simp only [Act.put, List.setIfInBounds_toArray, List.set_cons_zero, List.set_cons_succ]
              refine wpAnyK_take 1 (v := ?_) rfl (by kernel_rfl) (by kernel_rfl) (by kernel_rfl) (fun _ _ _ h => h) (by rfl) (by intro W hSw; go_simp; with_reducible rfl) ?_; try simp only [Act.put, List.setIfInBounds_toArray, List.set_cons_zero, List.set_cons_succ]
              refine wpAnyK_take 2 (v := ?_) rfl (by kernel_rfl) (by kernel_rfl) (by kernel_rfl) (fun _ _ _ h => h) (by rfl) (by intro W hSw; go_simp; with_reducible rfl) ?_; try simp only [Act.put, List.setIfInBounds_toArray, List.set_cons_zero, List.set_cons_succ]
              refine wpAnyK_take 3 (v := ?_) rfl (by kernel_rfl) (by kernel_rfl) (by kernel_rfl) (fun _ _ _ h => h) (by rfl) (by intro W hSw; go_simp; with_reducible rfl) ?_; try simp only [Act.put, List.setIfInBounds_toArray, List.set_cons_zero, List.set_cons_succ]
              refine wpAnyK_take 4 (v := ?_) rfl (by kernel_rfl) (by kernel_rfl) (by kernel_rfl) (fun _ _ _ h => h) (by rfl) (by intro W hSw; go_simp; with_reducible rfl) ?_; try simp only [Act.put, List.setIfInBounds_toArray, List.set_cons_zero, List.set_cons_succ]
              refine wpAnyK_take 5 (v := ?_) rfl (by kernel_rfl) (by kernel_rfl) (by kernel_rfl) (fun _ _ _ h => h) (by rfl) (by intro W hSw; go_simp; with_reducible rfl) ?_; try simp only [Act.put, List.setIfInBounds_toArray, List.set_cons_zero, List.set_cons_succ]
              refine wpAnyK_take 6 (v := ?_) rfl (by kernel_rfl) (by kernel_rfl) (by kernel_rfl) (fun _ _ _ h => h) (by rfl) (by intro W hSw; go_simp; with_reducible rfl) ?_; try simp only [Act.put, List.setIfInBounds_toArray, List.set_cons_zero, List.set_cons_succ]
              refine wpAnyK_take 7 (v := ?_) rfl (by kernel_rfl) (by kernel_rfl) (by kernel_rfl) (fun _ _ _ h => h) (by rfl) (by intro W hSw; go_simp; with_reducible rfl) ?_; try simp only [Act.put, List.setIfInBounds_toArray, List.set_cons_zero, List.set_cons_succ]
              refine wpAnyK_take 8 (v := ?_) rfl (by kernel_rfl) (by kernel_rfl) (by kernel_rfl) (fun _ _ _ h => h) (by rfl) (by intro W hSw; go_simp; with_reducible rfl) ?_; try simp only [Act.put, List.setIfInBounds_toArray, List.set_cons_zero, List.set_cons_succ]
              refine wpAnyK_take 9 (v := ?_) rfl (by kernel_rfl) (by kernel_rfl) (by kernel_rfl) (fun _ _ _ h => h) (by rfl) (by intro W hSw; go_simp; with_reducible rfl) ?_; try simp only [Act.put, List.setIfInBounds_toArray, List.set_cons_zero, List.set_cons_succ]
              refine wpAnyK_take 10 (v := ?_) rfl (by kernel_rfl) (by kernel_rfl) (by kernel_rfl) (fun _ _ _ h => h) (by rfl) (by intro W hSw; go_simp; with_reducible rfl) ?_; try simp only [Act.put, List.setIfInBounds_toArray, List.set_cons_zero, List.set_cons_succ]
              refine wpAnyK_take 11 (v := ?_) rfl (by kernel_rfl) (by kernel_rfl) (by kernel_rfl) (fun _ _ _ h => h) (by rfl) (by intro W hSw; go_simp; with_reducible rfl) ?_; try simp only [Act.put, List.setIfInBounds_toArray, List.set_cons_zero, List.set_cons_succ]
              refine wpAnyK_take 12 (v := ?_) rfl (by kernel_rfl) (by kernel_rfl) (by kernel_rfl) (fun _ _ _ h => h) (by rfl) (by intro W hSw; go_simp; with_reducible rfl) ?_; try simp only [Act.put, List.setIfInBounds_toArray, List.set_cons_zero, List.set_cons_succ]
              refine wpAnyK_take 13 (v := ?_) rfl (by kernel_rfl) (by kernel_rfl) (by kernel_rfl) (fun _ _ _ h => h) (by rfl) (by intro W hSw; go_simp; with_reducible rfl) ?_; try simp only [Act.put, List.setIfInBounds_toArray, List.set_cons_zero, List.set_cons_succ]
              refine wpAnyK_take 14 (v := ?_) rfl (by kernel_rfl) (by kernel_rfl) (by kernel_rfl) (fun _ _ _ h => h) (by rfl) (by intro W hSw; go_simp; with_reducible rfl) ?_; try simp only [Act.put, List.setIfInBounds_toArray, List.set_cons_zero, List.set_cons_succ]
              refine wpAnyK_take 15 (v := ?_) rfl (by kernel_rfl) (by kernel_rfl) (by kernel_rfl) (fun _ _ _ h => h) (by rfl) (by intro W hSw; go_simp; with_reducible rfl) ?_; try simp only [Act.put, List.setIfInBounds_toArray, List.set_cons_zero, List.set_cons_succ]
              refine wpAnyK_take 16 (v := ?_) rfl (by kernel_rfl) (by kernel_rfl) (by kernel_rfl) (fun _ _ _ h => h) (by rfl) (by intro W hSw; go_simp; with_reducible rfl) ?_; try simp only [Act.put, List.setIfInBounds_toArray, List.set_cons_zero, List.set_cons_succ]
              refine wpAnyK_take 17 (v := ?_) rfl (by kernel_rfl) (by kernel_rfl) (by kernel_rfl) (fun _ _ _ h => h) (by rfl) (by intro W hSw; go_simp; with_reducible rfl) ?_; try simp only [Act.put, List.setIfInBounds_toArray, List.set_cons_zero, List.set_cons_succ]
              refine wpAnyK_take 18 (v := ?_) rfl (by kernel_rfl) (by kernel_rfl) (by kernel_rfl) (fun _ _ _ h => h) (by rfl) (by intro W hSw; go_simp; with_reducible rfl) ?_; try simp only [Act.put, List.setIfInBounds_toArray, List.set_cons_zero, List.set_cons_succ]
              refine wpAnyK_take 19 (v := ?_) rfl (by kernel_rfl) (by kernel_rfl) (by kernel_rfl) (fun _ _ _ h => h) (by rfl) (by intro W hSw; go_simp; with_reducible rfl) ?_; try simp only [Act.put, List.setIfInBounds_toArray, List.set_cons_zero, List.set_cons_succ]
              refine wpAnyK_take 20 (v := ?_) rfl (by kernel_rfl) (by kernel_rfl) (by kernel_rfl) (fun _ _ _ h => h) (by rfl) (by intro W hSw; go_simp; with_reducible rfl) ?_; try simp only [Act.put, List.setIfInBounds_toArray, List.set_cons_zero, List.set_cons_succ]
              refine wpAnyK_take 21 (v := ?_) rfl (by kernel_rfl) (by kernel_rfl) (by kernel_rfl) (fun _ _ _ h => h) (by rfl) (by intro W hSw; go_simp; with_reducible rfl) ?_; try simp only [Act.put, List.setIfInBounds_toArray, List.set_cons_zero, List.set_cons_succ]
              refine wpAnyK_take 22 (v := ?_) rfl (by kernel_rfl) (by kernel_rfl) (by kernel_rfl) (fun _ _ _ h => h) (by rfl) (by intro W hSw; go_simp; with_reducible rfl) ?_; try simp only [Act.put, List.setIfInBounds_toArray, List.set_cons_zero, List.set_cons_succ]
              refine wpAnyK_take 23 (v := ?_) rfl (by kernel_rfl) (by kernel_rfl) (by kernel_rfl) (fun _ _ _ h => h) (by rfl) (by intro W hSw; go_simp; with_reducible rfl) ?_; try simp only [Act.put, List.setIfInBounds_toArray, List.set_cons_zero, List.set_cons_succ]
              refine wpAnyK_take 24 (v := ?_) rfl (by kernel_rfl) (by kernel_rfl) (by kernel_rfl) (fun _ _ _ h => h) (by rfl) (by intro W hSw; go_simp; with_reducible rfl) ?_; try simp only [Act.put, List.setIfInBounds_toArray, List.set_cons_zero, List.set_cons_succ]
              refine wpAnyK_take 25 (v := ?_) rfl (by kernel_rfl) (by kernel_rfl) (by kernel_rfl) (fun _ _ _ h => h) (by rfl) (by intro W hSw; go_simp; with_reducible rfl) ?_; try simp only [Act.put, List.setIfInBounds_toArray, List.set_cons_zero, List.set_cons_succ]
              refine wpAnyK_take 26 (v := ?_) rfl (by kernel_rfl) (by kernel_rfl) (by kernel_rfl) (fun _ _ _ h => h) (by rfl) (by intro W hSw; go_simp; with_reducible rfl) ?_; try simp only [Act.put, List.setIfInBounds_toArray, List.set_cons_zero, List.set_cons_succ]
              refine wpAnyK_done (by kernel_rfl) ?_ _
              clear n0 n1 n2 hs
              go_wp2_with fail
              go_roundw
              case rel => exact ⟨j + 1, by omega, by go_num, HHd, HRd, HBd⟩
              case measure => simp [intOf]; omega
            · have z2 : ¬ (j : Int) < (L.length : Int) := by omega
              obtain ⟨A6, c6, hlv⟩ := own_form HR.out.2.2
              have k0 : wr.cell? ⟨w2.heap.size, 0, none⟩ = some (.slice A6 L.length c6) := by rw [← hlv]; exact cell_of_row _ _ 0 _ _ (0, 0) HR.out.1
              clear hlv
              go_wp2_with fail
              go_ret
              exact ⟨rfl, HB.out⟩
set_option maxRecDepth 20000 in
theorem bagPlays_contract (H : Type) (enc : TypeId × Value → H) (W : World) (base : Nat) (args : Array Value) (ds : List (DataW H)) (before : List MemPlace)
    (hval : ∀ (j : Nat) t v, Try.f3.params[j]? = some t → args[j]? = some v → Value.okWide Try.prog W .any base t v)
    (hA : DataW.TrodAll enc Try.prog W 0 (fun _ => true) true Try.f3.params.toList args.toList ds before)
    (_hsz : (DataW.weightsEach Try.prog (Try.f3.params.toList ++ Rows.bagPlaysSpec.plain.varTypes Try.prog) (ds ++ [])).all (· ≤ reachBytes) = true) :
    Calls Try.prog 3 args W fun e W' => e = .returned (.bool true) ∧ Below W.heap.size W W' := by
  rw [Try.params3] at hA hval
  obtain ⟨v0, vs0, d0, ds0, p0, q0, hargs, rfl, rfl, h0, r0⟩ := trodAll_cons hA
  obtain ⟨v1, vs1, d1, ds1, p1, q1, rfl, rfl, rfl, h1, r1⟩ := trodAll_cons r0
  obtain ⟨rfl, rfl, rfl⟩ := trodAll_nil r1
  obtain rfl : args = #[v0, v1] := by cases args; simp_all
  obtain ⟨a, rfl, rfl, rfl, w1⟩ := open_int Try.underlying3 (hval 0 3 v0 rfl rfl) h0
  obtain ⟨A, c, X, rfl, hcm, hX⟩ := bopen_acts (hval 1 22 v1 rfl rfl) h1
  exact bagPlays_walk a A _ c X hX hcm

set_option maxRecDepth 100000 in
theorem bagPlays_lifted (os : Os) (started : os.Started) (H : Type) (enc : TypeId × Value → H) :
    ReturnsInHanded {} Try.checked os 3 .any (Rows.bagPlaysSpec.pre6 enc Try.prog Try.f3 Rows.bagPlaysRow.domain false) (Rows.bagPlaysSpec.post enc Try.prog Try.f3 false true false false) := by
  refine returnsInHanded_of_change_sized (C := Try.checked) own started (by kernel_rfl) Try.func3
    (ChangeSpec.witness6 (enc := enc) (C := Try.checked) false ⟨#[], #[.int .i64 0, .slice none 0 0], []⟩ 8 (by kernel_rfl) (by kernel_rfl) (by kernel_rfl) (by kernel_rfl)) ?_
  intro W base args ds gs before hval hW _ hsz _
  have hW' := hW
  obtain ⟨p, q, hA0, hV, rfl, hfz, hnd⟩ := hW
  obtain ⟨rfl, rfl⟩ := trodVars_none hV
  have hA : DataW.TrodAll enc Try.prog W 0 (fun _ => true) true Try.f3.params.toList args.toList ds p := hA0
  refine (bagPlays_contract H enc W base args ds p hval hA hsz).mono fun e W' ⟨he, hb⟩ => ?_
  subst he
  have hds : ds.length = 2 := by
    rw [Try.params3] at hA
    obtain ⟨v0, vs0, d0, ds0, p0, q0, _, rfl, rfl, _, r0⟩ := trodAll_cons hA
    obtain ⟨v1, vs1, d1, ds1, p1, q1, _, rfl, rfl, _, r1⟩ := trodAll_cons r0
    obtain ⟨_, rfl, rfl⟩ := trodAll_nil r1
    rfl
  have hsh : ∃ d0 d1 : DataW H, ds = [d0, d1] := by
    match ds, hds with
    | [d0, d1], _ => exact ⟨d0, d1, rfl⟩
  obtain ⟨d0, d1, rfl⟩ := hsh
  exact ⟨_, rfl, post_law (s := Rows.bagPlaysSpec) laidOut (by kernel_rfl) Try.underlying4 rfl (by kernel_rfl) hW' rfl rfl rfl hb⟩
theorem bagPlays_over : Rows.bagPlaysRow.holds Try.pinned (OpenSpec.ofChange Rows.bagPlaysSpec) :=
  OpenClaim.holds_of_wide 3 Try.f3 rfl rfl rfl rfl rfl rfl rfl ⟨rfl, rfl, rfl, rfl, rfl⟩ rfl rfl rfl rfl rfl (by kernel_rfl) Try.func3 (by kernel_rfl)
    (of_decide_eq_true (by kernel_rfl)) (by unfold Func.isWrapper; first | (rw [if_pos (by decide +kernel)]; kernel_rfl) | (rw [if_neg (by decide +kernel)]; exact ⟨rfl, rfl⟩))
    (fun os started H enc _ => bagPlays_lifted os started H enc)
/-- The statement. -/
theorem bagPlays_holds : Rows.BagPlaysSaid := bagPlays_over
end Go.Proofs.Ytajhogjogkfioaa
