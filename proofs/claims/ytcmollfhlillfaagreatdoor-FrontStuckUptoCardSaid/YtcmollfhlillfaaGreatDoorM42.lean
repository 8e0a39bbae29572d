/-
  Texts of this seat in one: Gm, GSend, GPut.
-/
import Derived.Test.YtcmollfhlillfaaGreatDoorM14
import Derived.Test.YtcmollfhlillfaaGreatDoorM41
import Derived.Test.YtcmollfhlillfaaGreatDoorM40
/-
  The law's game in memory.
-/
namespace Go.Proofs.YtcmollfhlillfaaGreatDoor
open Go.RowKit
set_option linter.unusedVariables false
set_option linter.unusedSimpArgs false
structure Bch where
  prev : Int
  ver : Int
  known : Int
  chg : List Chg
structure Tld where
  guest : Int
  number : Int
  outcome : Int
  version : Int
/-- A game in which nobody has asked yet: the front, what is on the way, referees, chests. -/
structure Gm where
  fb : Nat
  fr : Fr
  chests : List Int
  bounds : List ByteArray
  way : List Msg
  wz : List Nat
  mks : List (Int × Int)
  judged : List Int
  said : List (List Int)
  tops : List Int
  bats : List Bch
  seen : List Tld
def batR : Rep Bch where
  size := 4
  holds w cs b X := ∃ u, cs = [.int .i64 b.prev, .int .i64 b.ver, .int .i64 b.known, u] ∧ chgsR.holds w [u] b.chg X
  frame := by
    rintro w w' cs a X F ⟨u, rfl, h1⟩ hh hF
    exact ⟨u, rfl, chgsR.frame h1 hh hF⟩
  lt := by rintro w cs a X ⟨u, rfl, h1⟩; exact chgsR.lt h1
  len := by rintro w cs a X ⟨u, rfl, _⟩; rfl
  one := by
    rintro w cs a X ⟨u1, rfl, h1⟩ u hu
    simp only [List.mem_cons, List.not_mem_nil, or_false] at hu
    rcases hu with rfl | rfl | rfl | rfl
    · rfl
    · rfl
    · rfl
    · exact chgsR.one h1 u (by simp)
def tldR : Rep Tld := plainR (fun t => [.int .i64 t.guest, .int .i64 t.number, .int .i64 t.outcome, .int .i64 t.version]) 4 (fun _ => rfl) (fun _ u hu => by
    simp only [List.mem_cons, List.not_mem_nil, or_false] at hu
    rcases hu with rfl | rfl | rfl | rfl <;> rfl)
def dmkR : Rep (Int × Int) := plainR (fun t => [.slice none 0 0, .int .i64 t.1, .int .i64 t.2]) 3 (fun _ => rfl) (fun _ u hu => by
    simp only [List.mem_cons, List.not_mem_nil, or_false] at hu
    rcases hu with rfl | rfl | rfl <;> rfl)
abbrev mksR : Rep (List (Int × Int)) := sliceR 64 (ptrR 99 dmkR)
abbrev saidR : Rep (List (List Int)) := sliceR 35 intsR
abbrev batsR : Rep (List Bch) := sliceR 91 batR
abbrev tldsR : Rep (List Tld) := sliceR 78 tldR
def plainFld (vs : List Value) : Fld := ⟨fun w cs X => cs = vs ∧ X = [], [], fun h _ _ _ => h, fun h => ⟨fun k hk => (by rw [h.2] at hk; cases hk), fun k hk => (by cases hk)⟩⟩
def frontFld (f : Nat) (s : Fr) : Fld := ⟨fun w cs X => cs = [.pointer (some ⟨f, 0, none⟩)] ∧ FrH w f s X, [], fun h hh hX _ => ⟨h.1, h.2.frame hh hX⟩, fun h => ⟨h.2.lt, fun k hk => (by cases hk)⟩⟩
def wayFld (L : List Msg) (Z : List Nat) : Fld := ⟨fun w cs X => ∃ v, cs = [v] ∧ SliceP 0 53 msgR w v L Z ∧ X = obL v, Z, fun h hh hX hZ => by
    obtain ⟨v, rfl, h1, rfl⟩ := h
    exact ⟨v, rfl, h1.hits hh (fun k hk => hX k (mem_obL.2 hk)) hZ, rfl⟩, fun h => by
    obtain ⟨v, rfl, h1, rfl⟩ := h
    exact ⟨fun k hk => (h1.block (mem_obL.1 hk)).2.1, h1.lt⟩⟩
def gmFields (d : Gm) : List Fld := [frontFld d.fb d.fr, plainFld [.int .i64 2, .int .i64 300, .int .i64 50], intsR.fld d.chests, strsR.fld d.bounds, wayFld d.way d.wz, mksR.fld d.mks, intsR.fld d.judged, saidR.fld d.said, intsR.fld d.tops, batsR.fld d.bats, tldsR.fld d.seen, plainFld [.int .i64 0, .slice none 0 0, .slice none 0 0, .slice none 0 0, .bool false]]
structure GmC where
  uc : Value
  ub : Value
  uw : Value
  um : Value
  uj : Value
  us : Value
  ut : Value
  ua : Value
  ue : Value
  Xf : List Nat
  Xc : List Nat
  Xb : List Nat
  Xw : List Nat
  Xm : List Nat
  Xj : List Nat
  Xs : List Nat
  Xt : List Nat
  Xa : List Nat
  Xe : List Nat
def GmC.cs (c : GmC) (d : Gm) : List (List Value) := [[.pointer (some ⟨d.fb, 0, none⟩)], [.int .i64 2, .int .i64 300, .int .i64 50], [c.uc], [c.ub], [c.uw], [c.um], [c.uj], [c.us], [c.ut], [c.ua], [c.ue], [.int .i64 0, .slice none 0 0, .slice none 0 0, .slice none 0 0, .bool false]]
def GmC.xs (c : GmC) : List (List Nat) := [c.Xf, [], c.Xc, c.Xb, c.Xw, c.Xm, c.Xj, c.Xs, c.Xt, c.Xa, c.Xe, []]
abbrev GmAt (w : World) (g : Nat) (d : Gm) (c : GmC) : Prop := ObjAt w g 46 (gmFields d) (c.cs d) c.xs
def GmH (w : World) (g : Nat) (d : Gm) (X : List Nat) : Prop := ∃ c, GmAt w g d c ∧ X = g :: c.xs.flatten
structure GmP (w : World) (d : Gm) (c : GmC) : Prop where
  fr : FrH w d.fb d.fr c.Xf
  chests : intsR.holds w [c.uc] d.chests c.Xc
  bounds : strsR.holds w [c.ub] d.bounds c.Xb
  way : SliceP 0 53 msgR w c.uw d.way d.wz
  xw : c.Xw = obL c.uw
  mks : mksR.holds w [c.um] d.mks c.Xm
  judged : intsR.holds w [c.uj] d.judged c.Xj
  said : saidR.holds w [c.us] d.said c.Xs
  tops : intsR.holds w [c.ut] d.tops c.Xt
  bats : batsR.holds w [c.ua] d.bats c.Xa
  seen : tldsR.holds w [c.ue] d.seen c.Xe
theorem GmAt.p {w : World} {g : Nat} {d : Gm} {c : GmC} (h : GmAt w g d c) : GmP w d c := by
  obtain ⟨⟨_, h0⟩, _, h2, h3, ⟨v, e4, h4, x4⟩, h5, h6, h7, h8, h9, h10, _⟩ := h.rows
  injection e4 with e4
  subst e4
  exact ⟨h0, h2, h3, h4, x4, h5, h6, h7, h8, h9, h10⟩
def gmRow (d : Gm) (c : GmC) : Array Value := #[.pointer (some ⟨d.fb, 0, none⟩), .int .i64 2, .int .i64 300, .int .i64 50, c.uc, c.ub, c.uw, c.um, c.uj, c.us, c.ut, c.ua, c.ue, .int .i64 0, .slice none 0 0, .slice none 0 0, .slice none 0 0, .bool false]
theorem GmAt.cells {w : World} {g : Nat} {d : Gm} {c : GmC} (h : GmAt w g d c) : w.heap[g]? = some (.cells (gmRow d c) 46 (0, 0)) := h.row
section
variable {w w' : World} {g : Nat} {d : Gm} {X : List Nat}
theorem GmH.lt (h : GmH w g d X) : ∀ k ∈ X, k < w.heap.size := by
  obtain ⟨c, h1, rfl⟩ := h
  exact h1.lt
theorem GmH.zlt (h : GmH w g d X) : ∀ k ∈ d.wz, k ∉ X ∧ k < w.heap.size := by
  obtain ⟨c, h1, rfl⟩ := h
  exact fun k hk => ⟨h1.ro (wayFld d.way d.wz) (by simp [gmFields]) k hk, h1.p.way.lt k hk⟩
theorem GmH.frame {F : Nat → Prop} (h : GmH w g d X) (hh : Hits F w w') (hF : ∀ k ∈ X, ¬ F k) (hR : ∀ k ∈ d.wz, ¬ F k) : GmH w' g d X := by
  obtain ⟨c, h1, rfl⟩ := h
  refine ⟨c, h1.frame hh hF fun f hf k hk => ?_, rfl⟩
  simp only [gmFields, List.mem_cons, List.not_mem_nil, or_false] at hf
  rcases hf with rfl | rfl | rfl | rfl | rfl | rfl | rfl | rfl | rfl | rfl | rfl | rfl <;> first | exact hR k hk | cases hk
theorem GmH.later (h : GmH w g d X) (hl : Later w w') : GmH w' g d X := h.frame (Hits.later (F := fun _ => False) hl) (fun _ _ hf => hf) fun _ _ hf => hf
theorem gm_ro {d : Gm} {k : Nat} (h : k ∉ d.wz) : ∀ f ∈ gmFields d, k ∉ f.ro := fun f hf hk => by
  simp only [gmFields, List.mem_cons, List.not_mem_nil, or_false] at hf
  rcases hf with rfl | rfl | rfl | rfl | rfl | rfl | rfl | rfl | rfl | rfl | rfl | rfl <;> first | exact h hk | cases hk
end
theorem GmAt.same {w w' : World} {g : Nat} {d d' : Gm} {c c' : GmC} (h : GmAt w g d c) (i : Nat) {x x' : List Nat} {cc : List Value} {f' : Fld} (hx : c.xs[i]? = some x) (hh : Hits (· ∈ x) w w') (hc : f'.holds w' cc x') (hn : x'.Nodup) (hfr : ∀ k ∈ x', k ∈ x ∨ w.heap.size ≤ k) (hro : ∀ k ∈ f'.ro, k ∉ g :: c.xs.flatten ∧ k ∉ x')
    (hcs : (c.cs d).set i cc = c'.cs d') (hrow : gmRow d c = gmRow d' c') (hxs : c.xs.set i x' = c'.xs) (hfs : (gmFields d).set i f' = gmFields d') :
    GmAt w' g d' c' ∧ Hits (· ∈ g :: c.xs.flatten) w w' ∧ Fresh w (g :: c.xs.flatten) (g :: c'.xs.flatten) := by
  have hsub : ∀ k ∈ x, k ∈ c.xs.flatten := fun k hk => List.mem_flatten.2 ⟨x, List.mem_of_getElem? hx, hk⟩
  have hg : g ∉ x := fun hm => (List.nodup_cons.1 h.nd).1 (hsub g hm)
  have hr : w'.heap[g]? = some (.cells ((c.cs d).set i cc).flatten.toArray 46 (0, 0)) := by
    rw [hcs]
    show _ = some (Obj.cells (gmRow d' c') 46 (0, 0))
    rw [← hrow]
    exact hh.row h.cells hg
  have hlt := h.rows.lt
  obtain ⟨h1, h2, h3⟩ := h.turn hx (hh.mono fun _ _ hk => .inr hk) hr hc hn (fun k hk => (hfr k hk).imp id fun h4 => ⟨fun hm => by have := h.lt k hm; omega, fun f hf hk2 => by have := hlt.2 f hf k hk2; omega⟩) hro
  rw [hcs, hxs, hfs] at h1
  refine ⟨h1, h2, fun k hk => ?_⟩
  rw [hxs] at h3
  rcases h3 k hk with h4 | h4
  · exact .inl h4
  · rcases hfr k h4 with h5 | h5
    · exact .inl (List.mem_cons_of_mem _ (hsub k h5))
    · exact .inr h5
theorem GmAt.put {w w9 : World} {g : Nat} {d d' : Gm} {c c' : GmC} (h : GmAt w g d c) (i j : Nat) {x x' : List Nat} {u : Value} {f' : Fld} (hx : c.xs[i]? = some x) (hh : Hits (· ∈ x) w w9) (hc : f'.holds w9 [u] x') (hn : x'.Nodup) (hfr : ∀ k ∈ x', k ∈ x ∨ w.heap.size ≤ k) (hro : ∀ k ∈ f'.ro, k ∉ g :: c.xs.flatten ∧ k ∉ x')
    (hcs : (c.cs d).set i [u] = c'.cs d') (hrow : (gmRow d c).setIfInBounds j u = gmRow d' c') (hxs : c.xs.set i x' = c'.xs) (hfs : (gmFields d).set i f' = gmFields d') :
    GmAt (w9.setCell ⟨g, j, none⟩ u) g d' c' ∧ Hits (· ∈ g :: c.xs.flatten) w (w9.setCell ⟨g, j, none⟩ u) ∧ Fresh w (g :: c.xs.flatten) (g :: c'.xs.flatten) := by
  have hsub : ∀ k ∈ x, k ∈ c.xs.flatten := fun k hk => List.mem_flatten.2 ⟨x, List.mem_of_getElem? hx, hk⟩
  have hg : g ∉ x := fun hm => (List.nodup_cons.1 h.nd).1 (hsub g hm)
  have hgl := theap_lt h.row
  have hh2 : Hits (· = g) w9 (w9.setCell ⟨g, j, none⟩ u) := (Hits.refl (· = g) w9).setCell (g := g) (fun _ => rfl) j _
  have hr : (w9.setCell ⟨g, j, none⟩ u).heap[g]? = some (.cells ((c.cs d).set i [u]).flatten.toArray 46 (0, 0)) := by
    rw [hcs]
    show _ = some (Obj.cells (gmRow d' c') 46 (0, 0))
    rw [← hrow]
    exact heap_setCell_same _ _ _ _ _ _ (hh.row h.cells hg)
  have hlt := h.rows.lt
  have hgx : g ∉ x' := fun hm => by
    rcases hfr g hm with h4 | h4
    · exact hg h4
    · omega
  have hc2 := f'.frame hc hh2 (fun k hk e => hgx (e ▸ hk)) fun k hk e => (hro k hk).1 (e ▸ List.mem_cons_self ..)
  obtain ⟨h1, h2, h3⟩ := h.turn hx ((hh.mono fun _ _ hk => .inr hk).trans hh2 fun _ _ hk => .inl hk) hr hc2 hn (fun k hk => (hfr k hk).imp id fun h4 => ⟨fun hm => by have := h.lt k hm; omega, fun f hf hk2 => by have := hlt.2 f hf k hk2; omega⟩) hro
  rw [hcs, hxs, hfs] at h1
  refine ⟨h1, h2, fun k hk => ?_⟩
  rw [hxs] at h3
  rcases h3 k hk with h4 | h4
  · exact .inl h4
  · rcases hfr k h4 with h5 | h5
    · exact .inl (List.mem_cons_of_mem _ (hsub k h5))
    · exact .inr h5
/-- The front turns. -/
theorem GmAt.front {w w' : World} {g : Nat} {d : Gm} {c : GmC} (h : GmAt w g d c) {s : Fr} {X' : List Nat} (hh : Hits (· ∈ c.Xf) w w') (hf : FrH w' d.fb s X') (hs : Fresh w c.Xf X') :
    GmAt w' g { d with fr := s } { c with Xf := X' } ∧ Hits (· ∈ g :: c.xs.flatten) w w' ∧ Fresh w (g :: c.xs.flatten) (g :: ({ c with Xf := X' } : GmC).xs.flatten) :=
  h.same 0 (x := c.Xf) (x' := X') (cc := [.pointer (some ⟨d.fb, 0, none⟩)]) (f' := frontFld d.fb s) rfl hh ⟨rfl, hf⟩ (by obtain ⟨_, _, _, h⟩ := hf; exact h) hs (fun k hk => by cases hk) rfl rfl rfl rfl

end Go.Proofs.YtcmollfhlillfaaGreatDoor
/-
  The law's game: send.
-/
namespace Go.Proofs.YtcmollfhlillfaaGreatDoor
open Go.RowKit
set_option linter.unusedVariables false
set_option linter.unusedSimpArgs false
def SentPost (w : World) (g : Nat) (X : List Nat) (d : Gm) (L : List Msg) (Y : List Nat) (e : Ending) (w' : World) : Prop := e = .returned (.tuple #[]) ∧ ∃ X', GmH w' g { d with way := d.way ++ L, wz := d.wz ++ Y } X' ∧ Hits (· ∈ X) w w' ∧ Fresh w X X'
/-- The way grows by one message. -/
theorem way_push {w w9 : World} {g : Nat} {d : Gm} {c : GmC} (h : GmAt w g d c) {A A' : Option Addr} {n n' cc cc' : Nat} (huw : c.uw = .slice A n cc) {L : List Msg} {Z : List Nat} (hp : SliceP 0 53 msgR w9 (.slice A' n' cc') L Z) (hg : w.grownBy w9 (Value.slice A n cc).ownBlock)
    (hat : (Value.slice A' n' cc').ownBlock = (Value.slice A n cc).ownBlock ∨ (Value.slice A' n' cc').ownBlock = some w.heap.size) (hZ : ∀ k ∈ Z, k ∉ g :: c.xs.flatten ∧ k < w.heap.size) :
    ∃ X', GmH (w9.setCell ⟨g, 6, none⟩ (.slice A' n' cc')) g { d with way := L, wz := Z } X' ∧ Hits (· ∈ g :: c.xs.flatten) w (w9.setCell ⟨g, 6, none⟩ (.slice A' n' cc')) ∧ Fresh w (g :: c.xs.flatten) X' := by
  have hx : c.Xw = obL (.slice A n cc) := by rw [← huw]; exact h.p.xw
  have hin : ∀ k ∈ obL (Value.slice A' n' cc'), k ∈ c.Xw ∨ k = w.heap.size := fun k hk => by
    rw [hx]
    have h1 := mem_obL.1 hk
    rcases hat with h2 | h2
    · exact .inl (mem_obL.2 (h2.symm.trans h1))
    · rw [h2] at h1; injection h1 with h1; exact .inr h1.symm
  have h1 := h.put (w9 := w9) 4 6 (x := c.Xw) (x' := obL (.slice A' n' cc')) (u := .slice A' n' cc') (f' := wayFld L Z) (d' := { d with way := L, wz := Z }) (c' := { c with uw := .slice A' n' cc', Xw := obL (.slice A' n' cc') }) rfl
    ((Hits.refl _ w).grown hg fun k hk _ => by rw [hx]; exact mem_obL.2 hk) ⟨_, rfl, hp, rfl⟩ (obL_nodup _) (fun k hk => (hin k hk).imp id fun h => by omega)
    (fun k hk => ⟨(hZ k hk).1, fun hm => by
      rcases hin k hm with h2 | h2
      · exact (hZ k hk).1 (List.mem_cons_of_mem _ (List.mem_flatten.2 ⟨c.Xw, by simp [GmC.xs], h2⟩))
      · have := (hZ k hk).2; omega⟩) rfl rfl rfl rfl
  exact ⟨_, ⟨_, h1.1, rfl⟩, h1.2.1, h1.2.2⟩
theorem GmAt.mem6 {w : World} {g : Nat} {d : Gm} {c : GmC} (h : GmAt w g d c) {k : Nat} (hk : c.uw.ownBlock = some k) : k ∈ g :: c.xs.flatten := by
  have h1 : k ∈ c.Xw := by rw [h.p.xw]; exact mem_obL.2 hk
  exact List.mem_cons_of_mem _ (List.mem_flatten.2 ⟨c.Xw, by simp [GmC.xs], h1⟩)
set_option maxHeartbeats 8000000 in
set_option maxRecDepth 100000 in
theorem gsend_any {w : World} {g : Nat} {d : Gm} {X : List Nat} (h : GmH w g d X) {A : Option Addr} {n c base : Nat} {L : List Msg} {Y : List Nat} (hS : SliceP base 53 msgR w (.slice A n c) L Y) (hLn : L.length = n) (hv : ∀ k, (Value.slice A n c).ownBlock = some k → k ∉ X) (hY : ∀ k ∈ Y, k ∉ X)
    (hL : ∀ m ∈ L, m.frm = 60 ∧ m.epoch = 300 ∧ m.kind ≠ 2) (hn : d.way.length + n ≤ 200) :
    Calls Tryz.prog 19 #[.pointer (some ⟨g, 0, none⟩), .slice A n c] w (SentPost w g X d L Y) := by
  obtain ⟨rows, xs, ho, hr, rfl, _⟩ := hS
  rw [hLn] at ho
  have HO := hide_ ho; have HR := hide_ hr; have HV := hide_ hv; have HY := hide_ hY; have HL := hide_ hL; have HH := hide_ h; have HLN := hide_ hLn
  have HYL := hide_ hr.lt
  have HXLEN := hide_ (show xs.length = n by rw [hr.lens.2, hLn])
  have hn2 : (n : Int) ≤ 200 := by omega
  clear h ho hr hv hY hL hLn
  go_enter Tryz.func19, Tryz.ntmps19
  go_wp2_with fail
  go_loopw [4] (fun s4 wr => ∃ i : Nat, i ≤ n ∧ s4 = .int .i64 i ∧ Hid (∃ Xi, GmH wr g { d with way := d.way ++ L.take i, wz := d.wz ++ (xs.take i).flatten } Xi ∧ Fresh w X Xi) ∧ Hid (Hits (· ∈ X) w wr)) (fun i _ => n - (intOf i).toNat)
  case atStart => exact ⟨0, Nat.zero_le _, rfl, hide_ ⟨X, by simpa using HH.out, Fresh.refl _ _⟩, hide_ (Hits.refl _ _)⟩
  case round =>
    obtain ⟨i, hi, rfl, HG, HT⟩ := hrel
    by_cases hlt : i < n
    · obtain ⟨m, hm⟩ : ∃ m, L[i]? = some m := ⟨_, List.getElem?_eq_getElem (by rw [HLN.out]; exact hlt)⟩
      have q1 : (i : Int) < (n : Int) := by omega
      obtain ⟨Xi, hg, hfi⟩ := HG.out
      obtain ⟨cc, hat, hXi⟩ := hg
      have ho' := HT.out.own (show w.ownsRow base 53 msgR.size (.slice A n c) n rows.flatten from HO.out) HV.out
      have hr' := HR.out.frame HT.out fun k hk hx => HY.out k hk hx
      rw [← HLN.out] at ho'
      obtain ⟨g0, cells, x, rfl, hcl, ⟨u, rfl, hbd⟩, hxi⟩ := rows_cells ho' hr' hm (by decide)
      obtain ⟨Ab, cb, eb, _⟩ := id hbd
      injection eb with eb
      subst eb
      obtain ⟨nb, hnb⟩ : ∃ nb, nb = m.body.length := ⟨_, rfl⟩
      rw [← hnb] at hcl hbd
      clear hnb
      obtain ⟨hm1, hm2, hm3⟩ := HL.out m (List.mem_of_getElem? hm)
      have m0 := hcl 0 _ rfl
      have m1 := hcl 1 _ rfl
      have m2 := hcl 2 _ rfl
      have m3 := hcl 3 _ rfl
      have m4 := hcl 4 _ rfl
      have m5 := hcl 5 _ rfl
      have m6 := hcl 6 _ rfl
      have m7 := hcl 7 _ rfl
      rw [Nat.add_zero] at m0
      rw [hm1] at m1
      rw [hm2] at m3
      simp only [show msgR.size = 8 from rfl] at m0 m1 m2 m3 m4 m5 m6 m7
      have glt := cell_lt m0
      obtain ⟨Wc, hWc⟩ : ∃ Wc, Wc = wr.alloc (.cells #[.int .i64 m.kind, .int .i64 60, .int .i64 m.to_, .int .i64 300, .int .i64 m.a, .int .i64 m.b, .int .i64 m.c, .slice Ab nb cb] 53) := ⟨_, rfl⟩
      have hlc : Later wr Wc := by rw [hWc]; exact later_alloc _ _
      have hb : Wc.heap[wr.heap.size]? = some (.cells #[.int .i64 m.kind, .int .i64 60, .int .i64 m.to_, .int .i64 300, .int .i64 m.a, .int .i64 m.b, .int .i64 m.c, .slice Ab nb cb] 53 (0, 0)) := by rw [hWc]; exact heap_alloc_new _ _
      have z0 : Wc.cell? ⟨wr.heap.size, 0, none⟩ = some (.int .i64 m.kind) := cell_of_row _ _ 0 _ _ (0, 0) hb
      have z1 : Wc.cell? ⟨wr.heap.size, 1, none⟩ = some (.int .i64 60) := cell_of_row _ _ 1 _ _ (0, 0) hb
      have z3 : Wc.cell? ⟨wr.heap.size, 3, none⟩ = some (.int .i64 300) := cell_of_row _ _ 3 _ _ (0, 0) hb
      have hgrow := GmAt.cells (ObjAt.later hat hlc)
      obtain ⟨Aw, cw, ew⟩ := (GmAt.p hat).way.form
      obtain ⟨nw, hnw⟩ : ∃ k, k = (d.way ++ L.take i).length := ⟨_, rfl⟩
      have hnwe : nw = d.way.length + i := by rw [hnw, List.length_append, List.length_take, HLN.out]; omega
      rw [show ({ d with way := d.way ++ L.take i, wz := d.wz ++ (xs.take i).flatten } : Gm).way.length = nw from hnw.symm] at ew
      unfold gmRow at hgrow
      rw [ew] at hgrow
      have c6 : Wc.cell? ⟨g, 6, none⟩ = some (.slice Aw nw cw) := cell_of_row _ _ 6 _ _ (0, 0) hgrow
      have ggl := theap_lt hgrow
      have q2 : (nw : Int) < 200 := by omega
      have HAT := hide_ hat; have HM := hide_ hm; have HBD := hide_ hbd; have HXI := hide_ hxi; have HEW := hide_ ew; have HFI := hide_ hfi; have HXE := hide_ hXi; have HB := hide_ hb; have HLC := hide_ hlc; have HGR := hide_ hgrow; have HNW := hide_ hnw; have HWC := hide_ hWc
      have hm3' : ¬ m.kind = 2 := hm3
      have HCL := hide_ (show ([.int .i64 m.kind, .int .i64 60, .int .i64 m.to_, .int .i64 300, .int .i64 m.a, .int .i64 m.b, .int .i64 m.c, .slice Ab nb cb] : List Value) = [.int .i64 m.kind, .int .i64 m.frm, .int .i64 m.to_, .int .i64 m.epoch, .int .i64 m.a, .int .i64 m.b, .int .i64 m.c, .slice Ab nb cb] by rw [hm1, hm2])
      have HSW := hide_ (show SliceP 0 53 msgR Wc (.slice Aw nw cw) (d.way ++ L.take i) (d.wz ++ (xs.take i).flatten) by rw [← ew]; exact (GmAt.p hat).way.later hlc)
      have HXX := hide_ (show ∀ k ∈ x, k ∈ xs.flatten from fun k hk => List.mem_flatten.2 ⟨x, List.mem_of_getElem? hxi, hk⟩)
      have HYN := hide_ (show ∀ k ∈ x, (Value.slice Aw nw cw).ownBlock ≠ some k from fun k hk e => by
        have h1 : k ∈ Xi := by rw [hXi]; exact GmAt.mem6 hat (by rw [ew]; exact e)
        have h2 := List.mem_flatten.2 ⟨x, List.mem_of_getElem? hxi, hk⟩
        rcases hfi k h1 with h3 | h3
        · exact HY.out k h2 h3
        · have := HYL.out k h2; omega)
      have HZN := hide_ (show ∀ k ∈ (d.wz ++ (xs.take i).flatten) ++ x, k ∉ Xi ∧ k < wr.heap.size from fun k hk => by
        rcases List.mem_append.1 hk with h1 | h1
        · have h2 := GmH.zlt (w := wr) (g := g) ⟨cc, hat, hXi⟩ k h1
          exact h2
        · have h2 := List.mem_flatten.2 ⟨x, List.mem_of_getElem? hxi, h1⟩
          have h4 := HYL.out k h2
          refine ⟨fun h3 => ?_, by have := HT.out.size; omega⟩
          rcases hfi k h3 with h5 | h5
          · exact HY.out k h2 h5
          · omega)
      have HNE := hide_ hnwe
      have z2 : Wc.cell? ⟨wr.heap.size, 2, none⟩ = some (.int .i64 m.to_) := cell_of_row _ _ 2 _ _ (0, 0) hb
      have z4 : Wc.cell? ⟨wr.heap.size, 4, none⟩ = some (.int .i64 m.a) := cell_of_row _ _ 4 _ _ (0, 0) hb
      have z5 : Wc.cell? ⟨wr.heap.size, 5, none⟩ = some (.int .i64 m.b) := cell_of_row _ _ 5 _ _ (0, 0) hb
      have z6 : Wc.cell? ⟨wr.heap.size, 6, none⟩ = some (.int .i64 m.c) := cell_of_row _ _ 6 _ _ (0, 0) hb
      have z7 : Wc.cell? ⟨wr.heap.size, 7, none⟩ = some (.slice Ab nb cb) := cell_of_row _ _ 7 _ _ (0, 0) hb
      clear hat hm hbd hxi ew hfi hXi hb hlc hgrow hnw hcl ho' hr' hm1 hm2 hm3 hWc hnwe
      go_wp2_with (rw [← HWC.out])
      have k6 := Stands.cell (X := fun q => q = g ∨ q = wr.heap.size) c6 (.inl rfl)
      have y0 := Stands.cell (X := fun q => q = g ∨ q = wr.heap.size) z0 (.inr rfl)
      have y1 := Stands.cell (X := fun q => q = g ∨ q = wr.heap.size) z1 (.inr rfl)
      have y2 := Stands.cell (X := fun q => q = g ∨ q = wr.heap.size) z2 (.inr rfl)
      have y3 := Stands.cell (X := fun q => q = g ∨ q = wr.heap.size) z3 (.inr rfl)
      have y4 := Stands.cell (X := fun q => q = g ∨ q = wr.heap.size) z4 (.inr rfl)
      have y5 := Stands.cell (X := fun q => q = g ∨ q = wr.heap.size) z5 (.inr rfl)
      have y6 := Stands.cell (X := fun q => q = g ∨ q = wr.heap.size) z6 (.inr rfl)
      have y7 := Stands.cell (X := fun q => q = g ∨ q = wr.heap.size) z7 (.inr rfl)
      have HNB := hide_ (show ∀ q, (Value.slice Aw nw cw).ownBlock = some q → q ≠ g ∧ q < wr.heap.size from fun q hq => by
        have h1 : q ∈ cc.Xw := by rw [(GmAt.p HAT.out).xw]; exact mem_obL.2 (by rw [HEW.out]; exact hq)
        have h2 : q ∈ cc.xs.flatten := List.mem_flatten.2 ⟨cc.Xw, by simp [GmC.xs], h1⟩
        exact ⟨fun e => (List.nodup_cons.1 HAT.out.nd).1 (e ▸ h2), HAT.out.rows.lt.1 q h2⟩)
      clear z0 z1 z2 z3 z4 z5 z6 z7 c6 m0 m1 m2 m3 m4 m5 m6 m7
      refine wp_region_z (R := Stands (fun q => q = g ∨ q = wr.heap.size)) [10] (by kernel_rfl) ?_
      refine wpAnyZ_pure (Stands.steady (fun q => q = g ∨ q = wr.heap.size)) 0 (v := ?_) rfl (by kernel_rfl) (by kernel_rfl) (by kernel_rfl) (fun _ _ _ h => h) (by rfl) (by intro W; go_simp; with_reducible rfl) ?_; try simp only [Act.put, qA, qZ, qS]
      refine wpAnyZ_pure (Stands.steady (fun q => q = g ∨ q = wr.heap.size)) 1 (v := ?_) rfl (by kernel_rfl) (by kernel_rfl) (by kernel_rfl) (fun _ _ _ h => h) (by rfl) (by intro W; go_simp; with_reducible rfl) ?_; try simp only [Act.put, qA, qZ, qS]
      refine wpAnyZ_pure (Stands.steady (fun q => q = g ∨ q = wr.heap.size)) 2 (v := ?_) rfl (by kernel_rfl) (by kernel_rfl) (by kernel_rfl) (fun _ _ _ h => h) (by rfl) (by intro W; go_simp; with_reducible rfl) ?_; try simp only [Act.put, qA, qZ, qS]
      refine wpAnyZ_pure (Stands.steady (fun q => q = g ∨ q = wr.heap.size)) 3 (v := ?_) rfl (by kernel_rfl) (by kernel_rfl) (by kernel_rfl) (fun _ _ _ h => h) (by rfl) (by intro W; go_simp; with_reducible rfl) ?_; try simp only [Act.put, qA, qZ, qS]
      refine wpAnyZ_take (Stands.steady (fun q => q = g ∨ q = wr.heap.size)) 4 (v := ?_) rfl (by kernel_rfl) (by kernel_rfl) (by kernel_rfl) (by kernel_rfl) (fun _ _ _ h => h) (by rfl) (by intro W hSw; have hS0 := Stands.trans (show Stands (fun q => q = g ∨ q = wr.heap.size) Wc _ from by repeat first | with_reducible assumption | with_reducible exact Stands.refl _ _ | with_reducible refine Stands.alloc ?_ _ | with_reducible refine Stands.drew ?_ | with_reducible refine Stands.drewL ?_ | with_reducible refine Stands.setCell ?_ (by assumption) _ _ | assumption | refine Stands.trans ?_ (by assumption)) hSw; go_simp; with_reducible rfl) ?_; try simp only [Act.put, qA, qZ, qS]
      refine wpAnyZ_take (Stands.steady (fun q => q = g ∨ q = wr.heap.size)) 5 (v := ?_) rfl (by kernel_rfl) (by kernel_rfl) (by kernel_rfl) (by kernel_rfl) (fun _ _ _ h => h) (by rfl) (by intro W hSw; have hS0 := Stands.trans (show Stands (fun q => q = g ∨ q = wr.heap.size) Wc _ from by repeat first | with_reducible assumption | with_reducible exact Stands.refl _ _ | with_reducible refine Stands.alloc ?_ _ | with_reducible refine Stands.drew ?_ | with_reducible refine Stands.drewL ?_ | with_reducible refine Stands.setCell ?_ (by assumption) _ _ | assumption | refine Stands.trans ?_ (by assumption)) hSw; go_simp; with_reducible rfl) ?_; try simp only [Act.put, qA, qZ, qS]
      refine wpAnyZ_one 6 (by kernel_rfl) rfl (fun K hK => ?_)
      go_simp
      refine hK.out _ _ (by repeat first | with_reducible assumption | with_reducible exact Stands.refl _ _ | with_reducible refine Stands.alloc ?_ _ | with_reducible refine Stands.drew ?_ | with_reducible refine Stands.drewL ?_ | with_reducible refine Stands.setCell ?_ (by assumption) _ _ | assumption | refine Stands.of_later ?_) ?_
      clear hK K; try simp only [Act.put, qA, qZ, qS]
      refine wpAnyZ_one 7 (by kernel_rfl) rfl (fun K hK => ?_)
      refine step_push (by rfl) (.tmp 58) (.tmp 60) rfl msgT rfl (HSW.out.later ((Later.refl Wc).dr.al _)) HNW.out.symm (b := Wc.heap.size) (c := 1) (cells := [.int .i64 m.kind, .int .i64 60, .int .i64 m.to_, .int .i64 300, .int .i64 m.a, .int .i64 m.b, .int .i64 m.c, .slice Ab nb cb]) (el := m) (Y := x) rfl (Rd.newAt Wc.drew #[.int .i64 m.kind, .int .i64 60, .int .i64 m.to_, .int .i64 300, .int .i64 m.a, .int .i64 m.b, .int .i64 m.c, .slice Ab nb cb] 53 1 8 _ (0, 0) rfl rfl) ⟨_, HCL.out, bodyR.later (bodyR.later HBD.out HLC.out) ((Later.refl Wc).dr.al _)⟩ HYN.out (by omega) (by unfold maxLen; omega) (Nat.zero_le _) ?_; intro A9 c9 w9 hp9 hg9 hat9; have hs9 : Stands (fun q => q = g ∨ q = wr.heap.size) _ w9 := ((Hits.refl (fun q => (Value.slice Aw nw cw).ownBlock = some q) _).grown hg9 (fun q hq _ => hq)).stands (fun q _ hq hx => by have h1 := HNB.out q hq; rcases hx with e | e; (exact h1.1 e); (have h2 := h1.2; omega)); have hs89 := ((Stands.refl (fun q => q = g ∨ q = wr.heap.size) Wc).drew.alloc _).trans hs9; have gf9 : w9.frozen? ⟨g, 6, none⟩ = false := frozen_of_row _ _ 6 _ _ (hs89.2 g _ (.inl rfl) HGR.out); have kc9 : w9.cell? ⟨g, 6, none⟩ = some (.slice Aw nw cw) := k6 _ hs89
      refine hK.out _ _ (by repeat first | with_reducible assumption | with_reducible exact Stands.refl _ _ | with_reducible refine Stands.alloc ?_ _ | with_reducible refine Stands.drew ?_ | with_reducible refine Stands.drewL ?_ | with_reducible refine Stands.setCell ?_ (by assumption) _ _ | assumption | refine Stands.of_later ?_) ?_
      clear hK K; try simp only [Act.put, qA, qZ, qS]
      refine wpAnyZ_pure (Stands.steady (fun q => q = g ∨ q = wr.heap.size)) 8 (v := ?_) rfl (by kernel_rfl) (by kernel_rfl) (by kernel_rfl) (fun _ _ _ h => h) (by rfl) (by intro W; go_simp; with_reducible rfl) ?_; try simp only [Act.put, qA, qZ, qS]
      refine wpAnyZ_pure (Stands.steady (fun q => q = g ∨ q = wr.heap.size)) 9 (v := ?_) rfl (by kernel_rfl) (by kernel_rfl) (by kernel_rfl) (fun _ _ _ h => h) (by rfl) (by intro W; go_simp; with_reducible rfl) ?_; try simp only [Act.put, qA, qZ, qS]
      refine wpAnyZ_loud 10 (by kernel_rfl) (by rfl) rfl (fun K hK => ?_)
      go_simp
      refine hK.out _ _ ?_
      clear hK K; try simp only [Act.put, qA, qZ, qS]
      refine wpAnyZ_done (by kernel_rfl) ?_ _
      have hld : Later wr (Wc.drew.alloc (.cells #[.int .i64 m.kind, .int .i64 60, .int .i64 m.to_, .int .i64 300, .int .i64 m.a, .int .i64 m.b, .int .i64 m.c, .slice Ab nb cb] 53)) := HLC.out.trans ((Later.refl Wc).dr.al _)
      obtain ⟨Xj, hgj, hhj, hfj⟩ := way_push (ObjAt.later HAT.out hld) HEW.out hp9 hg9 hat9 (fun k hk => ⟨fun hm => (HZN.out k hk).1 (by rw [HXE.out]; exact hm), by have h1 := (HZN.out k hk).2; have h2 := hld.size; omega⟩)
      rw [← HXE.out] at hhj hfj
      have hfj' : Fresh w X Xj := fun k hk => by
        rcases hfj k hk with h1 | h1
        · exact HFI.out k h1
        · exact .inr (by have h2 := hld.size; have h3 := HT.out.size; omega)
      have HT9 := hide_ (turn_step (HT.out.thenLater hld) HFI.out hhj)
      have HG9 := hide_ (show ∃ Xi, GmH (w9.setCell ⟨g, 6, none⟩ (.slice A9 (nw + 1) c9)) g { d with way := d.way ++ L.take (i + 1), wz := d.wz ++ (xs.take (i + 1)).flatten } Xi ∧ Fresh w X Xi by
        refine ⟨Xj, ?_, hfj'⟩
        rw [take_snoc HM.out, take_snoc HXI.out, List.flatten_append, ← List.append_assoc, ← List.append_assoc]
        simpa using hgj)
      clear hgj hhj hfj hfj' hp9 hg9 hat9 hs9 hs89 gf9 kc9 k6 y0 y1 y2 y3 y4 y5 y6 y7 hld
      go_wp2_with fail
      go_roundw
      case rel => exact ⟨i + 1, by omega, by go_num, HG9, HT9⟩
      case measure => simp [intOf]; omega
    · obtain rfl : i = n := by omega
      have q1 : ¬ (i : Int) < (i : Int) := by omega
      go_wp2_with fail
      go_returns
      obtain ⟨Xi, hg, hfi⟩ := HG.out
      rw [List.take_of_length_le (by rw [HLN.out]; exact Nat.le_refl _), List.take_of_length_le (by rw [HXLEN.out]; exact Nat.le_refl _)] at hg
      exact ⟨rfl, Xi, hg, HT.out, hfi⟩

end Go.Proofs.YtcmollfhlillfaaGreatDoor
/-
  The law's game: fields that turn; the document's SameBatch of batches without changes.
-/
namespace Go.Proofs.YtcmollfhlillfaaGreatDoor
open Go.RowKit
set_option linter.unusedVariables false
set_option linter.unusedSimpArgs false
theorem GmAt.put' {w w9 : World} {g : Nat} {d d' : Gm} {c c' : GmC} (h : GmAt w g d c) (i j : Nat) {x x' : List Nat} {u : Value} {f' : Fld} (hx : c.xs[i]? = some x) (hh : Hits (· ∈ x) w w9) (hc : f'.holds w9 [u] x') (hn : x'.Nodup) (hfr : ∀ k ∈ x', k ∈ x ∨ (k ∉ g :: c.xs.flatten ∧ k ∉ d.wz)) (hro : ∀ k ∈ f'.ro, k ∉ g :: c.xs.flatten ∧ k ∉ x')
    (hcs : (c.cs d).set i [u] = c'.cs d') (hrow : (gmRow d c).setIfInBounds j u = gmRow d' c') (hxs : c.xs.set i x' = c'.xs) (hfs : (gmFields d).set i f' = gmFields d') :
    GmAt (w9.setCell ⟨g, j, none⟩ u) g d' c' ∧ Hits (· ∈ g :: c.xs.flatten) w (w9.setCell ⟨g, j, none⟩ u) ∧ ∀ k ∈ g :: c'.xs.flatten, k ∈ g :: c.xs.flatten ∨ k ∈ x' := by
  have hsub : ∀ k ∈ x, k ∈ c.xs.flatten := fun k hk => List.mem_flatten.2 ⟨x, List.mem_of_getElem? hx, hk⟩
  have hg : g ∉ x := fun hm => (List.nodup_cons.1 h.nd).1 (hsub g hm)
  have hgl := theap_lt h.row
  have hh2 : Hits (· = g) w9 (w9.setCell ⟨g, j, none⟩ u) := (Hits.refl (· = g) w9).setCell (g := g) (fun _ => rfl) j _
  have hr : (w9.setCell ⟨g, j, none⟩ u).heap[g]? = some (.cells ((c.cs d).set i [u]).flatten.toArray 46 (0, 0)) := by
    rw [hcs]
    show _ = some (Obj.cells (gmRow d' c') 46 (0, 0))
    rw [← hrow]
    exact heap_setCell_same _ _ _ _ _ _ (hh.row h.cells hg)
  have hgx : g ∉ x' := fun hm => by
    rcases hfr g hm with h4 | h4
    · exact hg h4
    · exact h4.1 (List.mem_cons_self ..)
  have hc2 := f'.frame hc hh2 (fun k hk e => hgx (e ▸ hk)) fun k hk e => (hro k hk).1 (e ▸ List.mem_cons_self ..)
  obtain ⟨h1, h2, h3⟩ := h.turn hx ((hh.mono fun _ _ hk => .inr hk).trans hh2 fun _ _ hk => .inl hk) hr hc2 hn (fun k hk => (hfr k hk).imp id fun h4 => ⟨h4.1, gm_ro h4.2⟩) hro
  rw [hcs, hxs, hfs] at h1
  rw [hxs] at h3
  exact ⟨h1, h2, h3⟩
/-- One cell of an own row is written. -/
theorem own_setAt {w : World} {base size n g c : Nat} {e : TypeId} {xs : List Value} (ho : w.ownsRow base e size (.slice (some ⟨g, 0, none⟩) n c) n xs) (j : Nat) (u : Value) : (w.setCell ⟨g, j, none⟩ u).ownsRow base e size (.slice (some ⟨g, 0, none⟩) n c) n (xs.set j u) := by
  obtain ⟨hl, h⟩ := ho
  rcases h with ⟨e1, _⟩ | ⟨g', cap, cur, hv, hb, hg, h1, h2, h3, h4⟩
  · cases e1
  · injection hv with e1 _ e3
    injection e1 with e1
    injection e1 with e1 _ _
    subst e1 e3
    refine ⟨by simpa using hl, .inr ⟨g, c, cur.setIfInBounds j u, rfl, hb, heap_setCell_same w g j _ _ u hg, h1, h2, by simpa using h3, ?_⟩⟩
    rw [Array.toList_setIfInBounds, List.take_set, h4]
theorem ints_set (L : List Int) (i : Nat) (x : Int) : (ints L).set i (.int .i64 x) = ints (L.set i x) := by unfold ints; rw [List.map_set]
theorem holds_slice {α : Type} {t : TypeId} {r : Rep α} {w : World} {v : Value} {L : List α} {X : List Nat} (h : (sliceR t r).holds w [v] L X) (hn : X.Nodup) : ∃ Xs, SliceP 0 t r w v L Xs ∧ X = obL v ++ Xs := by
  obtain ⟨v', rows, xs, e, h1, h2, rfl⟩ := h
  injection e with e
  subst e
  exact ⟨xs.flatten, ⟨rows, xs, h1, h2, rfl, fun k hk e => (List.nodup_append.1 hn).2.2 k (mem_obL.2 e) k hk rfl⟩, rfl⟩
theorem GmAt.part {w : World} {g : Nat} {d : Gm} {c : GmC} (h : GmAt w g d c) {i : Nat} {x : List Nat} (hx : c.xs[i]? = some x) : x.Nodup ∧ (∀ k ∈ x, k ∈ g :: c.xs.flatten) ∧ g ∉ x := by
  have h1 := List.nodup_cons.1 h.nd
  have hs : ∀ k ∈ x, k ∈ c.xs.flatten := fun k hk => List.mem_flatten.2 ⟨x, List.mem_of_getElem? hx, hk⟩
  refine ⟨List.nodup_iff_count.2 fun a => ?_, fun k hk => List.mem_cons_of_mem _ (hs k hk), fun hm => h1.1 (hs g hm)⟩
  have h2 := List.nodup_iff_count.1 h1.2 a
  have h3 := fl_count (x := []) a hx
  simp only [List.count_nil] at h3
  omega
set_option maxHeartbeats 1000000 in
theorem lsame_nil {w : World} {A A' : Option Addr} {c c' : Nat} :
    Calls Tryz.prog 47 #[.slice A 0 c, .slice A' 0 c'] w fun e w' => e = .returned (.bool true) ∧ w' = w := by
  go_enter Tryz.func47, Tryz.ntmps47
  go_wp2_with fail
  go_loopw [5] (fun s5 wr => s5 = .int .i64 0 ∧ Hid (wr = w)) (fun _ _ => 0)
  case atStart => exact ⟨rfl, hide_ rfl⟩
  case round =>
    obtain ⟨rfl, HB⟩ := hrel
    go_wp2_with fail
    go_ret
    exact ⟨rfl, HB.out⟩
set_option maxHeartbeats 2000000 in
set_option maxRecDepth 100000 in
theorem lsameB {w : World} {A A' : Option Addr} {c c' : Nat} (p v k : Int) :
    Calls Tryz.prog 80 #[.agg #[.int .i64 p, .int .i64 v, .int .i64 k, .slice A 0 c], .agg #[.int .i64 p, .int .i64 v, .int .i64 k, .slice A' 0 c']] w fun e w' => e = .returned (.bool true) ∧ Later w w' := by
  have HL := hide_ (show Later w ((w.alloc (.cells #[.int .i64 p, .int .i64 v, .int .i64 k, .slice A 0 c] 91)).alloc (.cells #[.int .i64 p, .int .i64 v, .int .i64 k, .slice A' 0 c'] 91)) from (later_alloc _ _).al _)
  have HC := fun W => (lsame_nil (w := W) (A := A) (A' := A') (c := c) (c' := c'))
  have HC := hide_ HC
  go_enter Tryz.func80, Tryz.ntmps80
  go_wp2_with fail
  refine (HC.out _).mono ?_; rintro e w2 ⟨rfl, rfl⟩
  go_wp2_with fail
  go_ret
  exact ⟨rfl, HL.out⟩

end Go.Proofs.YtcmollfhlillfaaGreatDoor
