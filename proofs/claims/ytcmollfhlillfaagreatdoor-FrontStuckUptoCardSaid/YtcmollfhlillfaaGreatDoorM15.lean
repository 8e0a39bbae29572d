/-
  Texts of this seat in one: Chk, FMath.
-/
import Derived.Test.YtcmollfhlillfaaGreatDoorM8
import Derived.Test.YtcmollfhlillfaaGreatDoorM6
import Derived.Test.YtcmollfhlillfaaGreatDoorM5
import Derived.IntWalk
import Derived.Test.YtcmollfhlillfaaGreatDoorM4
/-
  Changes: Check and All.
-/
namespace Go.Proofs.YtcmollfhlillfaaGreatDoor
open Go.RowKit
set_option linter.unusedVariables false
set_option linter.unusedSimpArgs false
/-- What Check answers. -/
def chk (kind : Int) (k v : ByteArray) : Int :=
  if kind = 3 then (if 17 < v.size then 6 else if 17 < k.size then 6 else if v < k then 5 else 0)
  else if kind = 2 then (if 0 < v.size then 6 else if 16 < k.size then 6 else 0)
  else if kind = 1 then (if 16 < k.size then 6 else if 64 < v.size then 6 else 0)
  else 1
set_option maxHeartbeats 1000000 in
theorem check_any (kind : Int) (k v : ByteArray) (w : World) : Calls Tryz.prog 122 #[.agg #[.int .i64 kind, .string k, .string v]] w fun e w' => e = .returned (.int .i64 (chk kind k v)) ∧ Later w w' := by
  obtain ⟨W0, hW0⟩ : ∃ W0, W0 = w.alloc (.cells #[.int .i64 kind, .string k, .string v] 142) := ⟨_, rfl⟩
  have hbx : W0.heap[w.heap.size]? = some (.cells #[.int .i64 kind, .string k, .string v] 142 (0, 0)) := by rw [hW0]; exact heap_alloc_new w _
  have HB0 := hide_ (show Later w W0 by rw [hW0]; exact (Below.refl _ _).alloc (Nat.le_refl _) _)
  have c0 : W0.cell? ⟨w.heap.size, 0, none⟩ = some (.int .i64 kind) := cell_of_row _ _ 0 _ _ (0, 0) hbx
  have c1 : W0.cell? ⟨w.heap.size, 1, none⟩ = some (.string k) := cell_of_row _ _ 1 _ _ (0, 0) hbx
  have c2 : W0.cell? ⟨w.heap.size, 2, none⟩ = some (.string v) := cell_of_row _ _ 2 _ _ (0, 0) hbx
  have HW := hide_ hW0.symm
  clear hW0 hbx
  obtain ⟨nv, hnv⟩ : ∃ nv, nv = v.size := ⟨_, rfl⟩
  obtain ⟨nk, hnk⟩ : ∃ nk, nk = k.size := ⟨_, rfl⟩
  have HNV := hide_ hnv; have HNK := hide_ hnk
  have s1 := hnv.symm; have s2 := hnk.symm
  clear hnv hnk
  go_enter Tryz.func122, Tryz.ntmps122
  go_wp2_with (rw [HW.out])
  go_quiet (fail)
  have HL := hide_ (below_drewN HB0.out nq)
  obtain ⟨W1, hW1⟩ : ∃ W1, W1 = W0.drewN nq := ⟨_, rfl⟩
  have d0 : W1.cell? ⟨w.heap.size, 0, none⟩ = some (.int .i64 kind) := by rw [hW1]; exact c0
  have d1 : W1.cell? ⟨w.heap.size, 1, none⟩ = some (.string k) := by rw [hW1]; exact c1
  have d2 : W1.cell? ⟨w.heap.size, 2, none⟩ = some (.string v) := by rw [hW1]; exact c2
  rw [← hW1] at HL
  rw [← hW1]
  clear hW1 c0 c1 c2
  by_cases e3 : kind = 3
  · subst e3
    by_cases a1 : 17 < nv
    · have p1 : (17 : Int) < (nv : Int) := by omega
      go_wp2_with fail
      go_ret
      exact ⟨congrArg (fun r => Ending.returned (.int .i64 r)) (by unfold chk; rw [← HNV.out, ← HNK.out]; simp [*]), HL.out⟩
    · have p1 : ¬ (17 : Int) < (nv : Int) := by omega
      by_cases a2 : 17 < nk
      · have p2 : (17 : Int) < (nk : Int) := by omega
        go_wp2_with fail
        go_ret
        exact ⟨congrArg (fun r => Ending.returned (.int .i64 r)) (by unfold chk; rw [← HNV.out, ← HNK.out]; simp [*]), HL.out⟩
      · have p2 : ¬ (17 : Int) < (nk : Int) := by omega
        by_cases a3 : v < k
        · have h1 : Op.bytesLess k.toList v.toList = false := by rw [bl]; simp; grind
          have h2 : (k.toList == v.toList) = false := by rw [beq_ba]; simp; grind
          go_wp2_with fail
          go_ret
          exact ⟨congrArg (fun r => Ending.returned (.int .i64 r)) (by unfold chk; rw [← HNV.out, ← HNK.out]; simp [*]), HL.out⟩
        · by_cases a4 : k < v
          · have h1 : Op.bytesLess k.toList v.toList = true := by rw [bl]; grind
            go_wp2_with fail
            go_ret
            exact ⟨congrArg (fun r => Ending.returned (.int .i64 r)) (by unfold chk; rw [← HNV.out, ← HNK.out]; simp [*]), HL.out⟩
          · have h1 : Op.bytesLess k.toList v.toList = false := by rw [bl]; grind
            have h2 : (k.toList == v.toList) = true := by rw [beq_ba]; grind
            go_wp2_with fail
            go_ret
            exact ⟨congrArg (fun r => Ending.returned (.int .i64 r)) (by unfold chk; rw [← HNV.out, ← HNK.out]; simp [*]), HL.out⟩
  · have e3' : ¬ (3 : Int) = kind := fun h => e3 h.symm
    by_cases e2 : kind = 2
    · subst e2
      by_cases a1 : 0 < nv
      · have p1 : (0 : Int) < (nv : Int) := by omega
        go_wp2_with fail
        go_ret
        exact ⟨congrArg (fun r => Ending.returned (.int .i64 r)) (by unfold chk; rw [← HNV.out, ← HNK.out]; simp [*]), HL.out⟩
      · have p1 : ¬ (0 : Int) < (nv : Int) := by omega
        have p0 : ¬ (64 : Int) < (nv : Int) := by omega
        by_cases a2 : 16 < nk
        · have p2 : (16 : Int) < (nk : Int) := by omega
          go_wp2_with fail
          go_ret
          exact ⟨congrArg (fun r => Ending.returned (.int .i64 r)) (by unfold chk; rw [← HNV.out, ← HNK.out]; simp [*]), HL.out⟩
        · have p2 : ¬ (16 : Int) < (nk : Int) := by omega
          go_wp2_with fail
          go_ret
          exact ⟨congrArg (fun r => Ending.returned (.int .i64 r)) (by unfold chk; rw [← HNV.out, ← HNK.out]; simp [*]), HL.out⟩
    · by_cases e1 : kind = 1
      · subst e1
        by_cases a2 : 16 < nk
        · have p2 : (16 : Int) < (nk : Int) := by omega
          go_wp2_with fail
          go_ret
          exact ⟨congrArg (fun r => Ending.returned (.int .i64 r)) (by unfold chk; rw [← HNV.out, ← HNK.out]; simp [*]), HL.out⟩
        · have p2 : ¬ (16 : Int) < (nk : Int) := by omega
          by_cases a1 : 64 < nv
          · have p1 : (64 : Int) < (nv : Int) := by omega
            go_wp2_with fail
            go_ret
            exact ⟨congrArg (fun r => Ending.returned (.int .i64 r)) (by unfold chk; rw [← HNV.out, ← HNK.out]; simp [*]), HL.out⟩
          · have p1 : ¬ (64 : Int) < (nv : Int) := by omega
            go_wp2_with fail
            go_ret
            exact ⟨congrArg (fun r => Ending.returned (.int .i64 r)) (by unfold chk; rw [← HNV.out, ← HNK.out]; simp [*]), HL.out⟩
      · have e2' : ¬ (2 : Int) = kind := fun h => e2 h.symm
        have e1' : ¬ (1 : Int) = kind := fun h => e1 h.symm
        go_wp2_with fail
        go_ret
        exact ⟨congrArg (fun r => Ending.returned (.int .i64 r)) (by unfold chk; rw [← HNV.out, ← HNK.out]; simp [*]), HL.out⟩
/-- A change: kind, key, value. -/
abbrev Chg := Int × ByteArray × ByteArray
def encC (s : Chg) : List Value := [.int .i64 s.1, .string s.2.1, .string s.2.2]
def crow (L : List Chg) : List Value := L.flatMap encC
theorem encC_len (s : Chg) : (encC s).length = 3 := rfl
theorem encC_one (s : Chg) : ∀ u ∈ encC s, u.oneCell' = true := by
  intro u hu
  simp only [encC, List.mem_cons, List.not_mem_nil, or_false] at hu
  rcases hu with rfl | rfl | rfl <;> rfl
theorem crow_len (L : List Chg) : (crow L).length = L.length * 3 := rec_len encC_len L
theorem crow_one (L : List Chg) : ∀ u ∈ crow L, u.oneCell' = true := rec_one encC_one L
theorem crow_0 {L : List Chg} {i : Nat} {s : Chg} (h : L[i]? = some s) : (crow L)[i * 3]? = some (.int .i64 s.1) := by
  have := rec_at encC_len h 0 (by omega); simpa [crow, encC] using this
theorem crow_1 {L : List Chg} {i : Nat} {s : Chg} (h : L[i]? = some s) : (crow L)[i * 3 + 1]? = some (.string s.2.1) := by
  have := rec_at encC_len h 1 (by omega); simpa [crow, encC] using this
theorem crow_2 {L : List Chg} {i : Nat} {s : Chg} (h : L[i]? = some s) : (crow L)[i * 3 + 2]? = some (.string s.2.2) := by
  have := rec_at encC_len h 2 (by omega); simpa [crow, encC] using this
theorem Rd.chg {w : World} {A : Option Addr} {n : Nat} {L : List Chg} (h : Rd w 3 A n (crow L)) {i : Nat} {s : Chg} (hi : L[i]? = some s) :
    ∃ b o, A = some ⟨b, o, none⟩ ∧ w.cell? ⟨b, o + i * 3, none⟩ = some (.int .i64 s.1) ∧ w.cell? ⟨b, o + i * 3 + 1, none⟩ = some (.string s.2.1) ∧ w.cell? ⟨b, o + i * 3 + 2, none⟩ = some (.string s.2.2) := by
  have hl := (List.getElem?_eq_some_iff.1 (crow_0 hi)).1
  obtain ⟨b, o, e, hc⟩ := h.2 (by omega)
  exact ⟨b, o, e, hc _ _ (crow_0 hi), hc _ _ (crow_1 hi), hc _ _ (crow_2 hi)⟩
/-- What All answers. -/
def chkAll : List Chg → Int
  | [] => 0
  | c :: L => if chk c.1 c.2.1 c.2.2 = 0 then chkAll L else chk c.1 c.2.1 c.2.2
theorem chkAll_next {L : List Chg} {i : Nat} {s : Chg} (h : L[i]? = some s) : chkAll (L.drop i) = if chk s.1 s.2.1 s.2.2 = 0 then chkAll (L.drop (i + 1)) else chk s.1 s.2.1 s.2.2 := by
  have e := List.getElem?_eq_some_iff.1 h
  rw [List.drop_eq_getElem_cons e.1, e.2]; rfl
theorem chkAll_end {L : List Chg} : chkAll (L.drop L.length) = 0 := by rw [List.drop_length]; rfl
set_option maxHeartbeats 1000000 in
theorem all_any {w : World} {A : Option Addr} {n c : Nat} {L : List Chg} (hr : Rd w 3 A n (crow L)) (hl : L.length = n) (hn : n ≤ 4398046511104) : Calls Tryz.prog 94 #[.slice A n c] w fun e w' => e = .returned (.int .i64 (chkAll L)) ∧ Later w w' := by
  have HR := hide_ hr; have HL := hide_ hl
  have hn2 : (n : Int) ≤ 4398046511104 := by omega
  clear hr hl
  go_enter Tryz.func94, Tryz.ntmps94
  go_wp2_with fail
  go_loopw [4, 5, 8] (fun _ _ s8 wr => ∃ k : Nat, k ≤ n ∧ s8 = .int .i64 k ∧ Hid (chkAll L = chkAll (L.drop k)) ∧ Hid (Later w wr)) (fun _ _ i _ => n - (intOf i).toNat)
  case atStart => exact ⟨0, Nat.zero_le _, rfl, hide_ rfl, Later.refl w⟩
  case round =>
    obtain ⟨k, hkn, rfl, HC, HB⟩ := hrel
    by_cases hlt : k < n
    · obtain ⟨s, hs⟩ : ∃ s, L[k]? = some s := ⟨_, List.getElem?_eq_getElem (by rw [HL.out]; exact hlt)⟩
      obtain ⟨b, o, rfl, l0, l1, l2⟩ := (HR.out.below HB.out).chg hs
      have q1 : (k : Int) < (n : Int) := by omega
      have q2 : (0 : Int) ≤ (k : Int) := by omega
      have q3 : (k : Int) ≤ 4398046511104 := by omega
      have HN := hide_ (chkAll_next hs)
      have hc := hide_ (check_any s.1 s.2.1 s.2.2)
      clear hs
      by_cases h0 : chk s.1 s.2.1 s.2.2 = 0
      · go_wp2_with fail
        refine (hc.out _).mono ?_; rintro e w2 ⟨rfl, hb2⟩
        rw [h0]
        have HB2 := hide_ ((HB.out.alloc HB.out.size (.cells #[.int .i64 s.1, .string s.2.1, .string s.2.2] 142)).trans (hb2.mono (by have := HB.out.size; simp; omega)))
        clear hb2
        go_wp2_with fail
        go_roundw
        case rel => exact ⟨k + 1, by omega, by go_num, hide_ (by rw [HC.out, HN.out, if_pos h0]), HB2.out⟩
        case measure => simp [intOf]; omega
      · have h0' : ¬ (0 : Int) = chk s.1 s.2.1 s.2.2 := fun h => h0 h.symm
        go_wp2_with fail
        refine (hc.out _).mono ?_; rintro e w2 ⟨rfl, hb2⟩
        have HB2 := hide_ ((HB.out.alloc HB.out.size (.cells #[.int .i64 s.1, .string s.2.1, .string s.2.2] 142)).trans (hb2.mono (by have := HB.out.size; simp; omega)))
        clear hb2
        go_wp2_with fail
        go_ret
        exact ⟨by rw [HC.out, HN.out, if_neg h0]; rfl, HB2.out⟩
    · have q1 : ¬ (k : Int) < (n : Int) := by omega
      obtain rfl : k = n := by omega
      go_wp2_with fail
      go_ret
      exact ⟨by rw [HC.out, ← HL.out, chkAll_end]; rfl, HB.out⟩
end Go.Proofs.YtcmollfhlillfaaGreatDoor
/-
  Readers, batches and their bytes, as plain functions; a batch that is read back.
-/
namespace Go.Proofs.YtcmollfhlillfaaGreatDoor
set_option linter.unusedVariables false
set_option linter.unusedSimpArgs false
def getCh : Nat → RS → List Chg × RS
  | 0, s => ([], s)
  | n + 1, s => if s.2 ≠ 0 then ([], s) else
    let k := rNum s
    let a := rText k.2
    let b := rText a.2
    let r := getCh n b.2
    (((k.1 : Int), ⟨a.1.toArray⟩, ⟨b.1.toArray⟩) :: r.1, r.2)
def getChanges (most : Nat) (s : RS) : List Chg × RS := getCh (rCount most s).1 (rCount most s).2
/-- A batch. -/
structure BP where
  prev : Nat
  ver : Nat
  known : Nat
  chg : List Chg
def soundB (b : BP) : Bool := decide (b.chg.length ≤ 4096) && decide (chkAll b.chg = 0)
def encCh (c : Chg) : List UInt8 := putN c.1.toNat ++ putT c.2.1.data.toList ++ putT c.2.2.data.toList
def encB (b : BP) : List UInt8 := putN b.prev ++ putN b.ver ++ putN b.known ++ putN b.chg.length ++ b.chg.flatMap encCh
def decB (l : List UInt8) : Option BP :=
  let p := rNum (l, 0)
  let v := rNum p.2
  let k := rNum v.2
  let c := getChanges 4096 k.2
  if rDone c.2 = true ∧ soundB ⟨p.1, v.1, k.1, c.1⟩ = true then some ⟨p.1, v.1, k.1, c.1⟩ else none
/-- A change whose parts are short. -/
structure ChOk (c : Chg) : Prop where
  k0 : 0 ≤ c.1
  k1 : c.1 < 9223372036854775808
  a : c.2.1.size ≤ 65536
  b : c.2.2.size ≤ 65536
theorem getCh_enc : ∀ (L : List Chg) (r : List UInt8), (∀ c ∈ L, ChOk c) → getCh L.length (L.flatMap encCh ++ r, 0) = (L, (r, 0))
  | [], r, _ => rfl
  | c :: L, r, h => by
    have hc := h c List.mem_cons_self
    have ih := getCh_enc L r (fun d hd => h d (List.mem_cons_of_mem _ hd))
    rw [List.length_cons, List.flatMap_cons]
    unfold getCh
    rw [if_neg (by simp)]
    unfold encCh
    simp only [List.append_assoc]
    have e1 := rNum_put (n := c.1.toNat) (by have := hc.k1; omega) (putT c.2.1.data.toList ++ (putT c.2.2.data.toList ++ (L.flatMap encCh ++ r)))
    unfold encCh at e1 ih
    simp only [List.append_assoc] at e1 ih
    simp only [e1]
    have e2 := rText_put (t := c.2.1.data.toList) (by rw [Array.length_toList]; exact hc.a) (putT c.2.2.data.toList ++ (L.flatMap encCh ++ r))
    unfold encCh at e2
    simp only [List.append_assoc] at e2
    simp only [e2]
    have e3 := rText_put (t := c.2.2.data.toList) (by rw [Array.length_toList]; exact hc.b) (L.flatMap encCh ++ r)
    unfold encCh at e3
    simp only [List.append_assoc] at e3
    simp only [e3, ih]
    have hk : ((c.1.toNat : Nat) : Int) = c.1 := by have := hc.k0; omega
    simp only [hk, Prod.mk.injEq, and_true]
theorem chk_ok {c : Chg} (h : chk c.1 c.2.1 c.2.2 = 0) : ChOk c ∧ c.1 ≤ 3 ∧ c.2.1.size ≤ 17 ∧ c.2.2.size ≤ 64 := by
  unfold chk at h
  split at h
  · rename_i hk
    split at h
    · cases h
    · split at h
      · cases h
      · exact ⟨⟨by omega, by omega, by omega, by omega⟩, by omega, by omega, by omega⟩
  · split at h
    · split at h
      · cases h
      · split at h
        · cases h
        · exact ⟨⟨by omega, by omega, by omega, by omega⟩, by omega, by omega, by omega⟩
    · split at h
      · split at h
        · cases h
        · split at h
          · cases h
          · exact ⟨⟨by omega, by omega, by omega, by omega⟩, by omega, by omega, by omega⟩
      · cases h
theorem chkAll_all : ∀ {L : List Chg}, chkAll L = 0 → ∀ c ∈ L, chk c.1 c.2.1 c.2.2 = 0
  | [], _, c, hc => by cases hc
  | d :: L, h, c, hc => by
    unfold chkAll at h
    split at h
    · rename_i hd
      rcases List.mem_cons.1 hc with rfl | hc
      · exact hd
      · exact chkAll_all h c hc
    · rename_i hd; exact absurd h hd
structure BP.Ok (b : BP) : Prop where
  prev : b.prev < 9223372036854775808
  ver : b.ver < 9223372036854775808
  known : b.known < 9223372036854775808
  len : b.chg.length ≤ 4096
  chg : chkAll b.chg = 0
theorem BP.Ok.ch {b : BP} (h : b.Ok) : ∀ c ∈ b.chg, ChOk c := fun c hc => (chk_ok (chkAll_all h.chg c hc)).1
theorem decB_enc {b : BP} (h : b.Ok) : decB (encB b) = some b := by
  have e1 := rNum_put h.prev (putN b.ver ++ (putN b.known ++ (putN b.chg.length ++ (b.chg.flatMap encCh))))
  have e2 := rNum_put h.ver (putN b.known ++ (putN b.chg.length ++ (b.chg.flatMap encCh)))
  have e3 := rNum_put h.known (putN b.chg.length ++ (b.chg.flatMap encCh))
  have e4 := rNum_put (n := b.chg.length) (by have := h.len; omega) (b.chg.flatMap encCh)
  have e5 := getCh_enc b.chg [] h.ch
  rw [List.append_nil] at e5
  have e6 : getChanges 4096 (putN b.chg.length ++ b.chg.flatMap encCh, 0) = (b.chg, ([], 0)) := by
    unfold getChanges rCount
    rw [e4]
    simp only
    rw [if_neg (by have := h.len; omega)]
    exact e5
  unfold decB encB
  simp only [List.append_assoc, e1, e2, e3, e6]
  have hs : soundB b = true := by
    unfold soundB
    rw [decide_eq_true h.len, decide_eq_true h.chg]; rfl
  have hb : (⟨b.prev, b.ver, b.known, b.chg⟩ : BP) = b := rfl
  rw [hb, if_pos ⟨rfl, hs⟩]
theorem encCh_len {c : Chg} (h : chk c.1 c.2.1 c.2.2 = 0) : (encCh c).length ≤ 84 := by
  obtain ⟨hc, h3, h1, h2⟩ := chk_ok h
  have a := putN_len 1 c.1.toNat (by have := hc.k0; omega) (by omega)
  have b := putN_len 1 c.2.1.data.toList.length (by rw [Array.length_toList]; show c.2.1.size < _; omega) (by omega)
  have d := putN_len 1 c.2.2.data.toList.length (by rw [Array.length_toList]; show c.2.2.size < _; omega) (by omega)
  unfold encCh putT
  simp only [List.length_append] at a b d ⊢
  have e1 : c.2.1.data.toList.length = c.2.1.size := Array.length_toList
  have e2 : c.2.2.data.toList.length = c.2.2.size := Array.length_toList
  omega
theorem flat_len : ∀ {L : List Chg}, (∀ c ∈ L, chk c.1 c.2.1 c.2.2 = 0) → (L.flatMap encCh).length ≤ L.length * 84
  | [], _ => by simp
  | c :: L, h => by
    have ih := flat_len (L := L) (fun d hd => h d (List.mem_cons_of_mem _ hd))
    have := encCh_len (h c List.mem_cons_self)
    rw [List.flatMap_cons, List.length_append, List.length_cons, Nat.succ_mul]; omega
theorem encB_len {b : BP} (h : b.Ok) : (encB b).length ≤ 30 + b.chg.length * 84 := by
  have h1 := putN_len9 h.prev; have h2 := putN_len9 h.ver; have h3 := putN_len9 h.known
  have h4 := putN_len3 (n := b.chg.length) (by have := h.len; omega)
  have h5 := flat_len (chkAll_all h.chg)
  unfold encB
  simp only [List.length_append]
  omega
end Go.Proofs.YtcmollfhlillfaaGreatDoor
