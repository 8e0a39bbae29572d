/-
  Readers, batches and their bytes, as plain functions; a batch that is read back.
-/
import Derived.Test.YtcmollfhlillfaaGreatDoorKRS
import Derived.Test.YtcmollfhlillfaaGreatDoorChk
namespace Go.Proofs.YtcmollfhlillfaaGreatDoor
set_option linter.unusedVariables false
set_option linter.unusedSimpArgs false
def getCh : Nat → RS → List Chg × RS
  | 0, s => ([], s)
  | n + 1, s => if s.2 ≠ 0 then ([], s) else
    let k := rNum s
    let a := rText k.2
    let b := rText a.2
    let r := getCh n b.2
    (((k.1 : Int), ⟨a.1.toArray⟩, ⟨b.1.toArray⟩) :: r.1, r.2)
def getChanges (most : Nat) (s : RS) : List Chg × RS := getCh (rCount most s).1 (rCount most s).2
/-- A batch. -/
structure BP where
  prev : Nat
  ver : Nat
  known : Nat
  chg : List Chg
def soundB (b : BP) : Bool := decide (b.chg.length ≤ 4096) && decide (chkAll b.chg = 0)
def encCh (c : Chg) : List UInt8 := putN c.1.toNat ++ putT c.2.1.data.toList ++ putT c.2.2.data.toList
def encB (b : BP) : List UInt8 := putN b.prev ++ putN b.ver ++ putN b.known ++ putN b.chg.length ++ b.chg.flatMap encCh
def decB (l : List UInt8) : Option BP :=
  let p := rNum (l, 0)
  let v := rNum p.2
  let k := rNum v.2
  let c := getChanges 4096 k.2
  if rDone c.2 = true ∧ soundB ⟨p.1, v.1, k.1, c.1⟩ = true then some ⟨p.1, v.1, k.1, c.1⟩ else none
/-- A change whose parts are short. -/
structure ChOk (c : Chg) : Prop where
  k0 : 0 ≤ c.1
  k1 : c.1 < 9223372036854775808
  a : c.2.1.size ≤ 65536
  b : c.2.2.size ≤ 65536
theorem getCh_enc : ∀ (L : List Chg) (r : List UInt8), (∀ c ∈ L, ChOk c) → getCh L.length (L.flatMap encCh ++ r, 0) = (L, (r, 0))
  | [], r, _ => rfl
  | c :: L, r, h => by
    have hc := h c List.mem_cons_self
    have ih := getCh_enc L r (fun d hd => h d (List.mem_cons_of_mem _ hd))
    rw [List.length_cons, List.flatMap_cons]
    unfold getCh
    rw [if_neg (by simp)]
    unfold encCh
    simp only [List.append_assoc]
    have e1 := rNum_put (n := c.1.toNat) (by have := hc.k1; omega) (putT c.2.1.data.toList ++ (putT c.2.2.data.toList ++ (L.flatMap encCh ++ r)))
    unfold encCh at e1 ih
    simp only [List.append_assoc] at e1 ih
    simp only [e1]
    have e2 := rText_put (t := c.2.1.data.toList) (by rw [Array.length_toList]; exact hc.a) (putT c.2.2.data.toList ++ (L.flatMap encCh ++ r))
    unfold encCh at e2
    simp only [List.append_assoc] at e2
    simp only [e2]
    have e3 := rText_put (t := c.2.2.data.toList) (by rw [Array.length_toList]; exact hc.b) (L.flatMap encCh ++ r)
    unfold encCh at e3
    simp only [List.append_assoc] at e3
    simp only [e3, ih]
    have hk : ((c.1.toNat : Nat) : Int) = c.1 := by have := hc.k0; omega
    simp only [hk, Prod.mk.injEq, and_true]
theorem chk_ok {c : Chg} (h : chk c.1 c.2.1 c.2.2 = 0) : ChOk c ∧ c.1 ≤ 3 ∧ c.2.1.size ≤ 17 ∧ c.2.2.size ≤ 64 := by
  unfold chk at h
  split at h
  · rename_i hk
    split at h
    · cases h
    · split at h
      · cases h
      · exact ⟨⟨by omega, by omega, by omega, by omega⟩, by omega, by omega, by omega⟩
  · split at h
    · split at h
      · cases h
      · split at h
        · cases h
        · exact ⟨⟨by omega, by omega, by omega, by omega⟩, by omega, by omega, by omega⟩
    · split at h
      · split at h
        · cases h
        · split at h
          · cases h
          · exact ⟨⟨by omega, by omega, by omega, by omega⟩, by omega, by omega, by omega⟩
      · cases h
theorem chkAll_all : ∀ {L : List Chg}, chkAll L = 0 → ∀ c ∈ L, chk c.1 c.2.1 c.2.2 = 0
  | [], _, c, hc => by cases hc
  | d :: L, h, c, hc => by
    unfold chkAll at h
    split at h
    · rename_i hd
      rcases List.mem_cons.1 hc with rfl | hc
      · exact hd
      · exact chkAll_all h c hc
    · rename_i hd; exact absurd h hd
structure BP.Ok (b : BP) : Prop where
  prev : b.prev < 9223372036854775808
  ver : b.ver < 9223372036854775808
  known : b.known < 9223372036854775808
  len : b.chg.length ≤ 4096
  chg : chkAll b.chg = 0
theorem BP.Ok.ch {b : BP} (h : b.Ok) : ∀ c ∈ b.chg, ChOk c := fun c hc => (chk_ok (chkAll_all h.chg c hc)).1
theorem decB_enc {b : BP} (h : b.Ok) : decB (encB b) = some b := by
  have e1 := rNum_put h.prev (putN b.ver ++ (putN b.known ++ (putN b.chg.length ++ (b.chg.flatMap encCh))))
  have e2 := rNum_put h.ver (putN b.known ++ (putN b.chg.length ++ (b.chg.flatMap encCh)))
  have e3 := rNum_put h.known (putN b.chg.length ++ (b.chg.flatMap encCh))
  have e4 := rNum_put (n := b.chg.length) (by have := h.len; omega) (b.chg.flatMap encCh)
  have e5 := getCh_enc b.chg [] h.ch
  rw [List.append_nil] at e5
  have e6 : getChanges 4096 (putN b.chg.length ++ b.chg.flatMap encCh, 0) = (b.chg, ([], 0)) := by
    unfold getChanges rCount
    rw [e4]
    simp only
    rw [if_neg (by have := h.len; omega)]
    exact e5
  unfold decB encB
  simp only [List.append_assoc, e1, e2, e3, e6]
  have hs : soundB b = true := by
    unfold soundB
    rw [decide_eq_true h.len, decide_eq_true h.chg]; rfl
  have hb : (⟨b.prev, b.ver, b.known, b.chg⟩ : BP) = b := rfl
  rw [hb, if_pos ⟨rfl, hs⟩]
theorem encCh_len {c : Chg} (h : chk c.1 c.2.1 c.2.2 = 0) : (encCh c).length ≤ 84 := by
  obtain ⟨hc, h3, h1, h2⟩ := chk_ok h
  have a := putN_len 1 c.1.toNat (by have := hc.k0; omega) (by omega)
  have b := putN_len 1 c.2.1.data.toList.length (by rw [Array.length_toList]; show c.2.1.size < _; omega) (by omega)
  have d := putN_len 1 c.2.2.data.toList.length (by rw [Array.length_toList]; show c.2.2.size < _; omega) (by omega)
  unfold encCh putT
  simp only [List.length_append] at a b d ⊢
  have e1 : c.2.1.data.toList.length = c.2.1.size := Array.length_toList
  have e2 : c.2.2.data.toList.length = c.2.2.size := Array.length_toList
  omega
theorem flat_len : ∀ {L : List Chg}, (∀ c ∈ L, chk c.1 c.2.1 c.2.2 = 0) → (L.flatMap encCh).length ≤ L.length * 84
  | [], _ => by simp
  | c :: L, h => by
    have ih := flat_len (L := L) (fun d hd => h d (List.mem_cons_of_mem _ hd))
    have := encCh_len (h c List.mem_cons_self)
    rw [List.flatMap_cons, List.length_append, List.length_cons, Nat.succ_mul]; omega
theorem encB_len {b : BP} (h : b.Ok) : (encB b).length ≤ 30 + b.chg.length * 84 := by
  have h1 := putN_len9 h.prev; have h2 := putN_len9 h.ver; have h3 := putN_len9 h.known
  have h4 := putN_len3 (n := b.chg.length) (by have := h.len; omega)
  have h5 := flat_len (chkAll_all h.chg)
  unfold encB
  simp only [List.length_append]
  omega
end Go.Proofs.YtcmollfhlillfaaGreatDoor
