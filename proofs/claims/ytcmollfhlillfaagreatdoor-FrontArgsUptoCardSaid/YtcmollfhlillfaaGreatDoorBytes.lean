/-
  Words for bytes in memory.
-/
import Derived.Test.YtcmollfhlillfaaGreatDoorMem
namespace Go.Proofs.YtcmollfhlillfaaGreatDoor
open Go.RowKit
/-- A byte as a cell. -/
def bv (u : UInt8) : Value := .int .u8 (u.toNat : Int)
def bvs (l : List UInt8) : List Value := l.map bv
theorem bvs_one (l : List UInt8) : ∀ u ∈ bvs l, u.oneCell' = true := by
  intro u hu
  obtain ⟨x, _, rfl⟩ := List.mem_map.1 hu
  rfl
theorem bvs_length (l : List UInt8) : (bvs l).length = l.length := List.length_map _
theorem Rd.byte {w : World} {A : Option Addr} {l : List UInt8} (h : Rd w 1 A l.length (bvs l)) {k : Nat} (hk : k < l.length) :
    ∃ b o, A = some ⟨b, o, none⟩ ∧ w.cell? ⟨b, o + k, none⟩ = some (.int .u8 (l[k].toNat : Int)) := by
  obtain ⟨b, o, e, hc⟩ := h.2 (by rw [bvs_length]; omega)
  exact ⟨b, o, e, hc k _ (by simp [bvs, bv, hk])⟩
/-- 'string(b)' where b reads as these bytes. -/
theorem run_str_rd {P : Program} {w : World} (src dst e : TypeId) {A : Option Addr} (c : Nat) {l : List UInt8} (hs : P.underlying src = some (.slice e)) (he : P.underlying e = some (.int .u8)) (hd : P.underlying dst = some .string)
    (hA : A = none → l.length = 0) (h : Rd w 1 A l.length (bvs l)) : (convert src dst (.slice A l.length c)).run P w = .ok (.string ⟨l.toArray⟩) w := by
  rcases A with _ | a
  · have hl : l = [] := List.eq_nil_of_length_eq_zero (hA rfl)
    subst hl
    exact run_convert_bytes_nil w src e hs he _ _ dst hd
  · refine run_convert_bytes_back w src dst e a c l hs he hd fun j hj => ?_
    obtain ⟨b, o, hb, hc⟩ := h.byte hj
    injection hb with hb
    subst hb
    rw [add_plain]; exact hc
theorem run_str_n {P : Program} {w : World} (src dst e : TypeId) {A : Option Addr} {n : Nat} (c : Nat) {l : List UInt8} (hn : l.length = n) (hs : P.underlying src = some (.slice e)) (he : P.underlying e = some (.int .u8)) (hd : P.underlying dst = some .string)
    (hA : A = none → n = 0) (h : Rd w 1 A n (bvs l)) : (convert src dst (.slice A n c)).run P w = .ok (.string ⟨l.toArray⟩) w := by
  subst hn
  exact run_str_rd src dst e c hs he hd hA h
theorem own_nil {w : World} {base n c size : Nat} {e : TypeId} {A : Option Addr} {xs : List Value} (h : w.ownsRow base e size (.slice A n c) n xs) : A = none → n = 0 := by
  rintro rfl
  rcases h.2 with ⟨_, h⟩ | ⟨g, cap, cur, h, _⟩
  · exact h
  · cases h
theorem own_cap {w : World} {base n c size : Nat} {e : TypeId} {A : Option Addr} {xs : List Value} (h : w.ownsRow base e size (.slice A n c) n xs) : n ≤ c := by
  rcases h.2 with ⟨h, h0⟩ | ⟨g, cap, cur, h, _, _, hn, _⟩
  · omega
  · injection h with _ _ h3; omega
theorem own_form {w : World} {base n size : Nat} {e : TypeId} {v : Value} {xs : List Value} (h : w.ownsRow base e size v n xs) : ∃ A c, v = .slice A n c := by
  rcases h.2 with ⟨hv, h0⟩ | ⟨g, cap, cur, hv, _, _, hn, _⟩
  · exact ⟨none, 0, by rw [h0]; exact hv⟩
  · exact ⟨_, _, hv⟩
end Go.Proofs.YtcmollfhlillfaaGreatDoor
