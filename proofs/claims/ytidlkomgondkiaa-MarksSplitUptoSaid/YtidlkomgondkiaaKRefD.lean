/-
  The document's answer: Join, Without.
-/
import Derived.Test.YtidlkomgondkiaaKRefC
import Derived.Test.YtidlkomgondkiaaKWithout
namespace Go.Proofs.Ytidlkomgondkiaa
open Go.RowKit
set_option linter.unusedVariables false
set_option linter.unusedSimpArgs false
set_option maxHeartbeats 400000 in
theorem rjoin_any {w : World} {A : Option Addr} {n c : Nat} {L : List Spn} (hr : Rd w 2 A n (srow L)) (hA : A = none → n = 0) (hl : L.length = n) (hn : n ≤ 1048576) :
    Calls Try.prog 61 #[.slice A n c] w (BuildPost L [] w) := by
  have hb := hide_ (build_any (c := c) (c' := 0) (A' := none) (n' := 0) (G := []) hr hl hA hn (Rd.nil _ _ _) rfl (fun _ => rfl) (by omega))
  clear hr hA
  go_enter Try.func61, Try.ntmps61
  go_wp2_with fail
  refine hb.out.mono ?_
  rintro e w1 ⟨⟨v, R, q, rfl, h1, h2, h3, h4⟩, h5⟩
  obtain ⟨A1, c1, rfl⟩ := own_form h4
  have H1 := hide_ h1; have H2 := hide_ h2; have H3 := hide_ h3; have H4 := hide_ h4; have H5 := hide_ h5
  clear h1 h2 h3 h4 h5
  go_wp2_with fail
  go_ret
  exact ⟨⟨_, R, q, rfl, H1.out, H2.out, H3.out, H4.out⟩, H5.out⟩
theorem but_nil (L : List Spn) (k : ByteArray) : But L [] k ↔ InL L k := by simp [But, InL.nil]
theorem but_one (s : Spn) (L : List Spn) (k : ByteArray) : But [s] L k ↔ InS s k ∧ ¬ InL L k := by simp [But, InL.cons, InL.nil]
set_option maxHeartbeats 400000 in
theorem rwithout_any {w : World} {A : Option Addr} {n c : Nat} {L : List Spn} (s : Spn) (hr : Rd w 2 A n (srow L)) (hA : A = none → n = 0) (hl : L.length = n) (hn : n ≤ 1048576) :
    Calls Try.prog 62 #[.agg #[.string s.1, .string s.2], .slice A n c] w fun e w' =>
      (∃ (v : Value) (R : List Spn) (q : Nat), e = .returned v ∧ R.length = q ∧ Canon R ∧ (∀ k, InL R k ↔ But [s] L k) ∧ w'.ownsRow w.heap.size 24 2 v q (srow R)) ∧ Later w w' := by
  have hb := hide_ (build_any (w := (w.alloc (.cells #[.string s.1, .string s.2] 24)).alloc (.cells #[.string s.1, .string s.2] 24)) (c := 1) (c' := c) (A := some ⟨w.heap.size + 1, 0, none⟩) (n := 1) (H := [s]) (Rd.newAt _ #[.string s.1, .string s.2] 24 1 2 _ (0, 0) rfl (by simp)) rfl (fun h => nomatch h) (by omega) ((hr.alloc _).alloc _) hl hA hn)
  clear hr hA
  go_enter Try.func62, Try.ntmps62
  go_wp2_with fail
  refine hb.out.mono ?_
  rintro e w1 ⟨⟨v, R, q, rfl, h1, h2, h3, h4⟩, h5⟩
  obtain ⟨A1, c1, rfl⟩ := own_form h4
  have H1 := hide_ h1; have H2 := hide_ h2; have H3 := hide_ h3; have H4 := hide_ (own_base h4 (show w.heap.size ≤ _ by simp; omega)); have H5 := hide_ (show Later w w1 from ((((Below.refl _ _).alloc (Nat.le_refl _) _).alloc (by simp) _)).trans (Below.mono h5 (by simp; omega)))
  clear h1 h2 h3 h4 h5
  go_wp2_with fail
  go_ret
  exact ⟨⟨_, R, q, rfl, H1.out, H2.out, H3.out, H4.out⟩, H5.out⟩
end Go.Proofs.Ytidlkomgondkiaa
