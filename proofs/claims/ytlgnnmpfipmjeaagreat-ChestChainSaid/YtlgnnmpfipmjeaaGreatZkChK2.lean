/-
  chest: Pop and Lock, in the one form.
-/
import Derived.Test.YtlgnnmpfipmjeaaGreatZkChK
import Derived.Test.YtlgnnmpfipmjeaaGreatG4
namespace Go.Proofs.YtlgnnmpfipmjeaaGreat
open Go.RowKit
set_option linter.unusedVariables false
set_option linter.unusedSimpArgs false
theorem pop_noneK {w0 w : World} {X : Nat → Prop} {c used room lock : Nat} {S : LB} (h : KX w0 X w c used room lock S) (he1 : 1 ≤ S.epoch) (version : Nat) (hv : version ≤ S.top) {x : BP} (hx : S.list[0]? = some x) (hvx : version < x.ver) :
    Calls Tryz.prog 14 #[.pointer (some ⟨c, 0, none⟩), .int .i64 S.epoch, .int .i64 version] w fun e w' => e = .returned (.int .i64 0) ∧ Later w w' := by
  obtain ⟨F, h1, h2, h3, h4⟩ := h
  exact pop_none h1 he1 version hv hx hvx
theorem pop_someK {w0 w : World} {X : Nat → Prop} {c used room lock : Nat} {S : LB} (h : KX w0 X w c used room lock S) (he1 : 1 ≤ S.epoch) (version : Nat) (hv : version ≤ S.top) (hv9 : version < 1000000000000000) {B1 B2 : List BP} (hl : S.list = B1 ++ B2) (hpos : B1 ≠ []) (hl1 : ∀ x ∈ B1, x.ver ≤ version) (hl2 : ∀ x ∈ B2, version < x.ver) (hat : atF (S.list.map BP.ver) version S.gone = version) (hr : room ≤ 1048576) (hfit : used + 100 ≤ room) :
    Calls Tryz.prog 14 #[.pointer (some ⟨c, 0, none⟩), .int .i64 S.epoch, .int .i64 version] w fun e w' => e = .returned (.int .i64 0) ∧ KX w0 X w' c (used + 100) room lock { S with gone := max S.gone version, list := B2 } ∧ Stands X w w' := by
  obtain ⟨F, h1, h2, h3, h4⟩ := h
  refine (pop_some h1 he1 version hv hv9 hl hpos hl1 hl2 hat hr hfit).mono ?_
  rintro e w' ⟨rfl, F', g1, g2, g3⟩
  exact ⟨rfl, kx_turn h2 h3 h4 g1 g2 g3⟩
theorem lockK {w0 w : World} {X : Nat → Prop} {c used room lock : Nat} {S : LB} (h : KX w0 X w c used room lock S) (epoch : Nat) (hlk : lock < epoch) (he9 : epoch < 1000000000) (hr : room ≤ 1048576) (hfit : used + 100 ≤ room) :
    Calls Tryz.prog 11 #[.pointer (some ⟨c, 0, none⟩), .int .i64 epoch, .int .i64 S.epoch] w fun e w' => LockRes w S e w' ∧ KX w0 X w' c (used + 100) room epoch S ∧ Stands X w w' := by
  obtain ⟨F, h1, h2, h3, h4⟩ := h
  refine (lock_any h1 epoch hlk he9 hr hfit).mono ?_
  rintro e w' ⟨hres, F', g1, g2, g3⟩
  exact ⟨hres, kx_turn h2 h3 h4 g1 g2 g3⟩
end Go.Proofs.YtlgnnmpfipmjeaaGreat
