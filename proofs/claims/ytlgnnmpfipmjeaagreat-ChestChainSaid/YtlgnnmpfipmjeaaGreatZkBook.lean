/-
  book: Open of an empty tape, Ready, Records, clone, lay.
-/
import Derived.Test.YtlgnnmpfipmjeaaGreatZkTape2
import Derived.Test.YtlgnnmpfipmjeaaGreatZkKTexts
import Derived.Test.YtlgnnmpfipmjeaaGreatZkKBytes
import Derived.Test.YtlgnnmpfipmjeaaGreatZkSealP
import Derived.Test.YtlgnnmpfipmjeaaGreatZkZone
namespace Go.Proofs.YtlgnnmpfipmjeaaGreat
open Go.RowKit
set_option linter.unusedVariables false
set_option linter.unusedSimpArgs false
/-- A book at block b on a tape at block t, with room for some bytes more. -/
def BookAt (w : World) (B b t : Nat) (v vr : Value) (used room : Nat) : Prop :=
  B ≤ b ∧ w.heap[b]? = some (.cells #[.pointer (some ⟨t, 0, none⟩), vr, .bool false] 86 (0, 0)) ∧ (∃ l sure, TapeAt w B t v l sure room ∧ l.length ≤ used) ∧ ∃ nr xr, w.ownsRow B 43 1 vr nr xr ∧ nr ≤ used
def bFp (b t : Nat) (v vr : Value) (k : Nat) : Prop := k = b ∨ k = t ∨ v.ownBlock = some k ∨ vr.ownBlock = some k
theorem TapeAt.later {w w' : World} {B p : Nat} {v : Value} {l : List UInt8} {sure room : Nat} (h : TapeAt w B p v l sure room) (hl : Later w w') : TapeAt w' B p v l sure room := ⟨h.1, later_row hl h.2.1, own_below h.2.2 hl⟩
theorem TapeAt.hits {F : Nat → Prop} {w w' : World} {B p : Nat} {v : Value} {l : List UInt8} {sure room : Nat} (h : TapeAt w B p v l sure room) (hh : Hits F w w') (h1 : ¬ F p) (h2 : ∀ k, v.ownBlock = some k → ¬ F k) : TapeAt w' B p v l sure room := ⟨h.1, hh.row h.2.1 h1, hh.own h.2.2 h2⟩
theorem BookAt.hits {F : Nat → Prop} {w w' : World} {B b t : Nat} {v vr : Value} {used room : Nat} (h : BookAt w B b t v vr used room) (hh : Hits F w w') (hn : ∀ k, bFp b t v vr k → ¬ F k) : BookAt w' B b t v vr used room := by
  obtain ⟨h1, h2, ⟨l, sure, h3, h4⟩, nr, xr, h5, h6⟩ := h
  exact ⟨h1, hh.row h2 (hn b (.inl rfl)), ⟨l, sure, h3.hits hh (hn t (.inr (.inl rfl))) (fun k hk => hn k (.inr (.inr (.inl hk)))), h4⟩, nr, xr, hh.own h5 (fun k hk => hn k (.inr (.inr (.inr hk)))), h6⟩
theorem BookAt.later {w w' : World} {B b t : Nat} {v vr : Value} {used room : Nat} (h : BookAt w B b t v vr used room) (hl : Later w w') : BookAt w' B b t v vr used room := h.hits (Hits.later (F := fun _ => False) hl) fun _ _ h => h
theorem BookAt.lt {w : World} {B b t : Nat} {v vr : Value} {used room : Nat} (h : BookAt w B b t v vr used room) : ∀ k, bFp b t v vr k → k < w.heap.size ∧ B ≤ k := by
  obtain ⟨h1, h2, ⟨l, sure, h3, h4⟩, nr, xr, h5, h6⟩ := h
  rintro k (rfl | rfl | hk | hk)
  · exact ⟨theap_lt h2, h1⟩
  · exact ⟨theap_lt h3.2.1, h3.1⟩
  · exact ⟨(h3.2.2.lt _ hk).2, (h3.2.2.lt _ hk).1⟩
  · exact ⟨(h5.lt _ hk).2, (h5.lt _ hk).1⟩
set_option maxHeartbeats 2000000 in
set_option maxRecDepth 100000 in
theorem bready_any {w : World} {B b t : Nat} {v vr : Value} {used room : Nat} (h : BookAt w B b t v vr used room) :
    Calls Tryz.prog 57 #[.pointer (some ⟨b, 0, none⟩)] w fun e w' => e = .returned (.int .i64 0) ∧ w' = w := by
  have d2 := cell_of_row _ _ 2 _ _ (0, 0) h.2.1
  clear h
  go_enter Tryz.func57, Tryz.ntmps57
  go_wp2_with fail
  go_ret
  exact ⟨rfl, rfl⟩
set_option maxHeartbeats 2000000 in
set_option maxRecDepth 100000 in
theorem bopen_any {w : World} {B t room : Nat} (hB : B ≤ w.heap.size) (h : TapeAt w B t (.slice none 0 0) [] 0 room) :
    Calls Tryz.prog 19 #[.pointer (some ⟨t, 0, none⟩)] w fun e w' => e = .returned (.tuple #[.pointer (some ⟨w.heap.size, 0, none⟩), .int .i64 0]) ∧ BookAt w' B w.heap.size t (.slice none 0 0) (.slice none 0 0) 0 room ∧ Later w w' := by
  have HH := hide_ h
  have HT := hide_ (tbytes_nil h)
  clear h
  go_enter Tryz.func19, Tryz.ntmps19
  go_wp2_with fail
  refine HT.out.mono ?_; rintro e w1 ⟨rfl, rfl⟩
  go_wp2_with fail
  go_loopw [7, 10] (fun s7 _ wr => s7 = .int .i64 0 ∧ Hid (wr = w1.alloc (.cells #[.pointer (some ⟨t, 0, none⟩), .slice none 0 0, .bool false] 86))) (fun _ _ _ => 0)
  case atStart => exact ⟨rfl, hide_ rfl⟩
  case round =>
    obtain ⟨rfl, HW⟩ := hrel
    go_wp2_with fail
    go_ret2
    rw [HW.out]
    exact ⟨rfl, ⟨hB, heap_alloc_new w1 _, ⟨[], 0, HH.out.later (later_alloc _ _), Nat.le_refl _⟩, 0, [], World.ownsRow_nil _ _ _ _, Nat.le_refl _⟩, later_alloc _ _⟩
set_option maxHeartbeats 2000000 in
set_option maxRecDepth 100000 in
theorem bclone_nil0 (w : World) (c : Nat) : Calls Tryz.prog 40 #[.slice none 0 c] w fun e w' => e = .returned (.slice none 0 0) ∧ w' = w := by
  go_enter Tryz.func40, Tryz.ntmps40
  go_wp2_with fail
  go_loopw [3, 8] (fun s3 s8 wr => s3 = .slice none 0 0 ∧ s8 = .int .i64 0 ∧ Hid (wr = w)) (fun _ _ _ => 0)
  case atStart => exact ⟨rfl, rfl, hide_ rfl⟩
  case round =>
    obtain ⟨rfl, rfl, HW⟩ := hrel
    go_wp2_with fail
    go_ret
    exact ⟨rfl, HW.out⟩
set_option maxHeartbeats 2000000 in
set_option maxRecDepth 100000 in
theorem brecords_nil {w : World} {B b t : Nat} {v : Value} {c used room : Nat} (h : BookAt w B b t v (.slice none 0 c) used room) :
    Calls Tryz.prog 20 #[.pointer (some ⟨b, 0, none⟩)] w fun e w' => e = .returned (.slice none 0 0) ∧ w' = w := by
  have d1 := cell_of_row _ _ 1 _ _ (0, 0) h.2.1
  clear h
  go_enter Tryz.func20, Tryz.ntmps20
  go_wp2_with fail
  refine (bclone_nil0 _ _).mono ?_; rintro e w1 ⟨rfl, rfl⟩
  go_wp2_with fail
  go_ret
  exact ⟨rfl, rfl⟩
set_option maxHeartbeats 2000000 in
set_option maxRecDepth 100000 in
theorem bytesClone_any {w : World} {b o n c : Nat} {l : List UInt8} (hr : Rd w 1 (some ⟨b, o, none⟩) n (bvs l)) (hl : l.length = n) (hn : n ≤ 1048576) :
    Calls Tryz.prog 69 #[.slice (some ⟨b, o, none⟩) n c] w fun e w' => ∃ v, e = .returned v ∧ w'.ownsRow w.heap.size 5 1 v n (bvs l) ∧ Later w w' := by
  have hE := fun W => eql_slice_nil_any (P := Tryz.prog) Tryz.underlying43 W (some ⟨b, o, none⟩) n c 0 0
  have HR := hide_ hr; have HL := hide_ hl
  clear hr hl
  go_enter Tryz.func69, Tryz.ntmps69
  go_wp2_with (at_builtin; refine wpList_append_rd _ rfl (.tmp 5) (.tmp 6) 43 rfl w.heap.size 5 1 1 kbyteT (.slice (some ⟨w.heap.size, 0, none⟩) 0 0) 0 [] rfl ?c1 (some ⟨b, o, none⟩) n c (bvs l) rfl (HR.out.alloc _) (bvs_one _) (by omega) (by unfold maxLen; omega) (by simp) (fun h => by cases h) ?c8)
  case c1 => exact own_new w #[] 5 1 0 w.heap.size rfl (by unfold maxLen; omega) (Nat.le_refl _)
  case c8 =>
    intro v9 w9 hown hg hat
    have HO := hide_ (show w9.ownsRow w.heap.size 5 1 v9 n (bvs l) by simpa using hown)
    have HB := hide_ (show Later w w9 from own_grown ((Below.refl _ w).alloc (Nat.le_refl _) _) (own_new w #[] 5 1 0 w.heap.size rfl (by unfold maxLen; omega) (Nat.le_refl _)) hg (by simp))
    clear hown hg hat
    go_wp2_with fail
    go_ret
    exact ⟨v9, rfl, HO.out, HB.out⟩

end Go.Proofs.YtlgnnmpfipmjeaaGreat
