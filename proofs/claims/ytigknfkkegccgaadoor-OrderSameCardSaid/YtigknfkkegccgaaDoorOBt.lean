/- Orders: Add and Close, whatever they answer. -/
import Derived.Test.YtigknfkkegccgaaDoorOBo
namespace Go.Proofs.YtigknfkkegccgaaDoor.K
open Go.RowKit
set_option linter.unusedVariables false
set_option linter.unusedSimpArgs false
/-- What Add answers. -/
def addN (os : List So) (ids : List Int) (id : Int) (ls : List Ln) : Int := if rightO ls ≠ 0 then rightO ls else if id ∈ ids then 8 else if 16 ≤ os.length ∨ 1024 ≤ ids.length then 5 else 0
/-- What Add does with a book; H: the heap's size ahead of it. -/
def AddR (H : Nat) (os : List So) (ids : List Int) (id : Int) (ls : List Ln) (n : Int) (os' : List So) (ids' : List Int) : Prop :=
  n = addN os ids id ls ∧ ((n ≠ 0 ∧ os' = os ∧ ids' = ids) ∨ (n = 0 ∧ ∃ A' c', os' = os ++ [⟨id, A', c', ls⟩] ∧ ids' = ids ++ [id] ∧ ∀ k, (Value.slice A' ls.length c').ownBlock = some k → H ≤ k))
theorem AddAny {Bb b g c : Nat} {v : Value} {os : List So} {ids : List Int} {id : Int} {A : Option Addr} {ls : List Ln} {w : World} (h : Bk Bb b g v os ids w) (hid : 0 ≤ id ∧ id < 4294967296) (hr : RowOf cL 3 w w.heap.size A ls) (hl : ls.length ≤ 1000) (hc : ls.length ≤ c) (ho : ∀ l ∈ ls, l.ok) (hos : os.length ≤ 1000) (hids : ids.length ≤ 100000) :
    Calls Tryd.prog 20 #[.pointer (some ⟨b, 0, none⟩), .agg #[.int .u32 id, .slice A ls.length c]] w fun e w' => ∃ n v' os' ids', e = .returned (.int .i64 n) ∧ AddR w.heap.size os ids id ls n os' ids' ∧ Hid (Bk Bb b g v' os' ids' w') ∧ Hid (Fr (fun j => j = b ∨ j = g ∨ v.ownBlock = some j) w w') ∧ Hid (∀ k, v'.ownBlock = some k → v.ownBlock = some k ∨ w.heap.size ≤ k) := by
  by_cases hn : rightO ls = 0
  · by_cases hm : id ∈ ids
    · refine (AddTwice h hid hr (Nat.le_refl _) (by omega) hc ho hn hm).mono ?_
      rintro e w' ⟨rfl, F⟩
      exact ⟨_, v, os, ids, rfl, ⟨by simp [addN, hn, hm], .inl ⟨by decide, rfl, rfl⟩⟩, Lib.hid (h.fr (Fr.of_below F.out) (fun _ _ _ h => h)), Lib.hid ((Fr.of_below F.out).mono (fun _ _ h => h.elim)), Lib.hid (fun k e => .inl e)⟩
    · by_cases hf : 16 ≤ os.length ∨ 1024 ≤ ids.length
      · refine (AddFull h hid hr (Nat.le_refl _) (by omega) hc ho hn hm hos hids hf).mono ?_
        rintro e w' ⟨rfl, F⟩
        exact ⟨_, v, os, ids, rfl, ⟨by simp [addN, hn, hm, hf], .inl ⟨by decide, rfl, rfl⟩⟩, Lib.hid (h.fr (Fr.of_below F.out) (fun _ _ _ h => h)), Lib.hid ((Fr.of_below F.out).mono (fun _ _ h => h.elim)), Lib.hid (fun k e => .inl e)⟩
      · refine (AddC h hid hr hc ho hn hm (by omega) (by omega)).mono ?_
        rintro e w' ⟨rfl, A', c', v', HM, HB, HF, HV⟩
        exact ⟨_, v', _, _, rfl, ⟨by simp [addN, hn, hm, hf], .inr ⟨rfl, A', c', rfl, rfl, fun k e => (HM.out.1.lt k e).1⟩⟩, HB, HF, HV⟩
  · refine (AddNo hr (Nat.le_refl _) (by omega) hc ho hn).mono ?_
    rintro e w' ⟨rfl, F⟩
    exact ⟨_, v, os, ids, rfl, ⟨by simp [addN, hn], .inl ⟨hn, rfl, rfl⟩⟩, Lib.hid (h.fr (Fr.of_below F.out) (fun _ _ _ h => h)), Lib.hid ((Fr.of_below F.out).mono (fun _ _ h => h.elim)), Lib.hid (fun k e => .inl e)⟩
def closeN (os : List So) (id : Int) : Int := if idxO id os = none then 6 else 0
def closeO (os : List So) (id : Int) : List So := match idxO id os with
  | some k => os.eraseIdx k
  | none => os
theorem CloseAny {B b g : Nat} {v : Value} {os : List So} {ids : List Int} {id : Int} {w : World} (h : Bk B b g v os ids w) (hl : os.length ≤ 1000) :
    Calls Tryd.prog 22 #[.pointer (some ⟨b, 0, none⟩), .int .u32 id] w fun e w' => e = .returned (.int .i64 (closeN os id)) ∧ ∃ v', v'.ownBlock = v.ownBlock ∧ Hid (Bk B b g v' (closeO os id) ids w') ∧ Hid (Fr (fun j => j = b ∨ v.ownBlock = some j) w w') := by
  unfold closeN closeO
  cases hi : idxO id os with
  | none =>
    refine (CloseNo h hl hi).mono ?_
    rintro e w' ⟨rfl, F⟩
    exact ⟨rfl, v, rfl, Lib.hid (h.fr (Fr.of_below F.out) (fun _ _ _ h => h)), Lib.hid ((Fr.of_below F.out).mono (fun _ _ h => h.elim))⟩
  | some k => exact CloseC h hl hi
end Go.Proofs.YtigknfkkegccgaaDoor.K
