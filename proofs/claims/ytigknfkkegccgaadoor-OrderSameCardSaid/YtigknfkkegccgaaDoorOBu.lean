/- Orders: steps, as they come in; what stays beside a book. -/
import Derived.Test.YtigknfkkegccgaaDoorOBs
import Derived.Test.YtigknfkkegccgaaDoorOBt
namespace Go.Proofs.YtigknfkkegccgaaDoor.K
open Go.RowKit
set_option linter.unusedVariables false
set_option linter.unusedSimpArgs false
/-- A step. -/
structure Sp where
  kind : Int
  oid : Int
  A : Option Addr
  c : Nat
  ls : List Ln
  id : Int
abbrev cS : Sp → List Value := fun s => [.int .i64 s.kind, .int .u32 s.oid, .slice s.A s.ls.length s.c, .int .u32 s.id]
structure SpOk (w : World) (s : Sp) : Prop where
  k : -9223372036854775808 ≤ s.kind ∧ s.kind < 9223372036854775808
  o : 0 ≤ s.oid ∧ s.oid < 4294967296
  i : 0 ≤ s.id ∧ s.id < 4294967296
  row : RowOf cL 3 w w.heap.size s.A s.ls
  cap : s.ls.length ≤ s.c
  ok : ∀ l ∈ s.ls, l.ok
theorem RowOf.sp {w : World} {B : Nat} {A : Option Addr} {l : List Sp} (h : RowOf cS 4 w B A l) {k : Nat} (hk : k < l.length) : ∃ ad, A = some ad ∧ ad.block < B ∧ w.cell? (ad.add (k * 4)) = some (.int .i64 (l[k]).kind) ∧
    w.cell? ⟨(ad.add (k * 4)).block, (ad.add (k * 4)).off + 1, none⟩ = some (.int .u32 (l[k]).oid) ∧ w.cell? ⟨(ad.add (k * 4)).block, (ad.add (k * 4)).off + 2, none⟩ = some (.slice (l[k]).A (l[k]).ls.length (l[k]).c) ∧ w.cell? ⟨(ad.add (k * 4)).block, (ad.add (k * 4)).off + 3, none⟩ = some (.int .u32 (l[k]).id) := by
  obtain ⟨ad, rfl, hb, hcc⟩ := h k (l[k]) (List.getElem?_eq_getElem hk)
  have c0 := hcc 0 _ rfl
  have c1 := hcc 1 _ rfl
  have c2 := hcc 2 _ rfl
  have c3 := hcc 3 _ rfl
  rw [add_field ad (k * 4) _ (by omega)] at c1 c2 c3
  exact ⟨ad, rfl, hb, c0, c1, c2, c3⟩
section
variable {B b g : Nat} {v : Value} {os : List So} {ids : List Int} {w w' : World}
theorem Bk.keepB {p : Nat} {t : TypeId} {cs : Array Value} (h : Bk B b g v os ids w) (k : Fr (fun j => j = b ∨ j = g ∨ v.ownBlock = some j) w w') (hp : Blk w p t cs) (hl : p < B) : Blk w' p t cs :=
  hp.fr k (fun e => by
    have := h.low
    rcases e with e | e | e
    · omega
    · omega
    · have := (h.row.lt p e).1; omega)
theorem Bk.keepL {B' c : Nat} {A : Option Addr} {l : List Ln} (h : Bk B b g v os ids w) (k : Fr (fun j => j = b ∨ j = g ∨ v.ownBlock = some j) w w') (hm : MadeL B' A c l w) : MadeL B' A c l w' :=
  hm.fr k (fun j e e' => by
    rcases e' with e' | e' | e'
    · exact own_blk_ne hm.1 h.blk (by decide) (e' ▸ e)
    · exact ever_own_ne h.ever hm.1 (e' ▸ e)
    · exact own_ne hm.1 h.row (by decide) j e e')
theorem Bk.keepD {B0 : Nat} {w0 : World} (h : Bk B b g v os ids w) (k : Fr (fun j => j = b ∨ j = g ∨ v.ownBlock = some j) w w') (hd : Below B0 w0 w) (h0 : B0 ≤ B) (h1 : B0 ≤ w0.heap.size) : Below B0 w0 w' :=
  hd.trans (k.below (fun j _ e => by
    have := h.low
    rcases e with e | e | e
    · omega
    · omega
    · have := (h.row.lt j e).1; omega) (Nat.le_trans h1 hd.size))
theorem Fr.cl {v' : Value} (k : Fr (fun j => j = b ∨ v.ownBlock = some j) w w') : Fr (fun j => j = b ∨ j = g ∨ v.ownBlock = some j) w w' := k.mono (fun j _ e => e.imp id (fun e => .inr e))
end
theorem closeO_cons {id id0 : Int} {A : Option Addr} {c : Nat} {ls : List Ln} {r : List So} (h : id ≠ id0) : ∃ r', closeO (⟨id0, A, c, ls⟩ :: r) id = ⟨id0, A, c, ls⟩ :: r' ∧ r'.length ≤ r.length := by
  unfold closeO
  cases hi : idxO id (⟨id0, A, c, ls⟩ :: r) with
  | none => exact ⟨r, rfl, Nat.le_refl _⟩
  | some k =>
    obtain ⟨hk, he⟩ := idxO_some hi
    cases k with
    | zero => exact absurd he.symm h
    | succ k => exact ⟨r.eraseIdx k, rfl, by rw [List.length_eraseIdx]; split <;> omega⟩
theorem idxO_first {id : Int} {A : Option Addr} {c : Nat} {ls : List Ln} {r : List So} : idxO id (⟨id, A, c, ls⟩ :: r) = some 0 := by
  unfold idxO
  rw [List.findIdx?_cons]
  simp
theorem addR_cons {H : Nat} {id0 id n : Int} {A : Option Addr} {c : Nat} {ls ms : List Ln} {r os' : List So} {ids ids' : List Int} (h : AddR H (⟨id0, A, c, ls⟩ :: r) ids id ms n os' ids') (hl : r.length + 1 ≤ 16) : (∃ r', os' = ⟨id0, A, c, ls⟩ :: r' ∧ r'.length + 1 ≤ 16) ∧ ids'.length ≤ ids.length + 1 ∧ ∀ x ∈ ids, x ∈ ids' := by
  obtain ⟨hn, h⟩ := h
  rcases h with ⟨_, rfl, rfl⟩ | ⟨h0, A', c', rfl, rfl, _⟩
  · exact ⟨⟨r, rfl, hl⟩, by omega, fun x h => h⟩
  · have : ¬ 16 ≤ r.length + 1 := fun h => by
      have : addN (⟨id0, A, c, ls⟩ :: r) ids id ms ≠ 0 := by
        unfold addN
        split
        · assumption
        · split
          · decide
          · rw [if_pos (.inl (by simpa using h))]; decide
      omega
    exact ⟨⟨r ++ [⟨id, A', c', ms⟩], rfl, by rw [List.length_append, List.length_singleton]; omega⟩, by rw [List.length_append, List.length_singleton]; omega, fun x h => List.mem_append_left _ h⟩
end Go.Proofs.YtigknfkkegccgaaDoor.K
