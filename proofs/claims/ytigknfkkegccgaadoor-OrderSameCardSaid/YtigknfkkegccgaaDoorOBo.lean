/- OrderBookOrder: its words. -/
import Derived.Test.YtigknfkkegccgaaDoorOBd
import Derived.Test.YtigknfkkegccgaaDoorOOnce
namespace Go.Proofs.YtigknfkkegccgaaDoor.K
open Go.RowKit
set_option linter.unusedVariables false
set_option linter.unusedSimpArgs false
abbrev c32 : Int → List Value := fun x => [.int .u32 x]
theorem nums32_flat (l : List Int) : nums .u32 l = l.flatMap c32 := by
  induction l with
  | nil => rfl
  | cons x l ih => rw [List.flatMap_cons, ← ih]; rfl
theorem idxO_nodup {os : List So} (h : (os.map So.id).Nodup) {m : Nat} (hm : m < os.length) : idxO (os[m]).id os = some m := by
  unfold idxO
  rw [List.findIdx?_eq_some_iff_getElem]
  refine ⟨hm, by simp, fun j hj => ?_⟩
  have := List.pairwise_iff_getElem.1 h j m (by simp; omega) (by simp; omega) hj
  simpa using this
theorem erase_map (os : List So) (m : Nat) : (os.eraseIdx m).map So.id = (os.map So.id).eraseIdx m := by
  rw [List.eraseIdx_eq_take_drop_succ, List.eraseIdx_eq_take_drop_succ, List.map_append, List.map_take, List.map_drop]
theorem nodup_erase {os : List So} (h : (os.map So.id).Nodup) (m : Nat) : ((os.eraseIdx m).map So.id).Nodup := by
  rw [erase_map]; exact h.sublist (List.eraseIdx_sublist _ _)
theorem idxO_gone {os : List So} (h : (os.map So.id).Nodup) {m : Nat} (hm : m < os.length) : idxO (os[m]).id (os.eraseIdx m) = none := by
  unfold idxO
  rw [List.findIdx?_eq_none_iff]
  intro o ho
  rw [List.eraseIdx_eq_take_drop_succ, List.mem_append] at ho
  have hp : ∀ (i j : Nat) (hi : i < os.length) (hj : j < os.length), i < j → (os[i]).id ≠ (os[j]).id := fun i j hi hj hij => by
    have := List.pairwise_iff_getElem.1 h i j (by simpa using hi) (by simpa using hj) hij
    rw [List.getElem_map, List.getElem_map] at this
    exact this
  have hne : ∀ j (hj : j < os.length), j ≠ m → (os[j]).id ≠ (os[m]).id := fun j hj hjm => by
    rcases Nat.lt_or_ge j m with a | a
    · exact hp j m hj hm a
    · exact fun e => hp m j hm hj (by omega) e.symm
  rcases ho with ho | ho
  · obtain ⟨j, hj, rfl⟩ := List.getElem_of_mem ho
    rw [List.length_take] at hj
    rw [List.getElem_take]
    simpa using hne j (by omega) (by omega)
  · obtain ⟨j, hj, rfl⟩ := List.getElem_of_mem ho
    rw [List.length_drop] at hj
    rw [List.getElem_drop]
    simpa using hne (m + 1 + j) (by omega) (by omega)
/-- A book stays behind a turn of a row of another kind. -/
theorem Bk.fr2 {B b g base n size : Nat} {t : TypeId} {v v2 : Value} {xs : List Value} {os : List So} {ids : List Int} {w w' : World} (h : Bk B b g v os ids w) (k : Fr (fun j => v2.ownBlock = some j) w w') (h2 : w.ownsRow base t size v2 n xs) (e1 : t ≠ 95) (e2 : t ≠ 25) (e3 : t ≠ 51) : Bk B b g v os ids w' :=
  ⟨h.blk.fr k (fun e => own_blk_ne h2 h.blk e1 e), own_fr h.row k (fun j e e' => own_ne h2 h.row e2 j e' e), fun o ho => (h.each o ho).fr k (fun j e e' => own_ne h2 (h.each o ho).1 e3 j e' e), h.ever.fr k (fun e => ever_own_ne h.ever h2 e), h.low⟩
theorem ownU_cap {w : World} {base g n c : Nat} {xs : List Value} (h : w.ownsRow base 22 1 (.slice (some ⟨g, 0, none⟩) n c) n xs) : n ≤ c ∧ c ≤ 9223372036854775807 := by
  rcases h.2 with ⟨e, _⟩ | ⟨g', cap, cur, e, _, _, h1, h2, _⟩
  · cases e
  · injection e with _ _ e
    subst e
    exact ⟨h1, h2⟩
/-- What the law puts into an order. -/
structure OkB (o : So) : Prop where
  one : ∃ it, o.ls = [⟨it, 5, 701 - o.id⟩]
  lo : 684 ≤ o.id
  hi : o.id ≤ 700
def lftB (k : Nat) : List Int := (List.range k).map (fun i : Nat => 700 - (i : Int))
theorem lftB_len (k : Nat) : (lftB k).length = k := by simp [lftB]
theorem lftB_succ (k : Nat) : lftB (k + 1) = lftB k ++ [700 - (k : Int)] := by simp [lftB, List.range_succ]
theorem lftB_new (k : Nat) : (700 - (k : Int)) ∉ lftB k := by
  intro h
  obtain ⟨i, hi, e⟩ := List.mem_map.1 h
  have := List.mem_range.1 hi
  omega
theorem lftB_nodup (k : Nat) : (lftB k).Nodup := by
  unfold lftB
  rw [List.Nodup, List.pairwise_map]
  exact List.Pairwise.imp (fun {a b} h => by omega) (List.nodup_range (n := k))
end Go.Proofs.YtigknfkkegccgaaDoor.K
