/- What the laws about octets share. -/
import Derived.Test.YtdhfinpmcikimaaDoorPl
import Derived.Deep.QuietTactic
import Derived.BigQuiet
import Derived.Outline
import Derived.Deep.DrawnRows
import Derived.Deep.RegionHeld
namespace Go.Proofs.YtdhfinpmcikimaaDoor.K
open Go.RowKit
set_option linter.unusedVariables false
set_option linter.unusedSimpArgs false
theorem min_two (ats : Array TypeId) (ty : TypeId) (a b : Value) : Builtin.min_ ats ty #[a, b] = (Builtin.min2 a b >>= fun s => pure s) := by simp only [Builtin.min_, List.foldlM_cons, List.foldlM_nil]
theorem min2_min (k k' : IntKind) (x y : Int) : Builtin.min2 (.int k x) (.int k' y) = pure (.int k (min x y)) := by
  simp only [Builtin.min2]; congr 2; split <;> omega
theorem min_nat (n k : Nat) : ∃ m : Nat, min (n : Int) (k : Int) = (m : Int) ∧ m ≤ n ∧ m ≤ k := ⟨min n k, by omega, by omega, by omega⟩
theorem and_mask (x : Int) (k : Nat) (hk : k < 9223372036854775808) : ∃ m : Nat, m ≤ k ∧ bits .and .i64 x k = m := by
  have h2 : (BitVec.ofInt 64 (k : Int)).toNat = k := by
    rw [BitVec.ofInt_natCast, BitVec.toNat_ofNat]; exact Nat.mod_eq_of_lt (by omega)
  have h : (BitVec.ofInt 64 x &&& BitVec.ofInt 64 (k : Int)).toNat ≤ k := by
    rw [BitVec.toNat_and, h2]
    exact Nat.and_le_right
  refine ⟨_, h, ?_⟩
  show IntKind.i64.wrap ((BitVec.ofInt 64 x &&& BitVec.ofInt 64 (k : Int)).toNat : Int) = _
  rw [IntKind.wrap_i64]
  omega
/-- x[:k], of any slice. -/
theorem cut_hi {t e : TypeId} {i : TypeInfo} (ht : Tryd.prog.underlying t = some (.slice e)) (hi : Tryd.prog.info? e = some i) (A : Option Addr) (n c k : Nat) (hc : k ≤ c) (W : World) : (Instr.slice t (.slice A n c) none (some (.int .i64 k)) none).run Tryd.prog W = .ok (.slice A k c) W := by
  have hel : Tryd.prog.elem t = e := by simp [Program.elem, ht]
  have hu : Tryd.prog.underlying t = some (.slice (Tryd.prog.elem t)) := by rw [hel]; exact ht
  rw [run_slice_h W t A n c hu .i64 k (by omega) (by omega), hel]
  by_cases hcn : c = 0 <;> cases A <;> simp [sizeOf, typeInfo, hi, sliced, Result.andThen, Addr.add, hcn]
/-- x[k:], of any slice of elements of one cell. -/
theorem cut_lo {t e : TypeId} {i : TypeInfo} (ht : Tryd.prog.underlying t = some (.slice e)) (hi : Tryd.prog.info? e = some i) (h1 : i.size = 1) (A : Option Addr) (n c k : Nat) (hk : k ≤ n) (hc : n ≤ c) (hcm : c ≤ 9223372036854775807) (W : World) : (Instr.slice t (.slice A n c) (some (.int .i64 k)) none none).run Tryd.prog W = .ok (.slice (if c = k then A else A.map (·.add k)) (n - k) (c - k)) W := by
  have hel : Tryd.prog.elem t = e := by simp [Program.elem, ht]
  have hu : Tryd.prog.underlying t = some (.slice (Tryd.prog.elem t)) := by rw [hel]; exact ht
  rw [run_slice_l W t A n c hu .i64 k (by omega) (by omega), hel]
  by_cases hcn : c = k
  · subst hcn
    cases A <;> simp [sizeOf, typeInfo, hi, h1, sliced, Result.andThen]
  · cases A <;> simp [sizeOf, typeInfo, hi, h1, sliced, Result.andThen, hcn]
theorem RowOf.take_ {α : Type} {c : α → List Value} {size : Nat} {w : World} {B : Nat} {A : Option Addr} {l : List α} (h : RowOf c size w B A l) (n : Nat) : RowOf c size w B A (l.take n) := by
  intro i x hx
  refine h i x ?_
  rw [List.getElem?_take] at hx
  split at hx
  · exact hx
  · cases hx
theorem RowOf.drop_ {α : Type} {c : α → List Value} {w : World} {B cap : Nat} {A : Option Addr} {l : List α} (h : RowOf c 1 w B A l) (k : Nat) (hc : l.length ≤ cap) : RowOf c 1 w B (if cap = k then A else A.map (·.add k)) (l.drop k) := by
  intro i x hx
  rw [List.getElem?_drop] at hx
  obtain ⟨ad, rfl, hb, hcc⟩ := h (k + i) x hx
  have hlt : k + i < l.length := (List.getElem?_eq_some_iff.1 hx).1
  rw [if_neg (by omega)]
  refine ⟨_, rfl, by rw [block_of_add]; exact hb, fun j u hu => ?_⟩
  have := hcc j u hu
  rw [add_of_add]
  rwa [show k + (i * 1 + j) = (k + i) * 1 + j by omega]
theorem bytes_info : ∃ i, Tryd.prog.info? 5 = some i ∧ i.size = 1 := by
  obtain ⟨i, h1, _, h2, _⟩ := info_parts info_u8
  exact ⟨i, h1, h2⟩
theorem bcut_hi (A : Option Addr) (n c k : Nat) (hc : k ≤ c) (W : World) : (Instr.slice 26 (.slice A n c) none (some (.int .i64 k)) none).run Tryd.prog W = .ok (.slice A k c) W := by
  obtain ⟨i, h1, _⟩ := bytes_info
  exact cut_hi Tryd.underlying26 h1 A n c k hc W
theorem bcut_lo (A : Option Addr) (n c k : Nat) (hk : k ≤ n) (hc : n ≤ c) (hcm : c ≤ 9223372036854775807) (W : World) : (Instr.slice 26 (.slice A n c) (some (.int .i64 k)) none none).run Tryd.prog W = .ok (.slice (if c = k then A else A.map (·.add k)) (n - k) (c - k)) W := by
  obtain ⟨i, h1, h2⟩ := bytes_info
  exact cut_lo Tryd.underlying26 h1 h2 A n c k hk hc hcm W
theorem gne {r : Nat} {G : Option Nat} {l : List Int} {w : World} (h : Rd r G l w) : ∀ g, G = some g → g ≠ r := fun g e => by
  obtain ⟨o, c, cells, hb, _, _, hG, _⟩ := h
  exact Blk.ne_ (hG g e).1 hb (by decide)
theorem made_lt {B : Nat} {A : Option Addr} {c : Nat} {l : List Int} {w : World} (h : Made B A c l w) : ∀ ad, A = some ad → B ≤ ad.block ∧ ad.block < w.heap.size := fun ad e => by
  subst e
  exact h.1.lt ad.block rfl
theorem row_fr {α : Type} {c : α → List Value} {size : Nat} {A : Option Addr} {l : List α} {w w' : World} {S : Nat → Prop} {B : Nat} (h : RowOf c size w B A l) (k : Fr S w w') (ha : ∀ ad, A = some ad → ad.block < w.heap.size ∧ ¬ S ad.block) : RowOf c size w' B A l := by
  intro i x hx
  obtain ⟨ad, rfl, hb, hc⟩ := h i x hx
  obtain ⟨h1, h2⟩ := ha ad rfl
  exact ⟨ad, rfl, hb, fun j u hu => by rw [k.cell (by rw [block_of_add]; exact h1) (by rw [block_of_add]; exact h2)]; exact hc j u hu⟩
theorem ReadE {A : Option Addr} {c n : Nat} {l : List Int} {w : World} (hn : l.length = n) (hl : l.length ≤ 140737488355328) (h : RowOf c8 1 w w.heap.size A l) :
    Calls Tryd.prog 48 #[.slice A n c] w fun e w' => ∃ r G, e = .returned (.pointer (some ⟨r, 0, none⟩)) ∧ w.heap.size ≤ r ∧ (∀ g, G = some g → w.heap.size ≤ g) ∧ Hid (Rd r G l w') ∧ Hid (Fr0 w w') := by subst hn; exact ReadC hl h
theorem WDoneE {b n : Nat} {v : Value} {l : List Int} {w : World} (hn : l.length = n) (h : Wrt b v l w) (hl : l.length ≤ 140737488355328) :
    Calls Tryd.prog 47 #[.pointer (some ⟨b, 0, none⟩)] w fun e w' => ∃ A' c', e = .returned (.slice A' n c') ∧ Hid (Made w.heap.size A' c' l w') ∧ Hid (Fr0 w w') := by subst hn; exact WDoneC h hl
theorem str_n {w : World} {B n : Nat} {A : Option Addr} {l : List Int} {c : Nat} (hn : l.length = n) (h : RowOf c8 1 w B A l) :
    (convert 26 9 (.slice A n c)).run Tryd.prog w = .ok (.string (strOfNums l)) w := by subst hn; exact str_row h
/-- Below some number all is as it was: what a row that was there reads still. -/
theorem RowOf.ext {α : Type} {c : α → List Value} {size : Nat} {w w' : World} {B B' : Nat} {A : Option Addr} {l : List α} (h : RowOf c size w B A l) (hb : Below B' w w') (hB : B ≤ B') : RowOf c size w' B A l := h.below (hb.mono hB)
theorem below_drewN {B : Nat} {w W : World} (h : Below B w W) (n : Nat) : Below B w (W.drewN n) := ⟨h.os, h.tape, h.output, h.size, h.block⟩
theorem below_dr {B : Nat} {w W : World} (h : Below B w W) : Below B w W.drew := ⟨h.os, h.tape, h.output, h.size, h.block⟩
theorem row_none_nil {α : Type} {c : α → List Value} {size : Nat} {w : World} {B : Nat} {l : List α} (h : RowOf c size w B none l) : l = [] := by
  cases l with
  | nil => rfl
  | cons y l => obtain ⟨ad, e, _⟩ := h 0 y rfl; cases e
end Go.Proofs.YtdhfinpmcikimaaDoor.K
