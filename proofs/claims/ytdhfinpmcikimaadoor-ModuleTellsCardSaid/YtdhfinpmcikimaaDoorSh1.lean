/- What must be in any case: shown of layer 1. -/
import Derived.Test.YtdhfinpmcikimaaDoorStr
import Derived.Lib.SmallJoins
import Derived.WalkSpells
import Derived.Lib.SlBytesConst
namespace Go.Proofs.YtdhfinpmcikimaaDoor.K
open Go.RowKit
set_option linter.unusedVariables false
set_option linter.unusedSimpArgs false
theorem RU8_is {r : Nat} {G : Option Nat} {l m : List Int} {x : Int} {w : World} (h : Rd r G l w) (hn : 1 ≤ l.length) (hb : InB l) (hx : num (l.take 1) = x) (hm : l.drop 1 = m) :
    Calls Tryd.prog 49 #[.pointer (some ⟨r, 0, none⟩)] w fun e w' => e = .returned (.tuple #[.int .u8 x, .int .i64 0]) ∧ Hid (Rd r G m w') ∧ Hid (Fr1 r w w') := by subst hx hm; exact RU8_ok h hn hb
theorem RU16_is {r : Nat} {G : Option Nat} {l m : List Int} {x : Int} {w : World} (h : Rd r G l w) (hn : 2 ≤ l.length) (hb : InB l) (hx : num (l.take 2) = x) (hm : l.drop 2 = m) :
    Calls Tryd.prog 50 #[.pointer (some ⟨r, 0, none⟩)] w fun e w' => e = .returned (.tuple #[.int .u16 x, .int .i64 0]) ∧ Hid (Rd r G m w') ∧ Hid (Fr1 r w w') := by subst hx hm; exact RU16_ok h hn hb
theorem inB_of {l : List Int} (h : (l.all fun x => decide (0 ≤ x) && decide (x < 256)) = true) : InB l := fun x hx => by
  have := List.all_eq_true.1 h x hx
  simpa using this
theorem Wrt.fr {b : Nat} {v : Value} {l : List Int} {S : Nat → Prop} {w w' : World} (h : Wrt b v l w) (k : Fr S w w') (hb : ¬ S b) (hv : ∀ j, v.ownBlock = some j → ¬ S j) : Wrt b v l w' := by
  obtain ⟨⟨lr, h1⟩, h2, h3⟩ := h
  exact ⟨⟨lr, h1.fr k hb⟩, own_fr h2 k hv, h3⟩
theorem Wrt.alloc {b : Nat} {v : Value} {l : List Int} {w : World} (h : Wrt b v l w) (o : Obj) : Wrt b v l (w.alloc o) := h.fr ((Fr.refl (fun _ => False) w).alloc o) (fun h => h) (fun _ _ h => h)
theorem Wrt.lt {b : Nat} {v : Value} {l : List Int} {w : World} (h : Wrt b v l w) : b < w.heap.size := by obtain ⟨⟨lr, h1⟩, _⟩ := h; exact h1.lt
theorem Wrt.ltv {b : Nat} {v : Value} {l : List Int} {w : World} (h : Wrt b v l w) : ∀ j, v.ownBlock = some j → j < w.heap.size := fun j e => (h.2.1.lt j e).2
theorem row_vals {α : Type} {c : α → List Value} {f : α → Value} {w : World} {g B : Nat} {t : TypeId} {l : List α} (hc : ∀ x, c x = [f x]) (h : Blk w g t (l.map f).toArray) (hg : g < B) : RowOf c 1 w B (some ⟨g, 0, none⟩) l := by
  intro i x hx
  refine ⟨_, rfl, hg, fun j u hu => ?_⟩
  rw [hc] at hu
  match j, hu with
  | 0, hu =>
    simp at hu; subst hu
    rw [add_plain, h.cell]
    simp [hx]
/-- What lies in a block that is neither a Writer's own nor its row's. -/
theorem away_ge {b : Nat} {v : Value} {w : World} {g o n : Nat} (hg : n ≤ g) (hgw : g < w.heap.size) (hb : b < n) (hv : ∀ j, v.ownBlock = some j → j < n) : Away b v w (some ⟨g, o, none⟩) := fun ad e => by
  injection e with e; subst e
  refine ⟨hgw, ?_, fun e => ?_⟩
  · show g ≠ b
    omega
  · have := hv _ e
    simp at this; omega
theorem away_none {b : Nat} {v : Value} {w : World} : Away b v w none := fun ad e => by cases e
theorem row_none {α : Type} {c : α → List Value} {size : Nat} {w : World} {B : Nat} : RowOf c size w B none ([] : List α) := fun i x h => by simp at h
theorem row_lit {w : World} {g B : Nat} {l : List Int} {fr : Nat × Nat} (h : w.heap[g]? = some (.cells (nums .u8 l).toArray 5 fr)) (hg : g < B) : RowOf c8 1 w B (some ⟨g, 0, none⟩) l := by
  intro i x hx
  refine ⟨_, rfl, hg, fun j u hu => ?_⟩
  match j, hu with
  | 0, hu =>
    simp at hu; subst hu
    rw [add_plain, cell_of_row w g _ _ _ _ h]
    simp [nums, hx]
theorem heap_alloc_old {w : World} {g : Nat} {x : Obj} (h : w.heap[g]? = some x) (o : Obj) : (w.alloc o).heap[g]? = some x := by
  have : g < w.heap.size := by
    rcases Nat.lt_or_ge g w.heap.size with hlt | hge
    · exact hlt
    · rw [Array.getElem?_eq_none hge] at h; cases h
  exact (Below.heap_alloc w o g this).trans h
theorem Blk.new_at {w : World} {t : TypeId} {cs : Array Value} {g : Nat} (hg : g = w.heap.size) : Blk (w.alloc (.cells cs t)) g t cs := by subst hg; exact Blk.new w t cs
theorem heap_new_at {w : World} {o : Obj} {g : Nat} (hg : g = w.heap.size) : (w.alloc o).heap[g]? = some o := by subst hg; exact heap_alloc_new w o
theorem kconv (w : World) (C : Array Value) (n c : Nat) : (convert 26 26 (.slice (some ⟨w.heap.size, 0, none⟩) n c)).run Tryd.prog (w.alloc (.cells C 5)) = .ok (.slice (some ⟨w.heap.size, 0, none⟩) n c) (w.alloc (.cells C 5 (C.size, C.size + 1))) := Lib.run_convert_bytes_const (P := Tryd.prog) w 26 5 C n c Tryd.underlying26 Tryd.underlying5
theorem kconv1 (w : World) (o : Obj) (C : Array Value) (n c : Nat) : (convert 26 26 (.slice (some ⟨w.heap.size + 1, 0, none⟩) n c)).run Tryd.prog ((w.alloc o).alloc (.cells C 5)) = .ok (.slice (some ⟨w.heap.size + 1, 0, none⟩) n c) ((w.alloc o).alloc (.cells C 5 (C.size, C.size + 1))) := Joins.run_convert_bytes_const_at (P := Tryd.prog) (w.alloc o) 26 5 C n c _ (by simp) Tryd.underlying26 Tryd.underlying5
theorem Wrt.to {b : Nat} {v : Value} {l m : List Int} {w : World} (h : Wrt b v l w) (e : l = m) : Wrt b v m w := e ▸ h
theorem fr1_below {r B : Nat} {w w1 w2 : World} (h : Below B w w1) (k : Fr1 r w1 w2) (hr : B ≤ r) (hB : B ≤ w.heap.size) : Below B w w2 :=
  below_fr h k (below_size h hB) (fun j e => by omega)
theorem fr0_below {B : Nat} {w w1 w2 : World} (h : Below B w w1) (k : Fr0 w1 w2) (hB : B ≤ w.heap.size) : Below B w w2 :=
  below_fr h k (below_size h hB) (fun j e => e.elim)
theorem wfr_below {b B : Nat} {v v' : Value} {w w1 w2 : World} (h : Below B w w1) (k : WFr b v v' w1 w2) (hb : B ≤ b) (hv : ∀ j, v.ownBlock = some j → B ≤ j) (hB : B ≤ w.heap.size) : Below B w w2 :=
  below_fr h k.fr (below_size h hB) (fun j e => by
    rcases e with e | e
    · omega
    · exact hv j e)
theorem wfr_base {b B : Nat} {v v' : Value} {w w' : World} (k : WFr b v v' w w') (hv : ∀ j, v.ownBlock = some j → B ≤ j) (hB : B ≤ w.heap.size) : ∀ j, v'.ownBlock = some j → B ≤ j := fun j e => by
  rcases k.row j e with h | h
  · exact hv j h
  · omega
theorem base_nil (B : Nat) : ∀ j, (Value.slice none 0 0).ownBlock = some j → B ≤ j := fun j e => by simp [Value.ownBlock] at e
end Go.Proofs.YtdhfinpmcikimaaDoor.K
