/- Texts of this claim in one, 1 of 3, each with its own head. -/
import Derived.Below
import Derived.Laws.OwnMore
import Derived.Deep.AppendLies
import Derived.Deep.Draws
import Derived.Laws.Rows
import Derived.Maps.AppendAt
import Derived.RegionTactic
import Derived.OwnWalk
import Derived.Lib.Hide
import Derived.KernelRfl
import Derived.SizedLaws
import Derived.ChangeSlices
import Derived.Deep.Slices
import Derived.Deep.Fields
import Derived.ProofKit
import Derived.OpenShut
import Derived.Shelf.LaysM
import Derived.Shelf.Bytes.TryGrowAt
import Derived.Shelf.Bytes.GrowSlice
import Derived.Test.YtigknfkkegccgaaDoorProg
import Derived.Deep.RegionWith
import Derived.BigQuiet
import Derived.Laws.CopyOwn
import Derived.Outline
import Derived.Laws.Shifts
import Derived.Deep.QuietTactic
import Derived.Laws.BitsLemmas
import Derived.Laws.BytesArg
import Derived.Lib.SmallJoins
import Derived.WalkSpells
import Derived.Lib.SlBytesConst
import Derived.Deep.DrawnRows
import Derived.Deep.RegionHeld
import Derived.Deep.RegionHeldLaw
import Derived.WalkLawsBesides
import Derived.Defers
import Derived.Recover
import Derived.Laws.Pointers
import Derived.Maps.OwnSet
import Derived.Maps.Views
import Derived.Maps.Own
import Derived.Laws.ResultCell
import Derived.Orders
/- Small words on memory for this seat's walks: a slice that reads as a list, a block known whole, a frame that says which blocks may have turned. The first two follow the guide's page of extra words. -/
namespace Go.Proofs.YtigknfkkegccgaaDoor.K
open Go.RowKit
set_option linter.unusedVariables false
set_option linter.unusedSimpArgs false

theorem ret_int {k : IntKind} {a b : Int} (h : a = b) : Ending.returned (.int k a) = .returned (.int k b) := by rw [h]
theorem ret_bool {a b : Bool} (h : a = b) : Ending.returned (.bool a) = .returned (.bool b) := by rw [h]

/-- Block g is just these cells of element type t, none frozen. -/
def Blk (w : World) (g : Nat) (t : TypeId) (cs : Array Value) : Prop := w.heap[g]? = some (.cells cs t (0, 0))

/-- What was there stays, but for the blocks of S. -/
structure Fr (S : Nat → Prop) (w w' : World) : Prop where
  os : w'.os = w.os
  tape : w'.tape = w.tape
  output : w'.output = w.output
  size : w.heap.size ≤ w'.heap.size
  block : ∀ k, k < w.heap.size → ¬ S k → w'.heap[k]? = w.heap[k]?
/-- Nothing that was there has turned. -/
abbrev Fr0 (w w' : World) : Prop := Fr (fun _ => False) w w'
/-- Nothing that was there has turned but block g. -/
abbrev Fr1 (g : Nat) (w w' : World) : Prop := Fr (fun k => k = g) w w'

section
variable {w w1 w' w2 : World} {S S' : Nat → Prop} {B : Nat}
theorem Fr.refl (S : Nat → Prop) (w : World) : Fr S w w := ⟨rfl, rfl, rfl, Nat.le_refl _, fun _ _ _ => rfl⟩
theorem Fr.trans (h : Fr S w w1) (k : Fr S' w1 w2) (hs : ∀ j, j < w.heap.size → S' j → S j) : Fr S w w2 :=
  ⟨k.os.trans h.os, k.tape.trans h.tape, k.output.trans h.output, Nat.le_trans h.size k.size, fun i hi hn => (k.block i (Nat.lt_of_lt_of_le hi h.size) (fun hS => hn (hs i hi hS))).trans (h.block i hi hn)⟩
theorem Fr.mono (h : Fr S w w1) (hs : ∀ j, j < w.heap.size → S j → S' j) : Fr S' w w1 := ⟨h.os, h.tape, h.output, h.size, fun i hi hn => h.block i hi (fun hS => hn (hs i hi hS))⟩
theorem Fr.drew (h : Fr S w w1) : Fr S w w1.drew := ⟨h.os, h.tape, h.output, h.size, h.block⟩
theorem Fr.drewN (h : Fr S w w1) (n : Nat) : Fr S w (w1.drewN n) := ⟨h.os, h.tape, h.output, h.size, h.block⟩
theorem Fr.alloc (h : Fr S w w1) (o : Obj) : Fr S w (w1.alloc o) :=
  ⟨h.os, h.tape, h.output, Nat.le_trans h.size (by simp), fun i hi hn => (Below.heap_alloc w1 o i (Nat.lt_of_lt_of_le hi h.size)).trans (h.block i hi hn)⟩
theorem Fr.setCell (h : Fr S w w1) {p : Addr} (hp : p.block < w.heap.size → S p.block) (u : Value) : Fr S w (w1.setCell p u) :=
  ⟨h.os, h.tape, h.output, by simpa [World.setCell] using h.size, fun i hi hn => (Below.heap_setCell w1 p u i (by rintro rfl; exact hn (hp hi))).trans (h.block i hi hn)⟩
theorem Fr.below (h : Fr S w w1) (hs : ∀ j, j < w.heap.size → S j → B ≤ j) (hB : B ≤ w.heap.size) : Below B w w1 :=
  ⟨h.os, h.tape, h.output, h.size, fun k hk => h.block k (Nat.lt_of_lt_of_le hk hB) (fun hS => by have := hs k (Nat.lt_of_lt_of_le hk hB) hS; omega)⟩
theorem Fr.below0 (h : Fr0 w w1) : Below w.heap.size w w1 := h.below (fun _ _ h => h.elim) (Nat.le_refl _)
theorem Fr.of_below (h : Below w.heap.size w w1) : Fr0 w w1 := ⟨h.os, h.tape, h.output, h.size, fun k hk _ => h.block k hk⟩
theorem Fr.of_grown {row : Option Nat} (h : w.grownBy w1 row) : Fr (fun k => some k = row) w w1 := ⟨h.os, h.tape, h.output, h.size, fun k hk hn => h.block k hk hn⟩
theorem Fr.grown {row : Option Nat} (h : Fr S w w1) (k : w1.grownBy w2 row) (hs : ∀ j, j < w.heap.size → row = some j → S j) : Fr S w w2 :=
  h.trans (Fr.of_grown k) (fun j hj e => hs j hj e.symm)
theorem Fr.far (h : Fr S w w1) {k : Nat} (hk : k < w.heap.size) (hn : ¬ S k) : w1.heap[k]? = w.heap[k]? := h.block k hk hn
/-- A loop's limb: below B nothing has turned, and one step more. -/
theorem below_fr {a : World} (h : Below B a w) (k : Fr S w w1) (hB : B ≤ w.heap.size) (hs : ∀ j, S j → B ≤ j) : Below B a w1 :=
  h.trans (k.below (fun j _ hj => hs j hj) hB)
theorem below_size {a : World} (h : Below B a w) (hB : B ≤ a.heap.size) : B ≤ w.heap.size := Nat.le_trans hB h.size
end

section
variable {w w' : World} {g : Nat} {t : TypeId} {cs : Array Value} {S : Nat → Prop}
theorem Blk.lt (h : Blk w g t cs) : g < w.heap.size := by
  rcases Nat.lt_or_ge g w.heap.size with hlt | hge
  · exact hlt
  · unfold Blk at h; rw [Array.getElem?_eq_none hge] at h; cases h
theorem Blk.cell (h : Blk w g t cs) (i : Nat) : w.cell? ⟨g, i, none⟩ = cs[i]? := cell_of_row w g i cs t (0, 0) h
theorem Blk.frozen (h : Blk w g t cs) (i : Nat) : w.frozen? ⟨g, i, none⟩ = false := by
  unfold Blk at h
  simp [World.frozen?, h]
theorem Blk.new (w : World) (t : TypeId) (cs : Array Value) : Blk (w.alloc (.cells cs t)) w.heap.size t cs := heap_alloc_new w _
theorem Blk.drew (h : Blk w g t cs) : Blk w.drew g t cs := h
theorem Blk.drewN (h : Blk w g t cs) (n : Nat) : Blk (w.drewN n) g t cs := h
theorem Blk.alloc (h : Blk w g t cs) (o : Obj) : Blk (w.alloc o) g t cs := (Below.heap_alloc w o g h.lt).trans h
theorem Blk.set_ (h : Blk w g t cs) (i : Nat) (u : Value) : Blk (w.setCell ⟨g, i, none⟩ u) g t (cs.setIfInBounds i u) := by
  unfold Blk at h ⊢
  simp [World.setCell, Array.getElem?_modify, h]
theorem Blk.far (h : Blk w g t cs) {p : Addr} (hp : g ≠ p.block) (u : Value) : Blk (w.setCell p u) g t cs := (Below.heap_setCell w p u g hp).trans h
theorem Blk.fr (h : Blk w g t cs) (k : Fr S w w') (hn : ¬ S g) : Blk w' g t cs := (k.block g h.lt hn).trans h
theorem Blk.below {B : Nat} (h : Blk w g t cs) (hb : Below B w w') (hg : g < B) : Blk w' g t cs := (hb.block g hg).trans h
theorem Blk.grown {row : Option Nat} (h : Blk w g t cs) (hb : w.grownBy w' row) (hg : some g ≠ row) : Blk w' g t cs := (hb.block g h.lt hg).trans h
theorem Blk.ne_ {g' : Nat} {t' : TypeId} {cs' : Array Value} (h : Blk w g t cs) (h' : Blk w g' t' cs') (hne : t ≠ t') : g ≠ g' := by
  rintro rfl
  unfold Blk at h h'
  rw [h] at h'
  injection h' with h'
  injection h' with _ ht
  exact hne ht
theorem own_blk_ne {base : Nat} {e : TypeId} {size n : Nat} {v : Value} {xs : List Value} (h : w.ownsRow base e size v n xs) (hg : Blk w g t cs) (hne : e ≠ t) : v.ownBlock ≠ some g := by
  rcases h.2 with ⟨rfl, _⟩ | ⟨g', cap, cur, rfl, _, hh, _⟩
  · simp [Value.ownBlock]
  · intro he
    have : g' = g := by simpa [Value.ownBlock] using he
    subst this
    exact Blk.ne_ (t := e) hh hg hne rfl
/-- A row of the call's own stays behind a frame that spares its block. -/
theorem own_fr {base : Nat} {e : TypeId} {size n : Nat} {v : Value} {xs : List Value} (h : w.ownsRow base e size v n xs) (k : Fr S w w') (hn : ∀ j, v.ownBlock = some j → ¬ S j) : w'.ownsRow base e size v n xs := by
  obtain ⟨h1, h2⟩ := h
  refine ⟨h1, ?_⟩
  rcases h2 with h2 | ⟨g, cap, cur, hv, hg, hh, r⟩
  · exact Or.inl h2
  · subst hv
    exact Or.inr ⟨g, cap, cur, rfl, hg, by rw [k.block g (Blk.lt hh) (hn g rfl)]; exact hh, r⟩
theorem own_weak {base base' : Nat} {e : TypeId} {size n : Nat} {v : Value} {xs : List Value} (h : w.ownsRow base e size v n xs) (hb : base' ≤ base) : w.ownsRow base' e size v n xs := by
  obtain ⟨h1, h2⟩ := h
  refine ⟨h1, ?_⟩
  rcases h2 with h2 | ⟨g, cap, cur, hv, hg, r⟩
  · exact Or.inl h2
  · exact Or.inr ⟨g, cap, cur, hv, Nat.le_trans hb hg, r⟩
theorem own_drewN {base : Nat} {e : TypeId} {size n : Nat} {v : Value} {xs : List Value} (h : w.ownsRow base e size v n xs) (k : Nat) : (w.drewN k).ownsRow base e size v n xs := h
theorem own_form {base : Nat} {e : TypeId} {size n : Nat} {v : Value} {xs : List Value} (h : w.ownsRow base e size v n xs) : ∃ A c, v = .slice A n c ∧ n ≤ c := by
  rcases h.2 with ⟨rfl, rfl⟩ | ⟨g, cap, cur, rfl, _, _, hnc, _⟩
  · exact ⟨_, _, rfl, Nat.le_refl _⟩
  · exact ⟨_, _, rfl, hnc⟩
end

theorem block_of_add (a : Addr) (n : Nat) : (a.add n).block = a.block := by unfold Addr.add; split <;> rfl
theorem add_of_add (a : Addr) (i j : Nat) : (a.add i).add j = a.add (i + j) := by
  unfold Addr.add
  by_cases hi : i = 0 <;> by_cases hj : j = 0 <;> simp [hi, hj, Nat.add_assoc]
theorem add_plain (g i j : Nat) : (⟨g, i, none⟩ : Addr).add j = ⟨g, i + j, none⟩ := by unfold Addr.add; split <;> simp_all

/-- The slice at A of n elements (size cells each) reads as xs and lies below block B. -/
def Reads (w : World) (B size : Nat) (A : Option Addr) (n : Nat) (xs : List Value) : Prop :=
  xs.length = n * size ∧ (0 < n → ∃ ad, A = some ad ∧ ad.block < B ∧ ∀ j u, xs[j]? = some u → w.cell? (ad.add j) = some u)

section
variable {w w' : World} {B B' size n : Nat} {A : Option Addr} {xs : List Value} {S : Nat → Prop}
theorem Reads.none_ : Reads w B size A 0 [] := ⟨by simp, fun h => absurd h (by omega)⟩
theorem Reads.at_ {k : Nat} (h : Reads w B 1 A n xs) (hk : k < n) : ∃ ad u, A = some ad ∧ ad.block < B ∧ xs[k]? = some u ∧ w.cell? (ad.add k) = some u := by
  obtain ⟨ad, e, hb, hc⟩ := h.2 (by omega)
  have hl : k < xs.length := by have := h.1; omega
  exact ⟨ad, xs[k], e, hb, List.getElem?_eq_getElem hl, hc k _ (List.getElem?_eq_getElem hl)⟩
theorem Reads.keep (h : Reads w B size A n xs) (hk : ∀ p : Addr, p.block < B → w'.cell? p = w.cell? p) : Reads w' B size A n xs :=
  ⟨h.1, fun hn => by
    obtain ⟨ad, e, hb, hc⟩ := h.2 hn
    exact ⟨ad, e, hb, fun j u hu => (hk _ (by rw [block_of_add]; exact hb)).trans (hc j u hu)⟩⟩
theorem Reads.more (h : Reads w B size A n xs) (hB : B ≤ B') : Reads w B' size A n xs :=
  ⟨h.1, fun hn => by
    obtain ⟨ad, e, hb, hc⟩ := h.2 hn
    exact ⟨ad, e, by omega, hc⟩⟩
theorem Reads.below (h : Reads w B size A n xs) (hb : Below B w w') : Reads w' B size A n xs := h.keep fun _ hp => hb.cell hp
theorem Reads.drew (h : Reads w B size A n xs) : Reads w.drew B size A n xs := h
theorem Reads.drewN (h : Reads w B size A n xs) (k : Nat) : Reads (w.drewN k) B size A n xs := h
theorem Reads.alloc (h : Reads w B size A n xs) (hB : B ≤ w.heap.size) (o : Obj) : Reads (w.alloc o) B size A n xs := h.keep fun p hp => World.cell?_alloc_lt w o p (by omega)
theorem Reads.setCell (h : Reads w B size A n xs) {p : Addr} (hB : B ≤ p.block) (u : Value) : Reads (w.setCell p u) B size A n xs :=
  h.keep fun q hq => World.cell?_setCell_other w p q u (fun e => by subst e; omega)
theorem Reads.cut (h : Reads w B size A n xs) {k cap : Nat} (hk : k ≤ n) (hc : n ≤ cap) :
    Reads w B size (if cap = k then A else A.map (·.add (k * size))) (n - k) (xs.drop (k * size)) := by
  refine ⟨by rw [List.length_drop, h.1, Nat.sub_mul], fun hn => ?_⟩
  obtain ⟨ad, rfl, hb, hcell⟩ := h.2 (by omega)
  rw [if_neg (by omega)]
  refine ⟨ad.add (k * size), rfl, by rw [block_of_add]; exact hb, fun j u hu => ?_⟩
  rw [add_of_add]
  exact hcell _ u (by rw [← hu, List.getElem?_drop])
theorem Reads.take_ (h : Reads w B size A n xs) {k : Nat} (hk : k ≤ n) : Reads w B size A k (xs.take (k * size)) := by
  refine ⟨by rw [List.length_take, h.1]; exact Nat.min_eq_left (Nat.mul_le_mul_right _ hk), fun hn => ?_⟩
  obtain ⟨ad, rfl, hb, hcell⟩ := h.2 (by omega)
  exact ⟨ad, rfl, hb, fun j u hu => hcell j u (by
    rw [List.getElem?_take] at hu
    split at hu
    · exact hu
    · cases hu)⟩
theorem Reads.of_own {base : Nat} {e : TypeId} {c : Nat} (h : w.ownsRow base e size (.slice A n c) n xs) : Reads w w.heap.size size A n xs := by
  refine ⟨h.1, fun hn => ?_⟩
  obtain ⟨g, cap, hv, _, hlt⟩ := h.form hn
  have hA : A = some ⟨g, 0, none⟩ := by injection hv
  subst hA
  exact ⟨_, rfl, hlt, h.cells (g := g) rfl⟩
end

/-- 'append(l, y)', the one element's cells ys just laid in a block of their own. -/
theorem app1 {P : Program} {W : World} {ops : Array Oper} {rest : List Oper} {o : Oper} {a : Act} {Q : Exit → Act → World → Prop} (hgd : o.guard = none) (s x : Operand) (t : TypeId)
    (ho : o.op = .call { callee := .builtin .append, args := #[s, x], argTypes := #[t, t] })
    (e : TypeId) (z : Value) (size bytes : Nat) (ht : P.underlying t = some (.slice e)) (hinfo : (P.info? e).map (fun i => (i.zero, i.size, i.bytes)) = some (some z, size, bytes))
    (hzs : z.cells.size = size) (hsz : 0 < size) (hby : 0 < bytes)
    (base : Nat) (v : Value) (n : Nat) (xs ys : List Value) (hs : a.eval s = v) (hx : a.eval x = .slice (some ⟨W.heap.size, 0, none⟩) 1 1)
    (hy : ys.length = size) (h1 : ∀ u ∈ ys, u.oneCell' = true) (HO : W.ownsRow base e size v n xs) (hbase : base ≤ W.heap.size) (hl : (n + 1) * bytes ≤ 140737488355328)
    (h : ∀ v1 w1, w1.ownsRow base e size v1 (n + 1) (xs ++ ys) → Fr (fun k => v.ownBlock = some k) W w1 → (∀ k, v1.ownBlock = some k → v.ownBlock = some k ∨ W.heap.size ≤ k) → wpList P ops Q rest (a.put o.dst v1) w1) :
    wpList P ops Q (o :: rest) a (W.alloc (.cells ys.toArray e)) := by
  obtain ⟨i0, hi, hz0, hz1, hz2⟩ := info_parts hinfo
  have hlen : n + 1 ≤ 140737488355328 := Nat.le_trans (Nat.le_mul_of_pos_right _ hby) hl
  refine wpList_append_own_at (W.alloc (.cells ys.toArray e)) hgd s x t ho base e i0 z size bytes ht hi hz0 hz1 hz2 hzs hsz v n xs hs (HO.alloc _) ⟨W.heap.size, 0, none⟩ 1 1 ys hx (by omega)
    (World.news_of_block (cs := ys.toArray) (t := e) (fr := (0, 0)) (heap_alloc_new W _)) h1 (by simp only [maxLen]; omega) hl (by simp; omega) ?_
  intro v1 w1 hown hg _ hat
  refine h v1 w1 hown (((Fr.refl (fun k => v.ownBlock = some k) W).alloc _).grown hg (fun j _ e => e)) (fun k hk => ?_)
  rcases hat with hat | hat
  · exact .inl (hat ▸ hk)
  · rw [hat] at hk; injection hk with hk; simp at hk; exact .inr (by omega)
theorem own_nil (W : World) (base : Nat) (e : TypeId) (size : Nat) : W.ownsRow base e size (.slice none 0 0) 0 [] := ⟨by simp, .inl ⟨rfl, rfl⟩⟩
/-- The numbers of a slice, as values. -/
def nums (k : IntKind) (xs : List Int) : List Value := xs.map fun x => .int k x
theorem nums_snoc (k : IntKind) (xs : List Int) (y : Int) : nums k (xs ++ [y]) = nums k xs ++ [.int k y] := by simp [nums]
theorem nums_length (k : IntKind) (xs : List Int) : (nums k xs).length = xs.length := by simp [nums]
/-- n elements, each of so many cells, from A on, below block B. -/
def RowOf {α : Type} (c : α → List Value) (size : Nat) (w : World) (B : Nat) (A : Option Addr) (l : List α) : Prop :=
  ∀ i x, l[i]? = some x → ∃ ad, A = some ad ∧ ad.block < B ∧ ∀ j u, (c x)[j]? = some u → w.cell? (ad.add (i * size + j)) = some u
theorem RowOf.below {α : Type} {c : α → List Value} {size : Nat} {w w' : World} {B : Nat} {A : Option Addr} {l : List α} (h : RowOf c size w B A l) (hb : Below B w w') : RowOf c size w' B A l := by
  intro i x hx
  obtain ⟨ad, rfl, hb', hc⟩ := h i x hx
  exact ⟨ad, rfl, hb', fun j u hu => (hb.cell (by rw [block_of_add]; exact hb')).trans (hc j u hu)⟩
/-- A number of a row, at its place. -/
theorem RowOf.num {k : IntKind} {w : World} {B : Nat} {A : Option Addr} {l : List Int} (h : RowOf (fun x => [.int k x]) 1 w B A l) {i : Nat} (hi : i < l.length) : ∃ ad, A = some ad ∧ ad.block < B ∧ w.cell? (ad.add i) = some (.int k (l.getD i 0)) := by
  obtain ⟨ad, rfl, hb, hc⟩ := h i (l[i]) (List.getElem?_eq_getElem hi)
  refine ⟨ad, rfl, hb, ?_⟩
  have := hc 0 _ rfl
  rw [Nat.mul_one, Nat.add_zero] at this
  rw [this, List.getD_eq_getElem?_getD, List.getElem?_eq_getElem hi]; rfl

end Go.Proofs.YtigknfkkegccgaaDoor.K

/- Arguments opened: a slice of whatever elements, as a list. -/
namespace Go.Proofs.YtigknfkkegccgaaDoor.K
open Go.RowKit Go.ChangeShapes Go.WideShapes
set_option linter.unusedVariables false
set_option linter.unusedSimpArgs false

theorem pick {α : Type} {n : Nat} {R : Nat → α → Prop} (h : ∀ i, i < n → ∃ x, R i x) : ∃ l : List α, l.length = n ∧ ∀ (i : Nat) (x : α), l[i]? = some x → R i x := by
  induction n with
  | zero => exact ⟨[], rfl, fun i x hx => by simp at hx⟩
  | succ n ih =>
    obtain ⟨l, hl, hr⟩ := ih (fun i hi => h i (by omega))
    obtain ⟨y, hy⟩ := h n (by omega)
    refine ⟨l ++ [y], by simp [hl], fun i x hx => ?_⟩
    by_cases hi : i < l.length
    · rw [List.getElem?_append_left hi] at hx; exact hr i x hx
    · rw [List.getElem?_append_right (by omega)] at hx
      obtain ⟨h0, h1⟩ := List.getElem?_eq_some_iff.1 hx
      have : i - l.length = 0 := by simp at h0; omega
      obtain rfl : i = n := by omega
      simp at h1; subst h1; exact hy

section
variable {H : Type} {enc : TypeId × Value → H} {P : Program} {w : World} {base : Nat} {spare : Nat → Bool} {held : Bool}
/-- How a value of type t lies in its cells: as a's, for some a of which Q holds. -/
def Dec {α : Type} (enc : TypeId × Value → H) (P : Program) (w : World) (base : Nat) (spare : Nat → Bool) (held : Bool) (t : TypeId) (c : α → List Value) (Q : α → Prop) : Prop :=
  ∀ n cs y, DataW.trod enc P w base spare held n t cs = some y → ∃ a, cs = c a ∧ Q a
theorem dec_int {t : TypeId} {k : IntKind} (ht : P.underlying t = some (.int k)) : Dec enc P w base spare held t (fun x : Int => [.int k x]) (fun x => (Lit.int k x).wf = true) := fun n cs y h => by
  obtain ⟨x, h1, _, h3⟩ := DataW.trod_int ht h
  exact ⟨x, h1, h3⟩
theorem dec_bool {t : TypeId} (ht : P.underlying t = some .bool) : Dec enc P w base spare held t (fun x : Bool => [.bool x]) (fun _ => True) := fun n cs y h => by
  obtain ⟨x, h1, _⟩ := DataW.trod_bool ht h
  exact ⟨x, h1, trivial⟩

/-- A struct of 3 fields of one cell each, in its cells. -/
theorem trod_fields3 {t : TypeId} {f0 f1 f2 : Field} {fuel : Nat} {cs : List Value} {x : DataW H × List MemPlace} (hs : P.underlying t = some (.struct #[f0, f1, f2])) (hone : Go.Deep.oneCellFields P #[f0, f1, f2] = true) (hC : P.cellsOf t = 3)
    (h : DataW.trod enc P w base spare held fuel t cs = some x) :
    ∃ (v0 v1 v2 : Value) (y0 y1 y2 : DataW H × List MemPlace) (n : Nat), cs = [v0, v1, v2] ∧ DataW.trod enc P w base spare held n f0.type [v0] = some y0 ∧ DataW.trod enc P w base spare held n f1.type [v1] = some y1 ∧ DataW.trod enc P w base spare held n f2.type [v2] = some y2 := by
  obtain ⟨xs, n, _, hx, hcl, hlen, hg⟩ := DataW.trod_struct hs h
  rw [hC] at hcl
  match cs, hcl with
  | [c0, c1, c2], _ =>
    obtain ⟨o0, k0⟩ := Go.Deep.hone_of hone 0 f0 rfl
    obtain ⟨o1, k1⟩ := Go.Deep.hone_of hone 1 f1 rfl
    obtain ⟨o2, k2⟩ := Go.Deep.hone_of hone 2 f2 rfl
    match xs, hlen with
    | [y0, y1, y2], _ =>
      exact ⟨c0, c1, c2, y0, y1, y2, n, rfl, by simpa [o0, k0] using hg 0 f0 rfl, by simpa [o1, k1] using hg 1 f1 rfl, by simpa [o2, k2] using hg 2 f2 rfl⟩
/-- A struct of 4 fields of one cell each, in its cells. -/
theorem trod_fields4 {t : TypeId} {f0 f1 f2 f3 : Field} {fuel : Nat} {cs : List Value} {x : DataW H × List MemPlace} (hs : P.underlying t = some (.struct #[f0, f1, f2, f3])) (hone : Go.Deep.oneCellFields P #[f0, f1, f2, f3] = true) (hC : P.cellsOf t = 4)
    (h : DataW.trod enc P w base spare held fuel t cs = some x) :
    ∃ (v0 v1 v2 v3 : Value) (y0 y1 y2 y3 : DataW H × List MemPlace) (n : Nat), cs = [v0, v1, v2, v3] ∧ DataW.trod enc P w base spare held n f0.type [v0] = some y0 ∧ DataW.trod enc P w base spare held n f1.type [v1] = some y1 ∧ DataW.trod enc P w base spare held n f2.type [v2] = some y2 ∧ DataW.trod enc P w base spare held n f3.type [v3] = some y3 := by
  obtain ⟨xs, n, _, hx, hcl, hlen, hg⟩ := DataW.trod_struct hs h
  rw [hC] at hcl
  match cs, hcl with
  | [c0, c1, c2, c3], _ =>
    obtain ⟨o0, k0⟩ := Go.Deep.hone_of hone 0 f0 rfl
    obtain ⟨o1, k1⟩ := Go.Deep.hone_of hone 1 f1 rfl
    obtain ⟨o2, k2⟩ := Go.Deep.hone_of hone 2 f2 rfl
    obtain ⟨o3, k3⟩ := Go.Deep.hone_of hone 3 f3 rfl
    match xs, hlen with
    | [y0, y1, y2, y3], _ =>
      exact ⟨c0, c1, c2, c3, y0, y1, y2, y3, n, rfl, by simpa [o0, k0] using hg 0 f0 rfl, by simpa [o1, k1] using hg 1 f1 rfl, by simpa [o2, k2] using hg 2 f2 rfl, by simpa [o3, k3] using hg 3 f3 rfl⟩

theorem open_rowOf {α : Type} {c : α → List Value} {Q : α → Prop} {size : Nat} (hsize : ∀ a, (c a).length = size) (h0 : 0 < size) {t e : TypeId} (hC : P.cellsOf e = size)
    (dec : Dec enc P w base spare held e c Q) (ht : P.underlying t = some (.slice e)) {A : Option Addr} {len cap : Nat} {d : DataW H} {ps : List MemPlace} (h : DataW.Trod enc P w base spare held t (.slice A len cap) d ps) :
    ∃ l : List α, l.length = len ∧ RowOf c size w w.heap.size A l ∧ (∀ a ∈ l, Q a) ∧ len ≤ cap ∧ cap ≤ maxLen := by
  obtain ⟨fuel, hf⟩ := h
  rcases Go.Deep.open_slice ht hf with ⟨hcs, _⟩ | ⟨a, l', c', m, n, D, Pl, hcs, hb, hl, hm, hmm, _, hi⟩
  · simp [Value.cells] at hcs
    obtain ⟨rfl, rfl, rfl⟩ := hcs
    exact ⟨[], rfl, fun i x hx => by simp at hx, fun a ha => by simp at ha, Nat.le_refl _, by simp⟩
  · simp [Value.cells] at hcs
    obtain ⟨rfl, rfl, rfl⟩ := hcs
    have hlm : len ≤ m := by rw [hmm]; split <;> omega
    have hp : ∀ i, i < len → ∃ x, (∀ j u, (c x)[j]? = some u → w.cell? (a.add (i * size + j)) = some u) ∧ Q x := by
      intro i hi'
      obtain ⟨cs', hc1, hc2⟩ := hi i (by omega)
      obtain ⟨x, rfl, hq⟩ := dec _ _ _ hc2
      obtain ⟨_, hcl, hcell⟩ := World.cells?_some hc1
      refine ⟨x, fun j u hu => ?_, hq⟩
      have hj : j < size := by rw [← hsize x]; exact (List.getElem?_eq_some_iff.1 hu).1
      have := hcell j (by rw [hC]; exact hj)
      rw [hC, add_of_add] at this
      rw [this, hu]
    obtain ⟨l, hll, hr⟩ := pick hp
    refine ⟨l, hll, fun i x hx => ⟨a, rfl, ?_, (hr i x hx).1⟩, fun x hx => ?_, hl, hm⟩
    · have hc := (hr i x hx).1 0 ((c x)[0]'(by rw [hsize]; exact h0)) (List.getElem?_eq_getElem _)
      have := World.block_lt_of_cell? w _ hc
      rwa [block_of_add] at this
    · obtain ⟨i, hi', hx'⟩ := List.mem_iff_getElem.1 hx
      exact (hr i x (by rw [List.getElem?_eq_getElem hi', hx'])).2
/-- How many bytes it may take at most. -/
theorem open_sized {ts : List TypeId} {ds : List (DataW H)} {j : Nat} {t e : TypeId} {d : DataW H} {A : Option Addr} {len cap B : Nat} {ps : List MemPlace}
    (hsz : (DataW.weightsEach P ts ds).all (· ≤ reachBytes) = true) (htj : ts[j]? = some t) (hdj : ds[j]? = some d) (ht : P.underlying t = some (.slice e)) (hB : P.bytesOf e = B)
    (h : DataW.Trod enc P w base spare held t (.slice A len cap) d ps) : len * B ≤ 140737488351232 := by
  obtain ⟨fuel, hf⟩ := h
  rcases Go.Deep.open_slice ht hf with ⟨hcs, _⟩ | ⟨a, l', c', m, n, D, Pl, hcs, hb, hl, hm, hmm, hx, hi⟩
  · simp [Value.cells] at hcs
    obtain ⟨rfl, rfl, rfl⟩ := hcs
    simp
  · simp [Value.cells] at hcs
    obtain ⟨rfl, rfl, rfl⟩ := hcs
    obtain ⟨rfl, _⟩ := Prod.mk.inj hx
    have z := sized_slice hsz htj hdj ht
    rw [hB] at z
    refine Nat.le_trans (Nat.mul_le_mul_right _ ?_) z
    simp
end

theorem wf_u8 {x : Int} (h : (Lit.int .u8 x).wf = true) : 0 ≤ x ∧ x < 256 := by
  have := bounds_u8 h; omega
end Go.Proofs.YtigknfkkegccgaaDoor.K

/- The shelf's contracts of tryGrowByReslice and growSlice at this program, written by the kit's own tools. -/
namespace Go.Proofs
open Go.Shelf
def Tryd.laysM251_ren : Go.Shelf.Ren := ⟨fun | 251 => 62 | n => n, fun | 130 => 111 | 3 => 3 | 4 => 4 | 0 => 0 | 93 => 67 | 37 => 26 | 91 => 65 | 5 => 5 | n => n, fun | n => n⟩
theorem Tryd.laysM251 : Go.Proofs.LaysM.n251 Tryd.prog Tryd.laysM251_ren := {
  mixed := by kernel_rfl
  f251 := Tryd.func62.trans (congrArg some (by kernel_rfl))
  t0 := Tryd.underlying0
  a0 := Tryd.isAgg0
  z0 := Tryd.sizeOf0
  v0 := Tryd.zeroValue0
  t3 := Tryd.underlying3
  a3 := Tryd.isAgg3
  z3 := Tryd.sizeOf3
  v3 := Tryd.zeroValue3
  t4 := Tryd.underlying4
  a4 := Tryd.isAgg4
  z4 := Tryd.sizeOf4
  v4 := Tryd.zeroValue4
  t37 := Tryd.underlying26
  a37 := Tryd.isAgg26
  z37 := Tryd.sizeOf26
  v37 := Tryd.zeroValue26
  t93 := Tryd.underlying67
  a93 := Tryd.isAgg67
  z93 := Tryd.sizeOf67
  v93 := Tryd.zeroValue67
  t130 := Tryd.underlying111
  a130 := Tryd.isAgg111
  z130 := Tryd.sizeOf111
  v130 := Tryd.zeroValue111
  t5 := Tryd.underlying5
  a5 := Tryd.isAgg5
  z5 := Tryd.sizeOf5
  v5 := Tryd.zeroValue5
  t91 := Tryd.underlying65
  a91 := Tryd.isAgg65
  z91 := Tryd.sizeOf65
  v91 := Tryd.zeroValue65
  i0 := by kernel_rfl
  i3 := by kernel_rfl
  i4 := by kernel_rfl
  i5 := by kernel_rfl
  i37 := by kernel_rfl
  i91 := by kernel_rfl
  i93 := by kernel_rfl
  i130 := by kernel_rfl }
def Tryd.laysM290_ren : Go.Shelf.Ren := ⟨fun | 290 => 66 | 324 => 67 | n => n, fun | 37 => 26 | 3 => 3 | 0 => 0 | 4 => 4 | 20 => 20 | 75 => 109 | 5 => 5 | 80 => 121 | 9 => 9 | n => n, fun | 14 => 0 | n => n⟩
theorem Tryd.laysM290 : Go.Proofs.LaysM.n290 Tryd.prog Tryd.laysM290_ren := {
  mixed := by kernel_rfl
  f290 := Tryd.func66.trans (congrArg some (by kernel_rfl))
  f324 := Tryd.func67.trans (congrArg some (by kernel_rfl))
  t0 := Tryd.underlying0
  a0 := Tryd.isAgg0
  z0 := Tryd.sizeOf0
  v0 := Tryd.zeroValue0
  t3 := Tryd.underlying3
  a3 := Tryd.isAgg3
  z3 := Tryd.sizeOf3
  v3 := Tryd.zeroValue3
  t4 := Tryd.underlying4
  a4 := Tryd.isAgg4
  z4 := Tryd.sizeOf4
  v4 := Tryd.zeroValue4
  t20 := Tryd.underlying20
  a20 := Tryd.isAgg20
  z20 := Tryd.sizeOf20
  v20 := Tryd.zeroValue20
  t37 := Tryd.underlying26
  a37 := Tryd.isAgg26
  z37 := Tryd.sizeOf26
  v37 := Tryd.zeroValue26
  t75 := Tryd.underlying109
  a75 := Tryd.isAgg109
  z75 := Tryd.sizeOf109
  v75 := Tryd.zeroValue109
  g14 := by kernel_rfl
  t5 := Tryd.underlying5
  a5 := Tryd.isAgg5
  z5 := Tryd.sizeOf5
  v5 := Tryd.zeroValue5
  t9 := Tryd.underlying9
  a9 := Tryd.isAgg9
  z9 := Tryd.sizeOf9
  v9 := Tryd.zeroValue9
  t80 := Tryd.underlying121
  a80 := Tryd.isAgg121
  z80 := Tryd.sizeOf121
  v80 := Tryd.zeroValue121
  i0 := by kernel_rfl
  i3 := by kernel_rfl
  i4 := by kernel_rfl
  i5 := by kernel_rfl
  i9 := by kernel_rfl
  i20 := by kernel_rfl
  i37 := by kernel_rfl
  i75 := by kernel_rfl
  i80 := by kernel_rfl
  m14 := by kernel_rfl }
open Go.RowKit in
theorem Tryd.Buffer_tryGrow_room_at (b q : Nat) (ao : Option Addr) (l cap n : Nat) (w : World) (c0 : w.cell? ⟨b, q, none⟩ = some (.slice ao l cap)) (f0 : w.frozen? ⟨b, q, none⟩ = false) (hlc : l ≤ cap) (hcap : cap ≤ maxLen) (hn : n ≤ cap - l) :
    Calls Tryd.prog 62 #[.pointer (some ⟨b, q, none⟩), .int .i64 n] w fun e w' => e = .returned (.tuple #[.int .i64 l, .bool true]) ∧ w' = w.setCell ⟨b, q, none⟩ (.slice ao (l + n) cap) := Any.Buffer_tryGrow_room_at Tryd.laysM251 b q ao l cap n w c0 f0 hlc hcap hn
open Go.RowKit in
theorem Tryd.Buffer_tryGrow_none_at (b q : Nat) (ao : Option Addr) (l cap n : Nat) (w : World) (c0 : w.cell? ⟨b, q, none⟩ = some (.slice ao l cap)) (hlc : l ≤ cap) (hcap : cap ≤ maxLen) (hn : cap - l < n) :
    Calls Tryd.prog 62 #[.pointer (some ⟨b, q, none⟩), .int .i64 n] w fun e w' => e = .returned (.tuple #[.int .i64 0, .bool false]) ∧ w' = w := Any.Buffer_tryGrow_none_at Tryd.laysM251 b q ao l cap n w c0 hlc hcap hn
open Go.RowKit in
theorem Tryd.bytes_growSlice_row (g l c n : Nat) (cur : Array Value) (w : World) (hg : w.heap[g]? = some (.cells cur 5 (0, 0))) (hcs : cur.size = c) (hlc : l ≤ c) (hn : 1 ≤ n) (hlim : l + n ≤ 140737488355328) (hc2 : c ≤ 140737488355328) (h1 : ∀ v ∈ cur.toList.take l, v.oneCell' = true) :
    Calls Tryd.prog 66 #[.slice (some ⟨g, 0, none⟩) l c, .int .i64 n] w fun e w' => ∃ cap2 cells, e = .returned (.slice (some ⟨w.heap.size, 0, none⟩) l cap2) ∧ w'.heap[w.heap.size]? = some (.cells cells 5 (0, 0)) ∧
      cells.size = cap2 ∧ cells.toList.take l = cur.toList.take l ∧ l + n ≤ cap2 ∧ cap2 ≤ maxLen ∧ Below w.heap.size w w' := Any.bytes_growSlice_row Tryd.laysM290 g l c n cur w hg hcs hlc hn hlim hc2 h1
open Go.RowKit in
theorem Tryd.bytes_growSlice_nil (n : Nat) (w : World) (hn : 1 ≤ n) (hlim : n ≤ 140737488355328) :
    Calls Tryd.prog 66 #[.slice none 0 0, .int .i64 n] w fun e w' => ∃ cap2 cells, e = .returned (.slice (some ⟨w.heap.size, 0, none⟩) 0 cap2) ∧ w'.heap[w.heap.size]? = some (.cells cells 5 (0, 0)) ∧
      cells.size = cap2 ∧ n ≤ cap2 ∧ cap2 ≤ maxLen ∧ Below w.heap.size w w' := Any.bytes_growSlice_nil Tryd.laysM290 n w hn hlim
end Go.Proofs

/- bytes.Buffer, the first field of a Writer: grow, with what it leaves alone. -/
namespace Go.Proofs.YtigknfkkegccgaaDoor.K
open Go.RowKit
set_option linter.unusedVariables false
set_option linter.unusedSimpArgs false
theorem info_u8 : (Tryd.prog.info? 5).map (fun i => (i.zero, i.size, i.bytes)) = some (some (.int .u8 0), 1, 1) := by kernel_rfl
/-- Block b is a Writer that has only been written: its row is v, its bytes bs. -/
def Buf (b : Nat) (v : Value) (bs : List Value) (w : World) : Prop := (∃ lr, Blk w b 71 #[v, .int .i64 0, .int .i8 lr]) ∧ w.ownsRow 0 5 1 v bs.length bs ∧ v.ownBlock ≠ some b

set_option maxHeartbeats 4000000 in
set_option maxRecDepth 10000 in
theorem len_own {b : Nat} {w : World} {A : Option Addr} {l c : Nat} {lr : Int} (h : Blk w b 71 #[.slice A l c, .int .i64 0, .int .i8 lr]) (hl : l ≤ 9223372036854775807) :
    Calls Tryd.prog 64 #[.pointer (some ⟨b, 0, none⟩)] w fun e w' => e = .returned (.int .i64 l) ∧ ∃ n, w' = w.drewN n := by
  have c0 : w.cell? ⟨b, 0, none⟩ = some (.slice A l c) := h.cell 0
  have c1 : w.cell? ⟨b, 1, none⟩ = some (.int .i64 0) := h.cell 1
  go_enter Tryd.func64, Tryd.ntmps64
  go_wp2_with fail
  go_quiet (fail)
  go_wp2
  go_ret
  exact ⟨rfl, _, rfl⟩

/-- What grow leaves: room for n more, what was there in front. -/
def GrowPost (b : Nat) (bs : List Value) (n : Nat) (w : World) (e : Ending) (w' : World) : Prop :=
  e = .returned (.int .i64 bs.length) ∧ ∃ k cap cells, w.heap.size ≤ k ∧ (∃ lr, Blk w' b 71 #[.slice (some ⟨k, 0, none⟩) (bs.length + n) cap, .int .i64 0, .int .i8 lr]) ∧ Blk w' k 5 cells ∧ cells.size = cap ∧ cap ≤ maxLen ∧ bs.length + n ≤ cap ∧ cells.toList.take bs.length = bs ∧ Fr1 b w w'

theorem blk_now {w w1 : World} {b : Nat} {t : TypeId} {cs : Array Value} (h : Blk w b t cs) {q : Nat} (e : w1 = w.drewN q) : Blk w1 b t cs := by subst e; exact h
theorem made_take (n : Nat) (hn : n ≤ 64) : (madeCells #[.int .u8 0] 64).size = 64 := by simp [madeCells]
set_option maxHeartbeats 4000000 in
set_option maxRecDepth 10000 in
theorem grow_small {b n : Nat} {lr : Int} {w : World} (h : Blk w b 71 #[.slice none 0 0, .int .i64 0, .int .i8 lr]) (hn : 1 ≤ n) (h64 : n ≤ 64) :
    Calls Tryd.prog 63 #[.pointer (some ⟨b, 0, none⟩), .int .i64 n] w (GrowPost b [] n w) := by
  obtain ⟨i0, hi, hz0, hz1, hz2⟩ := info_parts info_u8
  have hmk : ∀ W, (Instr.makeSlice 26 (.int .i64 n) (.int .i64 64)).run Tryd.prog W = .ok (.slice (some ⟨W.heap.size, 0, none⟩) n 64) (W.alloc (.cells (madeCells #[.int .u8 0] 64) 5)) := fun W => by
    have := run_make (P := Tryd.prog) W 26 5 i0 (.int .u8 0) Tryd.underlying26 hi hz0 .i64 .i64 n 64 (by omega) (by omega) (by rw [hz2]; omega) (by omega)
    rw [hz1] at this
    simpa [Value.cells] using this
  clear hi hz0 hz1 hz2
  have hnil : ∀ W, (binOp .eql 26 (.slice none 0 0) (.slice none 0 0)).run Tryd.prog W = .ok (.bool true) W := fun W => Lib.run_eql_slice_nil_nil W 0 0 Tryd.underlying26
  have c0 : w.cell? ⟨b, 0, none⟩ = some (.slice none 0 0) := h.cell 0
  go_enter Tryd.func63, Tryd.ntmps63
  go_wp2_with fail
  (with_reducible refine (len_own h (by omega)).mono ?_)
  rintro e w1 ⟨rfl, q, hw1⟩
  have H1 := Lib.hid (blk_now h hw1)
  have F1 : Hid (Fr1 b w w1) := Lib.hid (by subst hw1; exact (Fr.refl _ _).drewN q)
  have hs : w1.heap.size = w.heap.size := by subst hw1; rfl
  have HS := Lib.hid hs
  clear hw1 hs c0
  have c0 : w1.cell? ⟨b, 0, none⟩ = some (.slice none 0 0) := H1.out.cell 0
  have c1 : w1.cell? ⟨b, 1, none⟩ = some (.int .i64 0) := H1.out.cell 1
  have f0 := H1.out.frozen 0
  have c0' : (w1.alloc (.cells (madeCells #[.int .u8 0] 64) 5)).cell? ⟨b, 0, none⟩ = some (.slice none 0 0) := (H1.out.alloc _).cell 0
  have f0' : (w1.alloc (.cells (madeCells #[.int .u8 0] 64) 5)).frozen? ⟨b, 0, none⟩ = false := (H1.out.alloc _).frozen 0
  go_wp2_with (go_at_call 62; (with_reducible refine (Tryd.Buffer_tryGrow_none_at b 0 none 0 0 n w1 c0 (by omega) (by decide) (by omega)).mono ?_); rintro e w2 ⟨rfl, rfl⟩)
  go_ret
  have hlt := H1.out.lt
  refine ⟨rfl, w2.heap.size, 64, madeCells #[.int .u8 0] 64, Nat.le_of_eq HS.out.symm, ⟨lr, ?_⟩, (Blk.new w2 _ _).far (by simp; omega) _, by simp [madeCells], by decide, by simpa using h64, by simp, ?_⟩
  · have := (H1.out.alloc (.cells (madeCells #[.int .u8 0] 64) 5)).set_ 0 (.slice (some ⟨w2.heap.size, 0, none⟩) n 64)
    simpa using this
  · exact (F1.out.alloc _).setCell (fun _ => rfl) _

set_option maxHeartbeats 8000000 in
set_option maxRecDepth 10000 in
theorem grow_big {b n : Nat} {lr : Int} {w : World} (h : Blk w b 71 #[.slice none 0 0, .int .i64 0, .int .i8 lr]) (h64 : 64 < n) (hlim : n ≤ 140737488355328) :
    Calls Tryd.prog 63 #[.pointer (some ⟨b, 0, none⟩), .int .i64 n] w (GrowPost b [] n w) := by
  have hnil : ∀ W, (binOp .eql 26 (.slice none 0 0) (.slice none 0 0)).run Tryd.prog W = .ok (.bool true) W := fun W => Lib.run_eql_slice_nil_nil W 0 0 Tryd.underlying26
  have c0 : w.cell? ⟨b, 0, none⟩ = some (.slice none 0 0) := h.cell 0
  go_enter Tryd.func63, Tryd.ntmps63
  go_wp2_with fail
  (with_reducible refine (len_own h (by omega)).mono ?_)
  rintro e w1 ⟨rfl, q, hw1⟩
  have H1 := Lib.hid (blk_now h hw1)
  have F1 : Hid (Fr1 b w w1) := Lib.hid (by subst hw1; exact (Fr.refl _ _).drewN q)
  have hs : w1.heap.size = w.heap.size := by subst hw1; rfl
  have HS := Lib.hid hs
  clear hw1 hs c0
  have c0 : w1.cell? ⟨b, 0, none⟩ = some (.slice none 0 0) := H1.out.cell 0
  have c1 : w1.cell? ⟨b, 1, none⟩ = some (.int .i64 0) := H1.out.cell 1
  have f0 := H1.out.frozen 0
  have hwn : IntKind.i64.wrap (n : Int) = n := by rw [IntKind.wrap_i64]; omega
  go_wp2_with (go_at_call 62; (with_reducible refine (Tryd.Buffer_tryGrow_none_at b 0 none 0 0 n w1 c0 (by omega) (by decide) (by omega)).mono ?_); rintro e w2 ⟨rfl, rfl⟩)
  go_region_with (go_at_call 66; refine (Tryd.bytes_growSlice_nil n _ (by omega) hlim).mono ?_; rintro e w3 ⟨cap2, cells, rfl, hg, hcs, hnc, hcm, hb3⟩; have B3 := Lib.hid hb3; have G3 : Hid (Blk w3 w2.heap.size 5 cells) := Lib.hid hg; have H3 := Lib.hid (H1.out.drew.below hb3 H1.out.drew.lt); have d0 := H3.out.cell 0; have d1 := H3.out.cell 1; have e0 := H3.out.frozen 0; have e1 := H3.out.frozen 1; clear hg hb3)
  all_goals
    go_wp2
    go_ret
    have hlt := H1.out.lt
    have hne : b ≠ w2.heap.size := by omega
    refine ⟨rfl, w2.heap.size, cap2, cells, Nat.le_of_eq HS.out.symm, ⟨lr, ?_⟩, ((G3.out.far (Ne.symm hne) _).far (Ne.symm hne) _).far (Ne.symm hne) _, hcs, hcm, by simpa using hnc, by simp, ?_⟩
    · have := ((H3.out.set_ 0 (.slice (some ⟨w2.heap.size, 0, none⟩) 0 cap2)).set_ 1 (.int .i64 0)).set_ 0 (.slice (some ⟨w2.heap.size, 0, none⟩) n cap2)
      simpa using this
    · exact (((F1.out.drew.trans (Fr.of_below B3.out) (fun _ _ h => h.elim)).setCell (fun _ => rfl) _).setCell (fun _ => rfl) _).setCell (fun _ => rfl) _
end Go.Proofs.YtigknfkkegccgaaDoor.K

/- bytes.Buffer.grow where its row has no room. -/
namespace Go.Proofs.YtigknfkkegccgaaDoor.K
open Go.RowKit
set_option linter.unusedVariables false
set_option linter.unusedSimpArgs false
theorem cut0 (g l cap : Nat) (W : World) (hl : l ≤ cap) : (Instr.slice 26 (.slice (some ⟨g, 0, none⟩) l cap) (some (.int .i64 0)) none none).run Tryd.prog W = .ok (.slice (some ⟨g, 0, none⟩) l cap) W := by
  obtain ⟨i0, hi, hz0, hz1, hz2⟩ := info_parts info_u8
  have hel : Tryd.prog.elem 26 = 5 := by simp [Program.elem, Tryd.underlying26]
  have hu : Tryd.prog.underlying 26 = some (.slice (Tryd.prog.elem 26)) := by rw [hel]; exact Tryd.underlying26
  rw [run_slice_l W 26 (some ⟨g, 0, none⟩) l cap hu .i64 0 (by omega) (by omega), hel]
  by_cases hc : cap = 0 <;> simp [sizeOf, typeInfo, hi, sliced, Result.andThen, Addr.add, hc]

set_option maxHeartbeats 8000000 in
set_option maxRecDepth 10000 in
theorem grow_row {b n g l cap : Nat} {lr : Int} {cur : Array Value} {w : World} (h : Blk w b 71 #[.slice (some ⟨g, 0, none⟩) l cap, .int .i64 0, .int .i8 lr]) (hg : Blk w g 5 cur) (hcs : cur.size = cap) (hl : l ≤ cap) (hcm : cap ≤ maxLen) (hn : 1 ≤ n) (hno : cap - l < n) (hlim : l + n ≤ 140737488355328)
    (h1 : ∀ u ∈ cur.toList.take l, u.oneCell' = true) (hbg : g ≠ b) :
    Calls Tryd.prog 63 #[.pointer (some ⟨b, 0, none⟩), .int .i64 n] w (GrowPost b (cur.toList.take l) n w) := by
  have hl0 : l = 0 ∨ 0 < l := by omega
  have hnil : ∀ W, (binOp .eql 26 (.slice (some ⟨g, 0, none⟩) l cap) (.slice none 0 0)).run Tryd.prog W = .ok (.bool false) W := fun W => Lib.run_eql_slice_some_nil W _ _ _ Tryd.underlying26
  have hcut := fun W => cut0 g l cap W hl
  have hcm' := hcm
  unfold maxLen at hcm'
  have hcap : cap ≤ 140737488355328 := by omega
  have hlen : (cur.toList.take l).length = l := by rw [List.length_take, Array.length_toList]; omega
  have HLen := Lib.hid hlen
  have c0 : w.cell? ⟨b, 0, none⟩ = some (.slice (some ⟨g, 0, none⟩) l cap) := h.cell 0
  have HG := Lib.hid hg
  have HO := Lib.hid h1
  clear hlen hg h1
  obtain ⟨m, hm⟩ : ∃ m : Nat, m = l := ⟨_, rfl⟩
  go_enter Tryd.func63, Tryd.ntmps63
  go_wp2_with fail
  (with_reducible refine (len_own h (by omega)).mono ?_)
  rintro e w1 ⟨rfl, q, hw1⟩
  have H1 := Lib.hid (blk_now h hw1)
  have G1 := Lib.hid (blk_now HG.out hw1)
  have F1 : Hid (Fr1 b w w1) := Lib.hid (by subst hw1; exact (Fr.refl _ _).drewN q)
  have hs : w1.heap.size = w.heap.size := by subst hw1; rfl
  have HS := Lib.hid hs
  clear hw1 hs c0
  have c0 : w1.cell? ⟨b, 0, none⟩ = some (.slice (some ⟨g, 0, none⟩) l cap) := H1.out.cell 0
  have c1 : w1.cell? ⟨b, 1, none⟩ = some (.int .i64 0) := H1.out.cell 1
  have f0 := H1.out.frozen 0
  have hwn : IntKind.i64.wrap (n : Int) = n := by rw [IntKind.wrap_i64]; omega
  have t1 : decide ((n : Int) ≤ (cap : Int).tdiv 2 - (l : Int)) = false := by
    rw [decide_eq_false_iff_not, Int.tdiv_eq_ediv_of_nonneg (by omega)]; omega
  have t2 : decide ((cap : Int) > 9223372036854775807 - (cap : Int) - (n : Int)) = false := by
    rw [decide_eq_false_iff_not]; omega
  clear hm m
  clear hl0
  by_cases hl0 : (l : Int) = 0
  all_goals
    go_wp2_with (go_at_call 62; (with_reducible refine (Tryd.Buffer_tryGrow_none_at b 0 _ l cap n w1 c0 hl hcm hno).mono ?_); rintro e w2 ⟨rfl, rfl⟩)
  all_goals
    go_region_with (go_at_call 66; refine (Tryd.bytes_growSlice_row g l cap n cur _ (by exact G1.out) hcs hl hn hlim hcap HO.out).mono ?_; rintro e w3 ⟨cap2, cells, rfl, hg, hcs2, htk, hnc, hcm2, hb3⟩; have B3 := Lib.hid hb3; have G3 : Hid (Blk w3 w2.heap.size 5 cells) := Lib.hid hg; have H3 := Lib.hid (H1.out.drew.below hb3 H1.out.drew.lt); have d0 := H3.out.cell 0; have d1 := H3.out.cell 1; have e0 := H3.out.frozen 0; have e1 := H3.out.frozen 1; have HT := Lib.hid htk; clear hg hb3 htk)
  all_goals
    go_wp2
    go_ret
    have hlt := H1.out.lt
    have hne : b ≠ w2.heap.size := by omega
    have hlen := HLen.out
    refine ⟨by (first | exact congrArg (fun k : Nat => Ending.returned (.int .i64 (k : Int))) hlen.symm | exact congrArg (fun k : Int => Ending.returned (.int .i64 k)) (show (0 : Int) = (((cur.toList.take l).length : Nat) : Int) by rw [hlen, hl0])), w2.heap.size, cap2, cells, Nat.le_of_eq HS.out.symm, ⟨lr, ?_⟩, ((G3.out.far (Ne.symm hne) _).far (Ne.symm hne) _).far (Ne.symm hne) _, hcs2, hcm2, by rw [hlen]; exact hnc, by rw [hlen]; exact HT.out, ?_⟩
    · have := ((H3.out.set_ 0 (.slice (some ⟨w2.heap.size, 0, none⟩) l cap2)).set_ 1 (.int .i64 0)).set_ 0 (.slice (some ⟨w2.heap.size, 0, none⟩) (l + n) cap2)
      rw [hlen]
      first
        | (simpa using this; done)
        | (have e : l + n = n := by omega
           rw [e] at this ⊢
           simpa using this)
    · exact (((F1.out.drew.trans (Fr.of_below B3.out) (fun _ _ h => h.elim)).setCell (fun _ => rfl) _).setCell (fun _ => rfl) _).setCell (fun _ => rfl) _
end Go.Proofs.YtigknfkkegccgaaDoor.K

/- (*bytes.Buffer).WriteByte and Write, with what they leave alone. -/
namespace Go.Proofs.YtigknfkkegccgaaDoor.K
open Go.RowKit
set_option linter.unusedVariables false
set_option linter.unusedSimpArgs false
/-- What may turn where a buffer at b, whose row is v, is written; where its row lies then. -/
structure WFr (b : Nat) (v v' : Value) (w w' : World) : Prop where
  fr : Fr (fun k => k = b ∨ v.ownBlock = some k) w w'
  row : ∀ k, v'.ownBlock = some k → v.ownBlock = some k ∨ w.heap.size ≤ k
theorem WFr.refl (b : Nat) (v : Value) (w : World) : WFr b v v w w := ⟨Fr.refl _ _, fun k h => .inl h⟩
theorem WFr.trans {b : Nat} {v v1 v2 : Value} {w w1 w2 : World} (h : WFr b v v1 w w1) (k : WFr b v1 v2 w1 w2) : WFr b v v2 w w2 :=
  ⟨h.fr.trans k.fr (fun j hj hs => by
      rcases hs with hs | hs
      · exact .inl hs
      · rcases h.row j hs with h' | h'
        · exact .inr h'
        · omega),
   fun j hj => by
      rcases k.row j hj with h' | h'
      · exact h.row j h'
      · exact .inr (Nat.le_trans h.fr.size h')⟩
/-- The buffer has been given room for n more. -/
def Ready (b : Nat) (v : Value) (bs : List Value) (n : Nat) (w w' : World) : Prop :=
  ∃ k cap cells lr, Blk w' b 71 #[.slice (some ⟨k, 0, none⟩) (bs.length + n) cap, .int .i64 0, .int .i8 lr] ∧ Blk w' k 5 cells ∧ cells.size = cap ∧ cap ≤ maxLen ∧ bs.length + n ≤ cap ∧ cells.toList.take bs.length = bs ∧ k ≠ b ∧
    (v.ownBlock = some k ∨ w.heap.size ≤ k) ∧ Fr (fun k => k = b ∨ v.ownBlock = some k) w w'
theorem own_cases {w : World} {v : Value} {bs : List Value} (h : w.ownsRow 0 5 1 v bs.length bs) : (v = .slice none 0 0 ∧ bs = []) ∨ ∃ g cap cur, v = .slice (some ⟨g, 0, none⟩) bs.length cap ∧ Blk w g 5 cur ∧ bs.length ≤ cap ∧ cap ≤ maxLen ∧ cur.size = cap ∧ cur.toList.take bs.length = bs := by
  rcases h.2 with ⟨rfl, h0⟩ | ⟨g, cap, cur, rfl, _, hg, hnc, hcm, hcs, htk⟩
  · exact .inl ⟨rfl, List.eq_nil_of_length_eq_zero h0⟩
  · exact .inr ⟨g, cap, cur, rfl, hg, hnc, hcm, by simpa using hcs, by simpa using htk⟩
/-- Behind tryGrowByReslice and, where it says no, grow. -/
theorem ready_room {b g l cap n : Nat} {lr : Int} {cur : Array Value} {w : World} (hb : Blk w b 71 #[.slice (some ⟨g, 0, none⟩) l cap, .int .i64 0, .int .i8 lr]) (hg : Blk w g 5 cur) (hcs : cur.size = cap) (hcm : cap ≤ maxLen) (hl : l ≤ cap) (hn : n ≤ cap - l) (hgb : g ≠ b) :
    Ready b (.slice (some ⟨g, 0, none⟩) l cap) (cur.toList.take l) n w (w.setCell ⟨b, 0, none⟩ (.slice (some ⟨g, 0, none⟩) (l + n) cap)) := by
  have hlen : (cur.toList.take l).length = l := by rw [List.length_take, Array.length_toList]; omega
  refine ⟨g, cap, cur, lr, ?_, hg.far hgb _, hcs, hcm, by rw [hlen]; omega, by rw [hlen], hgb, .inl (by simp [Value.ownBlock]), (Fr.refl _ w).setCell (fun _ => .inl rfl) _⟩
  rw [hlen]
  have := hb.set_ 0 (.slice (some ⟨g, 0, none⟩) (l + n) cap)
  simpa using this
theorem ready_grown {b : Nat} {v : Value} {bs : List Value} {n : Nat} {w w' : World} {e : Ending} (h : GrowPost b bs n w e w') (hlt : b < w.heap.size) : Ready b v bs n w w' := by
  obtain ⟨_, k, cap, cells, hk, ⟨lr, hb⟩, hg, hcs, hcm, hl, ht, hf⟩ := h
  exact ⟨k, cap, cells, lr, hb, hg, hcs, hcm, hl, ht, by omega, .inr hk, hf.mono (fun j _ e => .inl e)⟩
end Go.Proofs.YtigknfkkegccgaaDoor.K

/- (*bytes.Buffer).WriteByte. -/
namespace Go.Proofs.YtigknfkkegccgaaDoor.K
open Go.RowKit
set_option linter.unusedVariables false
set_option linter.unusedSimpArgs false
/-- A byte is put at the end. -/
theorem ready_poke {b : Nat} {v : Value} {bs : List Value} {w w' : World} {c : Int} {k cap : Nat} {cells : Array Value} {lr : Int} (hv : v.ownBlock ≠ some b)
    (hb : Blk w' b 71 #[.slice (some ⟨k, 0, none⟩) (bs.length + 1) cap, .int .i64 0, .int .i8 lr]) (hg : Blk w' k 5 cells) (hcs : cells.size = cap) (hcm : cap ≤ maxLen) (hl : bs.length + 1 ≤ cap) (ht : cells.toList.take bs.length = bs) (hkb : k ≠ b)
    (hk : v.ownBlock = some k ∨ w.heap.size ≤ k) (hf : Fr (fun k => k = b ∨ v.ownBlock = some k) w w') :
    Buf b (.slice (some ⟨k, 0, none⟩) (bs.length + 1) cap) (bs ++ [.int .u8 c]) (w'.setCell ⟨k, bs.length, none⟩ (.int .u8 c)) ∧ WFr b v (.slice (some ⟨k, 0, none⟩) (bs.length + 1) cap) w (w'.setCell ⟨k, bs.length, none⟩ (.int .u8 c)) := by
  have hlt : bs.length < cells.toList.length := by have := Array.length_toList (xs := cells); omega
  have htk : cells.toList.take (bs.length + 1) = bs ++ [cells.toList[bs.length]] := by rw [List.take_succ_eq_append_getElem hlt, ht]
  have hown0 : w'.ownsRow 0 5 1 (.slice (some ⟨k, 0, none⟩) (bs.length + 1) cap) (bs.length + 1) (cells.toList.take (bs.length + 1)) :=
    ⟨by rw [htk]; simp, .inr ⟨k, cap, cells, rfl, Nat.zero_le _, hg, hl, hcm, by simpa using hcs, by rw [Nat.mul_one]⟩⟩
  have hset : (cells.toList.take (bs.length + 1)).set bs.length (Value.int .u8 c) = bs ++ [Value.int .u8 c] := by rw [htk]; simp
  have hown : (w'.setCell ⟨k, bs.length, none⟩ (.int .u8 c)).ownsRow 0 5 1 (.slice (some ⟨k, 0, none⟩) (bs.length + 1) cap) (bs ++ [Value.int .u8 c]).length (bs ++ [Value.int .u8 c]) := by
    have := (hown0.stored bs.length (.int .u8 c)).1
    rw [hset] at this
    simpa using this
  refine ⟨⟨⟨lr, hb.far (Ne.symm hkb) _⟩, hown, by simp [Value.ownBlock]; exact hkb⟩, hf.setCell (fun hlt => ?_) _, fun j hj => ?_⟩
  · rcases hk with h | h
    · exact .inr h
    · exact absurd hlt (by simpa using h)
  · have : k = j := by simpa [Value.ownBlock] using hj
    subst this; exact hk
theorem try_room {b g l cap n : Nat} {lr : Int} {cur : Array Value} {w : World} (hb : Blk w b 71 #[.slice (some ⟨g, 0, none⟩) l cap, .int .i64 0, .int .i8 lr]) (hg : Blk w g 5 cur) (hcs : cur.size = cap) (hcm : cap ≤ maxLen) (hl : l ≤ cap) (hn : n ≤ cap - l) (hgb : g ≠ b) :
    Calls Tryd.prog 62 #[.pointer (some ⟨b, 0, none⟩), .int .i64 n] w fun e w' => e = .returned (.tuple #[.int .i64 l, .bool true]) ∧ Hid (Ready b (.slice (some ⟨g, 0, none⟩) l cap) (cur.toList.take l) n w w') :=
  (Tryd.Buffer_tryGrow_room_at b 0 _ l cap n w (hb.cell 0) (hb.frozen 0) hl hcm hn).mono fun e w' ⟨h1, h2⟩ => ⟨h1, Lib.hid (h2 ▸ ready_room hb hg hcs hcm hl hn hgb)⟩
set_option maxHeartbeats 4000000 in
set_option maxRecDepth 10000 in
theorem WriteByte_own {b : Nat} {v : Value} {bs : List Value} {c : Int} {w : World} (h : Buf b v bs w) (h1 : ∀ u ∈ bs, u.oneCell' = true) (hlim : bs.length + 1 ≤ 140737488355328) :
    Calls Tryd.prog 59 #[.pointer (some ⟨b, 0, none⟩), .int .u8 c] w fun e w' => e = .returned .nilIface ∧ ∃ v', Hid (Buf b v' (bs ++ [.int .u8 c]) w') ∧ Hid (WFr b v v' w w') := by
  obtain ⟨⟨lr, hb⟩, hown, hvb⟩ := h
  have HVB := Lib.hid hvb
  have c2 : w.cell? ⟨b, 2, none⟩ = some (.int .i8 lr) := hb.cell 2
  have f2 := hb.frozen 2
  have hb0 : Blk (w.setCell ⟨b, 2, none⟩ (.int .i8 0)) b 71 #[v, .int .i64 0, .int .i8 0] := by simpa using hb.set_ 2 (.int .i8 0)
  have HB0 := Lib.hid hb0
  have F0 : Hid (Fr (fun k => k = b ∨ v.ownBlock = some k) w (w.setCell ⟨b, 2, none⟩ (.int .i8 0))) := Lib.hid ((Fr.refl _ w).setCell (fun _ => .inl rfl) _)
  have hs0 : (w.setCell ⟨b, 2, none⟩ (.int .i8 0)).heap.size = w.heap.size := by simp [World.setCell]
  have HS0 := Lib.hid hs0
  have HLT := Lib.hid hb.lt
  rcases own_cases hown with ⟨rfl, rfl⟩ | ⟨g, cap, cur, rfl, hg, hnc, hcm, hcs, htk⟩
  · have c0 : (w.setCell ⟨b, 2, none⟩ (.int .i8 0)).cell? ⟨b, 0, none⟩ = some (.slice none 0 0) := hb0.cell 0
    clear hb hown hvb hb0 hs0 h1 hlim
    go_enter Tryd.func59, Tryd.ntmps59
    go_wp2_with (first | (go_at_call 62; refine (Tryd.Buffer_tryGrow_none_at b 0 none 0 0 1 _ c0 (by omega) (by decide) (by omega)).mono ?_; rintro e w2 ⟨rfl, rfl⟩) | (go_at_call 63; refine (grow_small (n := 1) HB0.out (by omega) (by omega)).mono ?_; rintro e w3 ⟨rfl, k, cap, cells, hk, ⟨lr3, hb3⟩, hg3, hcs3, hcm3, hl3, ht3, hf3⟩; have d0 := hb3.cell 0; have e3 : ∃ x, w3.cell? ⟨k, 0, none⟩ = some x := ⟨_, (hg3.cell 0).trans (Array.getElem?_eq_getElem (by simp at hl3; omega))⟩; obtain ⟨x3, e3⟩ := e3; have f3 := hg3.frozen 0; have B3 := Lib.hid hb3; have G3 := Lib.hid hg3; have T3 := Lib.hid ht3; have F3 := Lib.hid hf3; have K3 := Lib.hid hk; clear hb3 hg3 ht3 hf3 hk))
    go_ret
    have hlt := HLT.out
    have hs := HS0.out
    have hk : w.heap.size ≤ k := by have := K3.out; omega
    have := ready_poke (c := c) (w := w) HVB.out B3.out G3.out hcs3 hcm3 hl3 T3.out (by omega) (.inr hk) (F0.out.trans F3.out (fun _ _ e => .inl e))
    exact ⟨rfl, _, Lib.hid this.1, Lib.hid this.2⟩
  · have hgb : g ≠ b := by rintro rfl; exact hvb (by simp [Value.ownBlock])
    obtain ⟨l, hl⟩ : ∃ l, l = bs.length := ⟨_, rfl⟩
    have HL := Lib.hid hl
    rw [← hl] at hnc hlim htk hb0 HB0 F0 HVB
    have c0 : (w.setCell ⟨b, 2, none⟩ (.int .i8 0)).cell? ⟨b, 0, none⟩ = some (.slice (some ⟨g, 0, none⟩) l cap) := hb0.cell 0
    have f0 := hb0.frozen 0
    have hg0 : Blk (w.setCell ⟨b, 2, none⟩ (.int .i8 0)) g 5 cur := hg.far hgb _
    have HG0 := Lib.hid hg0
    have HTK := Lib.hid htk
    have H1 := Lib.hid h1
    rw [← hl]
    clear hb hown hvb hb0 hs0 h1 hg hg0 htk hl
    have hcm' := hcm
    unfold maxLen at hcm'
    by_cases hroom : 1 ≤ cap - l
    · go_enter Tryd.func59, Tryd.ntmps59
      go_wp2_with (go_at_call 62; refine (try_room (n := 1) HB0.out HG0.out hcs hcm hnc hroom hgb).mono ?_; rintro e w3 ⟨rfl, R⟩; obtain ⟨k, cap3, cells, lr3, hb3, hg3, hcs3, hcm3, hl3, ht3, hkb, hk, hf3⟩ := R.out; rw [HTK.out, ← HL.out] at hb3 hl3; rw [HTK.out] at ht3; have d0 := hb3.cell 0; have e3 : ∃ x, w3.cell? ⟨k, l, none⟩ = some x := ⟨_, (hg3.cell l).trans (Array.getElem?_eq_getElem (by omega))⟩; obtain ⟨x3, e3⟩ := e3; have f3 := hg3.frozen l; have B3 := Lib.hid hb3; have G3 := Lib.hid hg3; have T3 := Lib.hid ht3; have F3 := Lib.hid hf3; have K3 := Lib.hid hk; clear hb3 hg3 ht3 hf3 hk R)
      go_ret
      have hs := HS0.out
      have hl9 := HL.out
      clear HL
      subst hl9
      have := ready_poke (c := c) (w := w) HVB.out B3.out G3.out hcs3 hcm3 hl3 T3.out hkb (by have := K3.out; rwa [hs] at this) (F0.out.trans F3.out (fun _ _ e => e))
      exact ⟨rfl, _, Lib.hid this.1, Lib.hid this.2⟩
    · have hz : cur.toList.take l = bs := HTK.out
      have hlen : (cur.toList.take l).length = l := by rw [hz]; exact HL.out.symm
      have HLEN := Lib.hid hlen
      clear hz hlen
      go_enter Tryd.func59, Tryd.ntmps59
      go_wp2_with (first | (go_at_call 62; refine (Tryd.Buffer_tryGrow_none_at b 0 _ l cap 1 _ c0 hnc hcm (by omega)).mono ?_; rintro e w2 ⟨rfl, rfl⟩) | (go_at_call 63; refine (grow_row (n := 1) HB0.out HG0.out hcs hnc hcm (by omega) (by omega) hlim (by rw [HTK.out]; exact H1.out) hgb).mono ?_; rintro e w3 ⟨rfl, k, cap3, cells, hk, ⟨lr3, hb3⟩, hg3, hcs3, hcm3, hl3, ht3, hf3⟩; rw [HLEN.out] at hb3 hl3 ht3; rw [HTK.out] at ht3; rw [HLEN.out]; have d0 := hb3.cell 0; have e3 : ∃ x, w3.cell? ⟨k, l, none⟩ = some x := ⟨_, (hg3.cell l).trans (Array.getElem?_eq_getElem (by omega))⟩; obtain ⟨x3, e3⟩ := e3; have f3 := hg3.frozen l; have B3 := Lib.hid hb3; have G3 := Lib.hid hg3; have T3 := Lib.hid ht3; have F3 := Lib.hid hf3; have K3 := Lib.hid hk; clear hb3 hg3 ht3 hf3 hk))
      go_ret
      have hlt := HLT.out
      have hs := HS0.out
      have hk : w.heap.size ≤ k := by have := K3.out; omega
      have hl9 := HL.out
      clear HL HLEN
      subst hl9
      have := ready_poke (c := c) (w := w) HVB.out B3.out G3.out hcs3 hcm3 hl3 T3.out (by omega) (.inr hk) (F0.out.trans F3.out (fun _ _ e => .inl e))
      exact ⟨rfl, _, Lib.hid this.1, Lib.hid this.2⟩
end Go.Proofs.YtigknfkkegccgaaDoor.K

/- (*bytes.Buffer).Write. -/
namespace Go.Proofs.YtigknfkkegccgaaDoor.K
open Go.RowKit
set_option linter.unusedVariables false
set_option linter.unusedSimpArgs false
abbrev c8 : Int → List Value := fun x => [.int .u8 x]
theorem Fr.cell {S : Nat → Prop} {w w' : World} (h : Fr S w w') {p : Addr} (hp : p.block < w.heap.size) (hn : ¬ S p.block) : w'.cell? p = w.cell? p := World.cell?_of_block (h.block _ hp hn)
/-- copy(dst, src), dst in a row that is known whole; nothing else turns. -/
theorem copyF {P : Program} {w : World} {ops : Array Oper} {rest : List Oper} {o : Oper} {a : Act} {Q : Exit → Act → World → Prop} (hgd : o.guard = none) (d s : Operand) (dT sT : TypeId)
    (ho : o.op = .call { callee := .builtin .copy, args := #[d, s], argTypes := #[dT, sT] }) (elem : TypeId) (hu : P.underlying dT = some (.slice elem)) (hsz : (P.info? elem).map (·.size) = some 1)
    (dp sp : Option Addr) (dLen dCap sLen sCap : Nat) (hd : a.eval d = .slice dp dLen dCap) (hs : a.eval s = .slice sp sLen sCap)
    (g off : Nat) (cur : Array Value) (t : TypeId) (hg : Blk w g t cur) (cs : List Value) (hn : cs.length = Nat.min sLen dLen)
    (hpos : 0 < cs.length → dp = some ⟨g, off, none⟩ ∧ ∃ ad, sp = some ad ∧ ∀ j v, cs[j]? = some v → w.cell? (ad.add j) = some v)
    (hfit : off + cs.length ≤ cur.size) (h1 : ∀ v ∈ cs, v.oneCell' = true)
    (h : ∀ w', Hid (Blk w' g t (splice cur.toList off cs).toArray) → Hid (Fr1 g w w') → wpList P ops Q rest (a.put o.dst (goInt cs.length)) w') :
    wpList P ops Q (o :: rest) a w := by
  by_cases h0 : cs.length = 0
  · obtain rfl : cs = [] := List.eq_nil_of_length_eq_zero h0
    refine wpList_copy_nothing hgd d s dT sT ho elem hu hsz dp sp dLen dCap sLen sCap hd hs (by simpa using hn.symm) ?_
    exact h w (Lib.hid (by simpa [splice] using hg)) (Lib.hid (Fr.refl _ _))
  · obtain ⟨rfl, ad, rfl, hsrc⟩ := hpos (by omega)
    refine wpList_copy_own hgd d s dT sT ho elem hu hsz g off dLen dCap ad sLen sCap hd hs cur t hg cs hn hsrc hfit h1 ?_
    exact h _ (Lib.hid (show _ = _ by simpa [splice] using setRow_heap w g _ _ t _ hg)) (Lib.hid ⟨rfl, rfl, rfl, by simp [World.setRow], fun k hk hn => setRow_other w g k _ hn⟩)
theorem grow_nil {b n : Nat} {lr : Int} {w : World} (h : Blk w b 71 #[.slice none 0 0, .int .i64 0, .int .i8 lr]) (hn : 1 ≤ n) (hlim : n ≤ 140737488355328) :
    Calls Tryd.prog 63 #[.pointer (some ⟨b, 0, none⟩), .int .i64 n] w (GrowPost b [] n w) := by
  by_cases h64 : n ≤ 64
  · exact grow_small h hn h64
  · exact grow_big h (by omega) hlim
theorem ready_copy {b : Nat} {v : Value} {bs cs : List Value} {w w3 w4 : World} {k cap m : Nat} {cells : Array Value} {lr : Int} (hcm0 : cs.length = m)
    (hb : Blk w3 b 71 #[.slice (some ⟨k, 0, none⟩) (bs.length + m) cap, .int .i64 0, .int .i8 lr]) (hg : Blk w3 k 5 cells) (hcs : cells.size = cap) (hcm : cap ≤ maxLen) (hl : bs.length + m ≤ cap) (ht : cells.toList.take bs.length = bs) (hkb : k ≠ b)
    (hk : v.ownBlock = some k ∨ w.heap.size ≤ k) (hf : Fr (fun k => k = b ∨ v.ownBlock = some k) w w3) (hg4 : Blk w4 k 5 (splice cells.toList bs.length cs).toArray) (hf4 : Fr1 k w3 w4) :
    Buf b (.slice (some ⟨k, 0, none⟩) (bs.length + m) cap) (bs ++ cs) w4 ∧ WFr b v (.slice (some ⟨k, 0, none⟩) (bs.length + m) cap) w w4 := by
  subst hcm0
  have hsz : cells.toList.length = cap := by rw [Array.length_toList, hcs]
  have hlen : (splice cells.toList bs.length cs).length = cap := by rw [length_splice cells.toList bs.length cs (by omega), hsz]
  have htk : (splice cells.toList bs.length cs).take (bs.length + cs.length) = bs ++ cs := by
    unfold splice
    rw [ht, ← List.append_assoc, List.take_append_of_le_length (by simp), List.take_of_length_le (by simp)]
  refine ⟨⟨⟨lr, hb.fr hf4 (Ne.symm hkb)⟩, ⟨by simp, .inr ⟨k, cap, _, by rw [List.length_append], Nat.zero_le _, hg4, by rw [List.length_append]; exact hl, hcm, by simpa using hlen, by rw [Nat.mul_one, List.length_append]; simpa using htk⟩⟩, by simp [Value.ownBlock]; exact hkb⟩, hf.trans hf4 (fun j hj e => ?_), fun j hj => ?_⟩
  · subst e
    rcases hk with h | h
    · exact .inr h
    · omega
  · have : k = j := by simpa [Value.ownBlock] using hj
    subst this; exact hk
theorem src_now {w w3 : World} {b B : Nat} {v : Value} {A : Option Addr} {l : List Int} (h : RowOf c8 1 w B A l) (hB : B ≤ w.heap.size) (hA : 0 < l.length → ∀ ad, A = some ad → ad.block ≠ b ∧ v.ownBlock ≠ some ad.block)
    (hf : Fr (fun k => k = b ∨ v.ownBlock = some k) w w3) (hl : 0 < (nums .u8 l).length) : ∃ ad, A = some ad ∧ ∀ j u, (nums .u8 l)[j]? = some u → w3.cell? (ad.add j) = some u := by
  rw [nums_length] at hl
  obtain ⟨ad, rfl, _, _⟩ := h.num hl
  refine ⟨ad, rfl, fun j u hu => ?_⟩
  have hj : j < l.length := by have := (List.getElem?_eq_some_iff.1 hu).1; rwa [nums_length] at this
  obtain ⟨ad', e, hb, hc⟩ := h.num hj
  injection e with e; subst e
  have hne := hA hl ad rfl
  rw [hf.cell (by rw [block_of_add]; omega) (by rw [block_of_add]; intro h; rcases h with h | h; exact hne.1 h; exact hne.2 h), hc]
  have : (nums .u8 l)[j]? = some (.int .u8 (l.getD j 0)) := by simp [nums, List.getD_eq_getElem?_getD, List.getElem?_eq_getElem hj]
  rw [this] at hu; exact hu
theorem one_nums (k : IntKind) (l : List Int) : ∀ u ∈ nums k l, u.oneCell' = true := by
  intro u hu
  simp only [nums, List.mem_map] at hu
  obtain ⟨x, _, rfl⟩ := hu
  rfl
theorem info1_u8 : (Tryd.prog.info? 5).map (·.size) = some 1 := by kernel_rfl
end Go.Proofs.YtigknfkkegccgaaDoor.K

/- A Writer as the bytes that it holds: put, U8, U16, U32. -/
namespace Go.Proofs.YtigknfkkegccgaaDoor.K
open Go.RowKit
set_option linter.unusedVariables false
set_option linter.unusedSimpArgs false
/-- The Writer at b (its row is v) holds the bytes l. -/
def Wrt (b : Nat) (v : Value) (l : List Int) (w : World) : Prop := Buf b v (nums .u8 l) w
theorem nums_append (k : IntKind) (l m : List Int) : nums k (l ++ m) = nums k l ++ nums k m := by simp [nums]
theorem WriteByteC {b : Nat} {v : Value} {l : List Int} {c : Int} {w : World} (h : Wrt b v l w) (hlim : l.length + 1 ≤ 140737488355328) :
    Calls Tryd.prog 59 #[.pointer (some ⟨b, 0, none⟩), .int .u8 c] w fun e w' => e = .returned .nilIface ∧ ∃ v', Hid (Wrt b v' (l ++ [c]) w') ∧ Hid (WFr b v v' w w') :=
  (WriteByte_own h (one_nums _ _) (by rw [nums_length]; exact hlim)).mono fun e w' ⟨h1, v', h2, h3⟩ => ⟨h1, v', Lib.hid (by unfold Wrt; rw [nums_append]; exact h2.out), h3⟩
/-- What a part's row must be apart from, where a Writer is written. -/
def Away (b : Nat) (v : Value) (w : World) (A : Option Addr) : Prop := ∀ ad, A = some ad → ad.block < w.heap.size ∧ ad.block ≠ b ∧ v.ownBlock ≠ some ad.block
theorem Away.next {b : Nat} {v v' : Value} {w w' : World} {A : Option Addr} (h : Away b v w A) (k : WFr b v v' w w') : Away b v' w' A := fun ad e => by
  obtain ⟨h1, h2, h3⟩ := h ad e
  refine ⟨Nat.lt_of_lt_of_le h1 k.fr.size, h2, fun h4 => ?_⟩
  rcases k.row _ h4 with h5 | h5
  · exact h3 h5
  · omega
theorem WFr.row_of {α : Type} {c : α → List Value} {size B b : Nat} {v v' : Value} {w w' : World} {A : Option Addr} {l : List α} (k : WFr b v v' w w') (h : RowOf c size w B A l) (ha : Away b v w A) : RowOf c size w' B A l := by
  intro i x hx
  obtain ⟨ad, rfl, hb, hc⟩ := h i x hx
  obtain ⟨h1, h2, h3⟩ := ha ad rfl
  exact ⟨ad, rfl, hb, fun j u hu => by rw [k.fr.cell (by rw [block_of_add]; exact h1) (by rw [block_of_add]; intro h; rcases h with h | h; exact h2 h; exact h3 h)]; exact hc j u hu⟩
/-- An empty row may lie anywhere. -/
theorem WFr.row_of0 {α : Type} {c : α → List Value} {size B b : Nat} {v v' : Value} {w w' : World} {A : Option Addr} {l : List α} (k : WFr b v v' w w') (h : RowOf c size w B A l) (ha : 0 < l.length → Away b v w A) : RowOf c size w' B A l :=
  fun i x hx => k.row_of h (ha (by have := (List.getElem?_eq_some_iff.1 hx).1; omega)) i x hx
/-- The lowest bytes of a number, the highest first. -/
def be (n : Int) : Nat → List Int
  | 0 => []
  | k + 1 => n / 256 ^ k % 256 :: be n k
theorem be_length (n : Int) (k : Nat) : (be n k).length = k := by induction k with
  | zero => rfl
  | succ k ih => simp [be, ih]
theorem pow8 (r : Nat) : (256 : Int) ^ r = 2 ^ (8 * r) := by rw [Int.pow_mul]; rfl
theorem Wrt.drew {b : Nat} {v : Value} {l : List Int} {w : World} (h : Wrt b v l w) : Wrt b v l w.drew := h
theorem WFr.undrew {b : Nat} {v v' : Value} {w w' : World} (h : WFr b v v' w.drew w') : WFr b v v' w w' := ⟨⟨h.fr.os, h.fr.tape, h.fr.output, h.fr.size, h.fr.block⟩, h.row⟩
theorem wrt_cell {b : Nat} {v : Value} {l : List Int} {w : World} (h : Wrt b v l w) : ∃ u, w.cell? ⟨b, 0, none⟩ = some u := by
  obtain ⟨⟨lr, hb⟩, _⟩ := h
  exact ⟨_, hb.cell 0⟩
set_option maxHeartbeats 4000000 in
set_option maxRecDepth 10000 in
theorem put_own {b : Nat} {v : Value} {l : List Int} {n : Int} {size : Nat} {w : World} (h : Wrt b v l w) (hn0 : 0 ≤ n) (hn1 : n < 4294967296) (hs : size ≤ 4) (hlim : l.length + 4 ≤ 140737488355328) :
    Calls Tryd.prog 50 #[.pointer (some ⟨b, 0, none⟩), .int .u32 n, .int .i64 size] w fun e w' => e = .returned (.pointer (some ⟨b, 0, none⟩)) ∧ ∃ v', Hid (Wrt b v' (l ++ be n size) w') ∧ Hid (WFr b v v' w w') := by
  have H := Lib.hid h
  clear h
  go_enter Tryd.func50, Tryd.ntmps50
  go_wp2
  go_loopw [7] (fun at_ wr => ∃ (r : Nat) (acc : List Int) (v' : Value), at_ = .int .i64 ((r : Int) - 1) ∧ r ≤ size ∧ acc ++ be n r = be n size ∧ Wrt b v' (l ++ acc) wr ∧ WFr b v v' w wr) (fun a _ => (intOf a + 1).toNat)
  case atStart => exact ⟨size, [], v, rfl, by omega, rfl, by simpa using H.out, WFr.refl _ _ _⟩
  case round =>
    obtain ⟨r, acc, v1, rfl, hr, hbe, hw, hf⟩ := hrel
    have HW := Lib.hid hw
    have HF := Lib.hid hf
    have HBE := Lib.hid hbe
    clear hw hf hbe
    cases r with
    | zero =>
      go_wp2
      go_ret
      exact ⟨rfl, v1, Lib.hid (by have := HBE.out; simp [be] at this; rw [← this]; exact HW.out), HF⟩
    | succ r =>
      have hlen : acc.length + (r + 1) = size := by
        have := congrArg List.length HBE.out
        rwa [List.length_append, be_length, be_length] at this
      have HL : Hid ((l ++ acc).length + 1 ≤ 140737488355328) := Lib.hid (by rw [List.length_append]; omega)
      clear hlen
      have e1 : (((r + 1 : Nat) : Int) - 1) = (r : Int) := by omega
      rw [e1]
      have e2 : (8 : Int) * (r : Int) ≤ 24 := by omega
      have e3 : 0 ≤ (8 : Int) * (r : Int) := by omega
      have e4 : IntKind.i64.wrap (8 * (r : Int)) = 8 * (r : Int) := by rw [IntKind.wrap_i64]; omega
      have e5 : (8 : Int) * (r : Int) ≤ 32 := by omega
      go_wp2
      go_region_with (go_at_call 59; refine (WriteByteC HW.out.drew HL.out).mono ?_; rintro e w2 ⟨rfl, v2, H2, F2⟩)
      all_goals
        go_wp2
        go_roundw
        case rel =>
          refine ⟨r, acc ++ [n / 256 ^ r % 256], v2, rfl, by omega, by have := HBE.out; rw [← this]; simp [be], ?_, HF.out.trans F2.out.undrew⟩
          have e9 : IntKind.u8.wrap (n / 2 ^ (8 * (r : Int)).toNat) = n / 256 ^ r % 256 := by rw [pow8, show (8 * (r : Int)).toNat = 8 * r by omega]; rfl
          have := H2.out
          rw [e9, List.append_assoc] at this
          exact this
        case measure => simp [intOf]
set_option maxRecDepth 10000 in
theorem WU8_own {b : Nat} {v : Value} {l : List Int} {n : Int} {w : World} (h : Wrt b v l w) (hn0 : 0 ≤ n) (hn1 : n < 256) (hlim : l.length + 4 ≤ 140737488355328) :
    Calls Tryd.prog 29 #[.pointer (some ⟨b, 0, none⟩), .int .u8 n] w fun e w' => e = .returned (.pointer (some ⟨b, 0, none⟩)) ∧ ∃ v', Hid (Wrt b v' (l ++ be n 1) w') ∧ Hid (WFr b v v' w w') := by
  have H := Lib.hid h
  clear h
  go_enter Tryd.func29, Tryd.ntmps29
  go_wp2_with (go_at_call 50; refine (put_own (size := 1) H.out hn0 (by omega) (by omega) hlim).mono ?_; rintro e w1 ⟨rfl, v1, H1, F1⟩)
  go_ret
  exact ⟨rfl, v1, H1, F1⟩
set_option maxRecDepth 10000 in
theorem WU16_own {b : Nat} {v : Value} {l : List Int} {n : Int} {w : World} (h : Wrt b v l w) (hn0 : 0 ≤ n) (hn1 : n < 65536) (hlim : l.length + 4 ≤ 140737488355328) :
    Calls Tryd.prog 30 #[.pointer (some ⟨b, 0, none⟩), .int .u16 n] w fun e w' => e = .returned (.pointer (some ⟨b, 0, none⟩)) ∧ ∃ v', Hid (Wrt b v' (l ++ be n 2) w') ∧ Hid (WFr b v v' w w') := by
  have H := Lib.hid h
  clear h
  go_enter Tryd.func30, Tryd.ntmps30
  go_wp2_with (go_at_call 50; refine (put_own (size := 2) H.out hn0 (by omega) (by omega) hlim).mono ?_; rintro e w1 ⟨rfl, v1, H1, F1⟩)
  go_ret
  exact ⟨rfl, v1, H1, F1⟩
set_option maxRecDepth 10000 in
theorem WU32_own {b : Nat} {v : Value} {l : List Int} {n : Int} {w : World} (h : Wrt b v l w) (hn0 : 0 ≤ n) (hn1 : n < 4294967296) (hlim : l.length + 4 ≤ 140737488355328) :
    Calls Tryd.prog 28 #[.pointer (some ⟨b, 0, none⟩), .int .u32 n] w fun e w' => e = .returned (.pointer (some ⟨b, 0, none⟩)) ∧ ∃ v', Hid (Wrt b v' (l ++ be n 4) w') ∧ Hid (WFr b v v' w w') := by
  have H := Lib.hid h
  clear h
  go_enter Tryd.func28, Tryd.ntmps28
  go_wp2_with (go_at_call 50; refine (put_own (size := 4) H.out hn0 (by omega) (by omega) hlim).mono ?_; rintro e w1 ⟨rfl, v1, H1, F1⟩)
  go_ret
  exact ⟨rfl, v1, H1, F1⟩
end Go.Proofs.YtigknfkkegccgaaDoor.K

/- Rows of elements: what is appended to a row of the call's own is read out of another one. -/
namespace Go.Proofs.YtigknfkkegccgaaDoor.K
open Go.RowKit
set_option linter.unusedVariables false
set_option linter.unusedSimpArgs false
theorem flat_at {α : Type} {c : α → List Value} {size : Nat} (hc : ∀ x, (c x).length = size) : ∀ (l : List α) (i : Nat) (x : α), l[i]? = some x → ∀ j u, (c x)[j]? = some u → (l.flatMap c)[i * size + j]? = some u := by
  intro l
  induction l with
  | nil => intro i x h; simp at h
  | cons y l ih =>
    intro i x h j u hu
    rw [List.flatMap_cons]
    cases i with
    | zero =>
      simp at h; subst h
      have hj : j < (c y).length := (List.getElem?_eq_some_iff.1 hu).1
      rw [List.getElem?_append_left (by omega), Nat.zero_mul, Nat.zero_add]
      exact hu
    | succ i =>
      simp at h
      rw [List.getElem?_append_right (by rw [hc, Nat.succ_mul]; omega), hc, show (i + 1) * size + j - size = i * size + j by rw [Nat.succ_mul]; omega]
      exact ih i x h j u hu
theorem flat_inv {α : Type} {c : α → List Value} {size : Nat} (hc : ∀ x, (c x).length = size) : ∀ (l : List α) (j : Nat) (u : Value), (l.flatMap c)[j]? = some u → ∃ i x k, l[i]? = some x ∧ (c x)[k]? = some u ∧ j = i * size + k := by
  intro l
  induction l with
  | nil => intro j u h; simp at h
  | cons y l ih =>
    intro j u h
    rw [List.flatMap_cons] at h
    by_cases hj : j < size
    · rw [List.getElem?_append_left (by rw [hc]; exact hj)] at h
      exact ⟨0, y, j, rfl, h, by omega⟩
    · rw [List.getElem?_append_right (by rw [hc]; omega), hc] at h
      obtain ⟨i, x, k, h1, h2, h3⟩ := ih _ _ h
      exact ⟨i + 1, x, k, by simpa using h1, h2, by rw [Nat.succ_mul]; omega⟩
theorem flat_len {α : Type} {c : α → List Value} {size : Nat} (hc : ∀ x, (c x).length = size) (l : List α) : (l.flatMap c).length = l.length * size := by
  induction l with
  | nil => simp
  | cons y l ih => rw [List.flatMap_cons, List.length_append, hc, ih, List.length_cons, Nat.succ_mul]; omega
theorem row_own {α : Type} {c : α → List Value} {size base : Nat} {e : TypeId} {w : World} {A : Option Addr} {cap : Nat} {l : List α} (hc : ∀ x, (c x).length = size)
    (h : w.ownsRow base e size (.slice A l.length cap) l.length (l.flatMap c)) : RowOf c size w w.heap.size A l := by
  intro i x hx
  have hi : i < l.length := (List.getElem?_eq_some_iff.1 hx).1
  obtain ⟨g, cap', hv, _, hlt⟩ := h.form (by omega)
  have hA : A = some ⟨g, 0, none⟩ := by injection hv
  subst hA
  exact ⟨_, rfl, hlt, fun j u hu => h.cells (g := g) rfl _ _ (flat_at hc l i x hx j u hu)⟩
theorem run_append_nil {P : Program} {w : World} (base : Nat) (t ty e : TypeId) (i : TypeInfo) (size : Nat) (ht : P.underlying t = some (.slice e)) (hi : P.info? e = some i)
    (v : Value) (n c : Nat) (xs : List Value) (hown : w.ownsRow base e size v n xs) :
    (Builtin.append_ #[t, t] ty #[v, .slice none 0 c]).run P w = .ok v w := by
  rcases hown.2 with ⟨rfl, rfl⟩ | ⟨g, cap, cur, rfl, _, _, hnc, _⟩
  · simp [Builtin.append_, run_underlying ht, sizeOf, typeInfo, hi, Builtin.lenOf, Builtin.firstCells]
  · simp [Builtin.append_, run_underlying ht, sizeOf, typeInfo, hi, Builtin.lenOf, Builtin.firstCells, hnc, storeCells]
/-- 'append(s, x...)', s a row of the call's own, x any row that can be read. -/
theorem appR {α : Type} {c : α → List Value} {P : Program} {w : World} {ops : Array Oper} {rest : List Oper} {o : Oper} {a : Act} {Q : Exit → Act → World → Prop} (hgd : o.guard = none) (s x : Operand) (t : TypeId)
    (ho : o.op = .call { callee := .builtin .append, args := #[s, x], argTypes := #[t, t] })
    (e : TypeId) (z : Value) (size bytes : Nat) (ht : P.underlying t = some (.slice e)) (hinfo : (P.info? e).map (fun i => (i.zero, i.size, i.bytes)) = some (some z, size, bytes))
    (hzs : z.cells.size = size) (hsz : 0 < size) (hby : 0 < bytes) (hcs : ∀ y, (c y).length = size) (h1 : ∀ y, ∀ u ∈ c y, u.oneCell' = true)
    (base B : Nat) (v : Value) (xs l : List α) (A : Option Addr) (cap : Nat) (hs : a.eval s = v) (hx : a.eval x = .slice A l.length cap)
    (HR : RowOf c size w B A l) (HO : w.ownsRow base e size v xs.length (xs.flatMap c)) (hbase : base ≤ w.heap.size) (hl : (xs.length + l.length) * bytes ≤ 140737488355328)
    (h : ∀ v1 w1, w1.ownsRow base e size v1 (xs ++ l).length ((xs ++ l).flatMap c) → Fr (fun k => v.ownBlock = some k) w w1 → (∀ k, v1.ownBlock = some k → v.ownBlock = some k ∨ w.heap.size ≤ k) → wpList P ops Q rest (a.put o.dst v1) w1) :
    wpList P ops Q (o :: rest) a w := by
  obtain ⟨i0, hi, hz0, hz1, hz2⟩ := info_parts hinfo
  by_cases hA : A = none
  · subst hA
    have hl0 : l = [] := by
      cases l with
      | nil => rfl
      | cons y l => obtain ⟨ad, e, _⟩ := HR 0 y rfl; cases e
    subst hl0
    refine wpList_plain hgd fun K hK => ?_
    have hrun := run_append_nil (P := P) (w := w) base t o.type e i0 size ht hi v xs.length cap (xs.flatMap c) HO
    have hx' : a.eval x = .slice none 0 cap := hx
    unfold Oper.wp
    simp [execOp, ho, resolve, invoke, builtin, hs, hx', hrun, Result.andThen]
    exact hK _ _ (h v w (by simpa using HO) (Fr.refl _ _) (fun k hk => .inl hk))
  · obtain ⟨ad, rfl⟩ : ∃ ad, A = some ad := by cases A with
      | none => exact absurd rfl hA
      | some ad => exact ⟨ad, rfl⟩
    refine wpList_append_own_at w hgd s x t ho base e i0 z size bytes ht hi hz0 hz1 hz2 hzs hsz v xs.length (xs.flatMap c) hs HO ad l.length cap (l.flatMap c) hx (flat_len hcs l) ?_ ?_ ?_ hl hbase ?_
    · intro j u hu
      obtain ⟨i, y, k, h2, h3, rfl⟩ := flat_inv hcs l j u hu
      obtain ⟨ad', e', _, hc⟩ := HR i y h2
      injection e' with e'; subst e'
      exact hc k u h3
    · intro u hu
      obtain ⟨y, _, hy⟩ := List.mem_flatMap.1 hu
      exact h1 y u hy
    · have := Nat.le_trans (Nat.le_mul_of_pos_right _ hby) hl
      simp only [maxLen]; omega
    · intro v1 w1 hown hg _ hat
      refine h v1 w1 (by rw [List.length_append, List.flatMap_append]; exact hown) ((Fr.refl (fun k => v.ownBlock = some k) w).grown hg (fun j _ e => e)) (fun k hk => ?_)
      rcases hat with hat | hat
      · exact .inl (hat ▸ hk)
      · rw [hat] at hk; injection hk with hk; exact .inr (by omega)
/-- A field of an element, as the walk names its cell. -/
theorem add_field (ad : Addr) (m j : Nat) (hj : 0 < j) : ad.add (m + j) = ⟨(ad.add m).block, (ad.add m).off + j, none⟩ := by
  unfold Addr.add
  by_cases hm : m = 0
  · subst hm
    rw [if_neg (by omega), if_pos rfl]
    simp
  · rw [if_neg (by omega), if_neg hm]
    simp [Nat.add_assoc]
/-- As app1, the new cell's block by a number of its own. -/
theorem app1g {P : Program} {W : World} {ops : Array Oper} {rest : List Oper} {o : Oper} {a : Act} {Q : Exit → Act → World → Prop} (hgd : o.guard = none) (s x : Operand) (t : TypeId)
    (ho : o.op = .call { callee := .builtin .append, args := #[s, x], argTypes := #[t, t] })
    (e : TypeId) (z : Value) (size bytes : Nat) (ht : P.underlying t = some (.slice e)) (hinfo : (P.info? e).map (fun i => (i.zero, i.size, i.bytes)) = some (some z, size, bytes))
    (hzs : z.cells.size = size) (hsz : 0 < size) (hby : 0 < bytes)
    (base g : Nat) (hg : W.heap.size = g) (v : Value) (n : Nat) (xs ys : List Value) (hs : a.eval s = v) (hx : a.eval x = .slice (some ⟨g, 0, none⟩) 1 1)
    (hy : ys.length = size) (h1 : ∀ u ∈ ys, u.oneCell' = true) (HO : W.ownsRow base e size v n xs) (hbase : base ≤ W.heap.size) (hl : (n + 1) * bytes ≤ 140737488355328)
    (h : ∀ v1 w1, w1.ownsRow base e size v1 (n + 1) (xs ++ ys) → Fr (fun k => v.ownBlock = some k) W w1 → (∀ k, v1.ownBlock = some k → v.ownBlock = some k ∨ W.heap.size ≤ k) → wpList P ops Q rest (a.put o.dst v1) w1) :
    wpList P ops Q (o :: rest) a (W.alloc (.cells ys.toArray e)) := by
  subst hg
  exact app1 hgd s x t ho e z size bytes ht hinfo hzs hsz hby base v n xs ys hs hx hy h1 HO hbase hl h
end Go.Proofs.YtigknfkkegccgaaDoor.K

/- A Writer: Bytes of parts, Done; slices.Clone of bytes; Join. -/
namespace Go.Proofs.YtigknfkkegccgaaDoor.K
open Go.RowKit
set_option linter.unusedVariables false
set_option linter.unusedSimpArgs false
/-- A part: where its bytes lie, its capacity, its bytes. -/
abbrev Part := Option Addr × Nat × List Int
abbrev cP : Part → List Value := fun p => [.slice p.1 p.2.2.length p.2.1]
/-- All parts as one. -/
def flat (ps : List Part) : List Int := ps.flatMap fun p => p.2.2
theorem flat_take (ps : List Part) (k : Nat) (h : k < ps.length) : flat (ps.take (k + 1)) = flat (ps.take k) ++ (ps[k]).2.2 := by
  unfold flat
  rw [List.take_succ_eq_append_getElem h, List.flatMap_append]
  simp
theorem RowOf.one {α : Type} {c : α → List Value} {w : World} {B : Nat} {A : Option Addr} {l : List α} {g : α → Value} (hc : ∀ x, c x = [g x]) (h : RowOf c 1 w B A l) {i : Nat} (hi : i < l.length) : ∃ ad, A = some ad ∧ ad.block < B ∧ w.cell? (ad.add i) = some (g l[i]) := by
  obtain ⟨ad, rfl, hb, hcc⟩ := h i (l[i]) (List.getElem?_eq_getElem hi)
  refine ⟨ad, rfl, hb, ?_⟩
  have := hcc 0 (g l[i]) (by rw [hc]; rfl)
  rwa [Nat.mul_one, Nat.add_zero] at this
theorem RowOf.more_ {α : Type} {c : α → List Value} {size : Nat} {w : World} {B B' : Nat} {A : Option Addr} {l : List α} (h : RowOf c size w B A l) (hb : B ≤ B') : RowOf c size w B' A l := by
  intro i x hx
  obtain ⟨ad, rfl, hb', hc⟩ := h i x hx
  exact ⟨ad, rfl, by omega, hc⟩
theorem RowOf.now {α : Type} {c : α → List Value} {size : Nat} {w w' : World} {A : Option Addr} {l : List α} (h : RowOf c size w w.heap.size A l) (hb : Below w.heap.size w w') : RowOf c size w' w'.heap.size A l := (h.below hb).more_ hb.size
/-- A row of bytes of the call's own. -/
def Made (B : Nat) (A : Option Addr) (c : Nat) (l : List Int) (w : World) : Prop := w.ownsRow B 5 1 (.slice A l.length c) l.length (nums .u8 l) ∧ RowOf c8 1 w w.heap.size A l ∧ l.length ≤ c
theorem nums_flat (l : List Int) : nums .u8 l = l.flatMap c8 := by
  induction l with
  | nil => rfl
  | cons x l ih => simp [nums] at *; exact ih
theorem made_of {B : Nat} {v : Value} {l : List Int} {w : World} (h : w.ownsRow B 5 1 v l.length (nums .u8 l)) : ∃ A c, v = .slice A l.length c ∧ Made B A c l w := by
  obtain ⟨A, c, rfl, hc⟩ := own_form h
  exact ⟨A, c, rfl, h, row_own (c := c8) (fun _ => rfl) (by rw [← nums_flat]; exact h), hc⟩
/-- A literal row of no elements is made, and written. -/
theorem lit_fr {w w2 : World} {v : Value} {o : Obj} (h4 : Fr (fun k => v.ownBlock = some k) (w.alloc o) w2) (h : ∀ k, v.ownBlock = some k → w.heap.size ≤ k) : Fr0 w w2 :=
  ((Fr.refl (fun _ => False) w).alloc o).trans h4 (fun j hj e => by have := h j e; omega)
set_option maxHeartbeats 4000000 in
set_option maxRecDepth 10000 in
theorem CloneC {A : Option Addr} {c : Nat} {l : List Int} {w : World} (hl : l.length ≤ 140737488355328) (h : RowOf c8 1 w w.heap.size A l) :
    Calls Tryd.prog 51 #[.slice A l.length c] w fun e w' => ∃ A' c', e = .returned (.slice A' l.length c') ∧ Hid (Made w.heap.size A' c' l w') ∧ Hid (Fr0 w w') := by
  cases A with
  | none =>
    have hl0 : l = [] := by
      cases l with
      | nil => rfl
      | cons y l => obtain ⟨ad, e, _⟩ := h 0 y rfl; cases e
    subst hl0
    have hnil : ∀ W, (binOp .eql 26 (.slice none 0 c) (.slice none 0 0)).run Tryd.prog W = .ok (.bool true) W := fun W => Lib.run_eql_slice_nil_nil W _ _ Tryd.underlying26
    go_enter Tryd.func51, Tryd.ntmps51
    go_wp2
    go_ret
    exact ⟨none, 0, rfl, Lib.hid ⟨own_nil _ _ _ _, h, Nat.le_refl _⟩, Lib.hid (Fr.refl _ _)⟩
  | some ad =>
    have hnil : ∀ W, (binOp .eql 26 (.slice (some ad) l.length c) (.slice none 0 0)).run Tryd.prog W = .ok (.bool false) W := fun W => Lib.run_eql_slice_some_nil W _ _ _ Tryd.underlying26
    have HR := Lib.hid h
    clear h
    go_enter Tryd.func51, Tryd.ntmps51
    go_wp2_with (at_builtin; go_loud (refine appR (c := c8) rfl _ _ _ rfl 5 (.int .u8 0) 1 1 Tryd.underlying26 info_u8 rfl (by omega) (by omega) (fun _ => rfl) (fun y u hu => by simp at hu; subst hu; rfl) w.heap.size w.heap.size _ [] l _ _ rfl rfl (RowOf.below HR.out ((Below.refl _ w).alloc (Nat.le_refl _) _)) (World.ownsRow_lit w #[] 0 (Nat.le_refl _) (by decide) rfl) (by simp) (by simp only [List.length_nil]; omega) ?_; intro v2 w2 h3 h4 h5; have F1 := Lib.hid (lit_fr h4 (fun k hk => Nat.le_of_eq (Option.some.inj hk))); have G1 := Lib.hid (made_of (B := w.heap.size) (v := v2) (l := l) (by rw [nums_flat]; exact h3)); clear h3 h4 h5))
    go_ret
    obtain ⟨A2, c2, rfl, hm⟩ := G1.out
    exact ⟨A2, c2, rfl, Lib.hid hm, F1⟩
end Go.Proofs.YtigknfkkegccgaaDoor.K

/- A Writer: what it holds is told; Join. -/
namespace Go.Proofs.YtigknfkkegccgaaDoor.K
open Go.RowKit
set_option linter.unusedVariables false
set_option linter.unusedSimpArgs false
theorem cut0n (W : World) : (Instr.slice 26 (.slice none 0 0) (some (.int .i64 0)) none none).run Tryd.prog W = .ok (.slice none 0 0) W := by
  obtain ⟨i0, hi, hz0, hz1, hz2⟩ := info_parts info_u8
  have hel : Tryd.prog.elem 26 = 5 := by simp [Program.elem, Tryd.underlying26]
  have hu : Tryd.prog.underlying 26 = some (.slice (Tryd.prog.elem 26)) := by rw [hel]; exact Tryd.underlying26
  rw [run_slice_l W 26 none 0 0 hu .i64 0 (by omega) (by omega), hel]
  simp [sizeOf, typeInfo, hi, sliced, Result.andThen]
set_option maxRecDepth 10000 in
theorem wrt_open {b : Nat} {v : Value} {l : List Int} {w : World} (h : Wrt b v l w) : ∃ A c, v = .slice A l.length c ∧ RowOf c8 1 w w.heap.size A l ∧ w.cell? ⟨b, 0, none⟩ = some (.slice A l.length c) ∧ w.cell? ⟨b, 1, none⟩ = some (.int .i64 0) ∧
    ∀ W, (Instr.slice 26 (.slice A l.length c) (some (.int .i64 0)) none none).run Tryd.prog W = .ok (.slice A l.length c) W := by
  obtain ⟨⟨lr, hb⟩, hown, hv⟩ := h
  rw [nums_length] at hown
  obtain ⟨A, c, rfl, hc⟩ := own_form hown
  refine ⟨A, c, rfl, row_own (c := c8) (fun _ => rfl) (by rw [← nums_flat]; exact hown), hb.cell 0, hb.cell 1, fun W => ?_⟩
  rcases hown.2 with ⟨hv0, h0⟩ | ⟨g, cap, cur, hv0, _, _, hnc, _⟩
  · injection hv0 with h1 h2 h3
    subst h1 h3; rw [h2]; exact cut0n W
  · injection hv0 with h1 h2 h3
    subst h1 h3; exact cut0 g _ _ W hc
set_option maxHeartbeats 4000000 in
set_option maxRecDepth 10000 in
theorem BufBytesC {b : Nat} {v : Value} {l : List Int} {w : World} (h : Wrt b v l w) :
    Calls Tryd.prog 52 #[.pointer (some ⟨b, 0, none⟩)] w fun e w' => ∃ A c, e = .returned (.slice A l.length c) ∧ Hid (RowOf c8 1 w w.heap.size A l) ∧ ∃ n, w' = w.drewN n := by
  obtain ⟨A, c, _, hr, c0, c1, hcut⟩ := wrt_open h
  have HR := Lib.hid hr
  clear h hr
  go_enter Tryd.func52, Tryd.ntmps52
  go_wp2_with fail
  go_quiet (fail)
  go_wp2
  go_ret
  exact ⟨A, c, rfl, HR, _, rfl⟩
theorem RowOf.drewN_ {α : Type} {c : α → List Value} {size B : Nat} {w : World} {A : Option Addr} {l : List α} (h : RowOf c size w B A l) (n : Nat) : RowOf c size (w.drewN n) B A l := h
theorem Fr.undrew {S : Nat → Prop} {w w' : World} (h : Fr S w.drew w') : Fr S w w' := ⟨h.os, h.tape, h.output, h.size, h.block⟩
theorem Fr.undrewN {S : Nat → Prop} {w w' : World} {n : Nat} (h : Fr S (w.drewN n) w') : Fr S w w' := ⟨h.os, h.tape, h.output, h.size, h.block⟩
set_option maxRecDepth 10000 in
theorem WDoneC {b : Nat} {v : Value} {l : List Int} {w : World} (h : Wrt b v l w) (hl : l.length ≤ 140737488355328) :
    Calls Tryd.prog 31 #[.pointer (some ⟨b, 0, none⟩)] w fun e w' => ∃ A' c', e = .returned (.slice A' l.length c') ∧ Hid (Made w.heap.size A' c' l w') ∧ Hid (Fr0 w w') := by
  have H := Lib.hid h
  clear h
  go_enter Tryd.func31, Tryd.ntmps31
  go_wp2_with fail
  (with_reducible refine (BufBytesC H.out).mono ?_)
  rintro e w1 ⟨A, c, rfl, HR, n, rfl⟩
  go_wp2_with fail
  (with_reducible refine (CloneC hl (HR.out.drewN_ n)).mono ?_)
  rintro e w2 ⟨A2, c2, rfl, H2, F2⟩
  go_wp2
  go_ret
  exact ⟨A2, c2, rfl, H2, Lib.hid F2.out.undrewN⟩
theorem wrt_new (w : World) : Wrt w.heap.size (.slice none 0 0) [] (w.alloc (.cells #[.slice none 0 0, .int .i64 0, .int .i8 0] 71)) :=
  ⟨⟨0, Blk.new w _ _⟩, own_nil _ _ _ _, by simp [Value.ownBlock]⟩
end Go.Proofs.YtigknfkkegccgaaDoor.K

/- A Reader: Read, Bytes, Left, Done, Rest. -/
namespace Go.Proofs.YtigknfkkegccgaaDoor.K
open Go.RowKit
set_option linter.unusedVariables false
set_option linter.unusedSimpArgs false
/-- The Reader at r: the bytes l are left; they lie in block G. -/
def Rd (r : Nat) (G : Option Nat) (l : List Int) (w : World) : Prop :=
  ∃ o c cells, Blk w r 103 #[.slice (G.map fun g => ⟨g, o, none⟩) l.length c] ∧ l.length ≤ c ∧ c ≤ 9223372036854775807 ∧ (∀ g, G = some g → Blk w g 5 cells ∧ ∀ i x, l[i]? = some x → cells[o + i]? = some (.int .u8 x)) ∧ (G = none → l = [])
section
variable {r : Nat} {G : Option Nat} {l : List Int} {w w' : World} {S : Nat → Prop}
theorem Rd.fr (h : Rd r G l w) (k : Fr S w w') (hr : ¬ S r) (hg : ∀ g, G = some g → ¬ S g) : Rd r G l w' := by
  obtain ⟨o, c, cells, hb, hl, hc, hG, h0⟩ := h
  exact ⟨o, c, cells, hb.fr k hr, hl, hc, fun g e => ⟨((hG g e).1).fr k (hg g e), (hG g e).2⟩, h0⟩
theorem Rd.fr0 (h : Rd r G l w) (k : Fr0 w w') : Rd r G l w' := h.fr k (fun h => h) (fun _ _ h => h)
theorem Rd.drew (h : Rd r G l w) : Rd r G l w.drew := h
theorem Rd.drewN (h : Rd r G l w) (n : Nat) : Rd r G l (w.drewN n) := h
theorem Rd.lt (h : Rd r G l w) : r < w.heap.size := by obtain ⟨o, c, cells, hb, _⟩ := h; exact hb.lt
theorem Rd.ltG (h : Rd r G l w) : ∀ g, G = some g → g < w.heap.size := fun g e => by obtain ⟨o, c, cells, hb, _, _, hG, _⟩ := h; exact (hG g e).1.lt
end
set_option maxHeartbeats 4000000 in
set_option maxRecDepth 10000 in
theorem ReadC {A : Option Addr} {c : Nat} {l : List Int} {w : World} (hl : l.length ≤ 140737488355328) (h : RowOf c8 1 w w.heap.size A l) :
    Calls Tryd.prog 35 #[.slice A l.length c] w fun e w' => ∃ r G, e = .returned (.pointer (some ⟨r, 0, none⟩)) ∧ w.heap.size ≤ r ∧ (∀ g, G = some g → w.heap.size ≤ g) ∧ Hid (Rd r G l w') ∧ Hid (Fr0 w w') := by
  have H := Lib.hid h
  clear h
  go_enter Tryd.func35, Tryd.ntmps35
  go_wp2_with fail
  (with_reducible refine (CloneC hl H.out).mono ?_)
  rintro e w1 ⟨A1, c1, rfl, H1, F1⟩
  go_wp2
  go_ret
  obtain ⟨hown, hrow, hc⟩ := H1.out
  have hs := F1.out.size
  rcases hown.2 with ⟨hv, h0⟩ | ⟨g, cap, cur, hv, hg, hblk, hnc, hcm, hcs, htk⟩
  · injection hv with h1 h2 h3
    subst h1
    obtain rfl : l = [] := List.eq_nil_of_length_eq_zero h0
    exact ⟨_, none, rfl, hs, fun g e => (by cases e), Lib.hid ⟨0, c1, #[], Blk.new w1 _ _, hc, by omega, fun g e => (by cases e), fun _ => rfl⟩, Lib.hid (F1.out.alloc _)⟩
  · injection hv with h1 h2 h3
    subst h1 h3
    unfold maxLen at hcm
    refine ⟨_, some g, rfl, hs, fun g' e => (by injection e with e; omega), Lib.hid ⟨0, c1, cur, Blk.new w1 _ _, hc, by omega, fun g' e => ?_, fun e => by cases e⟩, Lib.hid (F1.out.alloc _)⟩
    injection e with e
    subst e
    refine ⟨Blk.alloc hblk _, fun i x hx => ?_⟩
    have hi : i < l.length := (List.getElem?_eq_some_iff.1 hx).1
    have e1 : (nums .u8 l)[i]? = some (.int .u8 x) := by simp [nums, hx]
    rw [← htk, List.getElem?_take, if_pos (by omega)] at e1
    rw [Nat.zero_add, ← e1, Array.getElem?_toList]
theorem rd_cell {r : Nat} {G : Option Nat} {l : List Int} {w : World} (h : Rd r G l w) : ∃ A c, w.cell? ⟨r, 0, none⟩ = some (.slice A l.length c) ∧ l.length ≤ c ∧ c ≤ 9223372036854775807 := by
  obtain ⟨o, c, cells, hb, hl, hc, _⟩ := h
  exact ⟨_, c, hb.cell 0, hl, hc⟩
set_option maxRecDepth 10000 in
theorem RDoneC {r : Nat} {G : Option Nat} {l : List Int} {w : World} (h : Rd r G l w) :
    Calls Tryd.prog 43 #[.pointer (some ⟨r, 0, none⟩)] w fun e w' => e = .returned (.int .i64 (if l.length = 0 then 0 else 3)) ∧ w' = w := by
  obtain ⟨A, c, c0, _, _⟩ := rd_cell h
  by_cases h0 : l.length = 0
  · rw [h0] at c0
    rw [if_pos h0]
    clear h h0
    go_enter Tryd.func43, Tryd.ntmps43
    go_wp2
    go_ret
    exact ⟨rfl, rfl⟩
  · rw [if_neg h0]
    have h1 : (0 : Int) < (l.length : Int) := by omega
    have h2 : 0 < l.length := by omega
    clear h h0
    go_enter Tryd.func43, Tryd.ntmps43
    go_wp2
    go_ret
    exact ⟨rfl, rfl⟩
set_option maxRecDepth 10000 in
theorem RBytesNeg {r : Nat} {n : Int} {w : World} (hn : n < 0) :
    Calls Tryd.prog 61 #[.pointer (some ⟨r, 0, none⟩), .int .i64 n] w fun e w' => e = .returned (.tuple #[.slice none 0 0, .int .i64 1]) ∧ w' = w := by
  go_enter Tryd.func61, Tryd.ntmps61
  go_wp2
  go_ret2
  exact ⟨rfl, rfl⟩
set_option maxRecDepth 10000 in
theorem RBytesShort {r : Nat} {G : Option Nat} {l : List Int} {n : Int} {w : World} (h : Rd r G l w) (hn : (l.length : Int) < n) :
    Calls Tryd.prog 61 #[.pointer (some ⟨r, 0, none⟩), .int .i64 n] w fun e w' => e = .returned (.tuple #[.slice none 0 0, .int .i64 2]) ∧ w' = w := by
  obtain ⟨A, c, c0, _, _⟩ := rd_cell h
  have hn0 : ¬ n < 0 := by omega
  clear h
  go_enter Tryd.func61, Tryd.ntmps61
  go_wp2
  go_ret2
  exact ⟨rfl, rfl⟩
theorem splice_all {α : Type} (L cs : List α) (h : cs.length = L.length) : splice L 0 cs = cs := by simp [splice, h]
theorem cutd {G : Option Nat} {o l c n : Nat} (hn : n ≤ l) (hl : l ≤ c) (hc : c ≤ 9223372036854775807) : ∃ o' c', (∀ W, (Instr.slice 26 (.slice (G.map fun g => (⟨g, o, none⟩ : Addr)) l c) (some (.int .i64 n)) none none).run Tryd.prog W = .ok (.slice (G.map fun g => ⟨g, o', none⟩) (l - n) c') W) ∧ l - n ≤ c' ∧ c' ≤ c ∧ (0 < l - n → o' = o + n) := by
  obtain ⟨i0, hi, hz0, hz1, hz2⟩ := info_parts info_u8
  have hel : Tryd.prog.elem 26 = 5 := by simp [Program.elem, Tryd.underlying26]
  have hu : Tryd.prog.underlying 26 = some (.slice (Tryd.prog.elem 26)) := by rw [hel]; exact Tryd.underlying26
  refine ⟨if c = n then o else o + n, c - n, fun W => ?_, by omega, by omega, fun h => if_neg (by omega)⟩
  rw [run_slice_l W 26 _ l c hu .i64 n (by omega) (by omega), hel]
  by_cases hcn : c = n
  · subst hcn
    cases G <;> simp [sizeOf, typeInfo, hi, hz1, sliced, Result.andThen]
  · cases G <;> simp [sizeOf, typeInfo, hi, hz1, sliced, Result.andThen, hcn, add_plain]
set_option maxHeartbeats 4000000 in
set_option maxRecDepth 10000 in
theorem RBytesOk {r n : Nat} {G : Option Nat} {l : List Int} {w : World} (h : Rd r G l w) (hn : n ≤ l.length) (hlim : n ≤ 140737488355328) :
    Calls Tryd.prog 61 #[.pointer (some ⟨r, 0, none⟩), .int .i64 n] w fun e w' => e = .returned (.tuple #[.slice (some ⟨w.heap.size, 0, none⟩) n n, .int .i64 0]) ∧ Hid (Blk w' w.heap.size 5 (nums .u8 (l.take n)).toArray) ∧ Hid (Rd r G (l.drop n) w') ∧ Hid (Fr1 r w w') := by
  obtain ⟨o, c, cells, hb, hlc, hc, hG, h0⟩ := h
  obtain ⟨i0, hi, hz0, hz1, hz2⟩ := info_parts info_u8
  have hmk : ∀ W, (Instr.makeSlice 26 (.int .i64 n) (.int .i64 n)).run Tryd.prog W = .ok (.slice (some ⟨W.heap.size, 0, none⟩) n n) (W.alloc (.cells (madeCells #[.int .u8 0] n) 5)) := fun W => by
    have := run_make (P := Tryd.prog) W 26 5 i0 (.int .u8 0) Tryd.underlying26 hi hz0 .i64 .i64 n n (by omega) (by omega) (by rw [hz2]; omega) (by omega)
    rw [hz1] at this
    simpa [Value.cells] using this
  clear hi hz0 hz1 hz2
  obtain ⟨o', c', hcut, hc1, hc2, hc3⟩ := cutd (G := G) (o := o) hn hlc hc
  obtain ⟨A, hA⟩ : ∃ A, A = G.map fun g => (⟨g, o, none⟩ : Addr) := ⟨_, rfl⟩
  obtain ⟨A', hA'⟩ : ∃ A, A = G.map fun g => (⟨g, o', none⟩ : Addr) := ⟨_, rfl⟩
  rw [← hA, ← hA'] at hcut
  rw [← hA] at hb
  obtain ⟨cs, hcs⟩ : ∃ cs, cs = nums .u8 (l.take n) := ⟨_, rfl⟩
  have hml : cs.length = n := by rw [hcs, nums_length, List.length_take]; omega
  have hone : ∀ u ∈ cs, u.oneCell' = true := hcs ▸ one_nums _ _
  obtain ⟨cur, hcur⟩ : ∃ cur, cur = madeCells #[.int .u8 0] n := ⟨_, rfl⟩
  have hsz : cur.size = n := by rw [hcur]; simp [madeCells]
  rw [← hcur] at hmk
  have c0 : w.cell? ⟨r, 0, none⟩ = some (.slice A l.length c) := hb.cell 0
  have hb1 : Blk (w.alloc (.cells cur 5)) r 103 #[.slice A l.length c] := hb.alloc _
  have c1 : (w.alloc (.cells cur 5)).cell? ⟨r, 0, none⟩ = some (.slice A l.length c) := hb1.cell 0
  have hsrc : 0 < cs.length → ∃ ad, A = some ad ∧ ∀ j u, cs[j]? = some u → (w.alloc (.cells cur 5)).cell? (ad.add j) = some u := by
    intro hp
    cases hGe : G with
    | none => have := h0 hGe; subst this; simp at hn; omega
    | some g =>
      rw [hGe] at hA
      refine ⟨_, hA, fun j u hu => ?_⟩
      obtain ⟨k1, k2⟩ := hG g hGe
      have hj : j < n := by rw [← hml]; exact (List.getElem?_eq_some_iff.1 hu).1
      rw [hcs] at hu
      have hx : l[j]? = some l[j] := List.getElem?_eq_getElem (by omega)
      have := k2 j _ hx
      rw [add_plain, (k1.alloc _).cell, this, ← hu]
      simp [nums, List.getElem?_take, hj, hx]
  have HB := Lib.hid hb
  have HB1 := Lib.hid hb1
  have HS := Lib.hid hsrc
  have HG := Lib.hid hG
  have H0 := Lib.hid h0
  have HONE := Lib.hid hone
  have HML := Lib.hid hml
  have HCS := Lib.hid hcs
  have HA' := Lib.hid hA'
  have HC3 := Lib.hid hc3
  have hne : r ≠ w.heap.size := by have := hb.lt; omega
  rw [← hcs]
  clear hb hb1 hsrc hG h0 hone hml hcs hA hA' hcur hc3
  have hn0 : ¬ ((n : Int) < 0) := by omega
  have hn1 : ¬ ((n : Int) > (l.length : Int)) := by omega
  go_enter Tryd.func61, Tryd.ntmps61
  go_wp2_with ((refine copyF rfl (.tmp 20) (.tmp 24) 26 26 rfl 5 Tryd.underlying26 info1_u8 _ _ _ _ _ _ rfl rfl w.heap.size 0 cur 5 (Blk.new w _ _) cs ?c1 ?c2 ?c3 HONE.out ?_; (case c1 => rw [HML.out]; exact (Nat.min_eq_right hn).symm); (case c2 => exact fun h => ⟨rfl, HS.out h⟩); (case c3 => rw [HML.out, hsz]; omega); intro w4 G4 F4; have B4 := Lib.hid (HB1.out.fr F4.out hne); have d0 := B4.out.cell 0; have d1 := B4.out.frozen 0; clear c0 c1))
  go_ret2
  refine ⟨rfl, Lib.hid ?_, Lib.hid ⟨o', c', cells, ?_, by rw [List.length_drop]; exact hc1, by omega, fun g e => ⟨?_, fun i x hx => ?_⟩, fun e => by rw [H0.out e]; simp⟩, Lib.hid ?_⟩
  · have := G4.out
    rw [splice_all _ _ (by rw [HML.out, Array.length_toList, hsz])] at this
    exact this.far (Ne.symm hne) _
  · rw [← HA'.out, List.length_drop]
    simpa using B4.out.set_ 0 (.slice A' (l.length - n) c')
  · have k1 := ((HG.out g e).1).lt
    exact ((((HG.out g e).1).alloc _).fr F4.out (by omega)).far (by
      have := Blk.ne_ ((HG.out g e).1) HB.out (by decide)
      exact this) _
  · rw [List.getElem?_drop] at hx
    have hi : n + i < l.length := (List.getElem?_eq_some_iff.1 hx).1
    rw [HC3.out (by omega), Nat.add_assoc]
    exact (HG.out g e).2 _ _ hx
  · exact ((((Fr.refl (fun k => k = r) w).alloc _).trans F4.out (fun j hj e => by subst e; omega))).setCell (fun _ => rfl) _
end Go.Proofs.YtigknfkkegccgaaDoor.K

/- A Reader: numbers of one, two, four bytes. -/
namespace Go.Proofs.YtigknfkkegccgaaDoor.K
open Go.RowKit
set_option linter.unusedVariables false
set_option linter.unusedSimpArgs false
/-- Bytes as a number, the highest first. -/
def num (l : List Int) : Int := l.foldl (fun n c => n * 256 + c) 0
theorem num_snoc (l : List Int) (c : Int) : num (l ++ [c]) = num l * 256 + c := by simp [num]
theorem num_bound (l : List Int) (h : ∀ x ∈ l, (0 : Int) ≤ x ∧ x < 256) : 0 ≤ num l ∧ num l < 256 ^ l.length := by
  have key : ∀ (n : Nat) (l : List Int), l.length = n → (∀ x ∈ l, (0 : Int) ≤ x ∧ x < 256) → 0 ≤ num l ∧ num l < 256 ^ l.length := by
    intro n
    induction n with
    | zero => intro l hl h; obtain rfl := List.eq_nil_of_length_eq_zero hl; simp [num]
    | succ n ih =>
      intro l hl h
      have hne : l ≠ [] := by rintro rfl; simp at hl
      have e := List.dropLast_concat_getLast hne
      generalize l.dropLast = m at *
      generalize l.getLast hne = c at *
      subst e
      rw [List.length_append, List.length_singleton] at hl
      have h1 := ih m (by omega) (fun x hx => h x (by simp [hx]))
      have h2 := h c (by simp)
      rw [num_snoc, List.length_append, List.length_singleton, Int.pow_succ]
      generalize (256 : Int) ^ m.length = q at *
      omega
  exact key _ l rfl h
theorem or_byte (a c : Int) (ha : 0 ≤ a) (ha1 : a < 16777216) (h0 : 0 ≤ c) (h1 : c < 256) : bits .or .u32 (a * 256) c = a * 256 + c :=
  bits_join .u32 32 (by decide) (fun n h0 h1 => by rw [IntKind.wrap_u32]; omega) 8 (a * 256) c (by omega) (by omega) (by omega) h0 h1 (by omega)
/-- Bytes, each from 0 to 255. -/
def InB (l : List Int) : Prop := ∀ x ∈ l, (0 : Int) ≤ x ∧ x < 256
set_option maxHeartbeats 4000000 in
set_option maxRecDepth 10000 in
theorem numberOk {r n : Nat} {G : Option Nat} {l : List Int} {w : World} (h : Rd r G l w) (hn : n ≤ l.length) (h4 : n ≤ 4) (hb : InB l) :
    Calls Tryd.prog 55 #[.pointer (some ⟨r, 0, none⟩), .int .i64 n] w fun e w' => e = .returned (.tuple #[.int .u32 (num (l.take n)), .int .i64 0]) ∧ Hid (Rd r G (l.drop n) w') ∧ Hid (Fr1 r w w') := by
  have HC := Lib.hid (RBytesOk h hn (by omega))
  have HI := Lib.hid hb
  have hlen : (l.take n).length = n := by rw [List.length_take]; omega
  have HLen := Lib.hid hlen
  have HI2 : Hid (InB (l.take n)) := Lib.hid (fun x hx => HI.out x (List.mem_of_mem_take hx))
  obtain ⟨m, hm⟩ : ∃ m, m = l.take n := ⟨_, rfl⟩
  rw [← hm] at HC HLen HI2 ⊢
  clear h hb hlen hm
  go_enter Tryd.func55, Tryd.ntmps55
  go_wp2_with (go_at_call 61; (with_reducible refine HC.out.mono ?_); rintro e w1 ⟨rfl, H1, H2, H3⟩)
  go_loop [4, 17] (fun t i => ∃ k : Nat, k ≤ n ∧ i = .int .i64 k ∧ t = .int .u32 (num (m.take k))) (fun _ i => n - (intOf i).toNat)
  case atStart => exact ⟨0, Nat.zero_le _, rfl, rfl⟩
  case round =>
    obtain ⟨k, hk, rfl, rfl⟩ := hrel
    by_cases hlt : k < n
    · have hkm : k < m.length := by rw [HLen.out]; exact hlt
      have hc := H1.out.cell k
      have hx : (nums .u8 m).toArray[k]? = some (.int .u8 m[k]) := by simp [nums, hkm]
      rw [hx] at hc
      have hns : num (m.take (k + 1)) = num (m.take k) * 256 + m[k] := by rw [List.take_succ_eq_append_getElem hkm, num_snoc]
      have hbm := HI2.out (m[k]) (List.getElem_mem hkm)
      have hnb := num_bound (m.take k) (fun x hx => HI2.out x (List.mem_of_mem_take hx))
      have hkl : (m.take k).length = k := by rw [List.length_take]; omega
      rw [hkl] at hnb
      have hp : (256 : Int) ^ k ≤ 16777216 := by
        have : k = 0 ∨ k = 1 ∨ k = 2 ∨ k = 3 := by omega
        rcases this with h | h | h | h <;> subst h <;> decide
      have hnb1 : num (m.take k) < 16777216 := by omega
      have HNS := Lib.hid hns
      have hnb0 := hnb.1
      clear hx hns hnb hkl hp
      generalize m[k] = x at *
      generalize num (m.take k) = a at *
      obtain ⟨hx0, hx1⟩ := hbm
      go_wp2
      rw [or_byte a x hnb0 hnb1 hx0 hx1]
      go_round
      case rel => exact ⟨k + 1, by omega, by go_num, by rw [HNS.out]⟩
      case measure => simp [intOf]; omega
    · obtain rfl : k = n := by omega
      have e : m.take k = m := List.take_of_length_le (by rw [HLen.out]; exact Nat.le_refl _)
      rw [e]
      go_wp2
      go_ret2
      exact ⟨rfl, H2, H3⟩
set_option maxHeartbeats 4000000 in
set_option maxRecDepth 10000 in
theorem numberShort {r : Nat} {n : Int} {G : Option Nat} {l : List Int} {w : World} (h : Rd r G l w) (hn : (l.length : Int) < n) :
    Calls Tryd.prog 55 #[.pointer (some ⟨r, 0, none⟩), .int .i64 n] w fun e w' => e = .returned (.tuple #[.int .u32 0, .int .i64 2]) ∧ w' = w := by
  have HC := Lib.hid (RBytesShort h hn)
  clear h
  go_enter Tryd.func55, Tryd.ntmps55
  go_wp2_with (go_at_call 61; (with_reducible refine HC.out.mono ?_); rintro e w1 ⟨rfl, rfl⟩)
  refine wp_loop_rounds 1 ?_
  rw [rounds_succ]
  go_wp2
  go_ret2
  exact ⟨rfl, rfl⟩
theorem num_lt {l : List Int} {k : Nat} (hb : InB l) (hk : l.length ≤ k) : 0 ≤ num l ∧ num l < 256 ^ k := by
  have h := num_bound l hb
  have : (256 : Int) ^ l.length ≤ 256 ^ k := by
    have : (256 : Nat) ^ l.length ≤ 256 ^ k := Nat.pow_le_pow_right (by omega) hk
    have h2 : ((256 ^ l.length : Nat) : Int) ≤ ((256 ^ k : Nat) : Int) := Int.ofNat_le.2 this
    rwa [Int.natCast_pow, Int.natCast_pow] at h2
  omega
theorem InB.take_ {l : List Int} (h : InB l) (n : Nat) : InB (l.take n) := fun x hx => h x (List.mem_of_mem_take hx)
theorem InB.drop_ {l : List Int} (h : InB l) (n : Nat) : InB (l.drop n) := fun x hx => h x (List.mem_of_mem_drop hx)
set_option maxRecDepth 10000 in
theorem RU8_ok {r : Nat} {G : Option Nat} {l : List Int} {w : World} (h : Rd r G l w) (hn : 1 ≤ l.length) (hb : InB l) :
    Calls Tryd.prog 39 #[.pointer (some ⟨r, 0, none⟩)] w fun e w' => e = .returned (.tuple #[.int .u8 (num (l.take 1)), .int .i64 0]) ∧ Hid (Rd r G (l.drop 1) w') ∧ Hid (Fr1 r w w') := by
  have HC := Lib.hid (numberOk (n := 1) h hn (by omega) hb)
  have hnb := num_lt (k := 1) (hb.take_ 1) (by rw [List.length_take]; omega)
  obtain ⟨a, ha⟩ : ∃ a, a = num (l.take 1) := ⟨_, rfl⟩
  have hq : (256 : Int) ^ 1 = 256 := by decide
  rw [← ha] at HC hnb ⊢
  rw [hq] at hnb
  obtain ⟨hn0, hn1⟩ := hnb
  clear h hb ha hq
  go_enter Tryd.func39, Tryd.ntmps39
  go_wp2_with (go_at_call 55; refine HC.out.mono ?_; rintro e w1 ⟨rfl, H2, H3⟩)
  go_ret2
  exact ⟨rfl, H2, H3⟩
set_option maxRecDepth 10000 in
theorem RU8_short {r : Nat} {G : Option Nat} {l : List Int} {w : World} (h : Rd r G l w) (hn : l.length < 1) :
    Calls Tryd.prog 39 #[.pointer (some ⟨r, 0, none⟩)] w fun e w' => e = .returned (.tuple #[.int .u8 0, .int .i64 2]) ∧ w' = w := by
  have HC := Lib.hid (numberShort (n := 1) h (by omega))
  clear h
  go_enter Tryd.func39, Tryd.ntmps39
  go_wp2_with (go_at_call 55; refine HC.out.mono ?_; rintro e w1 ⟨rfl, rfl⟩)
  go_ret2
  exact ⟨rfl, rfl⟩
set_option maxRecDepth 10000 in
theorem RU16_ok {r : Nat} {G : Option Nat} {l : List Int} {w : World} (h : Rd r G l w) (hn : 2 ≤ l.length) (hb : InB l) :
    Calls Tryd.prog 41 #[.pointer (some ⟨r, 0, none⟩)] w fun e w' => e = .returned (.tuple #[.int .u16 (num (l.take 2)), .int .i64 0]) ∧ Hid (Rd r G (l.drop 2) w') ∧ Hid (Fr1 r w w') := by
  have HC := Lib.hid (numberOk (n := 2) h hn (by omega) hb)
  have hnb := num_lt (k := 2) (hb.take_ 2) (by rw [List.length_take]; omega)
  obtain ⟨a, ha⟩ : ∃ a, a = num (l.take 2) := ⟨_, rfl⟩
  have hq : (256 : Int) ^ 2 = 65536 := by decide
  rw [← ha] at HC hnb ⊢
  rw [hq] at hnb
  obtain ⟨hn0, hn1⟩ := hnb
  clear h hb ha hq
  go_enter Tryd.func41, Tryd.ntmps41
  go_wp2_with (go_at_call 55; refine HC.out.mono ?_; rintro e w1 ⟨rfl, H2, H3⟩)
  go_ret2
  exact ⟨rfl, H2, H3⟩
set_option maxRecDepth 10000 in
theorem RU16_short {r : Nat} {G : Option Nat} {l : List Int} {w : World} (h : Rd r G l w) (hn : l.length < 2) :
    Calls Tryd.prog 41 #[.pointer (some ⟨r, 0, none⟩)] w fun e w' => e = .returned (.tuple #[.int .u16 0, .int .i64 2]) ∧ w' = w := by
  have HC := Lib.hid (numberShort (n := 2) h (by omega))
  clear h
  go_enter Tryd.func41, Tryd.ntmps41
  go_wp2_with (go_at_call 55; refine HC.out.mono ?_; rintro e w1 ⟨rfl, rfl⟩)
  go_ret2
  exact ⟨rfl, rfl⟩
set_option maxRecDepth 10000 in
theorem RU32_ok {r : Nat} {G : Option Nat} {l : List Int} {w : World} (h : Rd r G l w) (hn : 4 ≤ l.length) (hb : InB l) :
    Calls Tryd.prog 37 #[.pointer (some ⟨r, 0, none⟩)] w fun e w' => e = .returned (.tuple #[.int .u32 (num (l.take 4)), .int .i64 0]) ∧ Hid (Rd r G (l.drop 4) w') ∧ Hid (Fr1 r w w') := by
  have HC := Lib.hid (numberOk (n := 4) h hn (by omega) hb)
  have hnb := num_lt (k := 4) (hb.take_ 4) (by rw [List.length_take]; omega)
  obtain ⟨a, ha⟩ : ∃ a, a = num (l.take 4) := ⟨_, rfl⟩
  have hq : (256 : Int) ^ 4 = 4294967296 := by decide
  rw [← ha] at HC hnb ⊢
  rw [hq] at hnb
  obtain ⟨hn0, hn1⟩ := hnb
  clear h hb ha hq
  go_enter Tryd.func37, Tryd.ntmps37
  go_wp2_with (go_at_call 55; refine HC.out.mono ?_; rintro e w1 ⟨rfl, H2, H3⟩)
  go_ret2
  exact ⟨rfl, H2, H3⟩
set_option maxRecDepth 10000 in
theorem RU32_short {r : Nat} {G : Option Nat} {l : List Int} {w : World} (h : Rd r G l w) (hn : l.length < 4) :
    Calls Tryd.prog 37 #[.pointer (some ⟨r, 0, none⟩)] w fun e w' => e = .returned (.tuple #[.int .u32 0, .int .i64 2]) ∧ w' = w := by
  have HC := Lib.hid (numberShort (n := 4) h (by omega))
  clear h
  go_enter Tryd.func37, Tryd.ntmps37
  go_wp2_with (go_at_call 55; refine HC.out.mono ?_; rintro e w1 ⟨rfl, rfl⟩)
  go_ret2
  exact ⟨rfl, rfl⟩
end Go.Proofs.YtigknfkkegccgaaDoor.K

/- Strings of bytes. -/
namespace Go.Proofs.YtigknfkkegccgaaDoor.K
open Go.RowKit
set_option linter.unusedVariables false
set_option linter.unusedSimpArgs false
/-- string(b), b any row of bytes. -/
theorem str_row {w : World} {B : Nat} {A : Option Addr} {l : List Int} {c : Nat} (h : RowOf c8 1 w B A l) :
    (convert 26 9 (.slice A l.length c)).run Tryd.prog w = .ok (.string (strOfNums l)) w := by
  cases A with
  | none =>
    have hl0 : l = [] := by
      cases l with
      | nil => rfl
      | cons y l => obtain ⟨ad, e, _⟩ := h 0 y rfl; cases e
    subst hl0
    exact run_convert_bytes_nil w 26 5 Tryd.underlying26 Tryd.underlying5 0 c 9 Tryd.underlying9
  | some ad =>
    have hl : (loadCells ad l.length).run Tryd.prog w = .ok (l.map (Value.int .u8)).toArray w := by
      have := run_loadCells_list (P := Tryd.prog) w ad (l.map (Value.int .u8)) (fun j v hj => by
        have hjl : j < l.length := by have := (List.getElem?_eq_some_iff.1 hj).1; rwa [List.length_map] at this
        obtain ⟨ad', e, _, hc⟩ := h.num hjl
        injection e with e; subst e
        rw [hc]
        rw [List.getElem?_map, List.getElem?_eq_getElem hjl] at hj
        simp at hj
        subst hj
        simp [List.getD_eq_getElem?_getD, List.getElem?_eq_getElem hjl])
      simpa using this
    rw [run_convert_bytes_string w 26 9 5 _ l.length c Tryd.underlying26 Tryd.underlying5 Tryd.underlying9, run_bytesToString w ad l.length c l hl, foldl_push_bytes]
    simp [strOfNums, ByteArray.empty, ByteArray.emptyWithCapacity]
    rfl
theorem row_blk {w : World} {g B : Nat} {l : List Int} (h : Blk w g 5 (nums .u8 l).toArray) (hg : g < B) : RowOf c8 1 w B (some ⟨g, 0, none⟩) l := by
  intro i x hx
  refine ⟨_, rfl, hg, fun j u hu => ?_⟩
  match j, hu with
  | 0, hu =>
    simp at hu; subst hu
    rw [add_plain, h.cell]
    simp [nums, hx]
theorem str_size (l : List Int) : (strOfNums l).size = l.length := strOfNums_size l
theorem str_append (a b : List Int) : strOfNums a ++ strOfNums b = strOfNums (a ++ b) := by
  apply ByteArray.ext
  simp [strOfNums]
theorem str_nil : strOfNums [] = ByteArray.empty := by apply ByteArray.ext; rfl
theorem u8_inj {x y : Int} (hx : 0 ≤ x ∧ x < 256) (hy : 0 ≤ y ∧ y < 256) (h : UInt8.ofNat x.toNat = UInt8.ofNat y.toNat) : x = y := by
  have h1 := congrArg UInt8.toNat h
  simp at h1
  omega
theorem map_inj_on {α β : Type} {f : α → β} {P : α → Prop} (hf : ∀ x y, P x → P y → f x = f y → x = y) : ∀ (a b : List α), (∀ x ∈ a, P x) → (∀ x ∈ b, P x) → a.map f = b.map f → a = b := by
  intro a
  induction a with
  | nil => intro b _ _ h; cases b with
    | nil => rfl
    | cons y b => simp at h
  | cons x a ih =>
    intro b ha hb h
    cases b with
    | nil => simp at h
    | cons y b =>
      simp only [List.map_cons, List.cons.injEq] at h
      rw [hf x y (ha x (by simp)) (hb y (by simp)) h.1, ih b (fun z hz => ha z (by simp [hz])) (fun z hz => hb z (by simp [hz])) h.2]
theorem str_inj {a b : List Int} (ha : InB a) (hb : InB b) (h : strOfNums a = strOfNums b) : a = b := by
  have h2 : (strOfNums a).data.toList = (strOfNums b).data.toList := by rw [h]
  rw [strOfNums_data, strOfNums_data] at h2
  exact map_inj_on (P := fun x => 0 ≤ x ∧ x < 256) (fun x y hx hy => u8_inj hx hy) a b ha hb h2
theorem str_list (l : List Int) : (strOfNums l).toList = l.map fun n => UInt8.ofNat n.toNat := by rw [ByteArray.toList_eq, strOfNums_data]
theorem str_eq {a b : List Int} (ha : InB a) (hb : InB b) : ((strOfNums a).toList == (strOfNums b).toList) = decide (a = b) := by
  rw [str_list, str_list]
  by_cases h : a = b
  · subst h; simp
  · have : ¬ (a.map (fun n => UInt8.ofNat n.toNat) = b.map fun n => UInt8.ofNat n.toNat) := fun h2 => h (map_inj_on (P := fun x => 0 ≤ x ∧ x < 256) (fun x y hx hy => u8_inj hx hy) a b ha hb h2)
    simp [h, this]
theorem str_cut (l : List Int) (a b : Nat) : (strOfNums l).extract a b = strOfNums ((l.take b).drop a) := by
  apply ByteArray.ext
  apply Array.ext'
  simp [strOfNums, List.extract_eq_take_drop, List.drop_take, List.map_drop, List.map_take]
theorem str_at (l : List Int) (i : Nat) (hi : i < l.length) (hb : InB l) (hs : i < (strOfNums l).size) : (((strOfNums l)[i]'hs).toNat : Int) = l[i] := by
  have h := hb _ (List.getElem_mem hi)
  have : (strOfNums l)[i]'hs = UInt8.ofNat (l[i]).toNat := by
    show (strOfNums l).data[i]'_ = _
    simp [strOfNums]
  rw [this]
  simp
  omega
/-- The document's number, as a text. -/
theorem be_zero (n : Int) : be n 0 = [] := rfl
set_option maxHeartbeats 4000000 in
set_option maxRecDepth 10000 in
theorem TextC (n : Int) (size : Nat) (w : World) (hn0 : 0 ≤ n) (hn1 : n < 4294967296) (hs : size ≤ 100) :
    Calls Tryd.prog 33 #[.int .u32 n, .int .i64 size] w fun e w' => e = .returned (.string (strOfNums (be n size))) ∧ Hid (Below w.heap.size w w') := by
  have hconv : ∀ (W : World) (x : Int), (convert 26 9 (.slice (some ⟨W.heap.size, 0, none⟩) 1 1)).run Tryd.prog (W.alloc (.cells #[.int .u8 x] 5)) = .ok (.string (strOfNums [x])) (W.alloc (.cells #[.int .u8 x] 5)) := fun W x => by
    have := str_row (w := W.alloc (.cells #[.int .u8 x] 5)) (B := W.heap.size + 1) (l := [x]) (c := 1) (row_blk (g := W.heap.size) (l := [x]) (Blk.new W 5 _) (by omega))
    exact this
  have hlen : ∀ k, (strOfNums (be n k)).size = k := fun k => by rw [str_size, be_length]
  go_enter Tryd.func33, Tryd.ntmps33
  go_wp2
  go_loopw [0, 5, 6] (fun m s i wr => ∃ k : Nat, k ≤ size ∧ i = .int .i64 k ∧ m = .int .u32 (n / 256 ^ k) ∧ s = .string (strOfNums (be n k)) ∧ Below w.heap.size w wr) (fun _ _ i _ => size - (intOf i).toNat)
  case atStart => exact ⟨0, Nat.zero_le _, rfl, by simp, by rw [be_zero, str_nil]; rfl, Below.refl _ _⟩
  case round =>
    obtain ⟨k, hk, rfl, rfl, rfl, hb⟩ := hrel
    have HB := Lib.hid hb
    clear hb
    by_cases hlt : k < size
    · have hm0 : 0 ≤ n / 256 ^ k := Int.ediv_nonneg hn0 (Int.pow_nonneg (by decide))
      have hm1 : n / 256 ^ k < 4294967296 := by
        have : n / 256 ^ k ≤ n := Int.ediv_le_self _ hn0
        omega
      have hbe : strOfNums (be n (k + 1)) = strOfNums [n / 256 ^ k % 256] ++ strOfNums (be n k) := by rw [str_append]; rfl
      have hdv : n / 256 ^ (k + 1) = n / 256 ^ k / 256 := by rw [Int.pow_succ, Int.ediv_ediv_of_nonneg (Int.pow_nonneg (by decide))]
      have HBE := Lib.hid hbe
      have HDV := Lib.hid hdv
      have hl9 := hlen k
      have HL9 := Lib.hid hl9
      have hl1 : (strOfNums [n / 256 ^ k % 256]).size = 1 := by rw [str_size]; rfl
      clear hbe hdv hl9 hlen
      generalize n / 256 ^ k = m at *
      generalize strOfNums (be n k) = s at *
      have hl2 : s.size ≤ 100 := by have := HL9.out; omega
      go_wp2
      go_roundw
      case rel => exact ⟨k + 1, by omega, by go_num, by rw [HDV.out], by rw [HBE.out], HB.out.alloc HB.out.size _⟩
      case measure => simp [intOf]; omega
    · obtain rfl : k = size := by omega
      go_wp2
      go_ret
      exact ⟨rfl, HB⟩
theorem num_cons (l : List Int) (k : Nat) (h : k < l.length) : num (l.take (k + 1)) = num (l.take k) * 256 + l[k] := by rw [List.take_succ_eq_append_getElem h, num_snoc]
set_option maxHeartbeats 4000000 in
set_option maxRecDepth 10000 in
theorem NumberC (l : List Int) (w : World) (hb : InB l) (h4 : l.length ≤ 4) :
    Calls Tryd.prog 44 #[.string (strOfNums l)] w fun e w' => e = .returned (.int .u32 (num l)) ∧ w' = w := by
  have hsz := str_size l
  have HI := Lib.hid hb
  clear hb
  go_enter Tryd.func44, Tryd.ntmps44
  go_wp2
  go_loop [3, 4] (fun t i => ∃ k : Nat, k ≤ l.length ∧ i = .int .i64 k ∧ t = .int .u32 (num (l.take k))) (fun _ i => l.length - (intOf i).toNat)
  case atStart => exact ⟨0, Nat.zero_le _, rfl, rfl⟩
  case round =>
    obtain ⟨k, hk, rfl, rfl⟩ := hrel
    by_cases hlt : k < l.length
    · have hx : (Instr.index 9 (.string (strOfNums l)) (.int .i64 k)).run Tryd.prog w = .ok (.int .u8 l[k]) w := by
        rw [run_index_string _ 9 _ _ _ Tryd.underlying9, dif_pos ⟨by omega, by omega⟩, ← str_at l k hlt HI.out (by omega)]
        simp
      have hns := num_cons l k hlt
      have hbm := HI.out (l[k]) (List.getElem_mem hlt)
      have hnb := num_lt (k := 3) (HI.out.take_ k) (by rw [List.length_take]; omega)
      have hq : (256 : Int) ^ 3 = 16777216 := by decide
      rw [hq] at hnb
      obtain ⟨hnb0, hnb1⟩ := hnb
      have HNS := Lib.hid hns
      clear hns hq
      generalize l[k] = x at *
      generalize num (l.take k) = a at *
      obtain ⟨hx0, hx1⟩ := hbm
      go_wp2
      go_round
      case rel => exact ⟨k + 1, by omega, by go_num, by rw [HNS.out]⟩
      case measure => simp [intOf]; omega
    · obtain rfl : k = l.length := by omega
      have e : l.take l.length = l := List.take_length
      rw [e]
      clear e
      go_wp2
      go_ret
      exact ⟨rfl, rfl⟩
theorem scut_hi (l : List Int) (k : Nat) (hk : k ≤ l.length) (W : World) : (Instr.slice 9 (.string (strOfNums l)) none (some (.int .i64 k)) none).run Tryd.prog W = .ok (.string (strOfNums (l.take k))) W := by
  rw [run_slice_string_h W 9 (strOfNums l) Tryd.underlying9 .i64 k (by omega) (by rw [str_size]; omega), Int.toNat_natCast, str_cut]
  simp
theorem scut_lo (l : List Int) (k : Nat) (hk : k ≤ l.length) (W : World) : (Instr.slice 9 (.string (strOfNums l)) (some (.int .i64 k)) none none).run Tryd.prog W = .ok (.string (strOfNums (l.drop k))) W := by
  rw [run_slice_string_l W 9 (strOfNums l) Tryd.underlying9 .i64 k (by omega) (by rw [str_size]; omega), Int.toNat_natCast, str_cut, str_size, List.take_length]
end Go.Proofs.YtigknfkkegccgaaDoor.K

/- What must be in any case: shown of layer 1. -/
namespace Go.Proofs.YtigknfkkegccgaaDoor.K
open Go.RowKit
set_option linter.unusedVariables false
set_option linter.unusedSimpArgs false
theorem RU8_is {r : Nat} {G : Option Nat} {l m : List Int} {x : Int} {w : World} (h : Rd r G l w) (hn : 1 ≤ l.length) (hb : InB l) (hx : num (l.take 1) = x) (hm : l.drop 1 = m) :
    Calls Tryd.prog 39 #[.pointer (some ⟨r, 0, none⟩)] w fun e w' => e = .returned (.tuple #[.int .u8 x, .int .i64 0]) ∧ Hid (Rd r G m w') ∧ Hid (Fr1 r w w') := by subst hx hm; exact RU8_ok h hn hb
theorem RU16_is {r : Nat} {G : Option Nat} {l m : List Int} {x : Int} {w : World} (h : Rd r G l w) (hn : 2 ≤ l.length) (hb : InB l) (hx : num (l.take 2) = x) (hm : l.drop 2 = m) :
    Calls Tryd.prog 41 #[.pointer (some ⟨r, 0, none⟩)] w fun e w' => e = .returned (.tuple #[.int .u16 x, .int .i64 0]) ∧ Hid (Rd r G m w') ∧ Hid (Fr1 r w w') := by subst hx hm; exact RU16_ok h hn hb
theorem RU32_is {r : Nat} {G : Option Nat} {l m : List Int} {x : Int} {w : World} (h : Rd r G l w) (hn : 4 ≤ l.length) (hb : InB l) (hx : num (l.take 4) = x) (hm : l.drop 4 = m) :
    Calls Tryd.prog 37 #[.pointer (some ⟨r, 0, none⟩)] w fun e w' => e = .returned (.tuple #[.int .u32 x, .int .i64 0]) ∧ Hid (Rd r G m w') ∧ Hid (Fr1 r w w') := by subst hx hm; exact RU32_ok h hn hb
theorem inB_of {l : List Int} (h : (l.all fun x => decide (0 ≤ x) && decide (x < 256)) = true) : InB l := fun x hx => by
  have := List.all_eq_true.1 h x hx
  simpa using this
theorem Wrt.fr {b : Nat} {v : Value} {l : List Int} {S : Nat → Prop} {w w' : World} (h : Wrt b v l w) (k : Fr S w w') (hb : ¬ S b) (hv : ∀ j, v.ownBlock = some j → ¬ S j) : Wrt b v l w' := by
  obtain ⟨⟨lr, h1⟩, h2, h3⟩ := h
  exact ⟨⟨lr, h1.fr k hb⟩, own_fr h2 k hv, h3⟩
theorem Wrt.alloc {b : Nat} {v : Value} {l : List Int} {w : World} (h : Wrt b v l w) (o : Obj) : Wrt b v l (w.alloc o) := h.fr ((Fr.refl (fun _ => False) w).alloc o) (fun h => h) (fun _ _ h => h)
theorem Wrt.lt {b : Nat} {v : Value} {l : List Int} {w : World} (h : Wrt b v l w) : b < w.heap.size := by obtain ⟨⟨lr, h1⟩, _⟩ := h; exact h1.lt
theorem Wrt.ltv {b : Nat} {v : Value} {l : List Int} {w : World} (h : Wrt b v l w) : ∀ j, v.ownBlock = some j → j < w.heap.size := fun j e => (h.2.1.lt j e).2
theorem row_vals {α : Type} {c : α → List Value} {f : α → Value} {w : World} {g B : Nat} {t : TypeId} {l : List α} (hc : ∀ x, c x = [f x]) (h : Blk w g t (l.map f).toArray) (hg : g < B) : RowOf c 1 w B (some ⟨g, 0, none⟩) l := by
  intro i x hx
  refine ⟨_, rfl, hg, fun j u hu => ?_⟩
  rw [hc] at hu
  match j, hu with
  | 0, hu =>
    simp at hu; subst hu
    rw [add_plain, h.cell]
    simp [hx]
/-- What lies in a block that is neither a Writer's own nor its row's. -/
theorem away_ge {b : Nat} {v : Value} {w : World} {g o n : Nat} (hg : n ≤ g) (hgw : g < w.heap.size) (hb : b < n) (hv : ∀ j, v.ownBlock = some j → j < n) : Away b v w (some ⟨g, o, none⟩) := fun ad e => by
  injection e with e; subst e
  refine ⟨hgw, ?_, fun e => ?_⟩
  · show g ≠ b
    omega
  · have := hv _ e
    simp at this; omega
theorem away_none {b : Nat} {v : Value} {w : World} : Away b v w none := fun ad e => by cases e
theorem row_none {α : Type} {c : α → List Value} {size : Nat} {w : World} {B : Nat} : RowOf c size w B none ([] : List α) := fun i x h => by simp at h
theorem row_lit {w : World} {g B : Nat} {l : List Int} {fr : Nat × Nat} (h : w.heap[g]? = some (.cells (nums .u8 l).toArray 5 fr)) (hg : g < B) : RowOf c8 1 w B (some ⟨g, 0, none⟩) l := by
  intro i x hx
  refine ⟨_, rfl, hg, fun j u hu => ?_⟩
  match j, hu with
  | 0, hu =>
    simp at hu; subst hu
    rw [add_plain, cell_of_row w g _ _ _ _ h]
    simp [nums, hx]
theorem heap_alloc_old {w : World} {g : Nat} {x : Obj} (h : w.heap[g]? = some x) (o : Obj) : (w.alloc o).heap[g]? = some x := by
  have : g < w.heap.size := by
    rcases Nat.lt_or_ge g w.heap.size with hlt | hge
    · exact hlt
    · rw [Array.getElem?_eq_none hge] at h; cases h
  exact (Below.heap_alloc w o g this).trans h
theorem Blk.new_at {w : World} {t : TypeId} {cs : Array Value} {g : Nat} (hg : g = w.heap.size) : Blk (w.alloc (.cells cs t)) g t cs := by subst hg; exact Blk.new w t cs
theorem heap_new_at {w : World} {o : Obj} {g : Nat} (hg : g = w.heap.size) : (w.alloc o).heap[g]? = some o := by subst hg; exact heap_alloc_new w o
theorem kconv (w : World) (C : Array Value) (n c : Nat) : (convert 26 26 (.slice (some ⟨w.heap.size, 0, none⟩) n c)).run Tryd.prog (w.alloc (.cells C 5)) = .ok (.slice (some ⟨w.heap.size, 0, none⟩) n c) (w.alloc (.cells C 5 (C.size, C.size + 1))) := Lib.run_convert_bytes_const (P := Tryd.prog) w 26 5 C n c Tryd.underlying26 Tryd.underlying5
theorem kconv1 (w : World) (o : Obj) (C : Array Value) (n c : Nat) : (convert 26 26 (.slice (some ⟨w.heap.size + 1, 0, none⟩) n c)).run Tryd.prog ((w.alloc o).alloc (.cells C 5)) = .ok (.slice (some ⟨w.heap.size + 1, 0, none⟩) n c) ((w.alloc o).alloc (.cells C 5 (C.size, C.size + 1))) := Joins.run_convert_bytes_const_at (P := Tryd.prog) (w.alloc o) 26 5 C n c _ (by simp) Tryd.underlying26 Tryd.underlying5
theorem Wrt.to {b : Nat} {v : Value} {l m : List Int} {w : World} (h : Wrt b v l w) (e : l = m) : Wrt b v m w := e ▸ h
theorem fr1_below {r B : Nat} {w w1 w2 : World} (h : Below B w w1) (k : Fr1 r w1 w2) (hr : B ≤ r) (hB : B ≤ w.heap.size) : Below B w w2 :=
  below_fr h k (below_size h hB) (fun j e => by omega)
theorem fr0_below {B : Nat} {w w1 w2 : World} (h : Below B w w1) (k : Fr0 w1 w2) (hB : B ≤ w.heap.size) : Below B w w2 :=
  below_fr h k (below_size h hB) (fun j e => e.elim)
theorem wfr_below {b B : Nat} {v v' : Value} {w w1 w2 : World} (h : Below B w w1) (k : WFr b v v' w1 w2) (hb : B ≤ b) (hv : ∀ j, v.ownBlock = some j → B ≤ j) (hB : B ≤ w.heap.size) : Below B w w2 :=
  below_fr h k.fr (below_size h hB) (fun j e => by
    rcases e with e | e
    · omega
    · exact hv j e)
theorem wfr_base {b B : Nat} {v v' : Value} {w w' : World} (k : WFr b v v' w w') (hv : ∀ j, v.ownBlock = some j → B ≤ j) (hB : B ≤ w.heap.size) : ∀ j, v'.ownBlock = some j → B ≤ j := fun j e => by
  rcases k.row j e with h | h
  · exact hv j h
  · omega
theorem base_nil (B : Nat) : ∀ j, (Value.slice none 0 0).ownBlock = some j → B ≤ j := fun j e => by simp [Value.ownBlock] at e
end Go.Proofs.YtigknfkkegccgaaDoor.K

/- Numbers and their bytes: plain laws. -/
namespace Go.Proofs.YtigknfkkegccgaaDoor.K
open Go.RowKit
set_option linter.unusedVariables false
set_option linter.unusedSimpArgs false
theorem pow_pos8 (k : Nat) : (0 : Int) < 256 ^ k := Int.pow_pos (by decide)
theorem num_append (a b : List Int) : num (a ++ b) = num a * 256 ^ b.length + num b := by
  have key : ∀ (n : Nat) (b : List Int), b.length = n → num (a ++ b) = num a * 256 ^ b.length + num b := by
    intro n
    induction n with
    | zero => intro b hb; obtain rfl := List.eq_nil_of_length_eq_zero hb; simp [num]
    | succ n ih =>
      intro b hb
      have hne : b ≠ [] := by rintro rfl; simp at hb
      have e := List.dropLast_concat_getLast hne
      generalize b.dropLast = m at *
      generalize b.getLast hne = c at *
      subst e
      rw [List.length_append, List.length_singleton] at hb
      rw [← List.append_assoc, num_snoc, num_snoc, ih m (by omega), List.length_append, List.length_singleton, Int.pow_succ, Int.add_mul, Int.mul_assoc, Int.add_assoc]
  exact key _ b rfl
theorem num_one (x : Int) : num [x] = x := by simp [num]
theorem num_cons' (x : Int) (t : List Int) : num (x :: t) = x * 256 ^ t.length + num t := by
  have := num_append [x] t
  rwa [num_one] at this
theorem be_add (x m : Int) (k : Nat) : ∀ j, j ≤ k → be (x * 256 ^ k + m) j = be m j := by
  intro j
  induction j with
  | zero => intro _; rfl
  | succ j ih =>
    intro hj
    simp only [be]
    rw [ih (by omega)]
    have e : (256 : Int) ^ k = 256 ^ (k - j - 1) * 256 * 256 ^ j := by
      rw [show k = (k - j - 1) + 1 + j by omega, Int.pow_add, Int.pow_succ]
      simp
    have e2 : (x * 256 ^ k + m) / 256 ^ j = m / 256 ^ j + x * 256 ^ (k - j - 1) * 256 := by
      rw [e, Int.add_comm, ← Int.mul_assoc, ← Int.mul_assoc, Int.add_mul_ediv_right _ _ (Int.ne_of_gt (pow_pos8 j))]
    rw [e2]
    congr 1
    omega
theorem be_num (l : List Int) (h : InB l) : be (num l) l.length = l := by
  induction l with
  | nil => rfl
  | cons x t ih =>
    have ht : InB t := fun y hy => h y (by simp [hy])
    have hx := h x (by simp)
    have hb := num_bound t ht
    rw [num_cons', List.length_cons]
    simp only [be]
    rw [be_add x (num t) t.length t.length (Nat.le_refl _), ih ht]
    congr 1
    rw [Int.add_comm, Int.add_mul_ediv_right _ _ (Int.ne_of_gt (pow_pos8 _)), Int.ediv_eq_zero_of_lt hb.1 hb.2]
    omega
theorem num_be (n : Int) (k : Nat) : num (be n k) = n % 256 ^ k := by
  induction k with
  | zero => simp [be, num]
  | succ k ih =>
    simp only [be]
    rw [num_cons', be_length, ih, Int.pow_succ, Int.mul_comm (256 ^ k) 256]
    have hp := pow_pos8 k
    generalize (256 : Int) ^ k = q at *
    have h1 := Int.emod_add_mul_ediv n q
    have h2 := Int.emod_add_mul_ediv (n / q) 256
    have h3 : n % (256 * q) = n % q + q * (n / q % 256) := by
      have e : n = (n % q + q * (n / q % 256)) + (256 * q) * (n / q / 256) := by
        have : q * (n / q) = q * (n / q % 256) + 256 * q * (n / q / 256) := by
          conv => lhs; rw [← h2]
          rw [Int.mul_add, ← Int.mul_assoc, Int.mul_comm q 256]
        omega
      have hr0 : 0 ≤ n % q := Int.emod_nonneg _ (by omega)
      have hr1 : n % q < q := Int.emod_lt_of_pos _ hp
      have hs0 : 0 ≤ n / q % 256 := Int.emod_nonneg _ (by decide)
      have hs1 : n / q % 256 ≤ 255 := by have := Int.emod_lt_of_pos (n / q) (show (0 : Int) < 256 by decide); omega
      have ha : 0 ≤ q * (n / q % 256) := Int.mul_nonneg (by omega) hs0
      have hb : q * (n / q % 256) ≤ q * 255 := Int.mul_le_mul_of_nonneg_left hs1 (by omega)
      conv => lhs; rw [e]
      rw [Int.add_mul_emod_self_left]
      exact Int.emod_eq_of_lt (by omega) (by omega)
    rw [h3, Int.mul_comm q]
    omega
theorem be_inB (n : Int) (k : Nat) : InB (be n k) := by
  induction k with
  | zero => intro x hx; simp [be] at hx
  | succ k ih =>
    intro x hx
    simp only [be, List.mem_cons] at hx
    rcases hx with rfl | hx
    · exact ⟨Int.emod_nonneg _ (by decide), Int.emod_lt_of_pos _ (by decide)⟩
    · exact ih x hx
theorem take_add {α : Type} (l : List α) (a b : Nat) : l.take (a + b) = l.take a ++ (l.drop a).take b := by rw [List.take_add]
end Go.Proofs.YtigknfkkegccgaaDoor.K

/- What the laws about octets share. -/
namespace Go.Proofs.YtigknfkkegccgaaDoor.K
open Go.RowKit
set_option linter.unusedVariables false
set_option linter.unusedSimpArgs false
theorem min_two (ats : Array TypeId) (ty : TypeId) (a b : Value) : Builtin.min_ ats ty #[a, b] = (Builtin.min2 a b >>= fun s => pure s) := by simp only [Builtin.min_, List.foldlM_cons, List.foldlM_nil]
theorem min2_min (k k' : IntKind) (x y : Int) : Builtin.min2 (.int k x) (.int k' y) = pure (.int k (min x y)) := by
  simp only [Builtin.min2]; congr 2; split <;> omega
theorem min_nat (n k : Nat) : ∃ m : Nat, min (n : Int) (k : Int) = (m : Int) ∧ m ≤ n ∧ m ≤ k := ⟨min n k, by omega, by omega, by omega⟩
theorem and_mask (x : Int) (k : Nat) (hk : k < 9223372036854775808) : ∃ m : Nat, m ≤ k ∧ bits .and .i64 x k = m := by
  have h2 : (BitVec.ofInt 64 (k : Int)).toNat = k := by
    rw [BitVec.ofInt_natCast, BitVec.toNat_ofNat]; exact Nat.mod_eq_of_lt (by omega)
  have h : (BitVec.ofInt 64 x &&& BitVec.ofInt 64 (k : Int)).toNat ≤ k := by
    rw [BitVec.toNat_and, h2]
    exact Nat.and_le_right
  refine ⟨_, h, ?_⟩
  show IntKind.i64.wrap ((BitVec.ofInt 64 x &&& BitVec.ofInt 64 (k : Int)).toNat : Int) = _
  rw [IntKind.wrap_i64]
  omega
/-- x[:k], of any slice. -/
theorem cut_hi {t e : TypeId} {i : TypeInfo} (ht : Tryd.prog.underlying t = some (.slice e)) (hi : Tryd.prog.info? e = some i) (A : Option Addr) (n c k : Nat) (hc : k ≤ c) (W : World) : (Instr.slice t (.slice A n c) none (some (.int .i64 k)) none).run Tryd.prog W = .ok (.slice A k c) W := by
  have hel : Tryd.prog.elem t = e := by simp [Program.elem, ht]
  have hu : Tryd.prog.underlying t = some (.slice (Tryd.prog.elem t)) := by rw [hel]; exact ht
  rw [run_slice_h W t A n c hu .i64 k (by omega) (by omega), hel]
  by_cases hcn : c = 0 <;> cases A <;> simp [sizeOf, typeInfo, hi, sliced, Result.andThen, Addr.add, hcn]
/-- x[k:], of any slice of elements of one cell. -/
theorem cut_lo {t e : TypeId} {i : TypeInfo} (ht : Tryd.prog.underlying t = some (.slice e)) (hi : Tryd.prog.info? e = some i) (h1 : i.size = 1) (A : Option Addr) (n c k : Nat) (hk : k ≤ n) (hc : n ≤ c) (hcm : c ≤ 9223372036854775807) (W : World) : (Instr.slice t (.slice A n c) (some (.int .i64 k)) none none).run Tryd.prog W = .ok (.slice (if c = k then A else A.map (·.add k)) (n - k) (c - k)) W := by
  have hel : Tryd.prog.elem t = e := by simp [Program.elem, ht]
  have hu : Tryd.prog.underlying t = some (.slice (Tryd.prog.elem t)) := by rw [hel]; exact ht
  rw [run_slice_l W t A n c hu .i64 k (by omega) (by omega), hel]
  by_cases hcn : c = k
  · subst hcn
    cases A <;> simp [sizeOf, typeInfo, hi, h1, sliced, Result.andThen]
  · cases A <;> simp [sizeOf, typeInfo, hi, h1, sliced, Result.andThen, hcn]
theorem RowOf.take_ {α : Type} {c : α → List Value} {size : Nat} {w : World} {B : Nat} {A : Option Addr} {l : List α} (h : RowOf c size w B A l) (n : Nat) : RowOf c size w B A (l.take n) := by
  intro i x hx
  refine h i x ?_
  rw [List.getElem?_take] at hx
  split at hx
  · exact hx
  · cases hx
theorem RowOf.drop_ {α : Type} {c : α → List Value} {w : World} {B cap : Nat} {A : Option Addr} {l : List α} (h : RowOf c 1 w B A l) (k : Nat) (hc : l.length ≤ cap) : RowOf c 1 w B (if cap = k then A else A.map (·.add k)) (l.drop k) := by
  intro i x hx
  rw [List.getElem?_drop] at hx
  obtain ⟨ad, rfl, hb, hcc⟩ := h (k + i) x hx
  have hlt : k + i < l.length := (List.getElem?_eq_some_iff.1 hx).1
  rw [if_neg (by omega)]
  refine ⟨_, rfl, by rw [block_of_add]; exact hb, fun j u hu => ?_⟩
  have := hcc j u hu
  rw [add_of_add]
  rwa [show k + (i * 1 + j) = (k + i) * 1 + j by omega]
theorem bytes_info : ∃ i, Tryd.prog.info? 5 = some i ∧ i.size = 1 := by
  obtain ⟨i, h1, _, h2, _⟩ := info_parts info_u8
  exact ⟨i, h1, h2⟩
theorem bcut_hi (A : Option Addr) (n c k : Nat) (hc : k ≤ c) (W : World) : (Instr.slice 26 (.slice A n c) none (some (.int .i64 k)) none).run Tryd.prog W = .ok (.slice A k c) W := by
  obtain ⟨i, h1, _⟩ := bytes_info
  exact cut_hi Tryd.underlying26 h1 A n c k hc W
theorem bcut_lo (A : Option Addr) (n c k : Nat) (hk : k ≤ n) (hc : n ≤ c) (hcm : c ≤ 9223372036854775807) (W : World) : (Instr.slice 26 (.slice A n c) (some (.int .i64 k)) none none).run Tryd.prog W = .ok (.slice (if c = k then A else A.map (·.add k)) (n - k) (c - k)) W := by
  obtain ⟨i, h1, h2⟩ := bytes_info
  exact cut_lo Tryd.underlying26 h1 h2 A n c k hk hc hcm W
theorem gne {r : Nat} {G : Option Nat} {l : List Int} {w : World} (h : Rd r G l w) : ∀ g, G = some g → g ≠ r := fun g e => by
  obtain ⟨o, c, cells, hb, _, _, hG, _⟩ := h
  exact Blk.ne_ (hG g e).1 hb (by decide)
theorem made_lt {B : Nat} {A : Option Addr} {c : Nat} {l : List Int} {w : World} (h : Made B A c l w) : ∀ ad, A = some ad → B ≤ ad.block ∧ ad.block < w.heap.size := fun ad e => by
  subst e
  exact h.1.lt ad.block rfl
theorem row_fr {α : Type} {c : α → List Value} {size : Nat} {A : Option Addr} {l : List α} {w w' : World} {S : Nat → Prop} {B : Nat} (h : RowOf c size w B A l) (k : Fr S w w') (ha : ∀ ad, A = some ad → ad.block < w.heap.size ∧ ¬ S ad.block) : RowOf c size w' B A l := by
  intro i x hx
  obtain ⟨ad, rfl, hb, hc⟩ := h i x hx
  obtain ⟨h1, h2⟩ := ha ad rfl
  exact ⟨ad, rfl, hb, fun j u hu => by rw [k.cell (by rw [block_of_add]; exact h1) (by rw [block_of_add]; exact h2)]; exact hc j u hu⟩
theorem ReadE {A : Option Addr} {c n : Nat} {l : List Int} {w : World} (hn : l.length = n) (hl : l.length ≤ 140737488355328) (h : RowOf c8 1 w w.heap.size A l) :
    Calls Tryd.prog 35 #[.slice A n c] w fun e w' => ∃ r G, e = .returned (.pointer (some ⟨r, 0, none⟩)) ∧ w.heap.size ≤ r ∧ (∀ g, G = some g → w.heap.size ≤ g) ∧ Hid (Rd r G l w') ∧ Hid (Fr0 w w') := by subst hn; exact ReadC hl h
theorem WDoneE {b n : Nat} {v : Value} {l : List Int} {w : World} (hn : l.length = n) (h : Wrt b v l w) (hl : l.length ≤ 140737488355328) :
    Calls Tryd.prog 31 #[.pointer (some ⟨b, 0, none⟩)] w fun e w' => ∃ A' c', e = .returned (.slice A' n c') ∧ Hid (Made w.heap.size A' c' l w') ∧ Hid (Fr0 w w') := by subst hn; exact WDoneC h hl
theorem str_n {w : World} {B n : Nat} {A : Option Addr} {l : List Int} {c : Nat} (hn : l.length = n) (h : RowOf c8 1 w B A l) :
    (convert 26 9 (.slice A n c)).run Tryd.prog w = .ok (.string (strOfNums l)) w := by subst hn; exact str_row h
/-- Below some number all is as it was: what a row that was there reads still. -/
theorem RowOf.ext {α : Type} {c : α → List Value} {size : Nat} {w w' : World} {B B' : Nat} {A : Option Addr} {l : List α} (h : RowOf c size w B A l) (hb : Below B' w w') (hB : B ≤ B') : RowOf c size w' B A l := h.below (hb.mono hB)
theorem below_drewN {B : Nat} {w W : World} (h : Below B w W) (n : Nat) : Below B w (W.drewN n) := ⟨h.os, h.tape, h.output, h.size, h.block⟩
theorem below_dr {B : Nat} {w W : World} (h : Below B w W) : Below B w W.drew := ⟨h.os, h.tape, h.output, h.size, h.block⟩
theorem row_none_nil {α : Type} {c : α → List Value} {size : Nat} {w : World} {B : Nat} {l : List α} (h : RowOf c size w B none l) : l = [] := by
  cases l with
  | nil => rfl
  | cons y l => obtain ⟨ad, e, _⟩ := h 0 y rfl; cases e
end Go.Proofs.YtigknfkkegccgaaDoor.K

/- Orders: whether one is right. -/
namespace Go.Proofs.YtigknfkkegccgaaDoor.K
open Go.RowKit
set_option linter.unusedVariables false
set_option linter.unusedSimpArgs false
attribute [local go_sem ↓] Go.wp_at_zero Go.wp_at_succ
/-- A line, plain. -/
structure Ln where
  item : Int
  loc : Int
  qty : Int
deriving DecidableEq
abbrev lvs (l : Ln) : Array Value := #[.int .u16 l.item, .int .u16 l.loc, .int .i64 l.qty]
abbrev cL : Ln → List Value := fun l => [.int .u16 l.item, .int .u16 l.loc, .int .i64 l.qty]
/-- Its numbers are of their types. -/
structure Ln.ok (l : Ln) : Prop where
  i : 0 ≤ l.item ∧ l.item < 65536
  o : 0 ≤ l.loc ∧ l.loc < 65536
  q : -9223372036854775808 ≤ l.qty ∧ l.qty < 9223372036854775808
def sameL (l x : Ln) : Bool := decide (x.item = l.item) || decide (x.loc = l.loc)
def lineF (ahead : List Ln) (l : Ln) : Int := if 64 ≤ l.loc then 1 else if l.qty < 1 ∨ 9999 < l.qty then 10 else if ahead.any (sameL l) then 8 else 0
def rightL : List Ln → List Ln → Int
  | _, [] => 0
  | a, x :: r => if lineF a x = 0 then rightL (a ++ [x]) r else lineF a x
def rightO (ls : List Ln) : Int := if ls.length = 0 then 3 else if 8 < ls.length then 5 else rightL [] ls
/-- A line of a row, at its place. -/
theorem RowOf.ln {w : World} {B : Nat} {A : Option Addr} {ls : List Ln} (h : RowOf cL 3 w B A ls) {k : Nat} (hk : k < ls.length) : ∃ ad, A = some ad ∧ ad.block < B ∧ w.cell? (ad.add (k * 3)) = some (.int .u16 (ls[k]).item) ∧
    w.cell? ⟨(ad.add (k * 3)).block, (ad.add (k * 3)).off + 1, none⟩ = some (.int .u16 (ls[k]).loc) ∧ w.cell? ⟨(ad.add (k * 3)).block, (ad.add (k * 3)).off + 2, none⟩ = some (.int .i64 (ls[k]).qty) := by
  obtain ⟨ad, rfl, hb, hcc⟩ := h k (ls[k]) (List.getElem?_eq_getElem hk)
  have c0 := hcc 0 _ rfl
  have c1 := hcc 1 _ rfl
  have c2 := hcc 2 _ rfl
  rw [add_field ad (k * 3) _ (by omega)] at c1 c2
  exact ⟨ad, rfl, hb, c0, c1, c2⟩
set_option maxHeartbeats 1000000 in
set_option maxRecDepth 10000 in
theorem line1C {b : Nat} {l x : Ln} {w : World} (h0 : w.cell? ⟨b, 0, none⟩ = some (.int .u16 l.item)) (h1 : w.cell? ⟨b, 1, none⟩ = some (.int .u16 l.loc)) (hb : b < w.heap.size) :
    Calls Tryd.prog 53 #[.agg (lvs x), .pointer (some ⟨b, 0, none⟩)] w fun e w' => e = .returned (.bool (sameL l x)) ∧ Hid (Below w.heap.size w w') := by
  obtain ⟨li, ll, lq⟩ := l
  obtain ⟨xi, xl, xq⟩ := x
  simp only at h0 h1
  have g0 : (w.alloc (.cells #[.int .u16 xi, .int .u16 xl, .int .i64 xq] 51)).cell? ⟨b, 0, none⟩ = some (.int .u16 li) := (World.cell?_alloc_lt w _ _ hb).trans h0
  have g1 : (w.alloc (.cells #[.int .u16 xi, .int .u16 xl, .int .i64 xq] 51)).cell? ⟨b, 1, none⟩ = some (.int .u16 ll) := (World.cell?_alloc_lt w _ _ hb).trans h1
  clear h0 h1
  unfold sameL
  simp only
  by_cases hi : xi = li
  · subst hi
    go_enter Tryd.func53, Tryd.ntmps53
    go_wp2
    go_ret
    exact ⟨ret_bool (by simp), Lib.hid ((Below.refl _ w).alloc (Nat.le_refl _) _)⟩
  · go_enter Tryd.func53, Tryd.ntmps53
    go_wp2
    go_ret
    exact ⟨ret_bool (by rw [Bool.eq_iff_iff]; simp [hi]), Lib.hid ((Below.refl _ w).alloc (Nat.le_refl _) _)⟩
set_option maxHeartbeats 1000000 in
set_option maxRecDepth 10000 in
theorem IndexLC {b B c : Nat} {l : Ln} {A : Option Addr} {ls : List Ln} {w : World} (h0 : w.cell? ⟨b, 0, none⟩ = some (.int .u16 l.item)) (h1 : w.cell? ⟨b, 1, none⟩ = some (.int .u16 l.loc)) (hb : b < w.heap.size)
    (hr : RowOf cL 3 w B A ls) (hB : B ≤ w.heap.size) (hl : ls.length ≤ 1000) :
    Calls Tryd.prog 60 #[.slice A ls.length c, .func (.func 53) #[] #[.pointer (some ⟨b, 0, none⟩)]] w fun e w' => ∃ r : Int, e = .returned (.int .i64 r) ∧ (0 ≤ r ↔ ls.any (sameL l) = true) ∧ r < 1001 ∧ -2 < r ∧ Hid (Below w.heap.size w w') := by
  have H0 := Lib.hid h0
  have H1 := Lib.hid h1
  have HR := Lib.hid hr
  clear h0 h1 hr
  go_enter Tryd.func60, Tryd.ntmps60
  go_wp2
  go_loopw [8] (fun i wr => ∃ k : Nat, i = .int .i64 k ∧ k ≤ ls.length ∧ (ls.take k).any (sameL l) = false ∧ Below w.heap.size w wr) (fun i _ => ls.length - (intOf i).toNat)
  case atStart => exact ⟨0, rfl, by omega, by simp, Below.refl _ _⟩
  case round =>
    obtain ⟨k, rfl, hk, hno, hf⟩ := hrel
    have HN := Lib.hid hno
    have HF := Lib.hid hf
    clear hno hf
    by_cases hlt : k < ls.length
    · obtain ⟨ad, rfl, hb', c0, c1, c2⟩ := (RowOf.below HR.out (HF.out.mono hB)).ln hlt
      have hsz := HF.out.size
      have HT : Hid ((ls.take (k + 1)).any (sameL l) = ((ls.take k).any (sameL l) || sameL l (ls[k]))) := Lib.hid (by rw [List.take_succ_eq_append_getElem hlt, List.any_append]; simp)
      have HA : Hid (sameL l (ls[k]) = true → ls.any (sameL l) = true) := Lib.hid (fun h => List.any_eq_true.2 ⟨_, List.getElem_mem hlt, h⟩)
      clear hb'
      generalize ls[k] = x at *
      have HC := Lib.hid (line1C (x := x) ((HF.out.cell (p := ⟨b, 0, none⟩) hb).trans H0.out) ((HF.out.cell (p := ⟨b, 1, none⟩) hb).trans H1.out) (by omega))
      cases hs : sameL l x with
      | true =>
        simp only [hs] at HC
        go_wp2_with fail
        refine Calls.mono HC.out ?_
        rintro e w1 ⟨rfl, F1⟩
        go_wp2
        go_ret
        exact ⟨_, rfl, ⟨fun _ => HA.out hs, fun _ => by omega⟩, by omega, by omega, Lib.hid (HF.out.trans (F1.out.mono hsz))⟩
      | false =>
        simp only [hs] at HC
        go_wp2_with fail
        refine Calls.mono HC.out ?_
        rintro e w1 ⟨rfl, F1⟩
        go_wp2
        go_roundw
        case rel => exact ⟨k + 1, by go_num, by omega, by rw [HT.out, HN.out, hs]; rfl, HF.out.trans (F1.out.mono hsz)⟩
        case measure => simp [intOf]; omega
    · obtain rfl : k = ls.length := by omega
      rw [List.take_length] at HN
      go_wp2
      go_ret
      exact ⟨_, rfl, ⟨fun h => by omega, fun h => by rw [HN.out] at h; cases h⟩, by omega, by omega, Lib.hid HF.out⟩
set_option maxHeartbeats 1000000 in
set_option maxRecDepth 10000 in
theorem ContainsLC {b B c : Nat} {l : Ln} {A : Option Addr} {ls : List Ln} {w : World} (h0 : w.cell? ⟨b, 0, none⟩ = some (.int .u16 l.item)) (h1 : w.cell? ⟨b, 1, none⟩ = some (.int .u16 l.loc)) (hb : b < w.heap.size)
    (hr : RowOf cL 3 w B A ls) (hB : B ≤ w.heap.size) (hl : ls.length ≤ 1000) :
    Calls Tryd.prog 54 #[.slice A ls.length c, .func (.func 53) #[] #[.pointer (some ⟨b, 0, none⟩)]] w fun e w' => e = .returned (.bool (ls.any (sameL l))) ∧ Hid (Below w.heap.size w w') := by
  have HC := Lib.hid (IndexLC (c := c) h0 h1 hb hr hB hl)
  clear h0 h1 hr
  go_enter Tryd.func54, Tryd.ntmps54
  go_wp2_with fail
  refine Calls.mono HC.out ?_
  rintro e w1 ⟨r, rfl, hr, h3, h4, F1⟩
  have HE := Lib.hid hr
  clear hr
  go_wp2
  go_ret
  exact ⟨ret_bool (by rw [Bool.eq_iff_iff, ← HE.out]; simp), F1⟩
set_option maxHeartbeats 1000000 in
set_option maxRecDepth 10000 in
theorem lineC {B c : Nat} {l : Ln} {A : Option Addr} {ls : List Ln} {w : World} (hr : RowOf cL 3 w B A ls) (hB : B ≤ w.heap.size) (hl : ls.length ≤ 1000) (ho : l.ok) :
    Calls Tryd.prog 32 #[.slice A ls.length c, .agg (lvs l)] w fun e w' => e = .returned (.int .i64 (lineF ls l)) ∧ Hid (Below w.heap.size w w') := by
  have hmf : ∀ (fn : Fn) (first cap : Array Value) (w : World), (Instr.makeFunc fn first cap).run Tryd.prog w = .ok (.func fn first cap) w := fun _ _ _ _ => rfl
  obtain ⟨o1, o2, o3⟩ := ho
  have hbl : Below w.heap.size w (w.alloc (.cells (lvs l) 51)) := (Below.refl _ w).alloc (Nat.le_refl _) _
  have HBL := Lib.hid hbl
  have hblk := Blk.new w 51 (lvs l)
  have HC := Lib.hid (ContainsLC (c := c) (l := l) (hblk.cell 0) (hblk.cell 1) hblk.lt (RowOf.below hr (hbl.mono hB)) (by have := hbl.size; omega) hl)
  clear hr hbl hblk
  unfold lineF
  by_cases g1 : 64 ≤ l.loc
  · rw [if_pos g1]
    go_enter Tryd.func32, Tryd.ntmps32
    go_wp2
    go_ret
    exact ⟨rfl, Lib.hid HBL.out⟩
  · rw [if_neg g1]
    rcases (by omega : l.qty < 1 ∨ 1 ≤ l.qty ∧ 9999 < l.qty ∨ 1 ≤ l.qty ∧ l.qty ≤ 9999) with g2 | ⟨g2, g3⟩ | ⟨g2, g3⟩
    · rw [if_pos (.inl g2)]
      go_enter Tryd.func32, Tryd.ntmps32
      go_wp2
      go_ret
      exact ⟨rfl, Lib.hid HBL.out⟩
    · rw [if_pos (.inr g3)]
      go_enter Tryd.func32, Tryd.ntmps32
      go_wp2
      go_ret
      exact ⟨rfl, Lib.hid HBL.out⟩
    · rw [if_neg (by omega)]
      cases hs : ls.any (sameL l) with
      | true =>
        simp only [hs] at HC
        clear hs
        simp only [↓reduceIte]
        go_enter Tryd.func32, Tryd.ntmps32
        go_wp2_with fail
        refine Calls.mono HC.out ?_
        rintro e w1 ⟨rfl, F1⟩
        go_wp2
        go_ret
        exact ⟨rfl, Lib.hid (HBL.out.trans (F1.out.mono HBL.out.size))⟩
      | false =>
        simp only [hs] at HC
        clear hs
        simp only [Bool.false_eq_true, ↓reduceIte]
        go_enter Tryd.func32, Tryd.ntmps32
        go_wp2_with fail
        refine Calls.mono HC.out ?_
        rintro e w1 ⟨rfl, F1⟩
        go_wp2
        go_ret
        exact ⟨rfl, Lib.hid (HBL.out.trans (F1.out.mono HBL.out.size))⟩
theorem lineF_range (a : List Ln) (l : Ln) : lineF a l = 0 ∨ lineF a l = 1 ∨ lineF a l = 8 ∨ lineF a l = 10 := by
  unfold lineF
  split
  · omega
  · split
    · omega
    · split <;> omega
theorem rightL_take (ls : List Ln) (k : Nat) (hk : k < ls.length) : rightL (ls.take k) (ls.drop k) = if lineF (ls.take k) ls[k] = 0 then rightL (ls.take (k + 1)) (ls.drop (k + 1)) else lineF (ls.take k) ls[k] := by
  rw [List.drop_eq_getElem_cons hk]
  conv => lhs; unfold rightL
  rw [List.take_succ_eq_append_getElem hk]
theorem info_ln : (Tryd.prog.info? 51).map (fun i => (i.zero, i.size, i.bytes)) = some (some (.agg #[.int .u16 0, .int .u16 0, .int .i64 0]), 3, 16) := by kernel_rfl
theorem lcut_hi (A : Option Addr) (n c k : Nat) (hc : k ≤ c) (W : World) : (Instr.slice 23 (.slice A n c) none (some (.int .i64 k)) none).run Tryd.prog W = .ok (.slice A k c) W := by
  obtain ⟨i, h1, _⟩ := info_parts info_ln
  exact cut_hi Tryd.underlying23 h1 A n c k hc W
set_option maxHeartbeats 2000000 in
set_option maxRecDepth 10000 in
theorem RightC {B c : Nat} {id : Int} {A : Option Addr} {ls : List Ln} {w : World} (hr : RowOf cL 3 w B A ls) (hB : B ≤ w.heap.size) (hl : ls.length ≤ 140737488355328) (hc : ls.length ≤ c) (ho : ∀ l ∈ ls, l.ok) :
    Calls Tryd.prog 13 #[.agg #[.int .u32 id, .slice A ls.length c]] w fun e w' => e = .returned (.int .i64 (rightO ls)) ∧ Hid (Below w.heap.size w w') := by
  unfold rightO
  rcases (by omega : ls.length = 0 ∨ 8 < ls.length ∨ 1 ≤ ls.length ∧ ls.length ≤ 8) with h0 | h8 | ⟨h1, h8⟩
  · rw [if_pos h0]
    clear hr ho
    rw [h0]
    go_enter Tryd.func13, Tryd.ntmps13
    go_wp2
    go_ret
    exact ⟨rfl, Lib.hid ((Below.refl _ w).alloc (Nat.le_refl _) _)⟩
  · rw [if_neg (by omega), if_pos h8]
    clear hr ho
    go_enter Tryd.func13, Tryd.ntmps13
    go_wp2
    go_ret
    exact ⟨rfl, Lib.hid ((Below.refl _ w).alloc (Nat.le_refl _) _)⟩
  · rw [if_neg (by omega), if_neg (by omega)]
    have HR := Lib.hid hr
    have HO := Lib.hid ho
    clear hr ho
    go_enter Tryd.func13, Tryd.ntmps13
    go_wp2
    go_loopw [19] (fun i wr => ∃ k : Nat, i = .int .i64 k ∧ k ≤ ls.length ∧ rightL [] ls = rightL (ls.take k) (ls.drop k) ∧ Below w.heap.size w wr ∧ Blk wr w.heap.size 25 #[.int .u32 id, .slice A ls.length c]) (fun i _ => ls.length - (intOf i).toNat)
    case atStart => exact ⟨0, rfl, by omega, by simp, (Below.refl _ w).alloc (Nat.le_refl _) _, Blk.new _ _ _⟩
    case round =>
      obtain ⟨k, rfl, hk, hno, hf, hblk⟩ := hrel
      rename ((ls.length : Int) == 0) = false => hz
      clear hz
      have HN := Lib.hid hno
      have HF := Lib.hid hf
      have HBK := Lib.hid hblk
      have b1 := hblk.cell 1
      clear hno hf hblk
      by_cases hlt : k < ls.length
      · obtain ⟨ad, rfl, hb', c0, c1, c2⟩ := (RowOf.below HR.out (HF.out.mono hB)).ln hlt
        have hsz := HF.out.size
        have HT := Lib.hid (rightL_take ls k hlt)
        have HRG := Lib.hid (lineF_range (ls.take k) ls[k])
        have HC := Lib.hid (fun W (h : Below w.heap.size wr W) => lineC (w := W) (c := c) (l := ls[k]) ((RowOf.below HR.out (HF.out.mono hB)).take_ k |>.below (h.mono hB)) (by have := h.size; omega) (by rw [List.length_take]; omega) (HO.out _ (List.getElem_mem hlt)))
        clear hb'
        generalize ls[k] = x at *
        obtain ⟨xi, xl, xq⟩ := x
        have hbs : Below w.heap.size wr (wr.alloc (.cells #[.int .u16 xi, .int .u16 xl, .int .i64 xq] 51)) := (Below.refl _ wr).alloc hsz _
        have HBS := Lib.hid hbs
        have hnb := Blk.new wr 51 #[.int .u16 xi, .int .u16 xl, .int .i64 xq]
        have n0 := hnb.cell 0
        have n1 := hnb.cell 1
        have n2 := hnb.cell 2
        have b1' : (wr.alloc (.cells #[.int .u16 xi, .int .u16 xl, .int .i64 xq] 51)).cell? ⟨w.heap.size, 1, none⟩ = some (.slice (some ad) ls.length c) := (HBK.out.alloc _).cell 1
        have hcut := fun W => lcut_hi (some ad) ls.length c k (by omega) W
        have htk : (ls.take k).length = k := by rw [List.length_take]; omega
        rw [htk] at HC
        clear hbs hnb htk b1
        have hrg := HRG.out
        clear HRG
        generalize hv : lineF (ls.take k) ⟨xi, xl, xq⟩ = v at *
        have HV := Lib.hid hv
        clear hv
        have HB3 := Lib.hid (fun w1 (F1 : Below (wr.alloc (.cells #[.int .u16 xi, .int .u16 xl, .int .i64 xq] 51)).drew.heap.size (wr.alloc (.cells #[.int .u16 xi, .int .u16 xl, .int .i64 xq] 51)).drew w1) => HF.out.trans ((below_dr HBS.out).trans (F1.mono (Nat.le_trans hsz HBS.out.size))))
        rcases hrg with rfl | hrg
        · go_wp2_with fail
          go_region_with (go_at_call 32; refine Calls.mono (HC.out _ (below_dr HBS.out)) ?_; rintro e w1 ⟨rfl, F1⟩)
          all_goals
            go_wp2
            go_roundw
            case rel => exact ⟨k + 1, by go_num, by omega, by rw [HN.out, HT.out]; rfl, HB3.out _ F1.out, ((HBK.out.alloc _).drew).below F1.out (by simp; omega)⟩
            case measure => simp [intOf]; omega
        · rcases hrg with rfl | rfl | rfl
          all_goals
            go_wp2_with fail
            go_region_with (go_at_call 32; refine Calls.mono (HC.out _ (below_dr HBS.out)) ?_; rintro e w1 ⟨rfl, F1⟩)
            all_goals
              go_wp2
              go_ret
              exact ⟨ret_int (by rw [HN.out, HT.out]; rfl), Lib.hid (HB3.out _ F1.out)⟩
      · obtain rfl : k = ls.length := by omega
        have hend : rightL [] ls = 0 := by rw [HN.out, List.drop_length]; rfl
        go_wp2
        go_ret
        exact ⟨ret_int hend.symm, Lib.hid HF.out⟩
end Go.Proofs.YtigknfkkegccgaaDoor.K

/- A world that is the same but for draws. -/
namespace Go.Proofs.YtigknfkkegccgaaDoor.K
open Go.RowKit
set_option linter.unusedVariables false
/-- The same memory, but for draws. -/
structure Same (w w1 : World) : Prop where
  heap : w1.heap = w.heap
  os : w1.os = w.os
  tape : w1.tape = w.tape
  output : w1.output = w.output
section
variable {w w1 w2 : World} {B : Nat}
theorem Same.refl (w : World) : Same w w := ⟨rfl, rfl, rfl, rfl⟩
theorem Same.cell (h : Same w w1) (p : Addr) : w1.cell? p = w.cell? p := by unfold World.cell?; rw [h.heap]
theorem Same.row {α : Type} {c : α → List Value} {size : Nat} {A : Option Addr} {l : List α} (h : Same w w1) (k : RowOf c size w B A l) : RowOf c size w1 B A l := fun i x hx => by
  obtain ⟨ad, rfl, hb, hc⟩ := k i x hx
  exact ⟨ad, rfl, hb, fun j u hu => (h.cell _).trans (hc j u hu)⟩
theorem Same.size (h : Same w w1) : w1.heap.size = w.heap.size := by rw [h.heap]
theorem Same.below (h : Same w w1) (k : Below B w1 w2) : Below B w w2 := ⟨k.os.trans h.os, k.tape.trans h.tape, k.output.trans h.output, by rw [← h.size]; exact k.size, fun j hj => (k.block j hj).trans (by rw [h.heap])⟩
theorem Same.fr {S : Nat → Prop} (h : Same w w1) (k : Fr S w1 w2) : Fr S w w2 := ⟨k.os.trans h.os, k.tape.trans h.tape, k.output.trans h.output, by rw [← h.size]; exact k.size, fun j hj hn => (k.block j (by rw [h.size]; exact hj) hn).trans (by rw [h.heap])⟩
theorem Same.row0 {α : Type} {c : α → List Value} {size : Nat} {A : Option Addr} {l : List α} (h : Same w w1) (k : RowOf c size w w.heap.size A l) : RowOf c size w1 w1.heap.size A l := (h.row k).more_ (by rw [h.size]; exact Nat.le_refl _)
end
theorem Same.fr0 {w w1 : World} (h : Same w w1) : Fr0 w w1 := ⟨h.os, h.tape, h.output, by rw [h.heap]; exact Nat.le_refl _, fun k _ _ => by rw [h.heap]⟩
end Go.Proofs.YtigknfkkegccgaaDoor.K

/- Append, as a step of a region that draws its order. -/
namespace Go.Proofs.YtigknfkkegccgaaDoor.K
open Go.RowKit
set_option linter.unusedVariables false
set_option linter.unusedSimpArgs false
/-- 'append(s, x...)', s a row of the call's own, x any row that can be read: one step. -/
theorem stepR {α : Type} {c : α → List Value} {P : Program} {w : World} {ops : Array Oper} {o : Oper} {a : Act} {K : Act → World → Prop} {Q : Exit → Act → World → Prop} {E : Prop} (hgd : o.guard = none) (s x : Operand) (t : TypeId)
    (ho : o.op = .call { callee := .builtin .append, args := #[s, x], argTypes := #[t, t] })
    (e : TypeId) (z : Value) (size bytes : Nat) (ht : P.underlying t = some (.slice e)) (hinfo : (P.info? e).map (fun i => (i.zero, i.size, i.bytes)) = some (some z, size, bytes))
    (hzs : z.cells.size = size) (hsz : 0 < size) (hby : 0 < bytes) (hcs : ∀ y, (c y).length = size) (h1 : ∀ y, ∀ u ∈ c y, u.oneCell' = true)
    (base B : Nat) (v : Value) (xs l : List α) (A : Option Addr) (cap : Nat) (hs : a.eval s = v) (hx : a.eval x = .slice A l.length cap)
    (HR : RowOf c size w B A l) (HO : w.ownsRow base e size v xs.length (xs.flatMap c)) (hbase : base ≤ w.heap.size) (hl : (xs.length + l.length) * bytes ≤ 140737488355328)
    (h : ∀ v1 w1, w1.ownsRow base e size v1 (xs ++ l).length ((xs ++ l).flatMap c) → Fr (fun k => v.ownBlock = some k) w w1 → (∀ k, v1.ownBlock = some k → v.ownBlock = some k ∨ w.heap.size ≤ k) → K (a.put o.dst v1) w1) :
    if Region.wanted o (yielded ops a.tmps) = true then Oper.wp P o a w K Q else E := by
  have hw : Region.wanted o (yielded ops a.tmps) = true := by simp [Region.wanted, hgd]
  rw [if_pos hw]
  obtain ⟨i0, hi, hz0, hz1, hz2⟩ := info_parts hinfo
  by_cases hA : A = none
  · subst hA
    have hl0 : l = [] := row_none_nil HR
    subst hl0
    have hrun := run_append_nil (P := P) (w := w) base t o.type e i0 size ht hi v xs.length cap (xs.flatMap c) HO
    have hx' : a.eval x = .slice none 0 cap := hx
    unfold Oper.wp
    simp [execOp, ho, resolve, invoke, builtin, hs, hx', hrun, Result.andThen]
    exact h v w (by simpa using HO) (Fr.refl _ _) (fun k hk => .inl hk)
  · obtain ⟨ad, rfl⟩ : ∃ ad, A = some ad := by cases A with
      | none => exact absurd rfl hA
      | some ad => exact ⟨ad, rfl⟩
    have hlen := Nat.le_trans (Nat.le_mul_of_pos_right (xs.length + l.length) hby) hl
    obtain ⟨v', w', hrun, h2, hg, _, hat⟩ := run_append_own_at (P := P) w base t o.type e i0 z size bytes ht hi hz0 hz1 hz2 hzs hsz v xs.length (xs.flatMap c) HO ad l.length cap (l.flatMap c) (flat_len hcs l)
      (fun j u hu => by
        obtain ⟨i, y, k, h2, h3, rfl⟩ := flat_inv hcs l j u hu
        obtain ⟨ad', e', _, hc⟩ := HR i y h2
        injection e' with e'; subst e'
        exact hc k u h3)
      (fun u hu => by
        obtain ⟨y, _, hy⟩ := List.mem_flatMap.1 hu
        exact h1 y u hy) (by simp only [maxLen]; omega) hl hbase
    unfold Oper.wp execOp
    simp only [ho, resolve, invoke, builtin, Sem.run_bind, Sem.run_pure, Result.andThen_ok, List.map_toArray, List.map_cons, List.map_nil, hs, hx, hrun]
    refine h v' w' (by rw [List.length_append, List.flatMap_append]; exact h2) ((Fr.refl (fun k => v.ownBlock = some k) w).grown hg (fun j _ e => e)) (fun k hk => ?_)
    rcases hat with hat | hat
    · exact .inl (hat ▸ hk)
    · rw [hat] at hk; injection hk with hk; exact .inr (by omega)
/-- Rows of unlike elements lie apart. -/
theorem own_ne {w : World} {b b' : Nat} {e e' : TypeId} {s s' n n' : Nat} {v v' : Value} {xs xs' : List Value} (h : w.ownsRow b e s v n xs) (h' : w.ownsRow b' e' s' v' n' xs') (hne : e ≠ e') : ∀ j, v.ownBlock = some j → v'.ownBlock ≠ some j := by
  intro j hj
  rcases h.2 with ⟨rfl, _⟩ | ⟨g, cap, cur, rfl, _, hh, _⟩
  · simp [Value.ownBlock] at hj
  · have : g = j := by simpa [Value.ownBlock] using hj
    subst this
    exact own_blk_ne h' hh (fun e => hne e.symm)
theorem info_bytes : (Tryd.prog.info? 26).map (fun i => (i.zero, i.size, i.bytes)) = some (some (.slice none 0 0), 1, 24) := by kernel_rfl
theorem Made.fr {B : Nat} {A : Option Addr} {c : Nat} {l : List Int} {S : Nat → Prop} {w w' : World} (h : Made B A c l w) (k : Fr S w w') (hn : ∀ j, (Value.slice A l.length c).ownBlock = some j → ¬ S j) : Made B A c l w' := by
  obtain ⟨A', c', e, hm⟩ := made_of (B := B) (own_fr h.1 k hn)
  injection e with e1 _ e2
  subst e1 e2
  exact hm
theorem Made.low {B B' : Nat} {A : Option Addr} {c : Nat} {l : List Int} {w : World} (h : Made B A c l w) (hb : B' ≤ B) : Made B' A c l w := ⟨own_weak h.1 hb, h.2.1, h.2.2⟩
/-- What 'parts' tells: at most five parts of the call's own, of at most fifty bytes each. -/
structure Own5 (B : Nat) (v : Value) (ps : List Part) (w : World) : Prop where
  row : w.ownsRow B 26 1 v ps.length (ps.flatMap cP)
  each : ∀ p ∈ ps, Made B p.1 p.2.1 p.2.2 w ∧ p.2.2.length ≤ 50 ∧ InB p.2.2
  few : ps.length ≤ 5
end Go.Proofs.YtigknfkkegccgaaDoor.K

/- Orders: their bytes. -/
namespace Go.Proofs.YtigknfkkegccgaaDoor.K
open Go.RowKit
set_option linter.unusedVariables false
set_option linter.unusedSimpArgs false
attribute [local go_sem ↓] Go.wp_at_zero Go.wp_at_succ
/-- Blocks that are known whole, and are neither Writers nor bytes. -/
abbrev Kept := List (Nat × TypeId × Array Value)
def Keeps (K : Kept) (w : World) : Prop := ∀ q ∈ K, q.2.1 ≠ 5 ∧ q.2.1 ≠ 71 ∧ Blk w q.1 q.2.1 q.2.2
/-- A Writer at b (made in world w1 just there) holds m, beside blocks that stay. -/
structure WS (K : Kept) (w1 : World) (b : Nat) (v : Value) (m : List Int) (wr : World) : Prop where
  hw : Wrt b v m wr
  base : ∀ j, v.ownBlock = some j → w1.heap.size ≤ j
  hb : Below w1.heap.size w1 wr
  hs : w1.heap.size ≤ b
  keep : Keeps K wr
theorem Keeps.fr {K : Kept} {w w' : World} {b : Nat} {v v' : Value} {m : List Int} (h : Keeps K w) (hw : Wrt b v m w) (k : WFr b v v' w w') : Keeps K w' := fun q hq => by
  obtain ⟨h1, h2, h3⟩ := h q hq
  refine ⟨h1, h2, h3.fr k.fr (fun e => ?_)⟩
  rcases e with e | e
  · obtain ⟨⟨lr, hb⟩, _⟩ := hw
    exact Blk.ne_ h3 hb h2 e
  · exact own_blk_ne hw.2.1 h3 (fun e => h1 e.symm) e
theorem Keeps.same {K : Kept} {w w' : World} (h : Keeps K w) (k : Same w w') : Keeps K w' := fun q hq => by
  obtain ⟨h1, h2, h3⟩ := h q hq
  exact ⟨h1, h2, by unfold Blk; rw [k.heap]; exact h3⟩
theorem WS.step {K : Kept} {w1 wr w' : World} {b : Nat} {v v' : Value} {m m' : List Int} (h : WS K w1 b v m wr) (H1 : Wrt b v' m' w') (H2 : WFr b v v' wr w') : WS K w1 b v' m' w' :=
  ⟨H1, wfr_base H2 h.base h.hb.size, wfr_below h.hb H2 h.hs h.base (Nat.le_refl _), h.hs, h.keep.fr h.hw H2⟩
theorem WS.same {K : Kept} {w1 wr w' : World} {b : Nat} {v : Value} {m : List Int} (h : WS K w1 b v m wr) (k : Same wr w') : WS K w1 b v m w' :=
  ⟨h.hw.fr k.fr0 (fun h => h) (fun _ _ h => h), h.base, (h.hb.trans (Below.refl _ _)).trans (k.below (Below.refl _ _)), h.hs, h.keep.same k⟩
theorem WS.tail {q : Nat × TypeId × Array Value} {K : Kept} {w1 wr : World} {b : Nat} {v : Value} {m : List Int} (h : WS (q :: K) w1 b v m wr) : WS K w1 b v m wr := ⟨h.hw, h.base, h.hb, h.hs, fun p hp => h.keep p (List.mem_cons_of_mem _ hp)⟩
section
variable {K : Kept} {w1 wr wq : World} {b : Nat} {v : Value} {m m' : List Int} {n : Int}
theorem WS.u8 (hs : Same wr wq) (h : WS K w1 b v m wr) (hn0 : 0 ≤ n) (hn1 : n < 256) (hm : m ++ be n 1 = m') (hlim : m.length + 4 ≤ 140737488355328) :
    Calls Tryd.prog 29 #[.pointer (some ⟨b, 0, none⟩), .int .u8 n] wq fun e w' => e = .returned (.pointer (some ⟨b, 0, none⟩)) ∧ ∃ v', Hid (WS K w1 b v' m' w') := by
  subst hm
  refine (WU8_own (h.same hs).hw hn0 hn1 hlim).mono ?_
  rintro e w' ⟨rfl, v', H1, H2⟩
  exact ⟨rfl, v', Lib.hid ((h.same hs).step H1.out H2.out)⟩
theorem WS.u16 (hs : Same wr wq) (h : WS K w1 b v m wr) (hn0 : 0 ≤ n) (hn1 : n < 65536) (hm : m ++ be n 2 = m') (hlim : m.length + 4 ≤ 140737488355328) :
    Calls Tryd.prog 30 #[.pointer (some ⟨b, 0, none⟩), .int .u16 n] wq fun e w' => e = .returned (.pointer (some ⟨b, 0, none⟩)) ∧ ∃ v', Hid (WS K w1 b v' m' w') := by
  subst hm
  refine (WU16_own (h.same hs).hw hn0 hn1 hlim).mono ?_
  rintro e w' ⟨rfl, v', H1, H2⟩
  exact ⟨rfl, v', Lib.hid ((h.same hs).step H1.out H2.out)⟩
theorem WS.u32 (hs : Same wr wq) (h : WS K w1 b v m wr) (hn0 : 0 ≤ n) (hn1 : n < 4294967296) (hm : m ++ be n 4 = m') (hlim : m.length + 4 ≤ 140737488355328) :
    Calls Tryd.prog 28 #[.pointer (some ⟨b, 0, none⟩), .int .u32 n] wq fun e w' => e = .returned (.pointer (some ⟨b, 0, none⟩)) ∧ ∃ v', Hid (WS K w1 b v' m' w') := by
  subst hm
  refine (WU32_own (h.same hs).hw hn0 hn1 hlim).mono ?_
  rintro e w' ⟨rfl, v', H1, H2⟩
  exact ⟨rfl, v', Lib.hid ((h.same hs).step H1.out H2.out)⟩
end
/-- A line's bytes, an order's. -/
def lineB (l : Ln) : List Int := be l.item 2 ++ be l.loc 2 ++ be l.qty 2
theorem lineB_len (l : Ln) : (lineB l).length = 6 := by simp [lineB, be_length]
def bytesO (id : Int) (ls : List Ln) : List Int := be id 4 ++ be ls.length 1 ++ ls.flatMap lineB
theorem linesB_len (ls : List Ln) : (ls.flatMap lineB).length = ls.length * 6 := by
  induction ls with
  | nil => rfl
  | cons l ls ih => rw [List.flatMap_cons, List.length_append, ih, lineB_len, List.length_cons]; omega
theorem bytesO_len (id : Int) (ls : List Ln) : (bytesO id ls).length = 5 + 6 * ls.length := by
  simp only [bytesO, List.length_append, be_length, linesB_len]; omega
theorem right_lines {ls : List Ln} (h : rightO ls = 0) : 1 ≤ ls.length ∧ ls.length ≤ 8 ∧ ∀ l ∈ ls, l.loc < 64 ∧ 1 ≤ l.qty ∧ l.qty ≤ 9999 := by
  unfold rightO at h
  split at h
  · omega
  split at h
  · omega
  refine ⟨by omega, by omega, ?_⟩
  have : ∀ (r a : List Ln), rightL a r = 0 → ∀ l ∈ r, l.loc < 64 ∧ 1 ≤ l.qty ∧ l.qty ≤ 9999 := by
    intro r
    induction r with
    | nil => intro a _ l hl; cases hl
    | cons x r ih =>
      intro a h l hl
      unfold rightL at h
      by_cases h0 : lineF a x = 0
      · rw [if_pos h0] at h
        rcases List.mem_cons.1 hl with rfl | hl
        · unfold lineF at h0
          split at h0
          · omega
          split at h0
          · omega
          omega
        · exact ih _ h l hl
      · rw [if_neg h0] at h; exact absurd h h0
  exact this ls [] h
theorem rightO_range (ls : List Ln) : rightO ls = 0 ∨ rightO ls = 1 ∨ rightO ls = 3 ∨ rightO ls = 5 ∨ rightO ls = 8 ∨ rightO ls = 10 := by
  unfold rightO
  split
  · omega
  split
  · omega
  have : ∀ (r a : List Ln), rightL a r = 0 ∨ rightL a r = 1 ∨ rightL a r = 8 ∨ rightL a r = 10 := by
    intro r
    induction r with
    | nil => intro a; exact .inl rfl
    | cons x r ih =>
      intro a
      unfold rightL
      split
      · exact ih _
      · exact lineF_range a x
  have := this ls []
  omega
set_option maxHeartbeats 2000000 in
set_option maxRecDepth 10000 in
theorem BytesNo {B c : Nat} {id : Int} {A : Option Addr} {ls : List Ln} {w : World} (hr : RowOf cL 3 w B A ls) (hB : B ≤ w.heap.size) (hl : ls.length ≤ 140737488355328) (hc : ls.length ≤ c) (ho : ∀ l ∈ ls, l.ok) (hn : rightO ls ≠ 0) :
    Calls Tryd.prog 12 #[.agg #[.int .u32 id, .slice A ls.length c]] w fun e w' => e = .returned (.tuple #[.slice none 0 0, .int .i64 (rightO ls)]) ∧ Hid (Below w.heap.size w w') := by
  have hbl : Below w.heap.size w (w.alloc (.cells #[.int .u32 id, .slice A ls.length c] 25)) := (Below.refl _ w).alloc (Nat.le_refl _) _
  have HBL := Lib.hid hbl
  have HC := Lib.hid (RightC (id := id) (c := c) (RowOf.below hr (hbl.mono hB)) (by have := hbl.size; omega) hl hc ho)
  have HRG := rightO_range ls
  generalize rightO ls = v at *
  clear hbl hr ho
  rcases (by omega : v = 1 ∨ v = 3 ∨ v = 5 ∨ v = 8 ∨ v = 10) with rfl | rfl | rfl | rfl | rfl
  all_goals
    clear HRG hn
    go_enter Tryd.func12, Tryd.ntmps12
    go_wp2_with fail
    refine Calls.mono HC.out ?_
    rintro e w1 ⟨rfl, F1⟩
    go_wp2
    go_ret2
    exact ⟨rfl, Lib.hid (HBL.out.trans (F1.out.mono HBL.out.size))⟩
theorem flat_take_line (ls : List Ln) (k : Nat) (h : k < ls.length) : (ls.take (k + 1)).flatMap lineB = (ls.take k).flatMap lineB ++ lineB ls[k] := by
  rw [List.take_succ_eq_append_getElem h, List.flatMap_append]; simp
set_option maxHeartbeats 4000000 in
set_option maxRecDepth 10000 in
theorem BytesC {B c : Nat} {id : Int} {A : Option Addr} {ls : List Ln} {w : World} (hr : RowOf cL 3 w B A ls) (hB : B ≤ w.heap.size) (hid : 0 ≤ id ∧ id < 4294967296) (hc : ls.length ≤ c) (ho : ∀ l ∈ ls, l.ok) (hn : rightO ls = 0) :
    Calls Tryd.prog 12 #[.agg #[.int .u32 id, .slice A ls.length c]] w fun e w' => ∃ A' c', e = .returned (.tuple #[.slice A' (bytesO id ls).length c', .int .i64 0]) ∧ Hid (Made w.heap.size A' c' (bytesO id ls) w') ∧ Hid (Below w.heap.size w w') := by
  obtain ⟨hl1, hl2, hlb⟩ := right_lines hn
  have hbl : Below w.heap.size w (w.alloc (.cells #[.int .u32 id, .slice A ls.length c] 25)) := (Below.refl _ w).alloc (Nat.le_refl _) _
  have HBL := Lib.hid hbl
  have HBK0 := Lib.hid (Blk.new w 25 #[.int .u32 id, .slice A ls.length c])
  have HR := Lib.hid hr
  have HO := Lib.hid ho
  have HLB := Lib.hid hlb
  have HC := Lib.hid (RightC (id := id) (c := c) (RowOf.below hr (hbl.mono hB)) (by have := hbl.size; omega) (by omega) hc ho)
  rw [hn] at HC
  obtain ⟨id0, id1⟩ := hid
  clear hbl hr ho hlb hn
  go_enter Tryd.func12, Tryd.ntmps12
  go_wp2_with fail
  refine Calls.mono HC.out ?_
  rintro e w1 ⟨rfl, F1⟩
  obtain ⟨W, hW⟩ : ∃ W, W = w1.alloc (.cells #[.slice none 0 0, .int .i64 0, .int .i8 0] 71) := ⟨_, rfl⟩
  have hws : WS [(w.heap.size, 25, #[.int .u32 id, .slice A ls.length c])] w1 w1.heap.size (.slice none 0 0) [] W := by
    rw [hW]
    refine ⟨wrt_new w1, base_nil _, (Below.refl _ _).alloc (Nat.le_refl _) _, Nat.le_refl _, fun q hq => ?_⟩
    rw [List.mem_singleton] at hq
    subst hq
    exact ⟨(by decide : (25 : Nat) ≠ 5), (by decide : (25 : Nat) ≠ 71), (HBK0.out.below F1.out (by simp)).alloc _⟩
  have HWS := Lib.hid hws
  have HWE := Lib.hid hW.symm
  clear hW hws
  have t0 : Hid True := Lib.hid trivial
  have hn8 : (ls.length : Int) ≤ 8 := by omega
  have hw8 : IntKind.u8.wrap (ls.length : Int) = (ls.length : Int) := by rw [IntKind.wrap_u8]; omega
  have hS : Hid (∀ {v m W'}, WS [(w.heap.size, 25, #[.int .u32 id, .slice A ls.length c])] w1 w1.heap.size v m W' → W'.cell? ⟨w.heap.size, 0, none⟩ = some (.int .u32 id) ∧ W'.cell? ⟨w.heap.size, 1, none⟩ = some (.slice A ls.length c)) := Lib.hid (fun h => ⟨((h.keep _ (List.mem_singleton.2 rfl)).2.2).cell 0, ((h.keep _ (List.mem_singleton.2 rfl)).2.2).cell 1⟩)
  go_wp2
  rw [HWE.out]
  clear HWE
  go_region_held (fun w' => w'.cell? ⟨w.heap.size, 0, none⟩ = some (.int .u32 id) ∧ w'.cell? ⟨w.heap.size, 1, none⟩ = some (.slice A ls.length c)) ((have h9 := hS.out HWS.out; exact h9)) (first
    | (go_at_call 28; have _t := t0; refine Calls.mono (WS.u32 (n := id) (m' := be id 4) (by exact ⟨rfl, rfl, rfl, rfl⟩) HWS.out id0 id1 (by simp) (by simp)) ?_; rintro e wq ⟨rfl, vq, HI2⟩; have t1 := t0; clear t0 HWS; have HWS := HI2; clear HI2)
    | (go_at_call 29; have _t := t1; refine Calls.mono (WS.u8 (n := (ls.length : Int)) (m' := be id 4 ++ be ls.length 1) (by exact ⟨rfl, rfl, rfl, rfl⟩) HWS.out (by omega) (by omega) rfl (by simp [be_length])) ?_; rintro e wq ⟨rfl, vq, HI2⟩; clear t1 HWS; have HWS := HI2; clear HI2))
  have hb1 := (hS.out HWS.out).2
  go_wp2
  go_loopw [27] (fun i wr => ∃ (k : Nat) (v : Value), i = .int .i64 k ∧ k ≤ ls.length ∧ WS [(w.heap.size, 25, #[.int .u32 id, .slice A ls.length c])] w1 w1.heap.size v (be id 4 ++ be ls.length 1 ++ (ls.take k).flatMap lineB) wr) (fun i _ => ls.length - (intOf i).toNat)
  case atStart => exact ⟨0, vq, rfl, by omega, by simpa using HWS.out⟩
  case round =>
    clear HWS hb1
    obtain ⟨k, v, rfl, hk, hws⟩ := hrel
    have HWS := Lib.hid hws
    clear hws
    by_cases hlt : k < ls.length
    · obtain ⟨ad, rfl, hb', c0, c1, c2⟩ := (RowOf.below (HR.out.below (HBL.out.mono hB)) ((F1.out.trans (HWS.out.hb.mono F1.out.size)).mono (Nat.le_trans hB (by simp)))).ln hlt
      have hft : be id 4 ++ be ls.length 1 ++ (ls.take (k + 1)).flatMap lineB = (be id 4 ++ be ls.length 1 ++ (ls.take k).flatMap lineB) ++ lineB ls[k] := by rw [flat_take_line ls k hlt, ← List.append_assoc]
      obtain ⟨⟨oi0, oi1⟩, ⟨ol0, ol1⟩, _⟩ := HO.out _ (List.getElem_mem hlt)
      obtain ⟨_, q0, q1⟩ := HLB.out _ (List.getElem_mem hlt)
      have HFT := Lib.hid hft
      have hpl : (be id 4 ++ be ls.length 1 ++ (ls.take k).flatMap lineB).length ≤ 100 := by rw [List.length_append, List.length_append, be_length, be_length, linesB_len, List.length_take]; omega
      clear hft hb'
      generalize be id 4 ++ be ls.length 1 ++ (ls.take k).flatMap lineB = pre at *
      generalize ls[k] = x at *
      obtain ⟨xi, xl, xq⟩ := x
      simp only at oi0 oi1 ol0 ol1 q0 q1
      have hwq : IntKind.u16.wrap xq = xq := by rw [IntKind.wrap_u16]; omega
      have hw2 : WS [(wr.heap.size, 51, lvs ⟨xi, xl, xq⟩), (w.heap.size, 25, #[.int .u32 id, .slice (some ad) ls.length c])] w1 w1.heap.size v pre (wr.alloc (.cells (lvs ⟨xi, xl, xq⟩) 51)) := by
        refine ⟨HWS.out.hw.alloc _, HWS.out.base, HWS.out.hb.alloc HWS.out.hb.size _, HWS.out.hs, fun q hq => ?_⟩
        rcases List.mem_cons.1 hq with rfl | hq
        · exact ⟨(by decide : (51 : Nat) ≠ 5), (by decide : (51 : Nat) ≠ 71), Blk.new _ _ _⟩
        · obtain ⟨g1, g2, g3⟩ := HWS.out.keep q hq
          exact ⟨g1, g2, g3.alloc _⟩
      have HW2 := Lib.hid hw2
      clear hw2 HWS
      have t0 : Hid True := Lib.hid trivial
      have hS2 : Hid (∀ {v m W'}, WS [(wr.heap.size, 51, lvs ⟨xi, xl, xq⟩), (w.heap.size, 25, #[.int .u32 id, .slice (some ad) ls.length c])] w1 w1.heap.size v m W' → W'.cell? ⟨wr.heap.size, 0, none⟩ = some (.int .u16 xi) ∧ W'.cell? ⟨wr.heap.size, 1, none⟩ = some (.int .u16 xl) ∧ W'.cell? ⟨wr.heap.size, 2, none⟩ = some (.int .i64 xq)) := Lib.hid (fun h => ⟨((h.keep _ List.mem_cons_self).2.2).cell 0, ((h.keep _ List.mem_cons_self).2.2).cell 1, ((h.keep _ List.mem_cons_self).2.2).cell 2⟩)
      go_wp2_with fail
      go_region_held (fun w' => w'.cell? ⟨wr.heap.size, 0, none⟩ = some (.int .u16 xi) ∧ w'.cell? ⟨wr.heap.size, 1, none⟩ = some (.int .u16 xl) ∧ w'.cell? ⟨wr.heap.size, 2, none⟩ = some (.int .i64 xq)) ((have h9 := hS2.out HW2.out; exact h9)) (first
        | (go_at_call 30; have _t := t0; refine Calls.mono (WS.u16 (n := xi) (m' := pre ++ be xi 2) (by exact ⟨rfl, rfl, rfl, rfl⟩) HW2.out oi0 oi1 rfl (by omega)) ?_; rintro e wq ⟨rfl, vq, HI2⟩; have t1 := t0; clear t0 HW2; have HW2 := HI2; clear HI2)
        | (go_at_call 30; have _t := t1; refine Calls.mono (WS.u16 (n := xl) (m' := pre ++ be xi 2 ++ be xl 2) (by exact ⟨rfl, rfl, rfl, rfl⟩) HW2.out ol0 ol1 rfl (by rw [List.length_append, be_length]; omega)) ?_; rintro e wq ⟨rfl, vq, HI2⟩; have t2 := t1; clear t1 HW2; have HW2 := HI2; clear HI2)
        | (go_at_call 30; have _t := t2; refine Calls.mono (WS.u16 (n := xq) (m' := pre ++ be xi 2 ++ be xl 2 ++ be xq 2) (by exact ⟨rfl, rfl, rfl, rfl⟩) HW2.out (by omega) (by omega) rfl (by rw [List.length_append, List.length_append, be_length, be_length]; omega)) ?_; rintro e wq ⟨rfl, vq, HI2⟩; clear t2 HW2; have HW2 := HI2; clear HI2))
      go_wp2
      go_roundw
      case rel => exact ⟨k + 1, _, by go_num, by omega, by rw [HFT.out]; have := HW2.out.tail; simp only [lineB, List.append_assoc] at this ⊢; exact this⟩
      case measure => simp [intOf]; omega
    · obtain rfl : k = ls.length := by omega
      rw [List.take_length] at HWS
      go_wp2_with fail
      refine Calls.mono (WDoneE (n := (bytesO id ls).length) (l := bytesO id ls) rfl HWS.out.hw (by rw [bytesO_len]; omega)) ?_
      rintro e w3 ⟨A3, c3, rfl, H3, F3⟩
      go_wp2
      go_ret2
      exact ⟨A3, c3, rfl, Lib.hid (H3.out.low (Nat.le_trans HBL.out.size (Nat.le_trans F1.out.size HWS.out.hb.size))), Lib.hid ((HBL.out.trans (F1.out.mono HBL.out.size)).trans (HWS.out.hb.mono (Nat.le_trans HBL.out.size F1.out.size) |>.trans (F3.out.below0.mono (Nat.le_trans HBL.out.size (Nat.le_trans F1.out.size HWS.out.hb.size)))))⟩
end Go.Proofs.YtigknfkkegccgaaDoor.K

/- Orders: check, must; what is deferred where they are parsed. -/
namespace Go.Proofs.YtigknfkkegccgaaDoor.K
open Go.RowKit
set_option linter.unusedVariables false
set_option linter.unusedSimpArgs false
attribute [local go_sem ↓] Go.wp_at_zero Go.wp_at_succ
/-- The panic with an error. -/
abbrev errP (e : Int) : List PanicEntry := [{ v := .iface 29 (.int .i64 e), recovered := false }]
set_option maxRecDepth 10000 in
theorem checkC (w : World) : Calls Tryd.prog 42 #[.int .i64 0] w fun e w' => e = .returned (.tuple #[]) ∧ w' = w := by
  go_enter Tryd.func42, Tryd.ntmps42
  go_wp2
  go_end0
  exact ⟨rfl, rfl⟩
set_option maxRecDepth 10000 in
theorem checkP (e0 : Int) (h : e0 ≠ 0) (w : World) : Calls Tryd.prog 42 #[.int .i64 e0] w fun e w' => e = .panicked (errP e0) ∧ w' = w := by
  go_enter Tryd.func42, Tryd.ntmps42
  go_wp2
  exact ⟨rfl, rfl, rfl⟩
set_option maxRecDepth 10000 in
theorem must32C (x : Int) (w : World) : Calls Tryd.prog 36 #[.int .u32 x, .int .i64 0] w fun e w' => e = .returned (.int .u32 x) ∧ w' = w := by
  go_enter Tryd.func36, Tryd.ntmps36
  go_wp2_with fail
  refine Calls.mono (checkC _) ?_
  rintro e w1 ⟨rfl, rfl⟩
  go_wp2
  go_ret
  exact ⟨rfl, rfl⟩
set_option maxRecDepth 10000 in
theorem must32P (x e0 : Int) (h : e0 ≠ 0) (w : World) : Calls Tryd.prog 36 #[.int .u32 x, .int .i64 e0] w fun e w' => e = .panicked (errP e0) ∧ w' = w := by
  go_enter Tryd.func36, Tryd.ntmps36
  go_wp2_with fail
  refine Calls.mono (checkP e0 h _) ?_
  rintro e w1 ⟨rfl, rfl⟩
  go_wp2
  exact ⟨rfl, rfl, rfl⟩
set_option maxRecDepth 10000 in
theorem must8C (x : Int) (w : World) : Calls Tryd.prog 38 #[.int .u8 x, .int .i64 0] w fun e w' => e = .returned (.int .u8 x) ∧ w' = w := by
  go_enter Tryd.func38, Tryd.ntmps38
  go_wp2_with fail
  refine Calls.mono (checkC _) ?_
  rintro e w1 ⟨rfl, rfl⟩
  go_wp2
  go_ret
  exact ⟨rfl, rfl⟩
set_option maxRecDepth 10000 in
theorem must8P (x e0 : Int) (h : e0 ≠ 0) (w : World) : Calls Tryd.prog 38 #[.int .u8 x, .int .i64 e0] w fun e w' => e = .panicked (errP e0) ∧ w' = w := by
  go_enter Tryd.func38, Tryd.ntmps38
  go_wp2_with fail
  refine Calls.mono (checkP e0 h _) ?_
  rintro e w1 ⟨rfl, rfl⟩
  go_wp2
  exact ⟨rfl, rfl, rfl⟩
set_option maxRecDepth 10000 in
theorem must16C (x : Int) (w : World) : Calls Tryd.prog 40 #[.int .u16 x, .int .i64 0] w fun e w' => e = .returned (.int .u16 x) ∧ w' = w := by
  go_enter Tryd.func40, Tryd.ntmps40
  go_wp2_with fail
  refine Calls.mono (checkC _) ?_
  rintro e w1 ⟨rfl, rfl⟩
  go_wp2
  go_ret
  exact ⟨rfl, rfl⟩
set_option maxRecDepth 10000 in
theorem must16P (x e0 : Int) (h : e0 ≠ 0) (w : World) : Calls Tryd.prog 40 #[.int .u16 x, .int .i64 e0] w fun e w' => e = .panicked (errP e0) ∧ w' = w := by
  go_enter Tryd.func40, Tryd.ntmps40
  go_wp2_with fail
  refine Calls.mono (checkP e0 h _) ?_
  rintro e w1 ⟨rfl, rfl⟩
  go_wp2
  exact ⟨rfl, rfl, rfl⟩
set_option maxHeartbeats 1000000 in
set_option maxRecDepth 10000 in
theorem parse1P {p q : Nat} {x y z : Value} (e0 : Int) (w : World) (hp : Blk w p 25 #[x, y]) (hq : Blk w q 29 #[z]) :
    CallsD Tryd.prog 34 #[.pointer (some ⟨p, 0, none⟩), .pointer (some ⟨q, 0, none⟩)] (.panicking (errP e0)) w fun e u' w' =>
      e = .returned (.tuple #[]) ∧ u' = .panicking [{ v := .iface 29 (.int .i64 e0), recovered := true }] ∧ w' = ((w.setCell ⟨p, 0, none⟩ (.int .u32 0)).setCell ⟨p, 1, none⟩ (.slice none 0 0)).setCell ⟨q, 0, none⟩ (.int .i64 e0) := by
  have c0 := hp.cell 0
  have c1 := hp.cell 1
  have f0 := hp.frozen 0
  have f1 := hp.frozen 1
  have hqp : q ≠ p := hq.ne_ hp (by decide)
  have hq2 : Blk ((w.setCell ⟨p, 0, none⟩ (.int .u32 0)).setCell ⟨p, 1, none⟩ (.slice none 0 0)) q 29 #[z] := (hq.far (p := ⟨p, 0, none⟩) hqp _).far (p := ⟨p, 1, none⟩) hqp _
  have hp2 : Blk (w.setCell ⟨p, 0, none⟩ (.int .u32 0)) p 25 #[.int .u32 0, y] := by simpa using hp.set_ 0 (.int .u32 0)
  have c2 := hp2.cell 1
  have f2 := hp2.frozen 1
  have d0 := hq2.cell 0
  have g0 := hq2.frozen 0
  clear hqp hq2 hp2
  refine callsD_of_wpS Tryd.func34 rfl fun c₀ cs hu => ?_
  apply wpS_seq
  apply wpS_region
  simp [wpOpsS, go_sem, recoverD, hu, Tryd.ntmps34, Exit.thenS]
  refine wpS_of_wp ?_
  have hc0 := hu
  clear hp hq hu
  generalize hQ : (fun (e : Exit) (a' : Act) (w' : World) => bodyPostS _ _ _ _ _ e a' _ w') = Q
  have HQ := Lib.hid hQ
  clear hQ
  have ht : (#[Value.pointer (some ⟨p, 0, none⟩), Value.pointer (some ⟨q, 0, none⟩)] ++ ((Array.replicate 16 undef).setIfInBounds 3 (Value.iface 29 (Value.int IntKind.i64 e0))).setIfInBounds 0 (Value.iface 29 (Value.int IntKind.i64 e0))) =
    #[Value.pointer (some ⟨p, 0, none⟩), Value.pointer (some ⟨q, 0, none⟩), Value.iface 29 (Value.int IntKind.i64 e0), undef, undef, Value.iface 29 (Value.int IntKind.i64 e0), undef, undef, undef, undef, undef, undef, undef, undef, undef, undef, undef, undef] := rfl
  rw [ht]
  clear ht
  have hta : ∀ W, (Instr.typeAssert (.iface 29 (.int .i64 e0)) 20 29 true).run Tryd.prog W = .ok (.tuple #[.int .i64 e0, .bool true]) W := fun W => by kernel_rfl
  go_wp2
  have := HQ.out
  subst this
  simp [bodyPostS, results, Tryd.results34]
set_option maxHeartbeats 1000000 in
set_option maxRecDepth 10000 in
theorem parse1I (p q : Addr) (w : World) :
    CallsD Tryd.prog 34 #[.pointer (some p), .pointer (some q)] .returning w fun e u' w' => e = .returned (.tuple #[]) ∧ u' = .returning ∧ w' = w := by
  refine callsD_of_wpS Tryd.func34 rfl fun c₀ cs hu => ?_
  apply wpS_seq
  apply wpS_region
  simp [wpOpsS, go_sem, recoverD, hu, Tryd.ntmps34, Exit.thenS]
  apply wpS_seq
  apply wpS_region
  simp [wpOpsS, go_sem, Exit.thenS]
  refine wpS_cond (t := false) (by simp [Act.eval, Array.replicate]) ?_
  simp only [Bool.false_eq_true, if_false]
  refine wpS_of_wp (wp_skip ?_)
  cases c₀
  simp_all [bodyPostS, results, Tryd.results34]
end Go.Proofs.YtigknfkkegccgaaDoor.K

/- Orders: what bytes are parsed as; the state of Parse. -/
namespace Go.Proofs.YtigknfkkegccgaaDoor.K
open Go.RowKit
set_option linter.unusedVariables false
set_option linter.unusedSimpArgs false
attribute [local go_sem ↓] Go.wp_at_zero Go.wp_at_succ
/-- The line that bytes begin with. -/
def lnOf (m : List Int) : Ln := ⟨num (m.take 2), num ((m.drop 2).take 2), num ((m.drop 4).take 2)⟩
def lnsOf : Nat → List Int → List Ln
  | 0, _ => []
  | k + 1, m => lnOf m :: lnsOf k (m.drop 6)
theorem lnsOf_len (k : Nat) : ∀ m, (lnsOf k m).length = k := by
  induction k with
  | zero => intro m; rfl
  | succ k ih => intro m; simp [lnsOf, ih]
theorem lnsOf_snoc (k : Nat) : ∀ m, lnsOf (k + 1) m = lnsOf k m ++ [lnOf (m.drop (6 * k))] := by
  induction k with
  | zero => intro m; simp [lnsOf]
  | succ k ih =>
    intro m
    show lnOf m :: lnsOf (k + 1) (m.drop 6) = _
    rw [ih (m.drop 6), List.drop_drop, show 6 + 6 * k = 6 * (k + 1) by omega]
    rfl
theorem lnOf_ok {m : List Int} (h : InB m) : (lnOf m).ok := by
  have q : (256 : Int) ^ 2 = 65536 := by decide
  have h1 := num_lt (k := 2) (h.take_ 2) (by rw [List.length_take]; omega)
  have h2 := num_lt (k := 2) ((h.drop_ 2).take_ 2) (by rw [List.length_take]; omega)
  have h3 := num_lt (k := 2) ((h.drop_ 4).take_ 2) (by rw [List.length_take]; omega)
  rw [q] at h1 h2 h3
  exact ⟨h1, h2, by unfold lnOf; simp only; omega⟩
theorem lnsOf_ok (k : Nat) : ∀ m, InB m → ∀ l ∈ lnsOf k m, l.ok := by
  induction k with
  | zero => intro m h l hl; cases hl
  | succ k ih =>
    intro m h l hl
    rcases List.mem_cons.1 hl with rfl | hl
    · exact lnOf_ok h
    · exact ih _ (h.drop_ 6) l hl
/-- The number of lines that bytes say. -/
def nOf (b : List Int) : Nat := (num ((b.drop 4).take 1)).toNat
/-- What Parse tells: the error, the ID, the lines. -/
def parseO (b : List Int) : Int × Int × List Ln :=
  if b.length < 5 ∨ b.length < 5 + 6 * nOf b then (2, 0, [])
  else if 5 + 6 * nOf b < b.length then (3, 0, [])
  else if rightO (lnsOf (nOf b) (b.drop 5)) = 0 then (0, num (b.take 4), lnsOf (nOf b) (b.drop 5))
  else (rightO (lnsOf (nOf b) (b.drop 5)), 0, [])
/-- A row of lines of the call's own. -/
def MadeL (B : Nat) (A : Option Addr) (c : Nat) (l : List Ln) (w : World) : Prop := w.ownsRow B 51 3 (.slice A l.length c) l.length (l.flatMap cL) ∧ RowOf cL 3 w w.heap.size A l ∧ l.length ≤ c
theorem madeL_of {B : Nat} {v : Value} {l : List Ln} {w : World} (h : w.ownsRow B 51 3 v l.length (l.flatMap cL)) : ∃ A c, v = .slice A l.length c ∧ MadeL B A c l w := by
  obtain ⟨A, c, rfl, hc⟩ := own_form h
  exact ⟨A, c, rfl, h, row_own (c := cL) (fun _ => rfl) h, hc⟩
theorem MadeL.fr {B : Nat} {A : Option Addr} {c : Nat} {l : List Ln} {S : Nat → Prop} {w w' : World} (h : MadeL B A c l w) (k : Fr S w w') (hn : ∀ j, (Value.slice A l.length c).ownBlock = some j → ¬ S j) : MadeL B A c l w' := by
  obtain ⟨A', c', e, hm⟩ := madeL_of (B := B) (own_fr h.1 k hn)
  injection e with e1 _ e2
  subst e1 e2
  exact hm
theorem MadeL.low {B B' : Nat} {A : Option Addr} {c : Nat} {l : List Ln} {w : World} (h : MadeL B A c l w) (hb : B' ≤ B) : MadeL B' A c l w := ⟨own_weak h.1 hb, h.2.1, h.2.2⟩
theorem MadeL.nil_ (B : Nat) (w : World) : MadeL B none 0 [] w := ⟨own_nil _ _ _ _, (fun i x hx => by simp at hx), Nat.le_refl _⟩
/-- One element, just laid. -/
theorem row_new1 {α : Type} {c : α → List Value} {size : Nat} {t : TypeId} {w : World} {B : Nat} (x : α) (hB : w.heap.size < B) : RowOf c size (w.alloc (.cells (c x).toArray t)) B (some ⟨w.heap.size, 0, none⟩) [x] := by
  intro i y hy
  have hi : i = 0 := by
    have := (List.getElem?_eq_some_iff.1 hy).1
    simpa using this
  subst hi
  simp at hy; subst hy
  refine ⟨_, rfl, hB, fun j u hu => ?_⟩
  rw [add_plain, (Blk.new w t (c x).toArray).cell]
  simpa using hu
/-- The state of Parse: the order and the error in the blocks behind w's, the Reader, the lines so far. -/
structure PS (w : World) (r : Nat) (G : Option Nat) (id : Int) (v : Value) (ls : List Ln) (m : List Int) (wr : World) : Prop where
  hp : Blk wr w.heap.size 25 #[.int .u32 id, v]
  hq : Blk wr (w.heap.size + 1) 29 #[.int .i64 0]
  hv : wr.ownsRow w.heap.size 51 3 v ls.length (ls.flatMap cL)
  hr : Rd r G m wr
  hb : Below w.heap.size w wr
  hg : w.heap.size ≤ r ∧ ∀ g, G = some g → w.heap.size ≤ g
section
variable {w wr wq w' : World} {r : Nat} {G : Option Nat} {id : Int} {v : Value} {ls : List Ln} {m m' : List Int}
theorem PS.same (h : PS w r G id v ls m wr) (k : Same wr wq) : PS w r G id v ls m wq := by
  have f := k.fr0
  exact ⟨h.hp.fr f (fun h => h), h.hq.fr f (fun h => h), own_fr h.hv f (fun _ _ h => h), h.hr.fr0 f, h.hb.trans (k.below (Below.refl _ _)), h.hg⟩
theorem PS.read (h : PS w r G id v ls m wr) (H1 : Rd r G m' w') (H2 : Fr1 r wr w') : PS w r G id v ls m' w' := by
  obtain ⟨o, c, cells, hb, _⟩ := h.hr
  exact ⟨h.hp.fr H2 (h.hp.ne_ hb (by decide)), h.hq.fr H2 (h.hq.ne_ hb (by decide)), own_fr h.hv H2 (fun j e e' => own_blk_ne h.hv hb (by decide) (e' ▸ e)), H1, below_fr h.hb H2 h.hb.size (fun j e => by have := h.hg.1; omega), h.hg⟩
theorem PS.cell (h : PS w r G id v ls m wr) : wr.cell? ⟨w.heap.size, 1, none⟩ = some v := h.hp.cell 1
theorem PS.u16 (hs : Same wr wq) (h : PS w r G id v ls m wr) (hl : 2 ≤ m.length) (hb : InB m) (hm : m.drop 2 = m') :
    Calls Tryd.prog 41 #[.pointer (some ⟨r, 0, none⟩)] wq fun e w' => e = .returned (.tuple #[.int .u16 (num (m.take 2)), .int .i64 0]) ∧ Hid (PS w r G id v ls m' w') := by
  subst hm
  refine (RU16_ok (h.same hs).hr hl hb).mono ?_
  rintro e w' ⟨rfl, H1, H2⟩
  exact ⟨rfl, Lib.hid ((h.same hs).read H1.out H2.out)⟩
theorem PS.u16s (hs : Same wr wq) (h : PS w r G id v ls m wr) (hl : m.length < 2) :
    Calls Tryd.prog 41 #[.pointer (some ⟨r, 0, none⟩)] wq fun e w' => e = .returned (.tuple #[.int .u16 0, .int .i64 2]) ∧ Hid (PS w r G id v ls m w') := by
  refine (RU16_short (h.same hs).hr hl).mono ?_
  rintro e w' ⟨rfl, rfl⟩
  exact ⟨rfl, Lib.hid (h.same hs)⟩
theorem PS.alloc (h : PS w r G id v ls m wr) (o : Obj) : PS w r G id v ls m (wr.alloc o) := by
  have f := (Fr.refl (fun _ => False) wr).alloc o
  exact ⟨h.hp.alloc _, h.hq.alloc _, own_fr h.hv f (fun _ _ h => h), h.hr.fr0 f, h.hb.alloc h.hb.size _, h.hg⟩
/-- The ID is laid. -/
theorem PS.setid (h : PS w r G id v ls m wr) (n : Int) : PS w r G n v ls m (wr.setCell ⟨w.heap.size, 0, none⟩ (.int .u32 n)) := by
  obtain ⟨o, c, cells, hb, hb2, hb3, hb4, hb5⟩ := h.hr
  have hne : r ≠ w.heap.size := fun e => Blk.ne_ h.hp hb (by decide) e.symm
  have hF : Fr (fun k => k = w.heap.size) wr (wr.setCell ⟨w.heap.size, 0, none⟩ (.int .u32 n)) := (Fr.refl (fun k => k = w.heap.size) wr).setCell (p := ⟨w.heap.size, 0, none⟩) (fun _ => rfl) _
  exact ⟨by simpa using h.hp.set_ 0 (.int .u32 n), h.hq.far (by simp) _, own_fr h.hv hF (fun j e e' => own_blk_ne h.hv h.hp (by decide) (e' ▸ e)), h.hr.fr hF hne (fun g e e' => Blk.ne_ h.hp (hb4 g e).1 (by decide) e'.symm), below_fr h.hb hF h.hb.size (fun j e => by omega), h.hg⟩
/-- A line is appended, and the row is laid into the order. -/
theorem PS.app {v2 : Value} {ls2 : List Ln} (h : PS w r G id v ls m wr) (h3 : w'.ownsRow w.heap.size 51 3 v2 ls2.length (ls2.flatMap cL)) (h4 : Fr (fun k => v.ownBlock = some k) wr w') (h5 : ∀ k, v2.ownBlock = some k → v.ownBlock = some k ∨ wr.heap.size ≤ k) :
    PS w r G id v2 ls2 m (w'.setCell ⟨w.heap.size, 1, none⟩ v2) := by
  obtain ⟨o, c, cells, hb, hb2, hb3, hb4, hb5⟩ := h.hr
  have hr0 : Rd r G m wr := ⟨o, c, cells, hb, hb2, hb3, hb4, hb5⟩
  have hp' : Blk w' w.heap.size 25 #[.int .u32 id, v] := h.hp.fr h4 (fun e => own_blk_ne h.hv h.hp (by decide) e)
  have hrd : Rd r G m w' := hr0.fr h4 (fun e => own_blk_ne h.hv hb (by decide) e) (fun g e e' => own_blk_ne h.hv (hb4 g e).1 (by decide) e')
  have hne : r ≠ w.heap.size := fun e => Blk.ne_ h.hp hb (by decide) e.symm
  have hF : Fr (fun k => k = w.heap.size) w' (w'.setCell ⟨w.heap.size, 1, none⟩ v2) := (Fr.refl (fun k => k = w.heap.size) w').setCell (p := ⟨w.heap.size, 1, none⟩) (fun _ => rfl) _
  refine ⟨by simpa using hp'.set_ 1 v2, (h.hq.fr h4 (fun e => own_blk_ne h.hv h.hq (by decide) e)).far (by simp) _, own_fr h3 hF (fun j e e' => own_blk_ne h3 hp' (by decide) (e' ▸ e)), hrd.fr hF hne (fun g e e' => ?_), ?_, h.hg⟩
  · have := h.hg.2 g e
    exact Blk.ne_ h.hp (hb4 g e).1 (by decide) e'.symm
  · exact below_fr (below_fr h.hb h4 h.hb.size (fun j e => (h.hv.lt j e).1)) hF (Nat.le_trans h.hb.size h4.size) (fun j e => by omega)
end
theorem one_ln (y : Ln) : ∀ u ∈ cL y, u.oneCell' = true := by
  intro u hu
  simp only [cL, List.mem_cons, List.not_mem_nil, or_false] at hu
  rcases hu with rfl | rfl | rfl <;> rfl
/-- A call of a Go function: a step of a region that draws its order. -/
theorem stepCall {P : Program} {ops : Array Oper} {o : Oper} {a : Act} {w w1 : World} {K : Act → World → Prop} {Q : Exit → Act → World → Prop} {E : Prop} {f : FuncId} {args : Array Value} {R : Ending → World → Prop} (hgd : o.guard = none)
    (hrun : (execOp a.eval o).run P w = .ok (.enter f args) w1) (hc : Calls P f args w1 R) (h : ∀ e w2, R e w2 → ∃ v, e = .returned v ∧ K (a.put o.dst v) w2) :
    if Region.wanted o (yielded ops a.tmps) = true then Oper.wp P o a w K Q else E := by
  have hw : Region.wanted o (yielded ops a.tmps) = true := by simp [Region.wanted, hgd]
  rw [if_pos hw]
  unfold Oper.wp
  rw [hrun]
  refine Calls.mono hc (fun e w2 hr => ?_)
  obtain ⟨v, rfl, hk⟩ := h e w2 hr
  exact hk
theorem enter_U16 (args : Array Value) (W : World) : (callFunc 41 args).run Tryd.prog W = .ok (.enter 41 args) W := rfl
theorem enter_must16 (args : Array Value) (W : World) : (callFunc 40 args).run Tryd.prog W = .ok (.enter 40 args) W := rfl
theorem run_call_U16 {ρ : Operand → Value} {s : Nat} {v : Value} {ts : Array TypeId} {W : World} {o : Oper} (ho : o.op = .call { callee := .value (.func 41), args := #[.tmp s], argTypes := ts }) (e : ρ (.tmp s) = v) (hf : ρ (.func 41) = .func (.func 41) #[] #[] := by rfl) : (execOp ρ o).run Tryd.prog W = .ok (.enter 41 #[v]) W := by
  rw [← enter_U16]
  simp [execOp, ho, e, hf, go_sem, resolve, invoke]
theorem run_call_must16 {ρ : Operand → Value} {s t : Nat} {v u : Value} {ts : Array TypeId} {W : World} {o : Oper} (ho : o.op = .call { callee := .value (.func 40), args := #[.tmp s, .tmp t], argTypes := ts }) (e : ρ (.tmp s) = v) (e2 : ρ (.tmp t) = u) (hf : ρ (.func 40) = .func (.func 40) #[] #[] := by rfl) : (execOp ρ o).run Tryd.prog W = .ok (.enter 40 #[v, u]) W := by
  rw [← enter_must16]
  simp [execOp, ho, e, e2, hf, go_sem, resolve, invoke]
/-- A line is appended: a step of a region that draws its order. -/
theorem PS.step1 {ops : Array Oper} {o : Oper} {a : Act} {K : Act → World → Prop} {Q : Exit → Act → World → Prop} {E : Prop} {w wr : World} {r : Nat} {G : Option Nat} {id : Int} {VA : Option Addr} {vc : Nat} {ls : List Ln} {m : List Int} (hgd : o.guard = none) (s x : Operand)
    (ho : o.op = .call { callee := .builtin .append, args := #[s, x], argTypes := #[23, 23] }) (y : Ln) (h : PS w r G id (.slice VA ls.length vc) ls m wr) (hl : ls.length ≤ 1000)
    (hs : a.eval s = .slice VA ls.length vc) (hx : a.eval x = .slice (some ⟨wr.heap.size, 0, none⟩) 1 1)
    (hk : ∀ A2 c2 w2, Hid (PS w r G id (.slice A2 (ls ++ [y]).length c2) (ls ++ [y]) m (w2.setCell ⟨w.heap.size, 1, none⟩ (.slice A2 (ls ++ [y]).length c2))) → w2.cell? ⟨w.heap.size, 1, none⟩ = some (.slice VA ls.length vc) → w2.frozen? ⟨w.heap.size, 1, none⟩ = false → K (a.put o.dst (.slice A2 (ls ++ [y]).length c2)) w2) :
    if Region.wanted o (yielded ops a.tmps) = true then Oper.wp Tryd.prog o a (wr.alloc (.cells (lvs y) 51)) K Q else E := by
  refine stepR (c := cL) hgd s x 23 ho 51 (.agg #[.int .u16 0, .int .u16 0, .int .i64 0]) 3 16 Tryd.underlying23 info_ln rfl (by omega) (by omega) (fun _ => rfl) one_ln w.heap.size (wr.heap.size + 1) (.slice VA ls.length vc) ls [y] _ _ hs hx (row_new1 y (Nat.lt_succ_self _)) (h.alloc _).hv (h.alloc _).hb.size (by simp; omega) ?_
  intro v2 w2 h3 h4 h5
  obtain ⟨A2, c2, rfl, hc2⟩ := own_form h3
  have hp2 := (h.alloc _).hp.fr h4 (fun e => own_blk_ne (h.alloc (.cells (lvs y) 51)).hv (h.alloc (.cells (lvs y) 51)).hp (by decide) e)
  exact hk A2 c2 w2 (Lib.hid ((h.alloc _).app h3 h4 h5)) (hp2.cell 1) (hp2.frozen 1)
end Go.Proofs.YtigknfkkegccgaaDoor.K

/- Arguments opened: orders. -/
namespace Go.Proofs.YtigknfkkegccgaaDoor.K
open Go.RowKit Go.ChangeShapes Go.WideShapes Go.Joins Go.Deep
set_option linter.unusedVariables false
set_option linter.constructorNameAsVariable false
set_option linter.unusedSimpArgs false
section
variable {H : Type} {enc : TypeId × Value → H} {P : Program} {w : World} {base : Nat} {spare : Nat → Bool} {held : Bool}
/-- A struct of 2 fields of one cell each, in its cells. -/
theorem trod_fields2 {t : TypeId} {f0 f1 : Field} {fuel : Nat} {cs : List Value} {x : DataW H × List MemPlace} (hs : P.underlying t = some (.struct #[f0, f1])) (hone : Go.Deep.oneCellFields P #[f0, f1] = true) (hC : P.cellsOf t = 2)
    (h : DataW.trod enc P w base spare held fuel t cs = some x) :
    ∃ (v0 v1 : Value) (y0 y1 : DataW H × List MemPlace) (n : Nat), cs = [v0, v1] ∧ DataW.trod enc P w base spare held n f0.type [v0] = some y0 ∧ DataW.trod enc P w base spare held n f1.type [v1] = some y1 := by
  obtain ⟨xs, n, _, hx, hcl, hlen, hg⟩ := DataW.trod_struct hs h
  rw [hC] at hcl
  match cs, hcl with
  | [c0, c1], _ =>
    obtain ⟨o0, k0⟩ := Go.Deep.hone_of hone 0 f0 rfl
    obtain ⟨o1, k1⟩ := Go.Deep.hone_of hone 1 f1 rfl
    match xs, hlen with
    | [y0, y1], _ => exact ⟨c0, c1, y0, y1, n, rfl, by simpa [o0, k0] using hg 0 f0 rfl, by simpa [o1, k1] using hg 1 f1 rfl⟩
end
section
variable {H : Type} {enc : TypeId × Value → H} {w : World} {base : Nat} {spare : Nat → Bool} {held : Bool}
theorem dec_ln : Dec enc Tryd.prog w base spare held 51 cL Ln.ok := fun n cs y h => by
  obtain ⟨v0, v1, v2, y0, y1, y2, n, rfl, t0, t1, t2⟩ := trod_fields3 Tryd.underlying51 (by kernel_rfl) (by kernel_rfl) h
  obtain ⟨a, h1, _, h2⟩ := DataW.trod_int Tryd.underlying49 t0
  obtain ⟨b, h3, _, h4⟩ := DataW.trod_int Tryd.underlying49 t1
  obtain ⟨c, h5, _, h6⟩ := DataW.trod_int Tryd.underlying3 t2
  injection h1 with h1
  injection h3 with h3
  injection h5 with h5
  subst h1 h3 h5
  have b2 := bounds_u16 h2
  have b4 := bounds_u16 h4
  have b6 := bounds_i64 h6
  exact ⟨⟨a, b, c⟩, rfl, ⟨by simp only; omega, by simp only; omega, by simp only; omega⟩⟩
/-- An order's cells. -/
theorem dec_ord {n : Nat} {v0 v1 : Value} {y : DataW H × List MemPlace} (h : DataW.trod enc Tryd.prog w base spare held n 25 [v0, v1] = some y) :
    ∃ (id : Int) (ls : List Ln) (A : Option Addr) (c : Nat), v0 = .int .u32 id ∧ v1 = .slice A ls.length c ∧ (0 ≤ id ∧ id < 4294967296) ∧ RowOf cL 3 w w.heap.size A ls ∧ ls.length ≤ c ∧ (∀ l ∈ ls, l.ok) := by
  obtain ⟨u0, u1, y0, y1, n, hcs, t0, t1⟩ := trod_fields2 Tryd.underlying25 (by kernel_rfl) (by kernel_rfl) h
  injection hcs with e0 hcs
  injection hcs with e1 _
  subst e0 e1
  obtain ⟨a, h1, _, h2⟩ := DataW.trod_int Tryd.underlying22 t0
  injection h1 with h1
  subst h1
  have b2 := bounds_u32 h2
  have key : ∀ (A : Option Addr) (len c : Nat), v1 = .slice A len c → ∃ (id : Int) (ls : List Ln) (A : Option Addr) (c : Nat), (Value.int .u32 a) = .int .u32 id ∧ v1 = .slice A ls.length c ∧ (0 ≤ id ∧ id < 4294967296) ∧ RowOf cL 3 w w.heap.size A ls ∧ ls.length ≤ c ∧ (∀ l ∈ ls, l.ok) := fun A len c e => by
    subst e
    obtain ⟨l, h1, h2, h3, h4, h5⟩ := open_rowOf (c := cL) (Q := Ln.ok) (size := 3) (fun _ => rfl) (by omega) (by kernel_rfl) dec_ln Tryd.underlying23 (d := y1.1) (ps := y1.2) (⟨n, by simpa [Value.cells] using t1⟩ : DataW.Trod enc Tryd.prog w base spare held 23 (.slice A len c) y1.1 y1.2)
    subst h1
    exact ⟨a, l, A, c, rfl, rfl, by omega, h2, h4, h3⟩
  rcases Go.Deep.open_slice Tryd.underlying23 t1 with ⟨hcs, _⟩ | ⟨a', l', c', m, n', D, Pl, hcs, _⟩
  · injection hcs with hcs; exact key _ _ _ hcs
  · injection hcs with hcs; exact key _ _ _ hcs
set_option maxRecDepth 10000 in
/-- An order that comes in. -/
theorem open_order {r : Reach} {b0 : Nat} {v : Value} {d : DataW H} {p : List MemPlace} (hv : Value.okWide Tryd.prog w r b0 25 v) (h : DataW.Trod enc Tryd.prog w base spare held 25 v d p) :
    ∃ (id : Int) (ls : List Ln) (A : Option Addr) (c : Nat), v = .agg #[.int .u32 id, .slice A ls.length c] ∧ (0 ≤ id ∧ id < 4294967296) ∧ RowOf cL 3 w w.heap.size A ls ∧ ls.length ≤ c ∧ (∀ l ∈ ls, l.ok) := by
  obtain ⟨⟨cs⟩, rfl, hsz⟩ := okWide_struct Tryd.underlying25 hv
  obtain ⟨fuel, hf⟩ := h
  obtain ⟨v0, v1, y0, y1, n, hcs0, t0, t1⟩ := trod_fields2 Tryd.underlying25 (by kernel_rfl) (by kernel_rfl) hf
  simp only [Value.cells] at hcs0
  subst hcs0
  obtain ⟨id, ls, A, c, rfl, rfl, q⟩ := dec_ord (by simpa [Value.cells] using hf)
  exact ⟨id, ls, A, c, rfl, q⟩
end
end Go.Proofs.YtigknfkkegccgaaDoor.K

/- Orders: the map of all that ever were. -/
namespace Go.Proofs.YtigknfkkegccgaaDoor.K
open Go.RowKit
set_option linter.unusedVariables false
set_option linter.unusedSimpArgs false
/-- The map at g has just these keys, each true. -/
def Ever (g : Nat) (ids : List Int) (w : World) : Prop :=
  ∃ D : DataW Unit, w.ownsMap Tryd.prog 22 (plainElem Tryd.prog 4) g ids.length D ∧ Go.Maps.Tidy D ∧ (∀ k : Int, Go.Maps.has D (.int .u32 k) = decide (k ∈ ids)) ∧ (∀ k : Int, k ∈ ids → ∀ z, D.atKey (.int .u32 k) z = .lit (.bool true)) ∧ Go.Maps.size D = ids.length
set_option maxRecDepth 10000 in
theorem plain_bool_inv {v : Value} {b : Bool} {ps : List MemPlace} (h : plainElem (H := Unit) Tryd.prog 4 v = some (.lit (.bool b), ps)) : v = .bool b := by
  unfold plainElem at h
  rw [Tryd.underlying4] at h
  cases v <;> simp at h
  rw [h.1]
theorem u32_wf {k : Int} (h0 : 0 ≤ k) (h1 : k < 4294967296) : (Lit.int .u32 k).wf = true := by
  have e1 : IntKind.u32.min = 0 := by decide
  have e2 : IntKind.u32.max = 4294967295 := by decide
  show (decide (IntKind.u32.min ≤ k) && decide (k ≤ IntKind.u32.max)) = true
  rw [e1, e2, Bool.and_eq_true, decide_eq_true_eq, decide_eq_true_eq]
  omega
theorem zero_bool (w : World) : (zeroValue 4).run Tryd.prog w = .ok (.bool false) w := by kernel_rfl
theorem ever_lookup {g : Nat} {ids : List Int} {w : World} (h : Ever g ids w) (k : Int) (h0 : 0 ≤ k) (h1 : k < 4294967296) :
    (Instr.lookup 93 (.map (some g)) (.int .u32 k) false).run Tryd.prog w = .ok (.bool (decide (k ∈ ids))) w := by
  obtain ⟨D, hown, hm, hhas, hat, hs⟩ := h
  obtain ⟨v, ps, hrun, hv⟩ := hown.lookup (Go.Maps.int_keyed Tryd.underlying22) Tryd.underlying93 (z := .bool false) (zero_bool w) (plainElem_bool Tryd.underlying4 false) (Go.Maps.keyOf_int_mk Tryd.underlying22 (a := k) (u32_wf h0 h1))
  by_cases hk : k ∈ ids
  · rw [hat k hk] at hv
    rw [hrun, plain_bool_inv hv]; simp [hk]
  · have hh := hhas k
    rw [show decide (k ∈ ids) = false by simp [hk]] at hh
    rw [Go.Maps.atKey_of_not_has hh] at hv
    rw [hrun, plain_bool_inv hv]; simp [hk]
theorem ever_len {g : Nat} {ids : List Int} {w : World} (h : Ever g ids w) (ty : TypeId) : (Builtin.len_ #[93] ty #[.map (some g)]).run Tryd.prog w = .ok (.int .i64 ids.length) w := by
  obtain ⟨D, hown, hm, hhas, hat, hs⟩ := h
  have := hown.len Tryd.underlying93 ty
  rwa [hs] at this
theorem ever_made (w : World) : Ever w.heap.size [] (w.alloc (.map #[] 0)) :=
  ⟨.map [], World.ownsMap_made w _ _ _, Go.Maps.tidy_empty, fun k => by simp [Go.Maps.has], fun k hk => by simp at hk, rfl⟩
theorem Ever.lt {g : Nat} {ids : List Int} {w : World} (h : Ever g ids w) : g < w.heap.size := by obtain ⟨D, hown, _⟩ := h; exact hown.lt
theorem Ever.fr {g : Nat} {ids : List Int} {S : Nat → Prop} {w w' : World} (h : Ever g ids w) (k : Fr S w w') (hn : ¬ S g) : Ever g ids w' := by
  obtain ⟨D, ⟨es, clock, hb, F, hs, hD⟩, r⟩ := h
  exact ⟨D, ⟨es, clock, (k.block g (Array.getElem?_eq_some_iff.1 hb).1 hn).trans hb, F, hs, hD⟩, r⟩
theorem ever_put {g : Nat} {ids : List Int} {w : World} (h : Ever g ids w) {k : Int} (h0 : 0 ≤ k) (h1 : k < 4294967296) (hk : k ∉ ids) (hl : ids.length ≤ 1000000) :
    ∃ w', (Instr.mapUpdate 93 (.map (some g)) (.int .u32 k) (.bool true)).run Tryd.prog w = .ok () w' ∧ Ever g (ids ++ [k]) w' ∧ Fr (fun j => j = g) w w' := by
  obtain ⟨D, hown, hm, hhas, hat, hs⟩ := h
  obtain ⟨w', hrun, h2, h3⟩ := hown.update (Go.Maps.int_keyed Tryd.underlying22) Tryd.underlying93 (by simp only [maxLen]; omega) (Go.Maps.keyOf_int_mk Tryd.underlying22 (a := k) (u32_wf h0 h1)) (plainElem_bool Tryd.underlying4 true)
  have hik : WideAt.IsKeyLit (.int .u32 k) := trivial
  have hne : ∀ {j : Int}, j ≠ k → (Lit.int .u32 j) ≠ Lit.int .u32 k := fun hj e => hj (by injection e)
  refine ⟨w', hrun, ⟨_, by rw [List.length_append]; exact h2, hm.put hik _, fun j => ?_, fun j hj z => ?_, ?_⟩, ⟨h3.os, h3.tape, h3.output, h3.size, fun i hi hn => h3.block i hi (fun e => hn (Option.some.inj e))⟩⟩
  · by_cases e : j = k
    · subst e; rw [Go.Maps.has_put_same hm.isMap hik]; simp
    · rw [Go.Maps.has_put_other (hne e), hhas]; simp [e]
  · by_cases e : j = k
    · subst e; exact Go.Maps.atKey_put_same hm.isMap hik _ _
    · rw [Go.Maps.atKey_put_other (hne e)]
      exact hat j (by simpa [e] using hj) z
  · rw [Go.Maps.size_put hm, hhas, show decide (k ∈ ids) = false by simp [hk]]
    simp [hs]
end Go.Proofs.YtigknfkkegccgaaDoor.K

/- Orders: a clone of lines; own; NewBook. -/
namespace Go.Proofs.YtigknfkkegccgaaDoor.K
open Go.RowKit
set_option linter.unusedVariables false
set_option linter.unusedSimpArgs false
attribute [local go_sem ↓] Go.wp_at_zero Go.wp_at_succ
set_option maxHeartbeats 4000000 in
set_option maxRecDepth 10000 in
theorem CloneLC {A : Option Addr} {c : Nat} {l : List Ln} {w : World} (hl : l.length ≤ 1000) (h : RowOf cL 3 w w.heap.size A l) :
    Calls Tryd.prog 56 #[.slice A l.length c] w fun e w' => ∃ A' c', e = .returned (.slice A' l.length c') ∧ Hid (MadeL w.heap.size A' c' l w') ∧ Hid (Fr0 w w') := by
  cases A with
  | none =>
    have hl0 : l = [] := row_none_nil h
    subst hl0
    have hnil : ∀ W, (binOp .eql 23 (.slice none 0 c) (.slice none 0 0)).run Tryd.prog W = .ok (.bool true) W := fun W => Lib.run_eql_slice_nil_nil W _ _ Tryd.underlying23
    go_enter Tryd.func56, Tryd.ntmps56
    go_wp2
    go_ret
    exact ⟨none, 0, rfl, Lib.hid (MadeL.nil_ _ _), Lib.hid (Fr.refl _ _)⟩
  | some ad =>
    have hnil : ∀ W, (binOp .eql 23 (.slice (some ad) l.length c) (.slice none 0 0)).run Tryd.prog W = .ok (.bool false) W := fun W => Lib.run_eql_slice_some_nil W _ _ _ Tryd.underlying23
    have HR := Lib.hid h
    clear h
    go_enter Tryd.func56, Tryd.ntmps56
    go_wp2_with (at_builtin; go_loud (refine appR (c := cL) rfl _ _ _ rfl 51 (.agg #[.int .u16 0, .int .u16 0, .int .i64 0]) 3 16 Tryd.underlying23 info_ln rfl (by omega) (by omega) (fun _ => rfl) one_ln w.heap.size w.heap.size _ [] l _ _ rfl rfl (RowOf.below HR.out ((Below.refl _ w).alloc (Nat.le_refl _) _)) (World.ownsRow_lit w #[] 0 (Nat.le_refl _) (by decide) rfl) (by simp) (by simp only [List.length_nil]; omega) ?_; intro v2 w2 h3 h4 h5; have F1 := Lib.hid (lit_fr h4 (fun k hk => Nat.le_of_eq (Option.some.inj hk))); have G1 := Lib.hid (madeL_of (B := w.heap.size) (v := v2) (l := l) h3); clear h3 h4 h5))
    go_ret
    obtain ⟨A2, c2, rfl, hm⟩ := G1.out
    exact ⟨A2, c2, rfl, Lib.hid hm, F1⟩
set_option maxHeartbeats 4000000 in
set_option maxRecDepth 10000 in
theorem ownC {A : Option Addr} {c : Nat} {id : Int} {l : List Ln} {w : World} (hl : l.length ≤ 1000) (h : RowOf cL 3 w w.heap.size A l) :
    Calls Tryd.prog 46 #[.agg #[.int .u32 id, .slice A l.length c]] w fun e w' => ∃ A' c', e = .returned (.agg #[.int .u32 id, .slice A' l.length c']) ∧ Hid (MadeL w.heap.size A' c' l w') ∧ Hid (Fr0 w w') := by
  obtain ⟨W, hW⟩ : ∃ W, W = (w.alloc (.cells #[.int .u32 id, .slice A l.length c] 25)).alloc (.cells #[.int .u32 0, .slice none 0 0] 25) := ⟨_, rfl⟩
  have hp : Blk W w.heap.size 25 #[.int .u32 id, .slice A l.length c] := by rw [hW]; exact (Blk.new w _ _).alloc _
  have hq : Blk W (w.heap.size + 1) 25 #[.int .u32 0, .slice none 0 0] := by rw [hW]; have := Blk.new (w.alloc (.cells #[.int .u32 id, .slice A l.length c] 25)) 25 #[.int .u32 0, .slice none 0 0]; simpa using this
  have hb : Below w.heap.size w W := by rw [hW]; exact ((Below.refl _ w).alloc (Nat.le_refl _) _).alloc (by simp) _
  have HRow := Lib.hid (RowOf.now h hb)
  have HP := Lib.hid hp
  have HQ := Lib.hid hq
  have HB := Lib.hid hb
  have HWE := Lib.hid hW.symm
  have HS : Hid (W.heap.size = w.heap.size + 2) := Lib.hid (by rw [hW]; simp)
  clear hp hq hb h hW
  go_enter Tryd.func46, Tryd.ntmps46
  go_wp2_with fail
  rw [HWE.out]
  clear HWE
  refine Calls.mono (CloneLC hl HRow.out) ?_
  rintro e w1 ⟨A2, c2, rfl, HM, HF⟩
  have hp1 := HP.out.fr HF.out (fun h => h)
  have hq1 := HQ.out.fr HF.out (fun h => h)
  have hp2 : Blk (w1.setCell ⟨w.heap.size, 1, none⟩ (.slice A2 l.length c2)) w.heap.size 25 #[.int .u32 id, .slice A2 l.length c2] := by simpa using hp1.set_ 1 (.slice A2 l.length c2)
  have hq2 := hq1.far (p := ⟨w.heap.size, 1, none⟩) (by simp) (.slice A2 l.length c2)
  have c1 := hp1.cell 1
  have f1 := hp1.frozen 1
  have d0 := hp2.cell 0
  have d1 := hp2.cell 1
  have s0 := hq2.cell 0
  have s1 := hq2.cell 1
  have y0 := hq2.frozen 0
  have y1 := hq2.frozen 1
  have hq3 : Blk ((w1.setCell ⟨w.heap.size, 1, none⟩ (.slice A2 l.length c2)).setCell ⟨w.heap.size + 1, 0, none⟩ (.int .u32 id)) (w.heap.size + 1) 25 #[.int .u32 id, .slice none 0 0] := by simpa using hq2.set_ 0 (.int .u32 id)
  have s1' := hq3.cell 1
  have y1' := hq3.frozen 1
  have hq4 : Blk (((w1.setCell ⟨w.heap.size, 1, none⟩ (.slice A2 l.length c2)).setCell ⟨w.heap.size + 1, 0, none⟩ (.int .u32 id)).setCell ⟨w.heap.size + 1, 1, none⟩ (.slice A2 l.length c2)) (w.heap.size + 1) 25 #[.int .u32 id, .slice A2 l.length c2] := by simpa using hq3.set_ 1 (.slice A2 l.length c2)
  have z0 := hq4.cell 0
  have z1 := hq4.cell 1
  have HQ4 := Lib.hid hq4
  have HP1 := Lib.hid hp1
  have HQ1 := Lib.hid hq1
  clear hp1 hq1 hp2 hq2 hq3 hq4
  go_wp2
  have hs0 : W.heap.size = w.heap.size + 2 := HS.out
  have hF : Fr (fun j => j = w.heap.size ∨ j = w.heap.size + 1) w1 (((w1.setCell ⟨w.heap.size, 1, none⟩ (.slice A2 l.length c2)).setCell ⟨w.heap.size + 1, 0, none⟩ (.int .u32 id)).setCell ⟨w.heap.size + 1, 1, none⟩ (.slice A2 l.length c2)) :=
    (((Fr.refl (fun j => j = w.heap.size ∨ j = w.heap.size + 1) w1).setCell (p := ⟨w.heap.size, 1, none⟩) (fun _ => .inl rfl) _).setCell (p := ⟨w.heap.size + 1, 0, none⟩) (fun _ => .inr rfl) _).setCell (p := ⟨w.heap.size + 1, 1, none⟩) (fun _ => .inr rfl) _
  refine bodyPost_ret_by (results_cell_row rfl _ _ (w.heap.size + 1) 25 _ (0, 0) _ rfl HQ4.out Tryd.underlying25 rfl (by kernel_rfl)) rfl ?_
  exact ⟨A2, c2, rfl, Lib.hid ((HM.out.fr hF (fun j e h => by have := (HM.out.1.lt j e).1; omega)).low (by omega)), Lib.hid (Fr.of_below (below_fr (HB.out.trans (HF.out.below0.mono (by omega))) hF (by have := HF.out.size; omega) (fun j e => by omega)))⟩
end Go.Proofs.YtigknfkkegccgaaDoor.K

/- Orders: a book. -/
namespace Go.Proofs.YtigknfkkegccgaaDoor.K
open Go.RowKit
set_option linter.unusedVariables false
set_option linter.unusedSimpArgs false
attribute [local go_sem ↓] Go.wp_at_zero Go.wp_at_succ
/-- An order that is kept: where its lines lie. -/
structure So where
  id : Int
  A : Option Addr
  c : Nat
  ls : List Ln
abbrev cO : So → List Value := fun o => [.int .u32 o.id, .slice o.A o.ls.length o.c]
/-- The book at b: open orders os, in the row v; all that ever were in the map at g. -/
structure Bk (B b g : Nat) (v : Value) (os : List So) (ids : List Int) (w : World) : Prop where
  blk : Blk w b 95 #[v, .map (some g)]
  row : w.ownsRow B 25 2 v os.length (os.flatMap cO)
  each : ∀ o ∈ os, MadeL B o.A o.c o.ls w
  ever : Ever g ids w
  low : B ≤ b ∧ B ≤ g ∧ g ≠ b
theorem Bk.lt {B b g : Nat} {v : Value} {os : List So} {ids : List Int} {w : World} (h : Bk B b g v os ids w) : B ≤ w.heap.size := Nat.le_trans h.low.1 (Nat.le_of_lt h.blk.lt)
theorem Bk.fr {B b g : Nat} {v : Value} {os : List So} {ids : List Int} {S : Nat → Prop} {w w' : World} (h : Bk B b g v os ids w) (k : Fr S w w') (hs : ∀ j, B ≤ j → j < w.heap.size → ¬ S j) : Bk B b g v os ids w' :=
  ⟨h.blk.fr k (hs b h.low.1 h.blk.lt), own_fr h.row k (fun j e => hs j (h.row.lt j e).1 (h.row.lt j e).2), fun o ho => (h.each o ho).fr k (fun j e => hs j ((h.each o ho).1.lt j e).1 ((h.each o ho).1.lt j e).2), h.ever.fr k (hs g h.low.2.1 h.ever.lt), h.low⟩
set_option maxHeartbeats 1000000 in
set_option maxRecDepth 10000 in
theorem NewBookC (w : World) : Calls Tryd.prog 18 #[] w fun e w' => ∃ b g, e = .returned (.pointer (some ⟨b, 0, none⟩)) ∧ Hid (Bk w.heap.size b g (.slice none 0 0) [] [] w') ∧ Hid (Fr0 w w') := by
  have hmm : ∀ W, (Instr.makeMap 93 none).run Tryd.prog W = .ok (.map (some W.heap.size)) (W.alloc (.map #[] 0)) := fun W => rfl
  go_enter Tryd.func18, Tryd.ntmps18
  go_wp2
  go_ret
  have hb : Blk ((w.alloc (.map #[] 0)).alloc (.cells #[.slice none 0 0, .map (some w.heap.size)] 95)) (w.heap.size + 1) 95 #[.slice none 0 0, .map (some w.heap.size)] := by have := Blk.new (w.alloc (.map #[] 0)) 95 #[.slice none 0 0, .map (some w.heap.size)]; simpa using this
  exact ⟨_, w.heap.size, rfl, Lib.hid ⟨hb, own_nil _ _ _ _, (fun o ho => by cases ho), ((ever_made w).fr ((Fr.refl (fun _ => False) _).alloc _) (fun h => h)), ⟨by omega, Nat.le_refl _, by omega⟩⟩, Lib.hid (((Fr.refl _ w).alloc _).alloc _)⟩
/-- The place of an order in a row of them. -/
def idxO (id : Int) (os : List So) : Option Nat := os.findIdx? (fun o => decide (o.id = id))
def idxI (id : Int) (os : List So) : Int := match idxO id os with
  | some k => k
  | none => -1
set_option maxHeartbeats 1000000 in
set_option maxRecDepth 10000 in
theorem place1C {q : Nat} {id oid : Int} {A : Option Addr} {n c : Nat} {w : World} (h0 : w.cell? ⟨q, 0, none⟩ = some (.int .u32 id)) (hb : q < w.heap.size) :
    Calls Tryd.prog 58 #[.agg #[.int .u32 oid, .slice A n c], .pointer (some ⟨q, 0, none⟩)] w fun e w' => e = .returned (.bool (decide (oid = id))) ∧ Hid (Below w.heap.size w w') := by
  have g0 : (w.alloc (.cells #[.int .u32 oid, .slice A n c] 25)).cell? ⟨q, 0, none⟩ = some (.int .u32 id) := (World.cell?_alloc_lt w _ _ hb).trans h0
  clear h0
  go_enter Tryd.func58, Tryd.ntmps58
  go_wp2
  go_ret
  exact ⟨ret_bool (by rw [Bool.eq_iff_iff]; simp), Lib.hid ((Below.refl _ w).alloc (Nat.le_refl _) _)⟩
/-- An order of a row, at its place. -/
theorem RowOf.so {w : World} {B : Nat} {A : Option Addr} {os : List So} (h : RowOf cO 2 w B A os) {k : Nat} (hk : k < os.length) : ∃ ad, A = some ad ∧ ad.block < B ∧ w.cell? (ad.add (k * 2)) = some (.int .u32 (os[k]).id) ∧
    w.cell? ⟨(ad.add (k * 2)).block, (ad.add (k * 2)).off + 1, none⟩ = some (.slice (os[k]).A (os[k]).ls.length (os[k]).c) := by
  obtain ⟨ad, rfl, hb, hcc⟩ := h k (os[k]) (List.getElem?_eq_getElem hk)
  have c0 := hcc 0 _ rfl
  have c1 := hcc 1 _ rfl
  rw [add_field ad (k * 2) _ (by omega)] at c1
  exact ⟨ad, rfl, hb, c0, c1⟩
set_option maxHeartbeats 1000000 in
set_option maxRecDepth 10000 in
theorem IndexOC {q B c : Nat} {id : Int} {A : Option Addr} {os : List So} {w : World} (h0 : w.cell? ⟨q, 0, none⟩ = some (.int .u32 id)) (hb : q < w.heap.size)
    (hr : RowOf cO 2 w B A os) (hB : B ≤ w.heap.size) (hl : os.length ≤ 1000) :
    Calls Tryd.prog 57 #[.slice A os.length c, .func (.func 58) #[] #[.pointer (some ⟨q, 0, none⟩)]] w fun e w' => e = .returned (.int .i64 (idxI id os)) ∧ Hid (Below w.heap.size w w') := by
  have H0 := Lib.hid h0
  have HR := Lib.hid hr
  clear h0 hr
  go_enter Tryd.func57, Tryd.ntmps57
  go_wp2
  go_loopw [8] (fun i wr => ∃ k : Nat, i = .int .i64 k ∧ k ≤ os.length ∧ (∀ j (hj : j < os.length), j < k → (os[j]).id ≠ id) ∧ Below w.heap.size w wr) (fun i _ => os.length - (intOf i).toNat)
  case atStart => exact ⟨0, rfl, by omega, fun j _ h => by omega, Below.refl _ _⟩
  case round =>
    obtain ⟨k, rfl, hk, hno, hf⟩ := hrel
    have HN := Lib.hid hno
    have HF := Lib.hid hf
    clear hno hf
    by_cases hlt : k < os.length
    · obtain ⟨ad, rfl, hb', c0, c1⟩ := (RowOf.below HR.out (HF.out.mono hB)).so hlt
      have hsz := HF.out.size
      have HI1 : Hid ((os[k]).id = id → idxO id os = some k) := Lib.hid (fun h => by
        unfold idxO
        rw [List.findIdx?_eq_some_iff_getElem]
        exact ⟨hlt, by simpa using h, fun j hj => by simpa using HN.out j (by omega) hj⟩)
      have HI2 : Hid ((os[k]).id ≠ id → ∀ j (hj : j < os.length), j < k + 1 → (os[j]).id ≠ id) := Lib.hid (fun h j hj hjk => by
        by_cases e : j = k
        · subst e; exact h
        · exact HN.out j hj (by omega))
      clear hb' HN
      have HC := Lib.hid (place1C (oid := (os[k]).id) (A := (os[k]).A) (n := (os[k]).ls.length) (c := (os[k]).c) ((HF.out.cell (p := ⟨q, 0, none⟩) hb).trans H0.out) (by omega))
      generalize (os[k]).id = x at *
      generalize (os[k]).A = xa at *
      generalize (os[k]).c = xc at *
      generalize (os[k]).ls.length = xn at *
      by_cases hs : x = id
      · rw [show decide (x = id) = true by simp [hs]] at HC
        have HI4 : Hid (idxI id os = k) := Lib.hid (by unfold idxI; rw [HI1.out hs])
        subst hs
        go_wp2_with fail
        refine Calls.mono HC.out ?_
        rintro e w1 ⟨rfl, F1⟩
        go_wp2
        go_ret
        exact ⟨ret_int HI4.out.symm, Lib.hid (HF.out.trans (F1.out.mono hsz))⟩
      · rw [show decide (x = id) = false by simp [hs]] at HC
        have HI3 := Lib.hid (HI2.out hs)
        clear hs HI2 HI1
        go_wp2_with fail
        refine Calls.mono HC.out ?_
        rintro e w1 ⟨rfl, F1⟩
        go_wp2
        go_roundw
        case rel => exact ⟨k + 1, by go_num, by omega, HI3.out, HF.out.trans (F1.out.mono hsz)⟩
        case measure => simp [intOf]; omega
    · obtain rfl : k = os.length := by omega
      have hnone : idxO id os = none := by
        unfold idxO
        rw [List.findIdx?_eq_none_iff]
        intro x hx
        obtain ⟨j, hj, rfl⟩ := List.getElem_of_mem hx
        simpa using HN.out j hj hj
      go_wp2
      go_ret
      exact ⟨ret_int (by unfold idxI; rw [hnone]), Lib.hid HF.out⟩
end Go.Proofs.YtigknfkkegccgaaDoor.K

/- Orders: a book's places, and its open orders. -/
namespace Go.Proofs.YtigknfkkegccgaaDoor.K
open Go.RowKit
set_option linter.unusedVariables false
set_option linter.unusedSimpArgs false
attribute [local go_sem ↓] Go.wp_at_zero Go.wp_at_succ
set_option maxHeartbeats 1000000 in
set_option maxRecDepth 10000 in
theorem placeC {B b g : Nat} {v : Value} {os : List So} {ids : List Int} {id : Int} {w : World} (h : Bk B b g v os ids w) (hl : os.length ≤ 1000) :
    Calls Tryd.prog 48 #[.pointer (some ⟨b, 0, none⟩), .int .u32 id] w fun e w' => e = .returned (.int .i64 (idxI id os)) ∧ Hid (Below w.heap.size w w') := by
  have hmf : ∀ (fn : Fn) (first cap : Array Value) (w : World), (Instr.makeFunc fn first cap).run Tryd.prog w = .ok (.func fn first cap) w := fun _ _ _ _ => rfl
  obtain ⟨A, c, rfl, hc⟩ := own_form h.row
  have hr := row_own (c := cO) (fun _ => rfl) h.row
  have hbl : Below w.heap.size w (w.alloc (.cells #[.int .u32 id] 22)) := (Below.refl _ w).alloc (Nat.le_refl _) _
  have hnb := Blk.new w 22 #[.int .u32 id]
  have HC := Lib.hid (IndexOC (c := c) (id := id) (hnb.cell 0) hnb.lt (RowOf.below hr hbl) (by simp) hl)
  have HBL := Lib.hid hbl
  have c0 := (h.blk.alloc (.cells #[.int .u32 id] 22)).cell 0
  clear h hr hbl hnb
  go_enter Tryd.func48, Tryd.ntmps48
  go_wp2_with fail
  refine Calls.mono HC.out ?_
  rintro e w1 ⟨rfl, F1⟩
  go_wp2
  go_ret
  exact ⟨rfl, Lib.hid (HBL.out.trans (F1.out.mono HBL.out.size))⟩
theorem info_u32x : (Tryd.prog.info? 22).map (fun i => (i.zero, i.size, i.bytes)) = some (some (.int .u32 0), 1, 4) := by kernel_rfl
set_option maxHeartbeats 2000000 in
set_option maxRecDepth 10000 in
theorem OpenC {B b g : Nat} {v : Value} {os : List So} {ids : List Int} {w : World} (h : Bk B b g v os ids w) (hl : os.length ≤ 1000) :
    Calls Tryd.prog 26 #[.pointer (some ⟨b, 0, none⟩)] w fun e w' => ∃ v', e = .returned v' ∧ Hid (w'.ownsRow w.heap.size 22 1 v' os.length (nums .u32 (os.map So.id))) ∧ Hid (Below w.heap.size w w') := by
  obtain ⟨A, c, rfl, hc⟩ := own_form h.row
  have hr := row_own (c := cO) (fun _ => rfl) h.row
  have c0 := h.blk.cell 0
  have HR := Lib.hid hr
  clear h hr
  go_enter Tryd.func26, Tryd.ntmps26
  go_wp2
  go_loopw [2, 10] (fun a i wr => ∃ k : Nat, i = .int .i64 k ∧ k ≤ os.length ∧ wr.ownsRow w.heap.size 22 1 a k (nums .u32 ((os.take k).map So.id)) ∧ Below w.heap.size w wr) (fun _ i _ => os.length - (intOf i).toNat)
  case atStart => exact ⟨0, rfl, by omega, by simpa [nums] using own_nil _ _ _ _, Below.refl _ _⟩
  case round =>
    obtain ⟨k, rfl, hk, hown, hf⟩ := hrel
    have HF := Lib.hid hf
    obtain ⟨OA, oc, rfl, hoc⟩ := own_form hown
    have HO := Lib.hid hown
    clear hown hf
    by_cases hlt : k < os.length
    · obtain ⟨ad, rfl, hb', d0, d1⟩ := (RowOf.below HR.out HF.out).so hlt
      have HT : Hid ((os.take (k + 1)).map So.id = (os.take k).map So.id ++ [(os[k]).id]) := Lib.hid (by rw [List.take_succ_eq_append_getElem hlt, List.map_append]; rfl)
      clear hb'
      generalize (os[k]).id = x at *
      generalize (os[k]).A = xa at *
      generalize (os[k]).c = xc at *
      generalize (os[k]).ls.length = xn at *
      have n0 := (Blk.new wr 25 #[.int .u32 x, .slice xa xn xc]).cell 0
      have n1 := (Blk.new wr 25 #[.int .u32 x, .slice xa xn xc]).cell 1
      have HO1 := Lib.hid (own_fr HO.out ((Fr.refl (fun _ => False) wr).alloc (.cells #[.int .u32 x, .slice xa xn xc] 25)) (fun _ _ h => h))
      have HF1 := Lib.hid (HF.out.alloc HF.out.size (.cells #[.int .u32 x, .slice xa xn xc] 25))
      go_wp2_with (at_builtin; go_loud (refine app1g rfl _ _ _ rfl 22 (.int .u32 0) 1 4 Tryd.underlying55 info_u32x rfl (by omega) (by omega) w.heap.size (wr.heap.size + 1) (by simp) (.slice OA k oc) k _ [.int .u32 x] rfl rfl rfl (fun u hu => by simp at hu; subst hu; rfl) HO1.out HF1.out.size (by omega) ?_; intro v2 w2 h3 h4 h5; have H3 := Lib.hid h3; have H4 := Lib.hid h4; clear h3 h4 h5))
      go_wp2
      go_roundw
      case rel =>
        refine ⟨k + 1, by go_num, by omega, by rw [HT.out, nums_append]; exact H3.out, below_fr HF1.out H4.out HF1.out.size (fun j e => (HO1.out.lt j e).1)⟩
      case measure => simp [intOf]; omega
    · obtain rfl : k = os.length := by omega
      rw [List.take_length] at HO
      go_wp2
      go_ret
      exact ⟨_, rfl, HO, Lib.hid HF.out⟩
end Go.Proofs.YtigknfkkegccgaaDoor.K

/- Orders: Get. -/
namespace Go.Proofs.YtigknfkkegccgaaDoor.K
open Go.RowKit
set_option linter.unusedVariables false
set_option linter.unusedSimpArgs false
attribute [local go_sem ↓] Go.wp_at_zero Go.wp_at_succ
theorem results_row_tmp {P : Program} {fn : Func} {p u : Tmp} {ty : TypeId} (h : fn.results = #[.cell p ty, .tmp u]) (tmps : Array Value) (w : World) (g : Nat) (t : TypeId) (cs : Array Value) (fr : Nat × Nat) (d : TypeDesc)
    (hp : tmps.getD p undef = .pointer (some ⟨g, 0, none⟩)) (hg : w.heap[g]? = some (.cells cs t fr))
    (hu : P.underlying ty = some d) (hd : (match d with | .struct _ | .array _ _ => true | _ => false) = true) (hi : (P.info? ty).map (·.size) = some cs.size) :
    (results fn tmps).run P w = .ok (.tuple #[.agg cs, tmps.getD u undef]) w := by
  rw [results_cell_tmp h, hp]
  simp [asAddr, run_loadVar_row w g t ty cs fr d hg hu hd hi, Result.andThen]
set_option maxHeartbeats 2000000 in
set_option maxRecDepth 10000 in
theorem GetNo {B b g : Nat} {v : Value} {os : List So} {ids : List Int} {id : Int} {w : World} (h : Bk B b g v os ids w) (hl : os.length ≤ 1000) (hi : idxO id os = none) :
    Calls Tryd.prog 24 #[.pointer (some ⟨b, 0, none⟩), .int .u32 id] w fun e w' => e = .returned (.tuple #[.agg #[.int .u32 0, .slice none 0 0], .bool false]) ∧ Hid (Below w.heap.size w w') := by
  have hbl : Below w.heap.size w (w.alloc (.cells #[.int .u32 0, .slice none 0 0] 25)) := (Below.refl _ w).alloc (Nat.le_refl _) _
  have hbk : Bk B b g v os ids (w.alloc (.cells #[.int .u32 0, .slice none 0 0] 25)) := h.fr ((Fr.refl (fun _ => False) w).alloc _) (fun _ _ _ h => h)
  have HC := Lib.hid (placeC (id := id) hbk hl)
  rw [show idxI id os = -1 by unfold idxI; rw [hi]] at HC
  have HN := Lib.hid (Blk.new w 25 #[.int .u32 0, .slice none 0 0])
  have HBL := Lib.hid hbl
  clear h hbk hbl
  go_enter Tryd.func24, Tryd.ntmps24
  go_wp2_with fail
  refine Calls.mono HC.out ?_
  rintro e w1 ⟨rfl, F1⟩
  have h1 := HN.out.below F1.out HN.out.lt
  have d0 := h1.cell 0
  have f0 := h1.frozen 0
  have h2 : Blk (w1.setCell ⟨w.heap.size, 0, none⟩ (.int .u32 0)) w.heap.size 25 #[.int .u32 0, .slice none 0 0] := by simpa using h1.set_ 0 (.int .u32 0)
  have d1 := h2.cell 1
  have f1 := h2.frozen 1
  have h3 : Blk ((w1.setCell ⟨w.heap.size, 0, none⟩ (.int .u32 0)).setCell ⟨w.heap.size, 1, none⟩ (.slice none 0 0)) w.heap.size 25 #[.int .u32 0, .slice none 0 0] := by simpa using h2.set_ 1 (.slice none 0 0)
  have e0 := h3.cell 0
  have e1 := h3.cell 1
  clear h1 h2
  have H3 := Lib.hid h3
  clear h3
  go_wp2
  refine bodyPost_ret_by (results_row_tmp rfl _ _ w.heap.size 25 _ (0, 0) _ rfl H3.out Tryd.underlying25 rfl (by kernel_rfl)) rfl ?_
  exact ⟨rfl, Lib.hid (((HBL.out.trans (F1.out.mono HBL.out.size)).setCell (p := ⟨w.heap.size, 0, none⟩) (Nat.le_refl _) _).setCell (p := ⟨w.heap.size, 1, none⟩) (Nat.le_refl _) _)⟩
theorem idxO_some {id : Int} {os : List So} {k : Nat} (h : idxO id os = some k) : ∃ hk : k < os.length, (os[k]).id = id := by
  unfold idxO at h
  rw [List.findIdx?_eq_some_iff_getElem] at h
  obtain ⟨hk, h1, _⟩ := h
  exact ⟨hk, by simpa using h1⟩
set_option maxHeartbeats 2000000 in
set_option maxRecDepth 10000 in
theorem GetC {B b g k : Nat} {v : Value} {os : List So} {ids : List Int} {id : Int} {w : World} (h : Bk B b g v os ids w) (hl : os.length ≤ 1000) {o : So} (hko : os[k]? = some o) (hi : idxO id os = some k) (hll : o.ls.length ≤ 1000) :
    Calls Tryd.prog 24 #[.pointer (some ⟨b, 0, none⟩), .int .u32 id] w fun e w' => ∃ A' c', e = .returned (.tuple #[.agg #[.int .u32 o.id, .slice A' o.ls.length c'], .bool true]) ∧ Hid (MadeL w.heap.size A' c' o.ls w') ∧ Hid (Below w.heap.size w w') := by
  obtain ⟨hk, hko'⟩ := List.getElem?_eq_some_iff.1 hko
  obtain ⟨x, xa, xc, xl⟩ := o
  simp only at hll ⊢
  have hbl : Below w.heap.size w (w.alloc (.cells #[.int .u32 0, .slice none 0 0] 25)) := (Below.refl _ w).alloc (Nat.le_refl _) _
  have hbk : Bk B b g v os ids (w.alloc (.cells #[.int .u32 0, .slice none 0 0] 25)) := h.fr ((Fr.refl (fun _ => False) w).alloc _) (fun _ _ _ h => h)
  have HC := Lib.hid (placeC (id := id) hbk hl)
  have hix : idxI id os = (k : Int) := by unfold idxI; rw [hi]
  rw [hix] at HC
  have HN := Lib.hid (Blk.new w 25 #[.int .u32 0, .slice none 0 0])
  have HBL := Lib.hid hbl
  have HBK := Lib.hid hbk
  clear h hbk hbl hi hix
  go_enter Tryd.func24, Tryd.ntmps24
  go_wp2_with fail
  refine Calls.mono HC.out ?_
  rintro e w1 ⟨rfl, F1⟩
  have hb1 := HBK.out.fr (Fr.of_below F1.out) (fun _ _ _ h => h)
  obtain ⟨A, c, rfl, hc⟩ := own_form hb1.row
  have q0 := hb1.blk.cell 0
  obtain ⟨ad, rfl, hb', d0, d1⟩ := (row_own (c := cO) (fun _ => rfl) hb1.row).so hk
  rw [hko'] at d0 d1
  simp only at d0 d1
  have HL := Lib.hid (ownC (id := x) (c := xc) (A := xa) (w := w1) hll (hko' ▸ hb1.each _ (List.getElem_mem hk)).2.1)
  have h1 := HN.out.below F1.out HN.out.lt
  have HN1 := Lib.hid h1
  have HS1 : Hid (w.heap.size ≤ w1.heap.size) := Lib.hid (Nat.le_trans HBL.out.size F1.out.size)
  have HB1 := Lib.hid (HBL.out.trans (F1.out.mono HBL.out.size))
  clear hb1 hb' h1 HBK
  go_wp2_with fail
  refine Calls.mono HL.out ?_
  rintro e w2 ⟨A2, c2, rfl, HM, HF⟩
  have h1 := HN1.out.fr HF.out (fun h => h)
  have e0 := h1.cell 0
  have f0 := h1.frozen 0
  have h2 : Blk (w2.setCell ⟨w.heap.size, 0, none⟩ (.int .u32 x)) w.heap.size 25 #[.int .u32 x, .slice none 0 0] := by simpa using h1.set_ 0 (.int .u32 x)
  have e1 := h2.cell 1
  have f1 := h2.frozen 1
  have h3 : Blk ((w2.setCell ⟨w.heap.size, 0, none⟩ (.int .u32 x)).setCell ⟨w.heap.size, 1, none⟩ (.slice A2 xl.length c2)) w.heap.size 25 #[.int .u32 x, .slice A2 xl.length c2] := by simpa using h2.set_ 1 (.slice A2 xl.length c2)
  have H3 := Lib.hid h3
  have H1 := Lib.hid h1
  clear h1 h2 h3
  go_wp2
  refine bodyPost_ret_by (results_row_tmp rfl _ _ w.heap.size 25 _ (0, 0) _ rfl H3.out Tryd.underlying25 rfl (by kernel_rfl)) rfl ?_
  have hF : Fr (fun j => j = w.heap.size) w2 ((w2.setCell ⟨w.heap.size, 0, none⟩ (.int .u32 x)).setCell ⟨w.heap.size, 1, none⟩ (.slice A2 xl.length c2)) := ((Fr.refl (fun j => j = w.heap.size) w2).setCell (p := ⟨w.heap.size, 0, none⟩) (fun _ => rfl) _).setCell (p := ⟨w.heap.size, 1, none⟩) (fun _ => rfl) _
  exact ⟨A2, c2, rfl, Lib.hid ((HM.out.fr hF (fun j e h => own_blk_ne HM.out.1 H1.out (by decide) (h ▸ e))).low HS1.out), Lib.hid (below_fr (HB1.out.trans (HF.out.below0.mono HS1.out)) hF (Nat.le_trans HS1.out HF.out.size) (fun j e => by omega))⟩
end Go.Proofs.YtigknfkkegccgaaDoor.K

/- Orders: Add. -/
namespace Go.Proofs.YtigknfkkegccgaaDoor.K
open Go.RowKit
set_option linter.unusedVariables false
set_option linter.unusedSimpArgs false
attribute [local go_sem ↓] Go.wp_at_zero Go.wp_at_succ
theorem rightO_ne {ls : List Ln} (h : rightO ls ≠ 0) : rightO ls = 1 ∨ rightO ls = 3 ∨ rightO ls = 5 ∨ rightO ls = 8 ∨ rightO ls = 10 := by
  have := rightO_range ls; omega
set_option maxHeartbeats 2000000 in
set_option maxRecDepth 10000 in
theorem AddNo {B c : Nat} {id : Int} {p : Value} {A : Option Addr} {ls : List Ln} {w : World} (hr : RowOf cL 3 w B A ls) (hB : B ≤ w.heap.size) (hl : ls.length ≤ 140737488355328) (hc : ls.length ≤ c) (ho : ∀ l ∈ ls, l.ok) (hn : rightO ls ≠ 0) :
    Calls Tryd.prog 20 #[p, .agg #[.int .u32 id, .slice A ls.length c]] w fun e w' => e = .returned (.int .i64 (rightO ls)) ∧ Hid (Below w.heap.size w w') := by
  have hbl : Below w.heap.size w (w.alloc (.cells #[.int .u32 id, .slice A ls.length c] 25)) := (Below.refl _ w).alloc (Nat.le_refl _) _
  have HBL := Lib.hid hbl
  have HC := Lib.hid (RightC (id := id) (c := c) (RowOf.below hr (hbl.mono hB)) (by have := hbl.size; omega) hl hc ho)
  have hv := rightO_ne hn
  generalize rightO ls = v at *
  clear hbl hr ho hn
  rcases hv with rfl | rfl | rfl | rfl | rfl
  all_goals
    go_enter Tryd.func20, Tryd.ntmps20
    go_wp2_with fail
    refine Calls.mono HC.out ?_
    rintro e w1 ⟨rfl, F1⟩
    go_wp2
    go_ret
    exact ⟨rfl, Lib.hid (HBL.out.trans (F1.out.mono HBL.out.size))⟩
theorem Ever.drew {g : Nat} {ids : List Int} {w : World} (h : Ever g ids w) : Ever g ids w.drew := h
set_option maxHeartbeats 2000000 in
set_option maxRecDepth 10000 in
theorem AddTwice {B Bb b g c : Nat} {v : Value} {os : List So} {ids : List Int} {id : Int} {A : Option Addr} {ls : List Ln} {w : World} (h : Bk Bb b g v os ids w) (hid : 0 ≤ id ∧ id < 4294967296) (hr : RowOf cL 3 w B A ls) (hB : B ≤ w.heap.size) (hl : ls.length ≤ 140737488355328) (hc : ls.length ≤ c) (ho : ∀ l ∈ ls, l.ok) (hn : rightO ls = 0) (hm : id ∈ ids) :
    Calls Tryd.prog 20 #[.pointer (some ⟨b, 0, none⟩), .agg #[.int .u32 id, .slice A ls.length c]] w fun e w' => e = .returned (.int .i64 8) ∧ Hid (Below w.heap.size w w') := by
  have hbl : Below w.heap.size w (w.alloc (.cells #[.int .u32 id, .slice A ls.length c] 25)) := (Below.refl _ w).alloc (Nat.le_refl _) _
  have HBL := Lib.hid hbl
  have HN := Lib.hid (Blk.new w 25 #[.int .u32 id, .slice A ls.length c])
  have HBK := Lib.hid (h.fr ((Fr.refl (fun _ => False) w).alloc (.cells #[.int .u32 id, .slice A ls.length c] 25)) (fun _ _ _ h => h))
  have HC := Lib.hid (RightC (id := id) (c := c) (RowOf.below hr (hbl.mono hB)) (by have := hbl.size; omega) hl hc ho)
  rw [hn] at HC
  clear hbl hr ho hn h
  go_enter Tryd.func20, Tryd.ntmps20
  go_wp2_with fail
  refine Calls.mono HC.out ?_
  rintro e w1 ⟨rfl, F1⟩
  have hb1 := HBK.out.fr (Fr.of_below F1.out) (fun _ _ _ h => h)
  have h1 := HN.out.below F1.out HN.out.lt
  have d0 := h1.cell 0
  have d1 := h1.cell 1
  have q0 := hb1.blk.cell 0
  have q1 := hb1.blk.cell 1
  have hlk := ever_lookup hb1.ever.drew id hid.1 hid.2
  rw [show decide (id ∈ ids) = true by simp [hm]] at hlk
  clear hb1 h1
  go_wp2_with fail
  go_region
  go_wp2
  go_ret
  exact ⟨rfl, Lib.hid (below_dr (HBL.out.trans (F1.out.mono HBL.out.size)))⟩
set_option maxHeartbeats 2000000 in
set_option maxRecDepth 10000 in
theorem AddFull {B Bb b g c : Nat} {v : Value} {os : List So} {ids : List Int} {id : Int} {A : Option Addr} {ls : List Ln} {w : World} (h : Bk Bb b g v os ids w) (hid : 0 ≤ id ∧ id < 4294967296) (hr : RowOf cL 3 w B A ls) (hB : B ≤ w.heap.size) (hl : ls.length ≤ 140737488355328) (hc : ls.length ≤ c) (ho : ∀ l ∈ ls, l.ok) (hn : rightO ls = 0) (hm : id ∉ ids) (hos : os.length ≤ 1000) (hids : ids.length ≤ 100000) (hfull : 16 ≤ os.length ∨ 1024 ≤ ids.length) :
    Calls Tryd.prog 20 #[.pointer (some ⟨b, 0, none⟩), .agg #[.int .u32 id, .slice A ls.length c]] w fun e w' => e = .returned (.int .i64 5) ∧ Hid (Below w.heap.size w w') := by
  have hbl : Below w.heap.size w (w.alloc (.cells #[.int .u32 id, .slice A ls.length c] 25)) := (Below.refl _ w).alloc (Nat.le_refl _) _
  have HBL := Lib.hid hbl
  have HN := Lib.hid (Blk.new w 25 #[.int .u32 id, .slice A ls.length c])
  have HBK := Lib.hid (h.fr ((Fr.refl (fun _ => False) w).alloc (.cells #[.int .u32 id, .slice A ls.length c] 25)) (fun _ _ _ h => h))
  have HC := Lib.hid (RightC (id := id) (c := c) (RowOf.below hr (hbl.mono hB)) (by have := hbl.size; omega) hl hc ho)
  rw [hn] at HC
  clear hbl hr ho hn h
  go_enter Tryd.func20, Tryd.ntmps20
  go_wp2_with fail
  refine Calls.mono HC.out ?_
  rintro e w1 ⟨rfl, F1⟩
  have hb1 := HBK.out.fr (Fr.of_below F1.out) (fun _ _ _ h => h)
  have h1 := HN.out.below F1.out HN.out.lt
  have d0 := h1.cell 0
  have d1 := h1.cell 1
  have q0 := hb1.blk.cell 0
  have q1 := hb1.blk.cell 1
  have hlk := ever_lookup hb1.ever.drew id hid.1 hid.2
  rw [show decide (id ∈ ids) = false by simp [hm]] at hlk
  have hln := fun ty => ever_len hb1.ever.drew ty
  obtain ⟨VA, vc, rfl, hvc⟩ := own_form hb1.row
  clear hb1 h1
  by_cases hf : 16 ≤ os.length
  all_goals
    go_wp2_with fail
    go_region
    go_wp2
    go_ret
    exact ⟨rfl, Lib.hid (below_dr (HBL.out.trans (F1.out.mono HBL.out.size)))⟩
end Go.Proofs.YtigknfkkegccgaaDoor.K

/- A region that draws its order, by an invariant: what each operation that may come up keeps holds behind all of them. -/
namespace Go.Proofs.YtigknfkkegccgaaDoor.K
set_option linter.unusedVariables false
set_option linter.unusedSimpArgs false
/-- How many are not listed. -/
def left (ops : Array Oper) (listed : Array Bool) : Nat := ((List.range ops.size).filter fun i => !listed.getD i false).length
theorem left_le (ops : Array Oper) (listed : Array Bool) : left ops listed ≤ ops.size := by
  unfold left
  exact Nat.le_trans (List.length_filter_le _ _) (by simp)
theorem filter_less {α : Type} {p q : α → Bool} : ∀ (l : List α), (∀ x ∈ l, q x = true → p x = true) → (∃ x ∈ l, p x = true ∧ q x = false) → (l.filter q).length < (l.filter p).length := by
  intro l
  induction l with
  | nil => rintro _ ⟨x, hx, _⟩; cases hx
  | cons y l ih =>
    rintro h ⟨x, hx, h1, h2⟩
    have hle : (l.filter q).length ≤ (l.filter p).length := by
      have : ∀ m : List α, (∀ x ∈ m, q x = true → p x = true) → (m.filter q).length ≤ (m.filter p).length := by
        intro m
        induction m with
        | nil => intro _; exact Nat.le_refl _
        | cons z m ih =>
          intro h
          have := ih (fun x hx => h x (by simp [hx]))
          cases hq : q z with
          | true => have hp := h z (by simp) hq; simp [List.filter_cons, hq, hp]; omega
          | false => cases hp : p z <;> simp [List.filter_cons, hq, hp] <;> omega
      exact this l (fun x hx => h x (by simp [hx]))
    rcases List.mem_cons.1 hx with rfl | hx
    · simp [List.filter_cons, h1, h2]; omega
    · have := ih (fun x hx => h x (by simp [hx])) ⟨x, hx, h1, h2⟩
      cases hq : q y with
      | true => have hp := h y (by simp) hq; simp [List.filter_cons, hq, hp]; omega
      | false => cases hp : p y <;> simp [List.filter_cons, hq, hp] <;> omega
/-- An invariant that each operation that may come up keeps. -/
theorem wpAny_inv {P : Program} {md : Region.Mode} {ops : Array Oper} {Q : Exit → Act → World → Prop} (I : Array Bool → Act → World → Prop)
    (hstep : ∀ (listed : Array Bool) (a : Act) (w : World), listed.size = ops.size → I listed a w → ∀ j ∈ Region.ready md ops listed, wpOp P ops Q j (fun a' w' => I (listed.setIfInBounds j true) a' w') a w)
    (hdone : ∀ (listed : Array Bool) (a : Act) (w : World), listed.size = ops.size → I listed a w → Region.ready md ops listed = [] → Q .normal a w) :
    ∀ (fuel : Nat) (listed : Array Bool) (a : Act) (w : World), listed.size = ops.size → left ops listed ≤ fuel → I listed a w → wpAny P md ops Q fuel listed a w := by
  intro fuel
  induction fuel with
  | zero =>
    intro listed a w hs hl hI
    have hr : Region.ready md ops listed = [] := by
      cases hr : Region.ready md ops listed with
      | nil => rfl
      | cons j rs =>
        have hj := mem_ready.1 (show j ∈ Region.ready md ops listed by rw [hr]; simp)
        obtain ⟨h1, o, ho, _⟩ := hj
        have hlt : j < ops.size := (Array.getElem?_eq_some_iff.1 ho).1
        exfalso
        have : j ∈ (List.range ops.size).filter fun i => !listed.getD i false := by
          rw [List.mem_filter, List.mem_range]
          refine ⟨hlt, ?_⟩
          have : listed.getD j false = listed.getD j true := by simp [Array.getD, show j < listed.size by omega]
          rw [this, h1]; rfl
        have := List.length_pos_of_mem this
        unfold left at hl
        omega
    exact ⟨hr, hdone listed a w hs hI hr⟩
  | succ fuel ih =>
    intro listed a w hs hl hI
    refine ⟨fun hr => hdone listed a w hs hI hr, fun j hj => ?_⟩
    have hj' := mem_ready.1 hj
    obtain ⟨h1, o, ho, _⟩ := hj'
    have hlt : j < ops.size := (Array.getElem?_eq_some_iff.1 ho).1
    have hf : listed.getD j false = false := by
      have : listed.getD j false = listed.getD j true := by simp [Array.getD, show j < listed.size by omega]
      rw [this, h1]
    refine wpOp_mono (fun a' w' h => ih _ a' w' (by simpa using hs) ?_ h) (hstep listed a w hs hI j hj)
    have : left ops (listed.setIfInBounds j true) < left ops listed := by
      unfold left
      refine filter_less _ (fun x _ hx => ?_) ⟨j, List.mem_range.2 hlt, by rw [hf]; rfl, ?_⟩
      · by_cases e : j = x
        · subst e; rw [hf]; rfl
        · rwa [getD_set_ne false e] at hx
      · have : (listed.setIfInBounds j true).getD j false = true := by simp [Array.getD, show j < listed.size by omega]
        rw [this]; rfl
    omega
/-- The same of a whole region; the invariant may name the frame that it begins with. -/
theorem region_inv {P : Program} {id : Nat} {ops : Array Oper} {Q : Exit → Act → World → Prop} {a0 : Act} {w0 : World} (I : Act → Array Bool → Act → World → Prop) (hm : P.follows .mixedOrders = true)
    (hinit : I a0 (Array.replicate ops.size false) a0 w0.drew)
    (hdone : ∀ (listed : Array Bool) (a : Act) (w : World), listed.size = ops.size → I a0 listed a w → Region.ready .any ops listed = [] → Q .normal a w)
    (hstep : ∀ (listed : Array Bool) (a : Act) (w : World), listed.size = ops.size → I a0 listed a w → ∀ j ∈ Region.ready .any ops listed, wpOp P ops Q j (fun a' w' => I a0 (listed.setIfInBounds j true) a' w') a w) :
    (Code.region id ops true).wp P Q a0 w0 :=
  wp_region_any hm (wpAny_inv (I a0) hstep hdone _ _ _ _ (by simp) (left_le _ _) hinit)
/-- When nothing may come up any more, all is listed. -/
theorem ready_nil {md : Region.Mode} {ops : Array Oper} {listed : Array Bool} (hs : listed.size = ops.size) (hedge : ops.toList.zipIdx.all (fun x => x.1.after.toList.all fun e => decide (e.on < x.2)) = true) (hr : Region.ready md ops listed = []) : ∀ j, j < ops.size → listed.getD j false = true := by
  intro j
  induction j using Nat.strongRecOn with
  | ind j ih =>
    intro hj
    cases hl : listed.getD j false with
    | true => rfl
    | false =>
      exfalso
      have hl2 : listed.getD j true = false := by rw [← hl]; simp [Array.getD, show j < listed.size by omega]
      have ho : ops[j]? = some ops[j] := Array.getElem?_eq_getElem hj
      have : j ∈ Region.ready md ops listed := mem_ready.2 ⟨hl2, _, ho, fun e he _ => by
        have h1 := List.all_eq_true.1 hedge (ops[j], j) (by
          rw [List.mem_zipIdx_iff_getElem?]
          simp [hj])
        have h2 := List.all_eq_true.1 h1 e (by simpa using he)
        have h3 : e.on < j := by simpa using h2
        exact ih _ h3 (by omega)⟩
      rw [hr] at this
      cases this
/-- What slot s holds. -/
abbrev slot (a : Act) (s : Nat) : Value := a.tmps.getD s undef
theorem put_at {a : Act} {d s : Nat} {v : Value} (hd : d < a.tmps.size) : slot (a.put (some d) v) s = if s = d then v else slot a s := by
  unfold slot
  simp only [Act.put]
  by_cases h : s = d
  · subst h; simp [Array.getD, hd]
  · rw [if_neg h, Array.getD_eq_getD_getElem?, Array.getD_eq_getD_getElem?, Array.getElem?_setIfInBounds_ne (Ne.symm h)]
theorem put_size {a : Act} {d : Option Nat} {v : Value} : (a.put d v).tmps.size = a.tmps.size := by
  cases d <;> simp [Act.put]
theorem put_defers {a : Act} {d : Option Nat} {v : Value} : (a.put d v).defers = a.defers := by
  cases d <;> simp [Act.put]
theorem wanted_none {o : Oper} {y : Nat → Option Bool} (h : o.guard = none) : Region.wanted o y = true := by simp [Region.wanted, h]
theorem wanted_some {ops : Array Oper} {a : Act} {o g : Oper} {i d : Nat} {b : Bool} (h : o.guard = some (i, b)) (hg : ops[i]? = some g) (hd : g.dst = some d) (hv : slot a d = .bool b) : Region.wanted o (yielded ops a.tmps) = true := by
  have : a.tmps[d]? = some (.bool b) := by
    unfold slot at hv
    rw [Array.getD_eq_getD_getElem?] at hv
    cases h2 : a.tmps[d]? with
    | none => rw [h2] at hv; simp [undef] at hv
    | some v => rw [h2] at hv; simpa using hv
  simp [Region.wanted, h, yielded, hg, hd, this]
theorem stepV {P : Program} {ops : Array Oper} {Q : Exit → Act → World → Prop} {K : Act → World → Prop} {j : Nat} {o : Oper} {a : Act} {w w2 : World} {v : Value} (ho : ops[j]? = some o) (hw : Region.wanted o (yielded ops a.tmps) = true)
    (hrun : (execOp a.eval o).run P w = .ok (.value v) w2) (h : K (a.put o.dst v) w2) : wpOp P ops Q j K a w := by
  unfold wpOp
  rw [ho]
  simp only [hw, if_true]
  left
  unfold Oper.wp
  rw [hrun]
  exact h
theorem stepC {P : Program} {ops : Array Oper} {Q : Exit → Act → World → Prop} {K : Act → World → Prop} {j f : Nat} {args : Array Value} {o : Oper} {a : Act} {w w1 : World} {R : Ending → World → Prop} (ho : ops[j]? = some o) (hw : Region.wanted o (yielded ops a.tmps) = true)
    (hrun : (execOp a.eval o).run P w = .ok (.enter f args) w1) (hc : Calls P f args w1 R) (h : ∀ e w2, R e w2 → ∃ v, e = .returned v ∧ K (a.put o.dst v) w2) : wpOp P ops Q j K a w := by
  unfold wpOp
  rw [ho]
  simp only [hw, if_true]
  left
  unfold Oper.wp
  rw [hrun]
  refine Calls.mono hc (fun e w2 hr => ?_)
  obtain ⟨v, rfl, hk⟩ := h e w2 hr
  exact hk
end Go.Proofs.YtigknfkkegccgaaDoor.K
