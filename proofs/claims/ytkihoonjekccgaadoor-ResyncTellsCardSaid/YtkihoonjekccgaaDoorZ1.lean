/- Texts of this claim in one, 1 of 3, each with its own head. -/
import Derived.Below
import Derived.Laws.OwnMore
import Derived.Deep.AppendLies
import Derived.Deep.Draws
import Derived.Laws.Rows
import Derived.Maps.AppendAt
import Derived.RegionTactic
import Derived.OwnWalk
import Derived.Lib.Hide
import Derived.KernelRfl
import Derived.SizedLaws
import Derived.ChangeSlices
import Derived.Deep.Slices
import Derived.Deep.Fields
import Derived.ProofKit
import Derived.OpenShut
import Derived.Shelf.LaysM
import Derived.Shelf.Bytes.TryGrowAt
import Derived.Shelf.Bytes.GrowSlice
import Derived.Test.YtkihoonjekccgaaDoorProg
import Derived.Deep.RegionWith
import Derived.BigQuiet
import Derived.Laws.CopyOwn
import Derived.Outline
import Derived.Laws.Shifts
import Derived.Deep.QuietTactic
import Derived.Laws.BitsAllLaws
import Derived.Test.YtkihoonjekccgaaDoorRows
import Derived.LaidMore
import Derived.FnData
import Derived.Laws.BitsLemmas
import Derived.Laws.BytesArg
import Derived.Lib.SmallJoins
import Derived.WalkSpells
import Derived.Lib.SlBytesConst
import Derived.Deep.DrawnRows
import Derived.Deep.RegionHeld
import Derived.Deep.RegionHeldLaw
import Derived.RangeFuncBox
import Derived.RangeFuncLeaves
import Derived.Shelf.Abstract
import Derived.WalkKit
import Derived.OwnWalkIn
import Derived.TacticsInMore
import Derived.LoopNIn
import Derived.LoopIn
import Derived.Laws.MakeOwn
import Derived.Laws.Entries
import Derived.WalkMore
import Derived.ScopeJumps
/- Small words on memory for this seat's walks: a slice that reads as a list, a block known whole, a frame that says which blocks may have turned. The first two follow the guide's page of extra words. -/
namespace Go.Proofs.YtkihoonjekccgaaDoor.K
open Go.RowKit
set_option linter.unusedVariables false
set_option linter.unusedSimpArgs false

theorem ret_int {k : IntKind} {a b : Int} (h : a = b) : Ending.returned (.int k a) = .returned (.int k b) := by rw [h]
theorem ret_bool {a b : Bool} (h : a = b) : Ending.returned (.bool a) = .returned (.bool b) := by rw [h]

/-- Block g is just these cells of element type t, none frozen. -/
def Blk (w : World) (g : Nat) (t : TypeId) (cs : Array Value) : Prop := w.heap[g]? = some (.cells cs t (0, 0))

/-- What was there stays, but for the blocks of S. -/
structure Fr (S : Nat → Prop) (w w' : World) : Prop where
  os : w'.os = w.os
  tape : w'.tape = w.tape
  output : w'.output = w.output
  size : w.heap.size ≤ w'.heap.size
  block : ∀ k, k < w.heap.size → ¬ S k → w'.heap[k]? = w.heap[k]?
/-- Nothing that was there has turned. -/
abbrev Fr0 (w w' : World) : Prop := Fr (fun _ => False) w w'
/-- Nothing that was there has turned but block g. -/
abbrev Fr1 (g : Nat) (w w' : World) : Prop := Fr (fun k => k = g) w w'

section
variable {w w1 w' w2 : World} {S S' : Nat → Prop} {B : Nat}
theorem Fr.refl (S : Nat → Prop) (w : World) : Fr S w w := ⟨rfl, rfl, rfl, Nat.le_refl _, fun _ _ _ => rfl⟩
theorem Fr.trans (h : Fr S w w1) (k : Fr S' w1 w2) (hs : ∀ j, j < w.heap.size → S' j → S j) : Fr S w w2 :=
  ⟨k.os.trans h.os, k.tape.trans h.tape, k.output.trans h.output, Nat.le_trans h.size k.size, fun i hi hn => (k.block i (Nat.lt_of_lt_of_le hi h.size) (fun hS => hn (hs i hi hS))).trans (h.block i hi hn)⟩
theorem Fr.mono (h : Fr S w w1) (hs : ∀ j, j < w.heap.size → S j → S' j) : Fr S' w w1 := ⟨h.os, h.tape, h.output, h.size, fun i hi hn => h.block i hi (fun hS => hn (hs i hi hS))⟩
theorem Fr.drew (h : Fr S w w1) : Fr S w w1.drew := ⟨h.os, h.tape, h.output, h.size, h.block⟩
theorem Fr.drewN (h : Fr S w w1) (n : Nat) : Fr S w (w1.drewN n) := ⟨h.os, h.tape, h.output, h.size, h.block⟩
theorem Fr.alloc (h : Fr S w w1) (o : Obj) : Fr S w (w1.alloc o) :=
  ⟨h.os, h.tape, h.output, Nat.le_trans h.size (by simp), fun i hi hn => (Below.heap_alloc w1 o i (Nat.lt_of_lt_of_le hi h.size)).trans (h.block i hi hn)⟩
theorem Fr.setCell (h : Fr S w w1) {p : Addr} (hp : p.block < w.heap.size → S p.block) (u : Value) : Fr S w (w1.setCell p u) :=
  ⟨h.os, h.tape, h.output, by simpa [World.setCell] using h.size, fun i hi hn => (Below.heap_setCell w1 p u i (by rintro rfl; exact hn (hp hi))).trans (h.block i hi hn)⟩
theorem Fr.below (h : Fr S w w1) (hs : ∀ j, j < w.heap.size → S j → B ≤ j) (hB : B ≤ w.heap.size) : Below B w w1 :=
  ⟨h.os, h.tape, h.output, h.size, fun k hk => h.block k (Nat.lt_of_lt_of_le hk hB) (fun hS => by have := hs k (Nat.lt_of_lt_of_le hk hB) hS; omega)⟩
theorem Fr.below0 (h : Fr0 w w1) : Below w.heap.size w w1 := h.below (fun _ _ h => h.elim) (Nat.le_refl _)
theorem Fr.of_below (h : Below w.heap.size w w1) : Fr0 w w1 := ⟨h.os, h.tape, h.output, h.size, fun k hk _ => h.block k hk⟩
theorem Fr.of_grown {row : Option Nat} (h : w.grownBy w1 row) : Fr (fun k => some k = row) w w1 := ⟨h.os, h.tape, h.output, h.size, fun k hk hn => h.block k hk hn⟩
theorem Fr.grown {row : Option Nat} (h : Fr S w w1) (k : w1.grownBy w2 row) (hs : ∀ j, j < w.heap.size → row = some j → S j) : Fr S w w2 :=
  h.trans (Fr.of_grown k) (fun j hj e => hs j hj e.symm)
theorem Fr.far (h : Fr S w w1) {k : Nat} (hk : k < w.heap.size) (hn : ¬ S k) : w1.heap[k]? = w.heap[k]? := h.block k hk hn
/-- A loop's limb: below B nothing has turned, and one step more. -/
theorem below_fr {a : World} (h : Below B a w) (k : Fr S w w1) (hB : B ≤ w.heap.size) (hs : ∀ j, S j → B ≤ j) : Below B a w1 :=
  h.trans (k.below (fun j _ hj => hs j hj) hB)
theorem below_size {a : World} (h : Below B a w) (hB : B ≤ a.heap.size) : B ≤ w.heap.size := Nat.le_trans hB h.size
end

section
variable {w w' : World} {g : Nat} {t : TypeId} {cs : Array Value} {S : Nat → Prop}
theorem Blk.lt (h : Blk w g t cs) : g < w.heap.size := by
  rcases Nat.lt_or_ge g w.heap.size with hlt | hge
  · exact hlt
  · unfold Blk at h; rw [Array.getElem?_eq_none hge] at h; cases h
theorem Blk.cell (h : Blk w g t cs) (i : Nat) : w.cell? ⟨g, i, none⟩ = cs[i]? := cell_of_row w g i cs t (0, 0) h
theorem Blk.frozen (h : Blk w g t cs) (i : Nat) : w.frozen? ⟨g, i, none⟩ = false := by
  unfold Blk at h
  simp [World.frozen?, h]
theorem Blk.new (w : World) (t : TypeId) (cs : Array Value) : Blk (w.alloc (.cells cs t)) w.heap.size t cs := heap_alloc_new w _
theorem Blk.drew (h : Blk w g t cs) : Blk w.drew g t cs := h
theorem Blk.drewN (h : Blk w g t cs) (n : Nat) : Blk (w.drewN n) g t cs := h
theorem Blk.alloc (h : Blk w g t cs) (o : Obj) : Blk (w.alloc o) g t cs := (Below.heap_alloc w o g h.lt).trans h
theorem Blk.set_ (h : Blk w g t cs) (i : Nat) (u : Value) : Blk (w.setCell ⟨g, i, none⟩ u) g t (cs.setIfInBounds i u) := by
  unfold Blk at h ⊢
  simp [World.setCell, Array.getElem?_modify, h]
theorem Blk.far (h : Blk w g t cs) {p : Addr} (hp : g ≠ p.block) (u : Value) : Blk (w.setCell p u) g t cs := (Below.heap_setCell w p u g hp).trans h
theorem Blk.fr (h : Blk w g t cs) (k : Fr S w w') (hn : ¬ S g) : Blk w' g t cs := (k.block g h.lt hn).trans h
theorem Blk.below {B : Nat} (h : Blk w g t cs) (hb : Below B w w') (hg : g < B) : Blk w' g t cs := (hb.block g hg).trans h
theorem Blk.grown {row : Option Nat} (h : Blk w g t cs) (hb : w.grownBy w' row) (hg : some g ≠ row) : Blk w' g t cs := (hb.block g h.lt hg).trans h
theorem Blk.ne_ {g' : Nat} {t' : TypeId} {cs' : Array Value} (h : Blk w g t cs) (h' : Blk w g' t' cs') (hne : t ≠ t') : g ≠ g' := by
  rintro rfl
  unfold Blk at h h'
  rw [h] at h'
  injection h' with h'
  injection h' with _ ht
  exact hne ht
theorem own_blk_ne {base : Nat} {e : TypeId} {size n : Nat} {v : Value} {xs : List Value} (h : w.ownsRow base e size v n xs) (hg : Blk w g t cs) (hne : e ≠ t) : v.ownBlock ≠ some g := by
  rcases h.2 with ⟨rfl, _⟩ | ⟨g', cap, cur, rfl, _, hh, _⟩
  · simp [Value.ownBlock]
  · intro he
    have : g' = g := by simpa [Value.ownBlock] using he
    subst this
    exact Blk.ne_ (t := e) hh hg hne rfl
/-- A row of the call's own stays behind a frame that spares its block. -/
theorem own_fr {base : Nat} {e : TypeId} {size n : Nat} {v : Value} {xs : List Value} (h : w.ownsRow base e size v n xs) (k : Fr S w w') (hn : ∀ j, v.ownBlock = some j → ¬ S j) : w'.ownsRow base e size v n xs := by
  obtain ⟨h1, h2⟩ := h
  refine ⟨h1, ?_⟩
  rcases h2 with h2 | ⟨g, cap, cur, hv, hg, hh, r⟩
  · exact Or.inl h2
  · subst hv
    exact Or.inr ⟨g, cap, cur, rfl, hg, by rw [k.block g (Blk.lt hh) (hn g rfl)]; exact hh, r⟩
theorem own_weak {base base' : Nat} {e : TypeId} {size n : Nat} {v : Value} {xs : List Value} (h : w.ownsRow base e size v n xs) (hb : base' ≤ base) : w.ownsRow base' e size v n xs := by
  obtain ⟨h1, h2⟩ := h
  refine ⟨h1, ?_⟩
  rcases h2 with h2 | ⟨g, cap, cur, hv, hg, r⟩
  · exact Or.inl h2
  · exact Or.inr ⟨g, cap, cur, hv, Nat.le_trans hb hg, r⟩
theorem own_drewN {base : Nat} {e : TypeId} {size n : Nat} {v : Value} {xs : List Value} (h : w.ownsRow base e size v n xs) (k : Nat) : (w.drewN k).ownsRow base e size v n xs := h
theorem own_form {base : Nat} {e : TypeId} {size n : Nat} {v : Value} {xs : List Value} (h : w.ownsRow base e size v n xs) : ∃ A c, v = .slice A n c ∧ n ≤ c := by
  rcases h.2 with ⟨rfl, rfl⟩ | ⟨g, cap, cur, rfl, _, _, hnc, _⟩
  · exact ⟨_, _, rfl, Nat.le_refl _⟩
  · exact ⟨_, _, rfl, hnc⟩
end

theorem block_of_add (a : Addr) (n : Nat) : (a.add n).block = a.block := by unfold Addr.add; split <;> rfl
theorem add_of_add (a : Addr) (i j : Nat) : (a.add i).add j = a.add (i + j) := by
  unfold Addr.add
  by_cases hi : i = 0 <;> by_cases hj : j = 0 <;> simp [hi, hj, Nat.add_assoc]
theorem add_plain (g i j : Nat) : (⟨g, i, none⟩ : Addr).add j = ⟨g, i + j, none⟩ := by unfold Addr.add; split <;> simp_all

/-- The slice at A of n elements (size cells each) reads as xs and lies below block B. -/
def Reads (w : World) (B size : Nat) (A : Option Addr) (n : Nat) (xs : List Value) : Prop :=
  xs.length = n * size ∧ (0 < n → ∃ ad, A = some ad ∧ ad.block < B ∧ ∀ j u, xs[j]? = some u → w.cell? (ad.add j) = some u)

section
variable {w w' : World} {B B' size n : Nat} {A : Option Addr} {xs : List Value} {S : Nat → Prop}
theorem Reads.none_ : Reads w B size A 0 [] := ⟨by simp, fun h => absurd h (by omega)⟩
theorem Reads.at_ {k : Nat} (h : Reads w B 1 A n xs) (hk : k < n) : ∃ ad u, A = some ad ∧ ad.block < B ∧ xs[k]? = some u ∧ w.cell? (ad.add k) = some u := by
  obtain ⟨ad, e, hb, hc⟩ := h.2 (by omega)
  have hl : k < xs.length := by have := h.1; omega
  exact ⟨ad, xs[k], e, hb, List.getElem?_eq_getElem hl, hc k _ (List.getElem?_eq_getElem hl)⟩
theorem Reads.keep (h : Reads w B size A n xs) (hk : ∀ p : Addr, p.block < B → w'.cell? p = w.cell? p) : Reads w' B size A n xs :=
  ⟨h.1, fun hn => by
    obtain ⟨ad, e, hb, hc⟩ := h.2 hn
    exact ⟨ad, e, hb, fun j u hu => (hk _ (by rw [block_of_add]; exact hb)).trans (hc j u hu)⟩⟩
theorem Reads.more (h : Reads w B size A n xs) (hB : B ≤ B') : Reads w B' size A n xs :=
  ⟨h.1, fun hn => by
    obtain ⟨ad, e, hb, hc⟩ := h.2 hn
    exact ⟨ad, e, by omega, hc⟩⟩
theorem Reads.below (h : Reads w B size A n xs) (hb : Below B w w') : Reads w' B size A n xs := h.keep fun _ hp => hb.cell hp
theorem Reads.drew (h : Reads w B size A n xs) : Reads w.drew B size A n xs := h
theorem Reads.drewN (h : Reads w B size A n xs) (k : Nat) : Reads (w.drewN k) B size A n xs := h
theorem Reads.alloc (h : Reads w B size A n xs) (hB : B ≤ w.heap.size) (o : Obj) : Reads (w.alloc o) B size A n xs := h.keep fun p hp => World.cell?_alloc_lt w o p (by omega)
theorem Reads.setCell (h : Reads w B size A n xs) {p : Addr} (hB : B ≤ p.block) (u : Value) : Reads (w.setCell p u) B size A n xs :=
  h.keep fun q hq => World.cell?_setCell_other w p q u (fun e => by subst e; omega)
theorem Reads.cut (h : Reads w B size A n xs) {k cap : Nat} (hk : k ≤ n) (hc : n ≤ cap) :
    Reads w B size (if cap = k then A else A.map (·.add (k * size))) (n - k) (xs.drop (k * size)) := by
  refine ⟨by rw [List.length_drop, h.1, Nat.sub_mul], fun hn => ?_⟩
  obtain ⟨ad, rfl, hb, hcell⟩ := h.2 (by omega)
  rw [if_neg (by omega)]
  refine ⟨ad.add (k * size), rfl, by rw [block_of_add]; exact hb, fun j u hu => ?_⟩
  rw [add_of_add]
  exact hcell _ u (by rw [← hu, List.getElem?_drop])
theorem Reads.take_ (h : Reads w B size A n xs) {k : Nat} (hk : k ≤ n) : Reads w B size A k (xs.take (k * size)) := by
  refine ⟨by rw [List.length_take, h.1]; exact Nat.min_eq_left (Nat.mul_le_mul_right _ hk), fun hn => ?_⟩
  obtain ⟨ad, rfl, hb, hcell⟩ := h.2 (by omega)
  exact ⟨ad, rfl, hb, fun j u hu => hcell j u (by
    rw [List.getElem?_take] at hu
    split at hu
    · exact hu
    · cases hu)⟩
theorem Reads.of_own {base : Nat} {e : TypeId} {c : Nat} (h : w.ownsRow base e size (.slice A n c) n xs) : Reads w w.heap.size size A n xs := by
  refine ⟨h.1, fun hn => ?_⟩
  obtain ⟨g, cap, hv, _, hlt⟩ := h.form hn
  have hA : A = some ⟨g, 0, none⟩ := by injection hv
  subst hA
  exact ⟨_, rfl, hlt, h.cells (g := g) rfl⟩
end

/-- 'append(l, y)', the one element's cells ys just laid in a block of their own. -/
theorem app1 {P : Program} {W : World} {ops : Array Oper} {rest : List Oper} {o : Oper} {a : Act} {Q : Exit → Act → World → Prop} (hgd : o.guard = none) (s x : Operand) (t : TypeId)
    (ho : o.op = .call { callee := .builtin .append, args := #[s, x], argTypes := #[t, t] })
    (e : TypeId) (z : Value) (size bytes : Nat) (ht : P.underlying t = some (.slice e)) (hinfo : (P.info? e).map (fun i => (i.zero, i.size, i.bytes)) = some (some z, size, bytes))
    (hzs : z.cells.size = size) (hsz : 0 < size) (hby : 0 < bytes)
    (base : Nat) (v : Value) (n : Nat) (xs ys : List Value) (hs : a.eval s = v) (hx : a.eval x = .slice (some ⟨W.heap.size, 0, none⟩) 1 1)
    (hy : ys.length = size) (h1 : ∀ u ∈ ys, u.oneCell' = true) (HO : W.ownsRow base e size v n xs) (hbase : base ≤ W.heap.size) (hl : (n + 1) * bytes ≤ 140737488355328)
    (h : ∀ v1 w1, w1.ownsRow base e size v1 (n + 1) (xs ++ ys) → Fr (fun k => v.ownBlock = some k) W w1 → (∀ k, v1.ownBlock = some k → v.ownBlock = some k ∨ W.heap.size ≤ k) → wpList P ops Q rest (a.put o.dst v1) w1) :
    wpList P ops Q (o :: rest) a (W.alloc (.cells ys.toArray e)) := by
  obtain ⟨i0, hi, hz0, hz1, hz2⟩ := info_parts hinfo
  have hlen : n + 1 ≤ 140737488355328 := Nat.le_trans (Nat.le_mul_of_pos_right _ hby) hl
  refine wpList_append_own_at (W.alloc (.cells ys.toArray e)) hgd s x t ho base e i0 z size bytes ht hi hz0 hz1 hz2 hzs hsz v n xs hs (HO.alloc _) ⟨W.heap.size, 0, none⟩ 1 1 ys hx (by omega)
    (World.news_of_block (cs := ys.toArray) (t := e) (fr := (0, 0)) (heap_alloc_new W _)) h1 (by simp only [maxLen]; omega) hl (by simp; omega) ?_
  intro v1 w1 hown hg _ hat
  refine h v1 w1 hown (((Fr.refl (fun k => v.ownBlock = some k) W).alloc _).grown hg (fun j _ e => e)) (fun k hk => ?_)
  rcases hat with hat | hat
  · exact .inl (hat ▸ hk)
  · rw [hat] at hk; injection hk with hk; simp at hk; exact .inr (by omega)
theorem own_nil (W : World) (base : Nat) (e : TypeId) (size : Nat) : W.ownsRow base e size (.slice none 0 0) 0 [] := ⟨by simp, .inl ⟨rfl, rfl⟩⟩
/-- The numbers of a slice, as values. -/
def nums (k : IntKind) (xs : List Int) : List Value := xs.map fun x => .int k x
theorem nums_snoc (k : IntKind) (xs : List Int) (y : Int) : nums k (xs ++ [y]) = nums k xs ++ [.int k y] := by simp [nums]
theorem nums_length (k : IntKind) (xs : List Int) : (nums k xs).length = xs.length := by simp [nums]
/-- n elements, each of so many cells, from A on, below block B. -/
def RowOf {α : Type} (c : α → List Value) (size : Nat) (w : World) (B : Nat) (A : Option Addr) (l : List α) : Prop :=
  ∀ i x, l[i]? = some x → ∃ ad, A = some ad ∧ ad.block < B ∧ ∀ j u, (c x)[j]? = some u → w.cell? (ad.add (i * size + j)) = some u
theorem RowOf.below {α : Type} {c : α → List Value} {size : Nat} {w w' : World} {B : Nat} {A : Option Addr} {l : List α} (h : RowOf c size w B A l) (hb : Below B w w') : RowOf c size w' B A l := by
  intro i x hx
  obtain ⟨ad, rfl, hb', hc⟩ := h i x hx
  exact ⟨ad, rfl, hb', fun j u hu => (hb.cell (by rw [block_of_add]; exact hb')).trans (hc j u hu)⟩
/-- A number of a row, at its place. -/
theorem RowOf.num {k : IntKind} {w : World} {B : Nat} {A : Option Addr} {l : List Int} (h : RowOf (fun x => [.int k x]) 1 w B A l) {i : Nat} (hi : i < l.length) : ∃ ad, A = some ad ∧ ad.block < B ∧ w.cell? (ad.add i) = some (.int k (l.getD i 0)) := by
  obtain ⟨ad, rfl, hb, hc⟩ := h i (l[i]) (List.getElem?_eq_getElem hi)
  refine ⟨ad, rfl, hb, ?_⟩
  have := hc 0 _ rfl
  rw [Nat.mul_one, Nat.add_zero] at this
  rw [this, List.getD_eq_getElem?_getD, List.getElem?_eq_getElem hi]; rfl

end Go.Proofs.YtkihoonjekccgaaDoor.K

/- Arguments opened: a slice of whatever elements, as a list. -/
namespace Go.Proofs.YtkihoonjekccgaaDoor.K
open Go.RowKit Go.ChangeShapes Go.WideShapes
set_option linter.unusedVariables false
set_option linter.unusedSimpArgs false

theorem pick {α : Type} {n : Nat} {R : Nat → α → Prop} (h : ∀ i, i < n → ∃ x, R i x) : ∃ l : List α, l.length = n ∧ ∀ (i : Nat) (x : α), l[i]? = some x → R i x := by
  induction n with
  | zero => exact ⟨[], rfl, fun i x hx => by simp at hx⟩
  | succ n ih =>
    obtain ⟨l, hl, hr⟩ := ih (fun i hi => h i (by omega))
    obtain ⟨y, hy⟩ := h n (by omega)
    refine ⟨l ++ [y], by simp [hl], fun i x hx => ?_⟩
    by_cases hi : i < l.length
    · rw [List.getElem?_append_left hi] at hx; exact hr i x hx
    · rw [List.getElem?_append_right (by omega)] at hx
      obtain ⟨h0, h1⟩ := List.getElem?_eq_some_iff.1 hx
      have : i - l.length = 0 := by simp at h0; omega
      obtain rfl : i = n := by omega
      simp at h1; subst h1; exact hy

section
variable {H : Type} {enc : TypeId × Value → H} {P : Program} {w : World} {base : Nat} {spare : Nat → Bool} {held : Bool}
/-- How a value of type t lies in its cells: as a's, for some a of which Q holds. -/
def Dec {α : Type} (enc : TypeId × Value → H) (P : Program) (w : World) (base : Nat) (spare : Nat → Bool) (held : Bool) (t : TypeId) (c : α → List Value) (Q : α → Prop) : Prop :=
  ∀ n cs y, DataW.trod enc P w base spare held n t cs = some y → ∃ a, cs = c a ∧ Q a
theorem dec_int {t : TypeId} {k : IntKind} (ht : P.underlying t = some (.int k)) : Dec enc P w base spare held t (fun x : Int => [.int k x]) (fun x => (Lit.int k x).wf = true) := fun n cs y h => by
  obtain ⟨x, h1, _, h3⟩ := DataW.trod_int ht h
  exact ⟨x, h1, h3⟩
theorem dec_bool {t : TypeId} (ht : P.underlying t = some .bool) : Dec enc P w base spare held t (fun x : Bool => [.bool x]) (fun _ => True) := fun n cs y h => by
  obtain ⟨x, h1, _⟩ := DataW.trod_bool ht h
  exact ⟨x, h1, trivial⟩

/-- A struct of 3 fields of one cell each, in its cells. -/
theorem trod_fields3 {t : TypeId} {f0 f1 f2 : Field} {fuel : Nat} {cs : List Value} {x : DataW H × List MemPlace} (hs : P.underlying t = some (.struct #[f0, f1, f2])) (hone : Go.Deep.oneCellFields P #[f0, f1, f2] = true) (hC : P.cellsOf t = 3)
    (h : DataW.trod enc P w base spare held fuel t cs = some x) :
    ∃ (v0 v1 v2 : Value) (y0 y1 y2 : DataW H × List MemPlace) (n : Nat), cs = [v0, v1, v2] ∧ DataW.trod enc P w base spare held n f0.type [v0] = some y0 ∧ DataW.trod enc P w base spare held n f1.type [v1] = some y1 ∧ DataW.trod enc P w base spare held n f2.type [v2] = some y2 := by
  obtain ⟨xs, n, _, hx, hcl, hlen, hg⟩ := DataW.trod_struct hs h
  rw [hC] at hcl
  match cs, hcl with
  | [c0, c1, c2], _ =>
    obtain ⟨o0, k0⟩ := Go.Deep.hone_of hone 0 f0 rfl
    obtain ⟨o1, k1⟩ := Go.Deep.hone_of hone 1 f1 rfl
    obtain ⟨o2, k2⟩ := Go.Deep.hone_of hone 2 f2 rfl
    match xs, hlen with
    | [y0, y1, y2], _ =>
      exact ⟨c0, c1, c2, y0, y1, y2, n, rfl, by simpa [o0, k0] using hg 0 f0 rfl, by simpa [o1, k1] using hg 1 f1 rfl, by simpa [o2, k2] using hg 2 f2 rfl⟩
/-- A struct of 4 fields of one cell each, in its cells. -/
theorem trod_fields4 {t : TypeId} {f0 f1 f2 f3 : Field} {fuel : Nat} {cs : List Value} {x : DataW H × List MemPlace} (hs : P.underlying t = some (.struct #[f0, f1, f2, f3])) (hone : Go.Deep.oneCellFields P #[f0, f1, f2, f3] = true) (hC : P.cellsOf t = 4)
    (h : DataW.trod enc P w base spare held fuel t cs = some x) :
    ∃ (v0 v1 v2 v3 : Value) (y0 y1 y2 y3 : DataW H × List MemPlace) (n : Nat), cs = [v0, v1, v2, v3] ∧ DataW.trod enc P w base spare held n f0.type [v0] = some y0 ∧ DataW.trod enc P w base spare held n f1.type [v1] = some y1 ∧ DataW.trod enc P w base spare held n f2.type [v2] = some y2 ∧ DataW.trod enc P w base spare held n f3.type [v3] = some y3 := by
  obtain ⟨xs, n, _, hx, hcl, hlen, hg⟩ := DataW.trod_struct hs h
  rw [hC] at hcl
  match cs, hcl with
  | [c0, c1, c2, c3], _ =>
    obtain ⟨o0, k0⟩ := Go.Deep.hone_of hone 0 f0 rfl
    obtain ⟨o1, k1⟩ := Go.Deep.hone_of hone 1 f1 rfl
    obtain ⟨o2, k2⟩ := Go.Deep.hone_of hone 2 f2 rfl
    obtain ⟨o3, k3⟩ := Go.Deep.hone_of hone 3 f3 rfl
    match xs, hlen with
    | [y0, y1, y2, y3], _ =>
      exact ⟨c0, c1, c2, c3, y0, y1, y2, y3, n, rfl, by simpa [o0, k0] using hg 0 f0 rfl, by simpa [o1, k1] using hg 1 f1 rfl, by simpa [o2, k2] using hg 2 f2 rfl, by simpa [o3, k3] using hg 3 f3 rfl⟩

theorem open_rowOf {α : Type} {c : α → List Value} {Q : α → Prop} {size : Nat} (hsize : ∀ a, (c a).length = size) (h0 : 0 < size) {t e : TypeId} (hC : P.cellsOf e = size)
    (dec : Dec enc P w base spare held e c Q) (ht : P.underlying t = some (.slice e)) {A : Option Addr} {len cap : Nat} {d : DataW H} {ps : List MemPlace} (h : DataW.Trod enc P w base spare held t (.slice A len cap) d ps) :
    ∃ l : List α, l.length = len ∧ RowOf c size w w.heap.size A l ∧ (∀ a ∈ l, Q a) ∧ len ≤ cap ∧ cap ≤ maxLen := by
  obtain ⟨fuel, hf⟩ := h
  rcases Go.Deep.open_slice ht hf with ⟨hcs, _⟩ | ⟨a, l', c', m, n, D, Pl, hcs, hb, hl, hm, hmm, _, hi⟩
  · simp [Value.cells] at hcs
    obtain ⟨rfl, rfl, rfl⟩ := hcs
    exact ⟨[], rfl, fun i x hx => by simp at hx, fun a ha => by simp at ha, Nat.le_refl _, by simp⟩
  · simp [Value.cells] at hcs
    obtain ⟨rfl, rfl, rfl⟩ := hcs
    have hlm : len ≤ m := by rw [hmm]; split <;> omega
    have hp : ∀ i, i < len → ∃ x, (∀ j u, (c x)[j]? = some u → w.cell? (a.add (i * size + j)) = some u) ∧ Q x := by
      intro i hi'
      obtain ⟨cs', hc1, hc2⟩ := hi i (by omega)
      obtain ⟨x, rfl, hq⟩ := dec _ _ _ hc2
      obtain ⟨_, hcl, hcell⟩ := World.cells?_some hc1
      refine ⟨x, fun j u hu => ?_, hq⟩
      have hj : j < size := by rw [← hsize x]; exact (List.getElem?_eq_some_iff.1 hu).1
      have := hcell j (by rw [hC]; exact hj)
      rw [hC, add_of_add] at this
      rw [this, hu]
    obtain ⟨l, hll, hr⟩ := pick hp
    refine ⟨l, hll, fun i x hx => ⟨a, rfl, ?_, (hr i x hx).1⟩, fun x hx => ?_, hl, hm⟩
    · have hc := (hr i x hx).1 0 ((c x)[0]'(by rw [hsize]; exact h0)) (List.getElem?_eq_getElem _)
      have := World.block_lt_of_cell? w _ hc
      rwa [block_of_add] at this
    · obtain ⟨i, hi', hx'⟩ := List.mem_iff_getElem.1 hx
      exact (hr i x (by rw [List.getElem?_eq_getElem hi', hx'])).2
/-- How many bytes it may take at most. -/
theorem open_sized {ts : List TypeId} {ds : List (DataW H)} {j : Nat} {t e : TypeId} {d : DataW H} {A : Option Addr} {len cap B : Nat} {ps : List MemPlace}
    (hsz : (DataW.weightsEach P ts ds).all (· ≤ reachBytes) = true) (htj : ts[j]? = some t) (hdj : ds[j]? = some d) (ht : P.underlying t = some (.slice e)) (hB : P.bytesOf e = B)
    (h : DataW.Trod enc P w base spare held t (.slice A len cap) d ps) : len * B ≤ 140737488351232 := by
  obtain ⟨fuel, hf⟩ := h
  rcases Go.Deep.open_slice ht hf with ⟨hcs, _⟩ | ⟨a, l', c', m, n, D, Pl, hcs, hb, hl, hm, hmm, hx, hi⟩
  · simp [Value.cells] at hcs
    obtain ⟨rfl, rfl, rfl⟩ := hcs
    simp
  · simp [Value.cells] at hcs
    obtain ⟨rfl, rfl, rfl⟩ := hcs
    obtain ⟨rfl, _⟩ := Prod.mk.inj hx
    have z := sized_slice hsz htj hdj ht
    rw [hB] at z
    refine Nat.le_trans (Nat.mul_le_mul_right _ ?_) z
    simp
end

theorem wf_u8 {x : Int} (h : (Lit.int .u8 x).wf = true) : 0 ≤ x ∧ x < 256 := by
  have := bounds_u8 h; omega
end Go.Proofs.YtkihoonjekccgaaDoor.K

/- The sum, over bit vectors: plain laws. -/
namespace Go.Proofs.YtkihoonjekccgaaDoor.K
set_option linter.unusedVariables false
set_option linter.unusedSimpArgs false
abbrev B16 := BitVec 16
/-- One bit goes by. -/
def gs (x : B16) : B16 := (x <<< 1) ^^^ (if x.msb then 0x1021#16 else 0#16)
/-- k bits go by. -/
def gn : Nat → B16 → B16
  | 0, x => x
  | k + 1, x => gn k (gs x)
theorem gs_xor (x y : B16) : gs (x ^^^ y) = gs x ^^^ gs y := by
  unfold gs
  rw [BitVec.msb_xor]
  have h : (x ^^^ y) <<< 1 = (x <<< 1) ^^^ (y <<< 1) := by
    apply BitVec.eq_of_getLsbD_eq
    intro i hi
    simp only [BitVec.getLsbD_shiftLeft, BitVec.getLsbD_xor]
    cases decide (i < 16) <;> cases decide (i < 1) <;> simp
  rw [h]
  generalize x <<< 1 = a
  generalize y <<< 1 = b
  cases x.msb <;> cases y.msb
  · simp
  · simp [BitVec.xor_assoc]
  · simp only [Bool.bne_false, Bool.bne_true, Bool.not_false, Bool.not_true, if_true, if_false, BitVec.xor_zero, reduceIte, Bool.false_eq_true, bne_self_eq_false, Bool.true_bne, Bool.false_bne]
    rw [BitVec.xor_assoc, BitVec.xor_assoc, BitVec.xor_comm b]
  · simp only [Bool.bne_false, Bool.bne_true, Bool.not_false, Bool.not_true, if_true, if_false, BitVec.xor_zero, reduceIte, Bool.false_eq_true, bne_self_eq_false, Bool.true_bne, Bool.false_bne]
    rw [BitVec.xor_assoc a, BitVec.xor_comm 4129#16 (b ^^^ 4129#16), BitVec.xor_assoc b, BitVec.xor_self, BitVec.xor_zero]
theorem gn_xor (k : Nat) (x y : B16) : gn k (x ^^^ y) = gn k x ^^^ gn k y := by
  induction k generalizing x y with
  | zero => rfl
  | succ k ih => simp only [gn]; rw [gs_xor, ih]
theorem gn_add (j k : Nat) (x : B16) : gn (j + k) x = gn k (gn j x) := by
  induction j generalizing x with
  | zero => rw [Nat.zero_add]; rfl
  | succ j ih => rw [Nat.succ_add]; simp only [gn]; exact ih _
theorem gn_succ (k : Nat) (x : B16) : gn (k + 1) x = gs (gn k x) := gn_add k 1 x
theorem gn_zero (k : Nat) : gn k 0#16 = 0#16 := by
  induction k with
  | zero => rfl
  | succ k ih => simp only [gn]; rw [show gs 0#16 = 0#16 by decide]; exact ih
theorem gs_low (x : B16) (h : x.toNat < 32768) : (gs x).toNat = 2 * x.toNat := by
  have hm : x.msb = false := by rw [BitVec.msb_eq_decide]; simp; omega
  unfold gs
  rw [hm]
  simp [BitVec.toNat_shiftLeft]
  omega
theorem gn_low (k : Nat) : ∀ x : B16, x.toNat * 2 ^ k < 65536 → (gn k x).toNat = x.toNat * 2 ^ k := by
  induction k with
  | zero => intro x _; simp [gn]
  | succ k ih =>
    intro x h
    have hp : 1 ≤ 2 ^ k := Nat.one_le_two_pow
    have h2 : x.toNat * 2 ^ (k + 1) = 2 * x.toNat * 2 ^ k := by rw [Nat.pow_succ]; ac_rfl
    have hx : 2 * x.toNat ≤ 2 * x.toNat * 2 ^ k := Nat.le_mul_of_pos_right _ (by omega)
    have hs := gs_low x (by omega)
    simp only [gn]
    rw [ih (gs x) (by rw [hs]; omega), hs, h2]
theorem gs_inj0 (x : B16) (h : gs x = 0#16) : x = 0#16 := by
  have h2 := congrArg BitVec.toNat h
  unfold gs at h2
  cases hm : x.msb with
  | false =>
    rw [hm] at h2
    rw [BitVec.msb_eq_decide] at hm
    simp [BitVec.toNat_shiftLeft] at h2 hm
    apply BitVec.eq_of_toNat_eq
    simp
    omega
  | true =>
    exfalso
    have h3 := congrArg (fun z : B16 => z.getLsbD 0) h
    unfold gs at h3
    simp [hm] at h3
theorem gn_inj0 (k : Nat) : ∀ x : B16, gn k x = 0#16 → x = 0#16 := by
  induction k with
  | zero => intro x h; exact h
  | succ k ih => intro x h; exact gs_inj0 _ (ih _ h)
theorem xor_eq0 {x y : B16} : x ^^^ y = 0#16 ↔ x = y := by
  constructor
  · intro h
    have := congrArg (· ^^^ y) h
    simpa [BitVec.xor_assoc] using this
  · rintro rfl; simp
theorem gn_inj (k : Nat) {x y : B16} (h : gn k x = gn k y) : x = y := by
  have : gn k (x ^^^ y) = 0#16 := by rw [gn_xor]; exact xor_eq0.2 h
  exact xor_eq0.1 (gn_inj0 k _ this)
/-- A byte, ahead of the sum. -/
def up (c : Int) : B16 := BitVec.ofNat 16 (c.toNat * 256)
def sb (s : B16) (c : Int) : B16 := gn 8 (s ^^^ up c)
def cf (s : B16) (l : List Int) : B16 := l.foldl sb s
theorem cf_app (s : B16) (a b : List Int) : cf s (a ++ b) = cf (cf s a) b := by simp [cf]
theorem cf_snoc (s : B16) (a : List Int) (c : Int) : cf s (a ++ [c]) = sb (cf s a) c := by simp [cf]
/-- The sum of bytes. -/
def crc (l : List Int) : B16 := cf 0xFFFF#16 l
def crcN (l : List Int) : Int := ((crc l).toNat : Int)
theorem crcN_bound (l : List Int) : 0 ≤ crcN l ∧ crcN l < 65536 := by
  have := (crc l).isLt
  unfold crcN
  omega
theorem up_toNat (c : Int) (h : 0 ≤ c ∧ c < 256) : (up c).toNat = c.toNat * 256 := by
  unfold up
  rw [BitVec.toNat_ofNat]
  omega
theorem gn8_byte (c : Int) (h : 0 ≤ c ∧ c < 256) : gn 8 (BitVec.ofNat 16 c.toNat) = up c := by
  apply BitVec.eq_of_toNat_eq
  have h1 : (BitVec.ofNat 16 c.toNat).toNat = c.toNat := by rw [BitVec.toNat_ofNat]; omega
  rw [gn_low 8 _ (by rw [h1]; omega), h1, up_toNat c h]
/-- Two bytes behind a sum lead to 0 just where they are it. -/
theorem two_zero (s : B16) (p q : Int) (hp : 0 ≤ p ∧ p < 256) (hq : 0 ≤ q ∧ q < 256) : sb (sb s p) q = 0#16 ↔ (s.toNat : Int) = p * 256 + q := by
  have hv : up p ^^^ BitVec.ofNat 16 q.toNat = BitVec.ofNat 16 (p.toNat * 256 + q.toNat) := by
    unfold up
    apply BitVec.eq_of_toNat_eq
    rw [BitVec.toNat_xor]
    simp only [BitVec.toNat_ofNat]
    rw [Nat.mod_eq_of_lt (by omega : p.toNat * 256 < 2 ^ 16), Nat.mod_eq_of_lt (by omega : q.toNat < 2 ^ 16), Nat.mod_eq_of_lt (by omega : p.toNat * 256 + q.toNat < 2 ^ 16)]
    have h1 : p.toNat * 256 = p.toNat <<< 8 := by rw [Nat.shiftLeft_eq]
    have hor : p.toNat <<< 8 + q.toNat = p.toNat <<< 8 ||| q.toNat := Nat.shiftLeft_add_eq_or_of_lt (by omega) _
    have hand : p.toNat <<< 8 &&& q.toNat = 0 := by
      apply Nat.eq_of_testBit_eq
      intro i
      rw [Nat.testBit_and, Nat.testBit_shiftLeft, Nat.zero_testBit]
      by_cases h8 : 8 ≤ i
      · have : q.toNat.testBit i = false := Nat.testBit_lt_two_pow (Nat.lt_of_lt_of_le (by omega : q.toNat < 2 ^ 8) (Nat.pow_le_pow_right (by omega) h8))
        rw [this]; simp
      · simp [h8]
    rw [h1, hor]
    apply Nat.eq_of_testBit_eq
    intro i
    have := congrArg (fun n => Nat.testBit n i) hand
    simp only [Nat.testBit_and, Nat.zero_testBit] at this
    rw [Nat.testBit_xor, Nat.testBit_or]
    cases h2 : (p.toNat <<< 8).testBit i <;> cases h3 : q.toNat.testBit i <;> simp_all
  constructor
  · intro h
    have h1 := gn_inj0 8 _ h
    have h2 := xor_eq0.1 h1
    rw [← gn8_byte q hq] at h2
    have h3 := gn_inj 8 h2
    have h4 : s = up p ^^^ BitVec.ofNat 16 q.toNat := by
      have := congrArg (· ^^^ up p) h3
      simp only [BitVec.xor_assoc, BitVec.xor_self, BitVec.xor_zero] at this
      rw [this, BitVec.xor_comm]
    rw [h4, hv, BitVec.toNat_ofNat]
    omega
  · intro h
    have h4 : s = up p ^^^ BitVec.ofNat 16 q.toNat := by
      rw [hv]
      apply BitVec.eq_of_toNat_eq
      rw [BitVec.toNat_ofNat]
      omega
    unfold sb
    rw [h4, BitVec.xor_comm (up p), BitVec.xor_assoc, BitVec.xor_self, BitVec.xor_zero, gn8_byte q hq, BitVec.xor_self, gn_zero]
end Go.Proofs.YtkihoonjekccgaaDoor.K

/- The shelf's contracts of tryGrowByReslice and growSlice at this program, written by the kit's own tools. -/
namespace Go.Proofs
open Go.Shelf
def Tryd.laysM251_ren : Go.Shelf.Ren := ⟨fun | 251 => 55 | n => n, fun | 130 => 116 | 3 => 3 | 4 => 4 | 0 => 0 | 93 => 85 | 37 => 32 | 91 => 83 | 5 => 5 | n => n, fun | n => n⟩
theorem Tryd.laysM251 : Go.Proofs.LaysM.n251 Tryd.prog Tryd.laysM251_ren := {
  mixed := by kernel_rfl
  f251 := Tryd.func55.trans (congrArg some (by kernel_rfl))
  t0 := Tryd.underlying0
  a0 := Tryd.isAgg0
  z0 := Tryd.sizeOf0
  v0 := Tryd.zeroValue0
  t3 := Tryd.underlying3
  a3 := Tryd.isAgg3
  z3 := Tryd.sizeOf3
  v3 := Tryd.zeroValue3
  t4 := Tryd.underlying4
  a4 := Tryd.isAgg4
  z4 := Tryd.sizeOf4
  v4 := Tryd.zeroValue4
  t37 := Tryd.underlying32
  a37 := Tryd.isAgg32
  z37 := Tryd.sizeOf32
  v37 := Tryd.zeroValue32
  t93 := Tryd.underlying85
  a93 := Tryd.isAgg85
  z93 := Tryd.sizeOf85
  v93 := Tryd.zeroValue85
  t130 := Tryd.underlying116
  a130 := Tryd.isAgg116
  z130 := Tryd.sizeOf116
  v130 := Tryd.zeroValue116
  t5 := Tryd.underlying5
  a5 := Tryd.isAgg5
  z5 := Tryd.sizeOf5
  v5 := Tryd.zeroValue5
  t91 := Tryd.underlying83
  a91 := Tryd.isAgg83
  z91 := Tryd.sizeOf83
  v91 := Tryd.zeroValue83
  i0 := by kernel_rfl
  i3 := by kernel_rfl
  i4 := by kernel_rfl
  i5 := by kernel_rfl
  i37 := by kernel_rfl
  i91 := by kernel_rfl
  i93 := by kernel_rfl
  i130 := by kernel_rfl }
def Tryd.laysM290_ren : Go.Shelf.Ren := ⟨fun | 290 => 60 | 324 => 61 | n => n, fun | 37 => 32 | 3 => 3 | 0 => 0 | 4 => 4 | 20 => 20 | 75 => 109 | 5 => 5 | 80 => 125 | 9 => 9 | n => n, fun | 14 => 1 | n => n⟩
theorem Tryd.laysM290 : Go.Proofs.LaysM.n290 Tryd.prog Tryd.laysM290_ren := {
  mixed := by kernel_rfl
  f290 := Tryd.func60.trans (congrArg some (by kernel_rfl))
  f324 := Tryd.func61.trans (congrArg some (by kernel_rfl))
  t0 := Tryd.underlying0
  a0 := Tryd.isAgg0
  z0 := Tryd.sizeOf0
  v0 := Tryd.zeroValue0
  t3 := Tryd.underlying3
  a3 := Tryd.isAgg3
  z3 := Tryd.sizeOf3
  v3 := Tryd.zeroValue3
  t4 := Tryd.underlying4
  a4 := Tryd.isAgg4
  z4 := Tryd.sizeOf4
  v4 := Tryd.zeroValue4
  t20 := Tryd.underlying20
  a20 := Tryd.isAgg20
  z20 := Tryd.sizeOf20
  v20 := Tryd.zeroValue20
  t37 := Tryd.underlying32
  a37 := Tryd.isAgg32
  z37 := Tryd.sizeOf32
  v37 := Tryd.zeroValue32
  t75 := Tryd.underlying109
  a75 := Tryd.isAgg109
  z75 := Tryd.sizeOf109
  v75 := Tryd.zeroValue109
  g14 := by kernel_rfl
  t5 := Tryd.underlying5
  a5 := Tryd.isAgg5
  z5 := Tryd.sizeOf5
  v5 := Tryd.zeroValue5
  t9 := Tryd.underlying9
  a9 := Tryd.isAgg9
  z9 := Tryd.sizeOf9
  v9 := Tryd.zeroValue9
  t80 := Tryd.underlying125
  a80 := Tryd.isAgg125
  z80 := Tryd.sizeOf125
  v80 := Tryd.zeroValue125
  i0 := by kernel_rfl
  i3 := by kernel_rfl
  i4 := by kernel_rfl
  i5 := by kernel_rfl
  i9 := by kernel_rfl
  i20 := by kernel_rfl
  i37 := by kernel_rfl
  i75 := by kernel_rfl
  i80 := by kernel_rfl
  m14 := by kernel_rfl }
open Go.RowKit in
theorem Tryd.Buffer_tryGrow_room_at (b q : Nat) (ao : Option Addr) (l cap n : Nat) (w : World) (c0 : w.cell? ⟨b, q, none⟩ = some (.slice ao l cap)) (f0 : w.frozen? ⟨b, q, none⟩ = false) (hlc : l ≤ cap) (hcap : cap ≤ maxLen) (hn : n ≤ cap - l) :
    Calls Tryd.prog 55 #[.pointer (some ⟨b, q, none⟩), .int .i64 n] w fun e w' => e = .returned (.tuple #[.int .i64 l, .bool true]) ∧ w' = w.setCell ⟨b, q, none⟩ (.slice ao (l + n) cap) := Any.Buffer_tryGrow_room_at Tryd.laysM251 b q ao l cap n w c0 f0 hlc hcap hn
open Go.RowKit in
theorem Tryd.Buffer_tryGrow_none_at (b q : Nat) (ao : Option Addr) (l cap n : Nat) (w : World) (c0 : w.cell? ⟨b, q, none⟩ = some (.slice ao l cap)) (hlc : l ≤ cap) (hcap : cap ≤ maxLen) (hn : cap - l < n) :
    Calls Tryd.prog 55 #[.pointer (some ⟨b, q, none⟩), .int .i64 n] w fun e w' => e = .returned (.tuple #[.int .i64 0, .bool false]) ∧ w' = w := Any.Buffer_tryGrow_none_at Tryd.laysM251 b q ao l cap n w c0 hlc hcap hn
open Go.RowKit in
theorem Tryd.bytes_growSlice_row (g l c n : Nat) (cur : Array Value) (w : World) (hg : w.heap[g]? = some (.cells cur 5 (0, 0))) (hcs : cur.size = c) (hlc : l ≤ c) (hn : 1 ≤ n) (hlim : l + n ≤ 140737488355328) (hc2 : c ≤ 140737488355328) (h1 : ∀ v ∈ cur.toList.take l, v.oneCell' = true) :
    Calls Tryd.prog 60 #[.slice (some ⟨g, 0, none⟩) l c, .int .i64 n] w fun e w' => ∃ cap2 cells, e = .returned (.slice (some ⟨w.heap.size, 0, none⟩) l cap2) ∧ w'.heap[w.heap.size]? = some (.cells cells 5 (0, 0)) ∧
      cells.size = cap2 ∧ cells.toList.take l = cur.toList.take l ∧ l + n ≤ cap2 ∧ cap2 ≤ maxLen ∧ Below w.heap.size w w' := Any.bytes_growSlice_row Tryd.laysM290 g l c n cur w hg hcs hlc hn hlim hc2 h1
open Go.RowKit in
theorem Tryd.bytes_growSlice_nil (n : Nat) (w : World) (hn : 1 ≤ n) (hlim : n ≤ 140737488355328) :
    Calls Tryd.prog 60 #[.slice none 0 0, .int .i64 n] w fun e w' => ∃ cap2 cells, e = .returned (.slice (some ⟨w.heap.size, 0, none⟩) 0 cap2) ∧ w'.heap[w.heap.size]? = some (.cells cells 5 (0, 0)) ∧
      cells.size = cap2 ∧ n ≤ cap2 ∧ cap2 ≤ maxLen ∧ Below w.heap.size w w' := Any.bytes_growSlice_nil Tryd.laysM290 n w hn hlim
end Go.Proofs

/- bytes.Buffer, the first field of a Writer: grow, with what it leaves alone. -/
namespace Go.Proofs.YtkihoonjekccgaaDoor.K
open Go.RowKit
set_option linter.unusedVariables false
set_option linter.unusedSimpArgs false
theorem info_u8 : (Tryd.prog.info? 5).map (fun i => (i.zero, i.size, i.bytes)) = some (some (.int .u8 0), 1, 1) := by kernel_rfl
/-- Block b is a Writer that has only been written: its row is v, its bytes bs. -/
def Buf (b : Nat) (v : Value) (bs : List Value) (w : World) : Prop := (∃ lr, Blk w b 89 #[v, .int .i64 0, .int .i8 lr]) ∧ w.ownsRow 0 5 1 v bs.length bs ∧ v.ownBlock ≠ some b

set_option maxHeartbeats 4000000 in
set_option maxRecDepth 10000 in
theorem len_own {b : Nat} {w : World} {A : Option Addr} {l c : Nat} {lr : Int} (h : Blk w b 89 #[.slice A l c, .int .i64 0, .int .i8 lr]) (hl : l ≤ 9223372036854775807) :
    Calls Tryd.prog 58 #[.pointer (some ⟨b, 0, none⟩)] w fun e w' => e = .returned (.int .i64 l) ∧ ∃ n, w' = w.drewN n := by
  have c0 : w.cell? ⟨b, 0, none⟩ = some (.slice A l c) := h.cell 0
  have c1 : w.cell? ⟨b, 1, none⟩ = some (.int .i64 0) := h.cell 1
  go_enter Tryd.func58, Tryd.ntmps58
  go_wp2_with fail
  go_quiet (fail)
  go_wp2
  go_ret
  exact ⟨rfl, _, rfl⟩

/-- What grow leaves: room for n more, what was there in front. -/
def GrowPost (b : Nat) (bs : List Value) (n : Nat) (w : World) (e : Ending) (w' : World) : Prop :=
  e = .returned (.int .i64 bs.length) ∧ ∃ k cap cells, w.heap.size ≤ k ∧ (∃ lr, Blk w' b 89 #[.slice (some ⟨k, 0, none⟩) (bs.length + n) cap, .int .i64 0, .int .i8 lr]) ∧ Blk w' k 5 cells ∧ cells.size = cap ∧ cap ≤ maxLen ∧ bs.length + n ≤ cap ∧ cells.toList.take bs.length = bs ∧ Fr1 b w w'

theorem blk_now {w w1 : World} {b : Nat} {t : TypeId} {cs : Array Value} (h : Blk w b t cs) {q : Nat} (e : w1 = w.drewN q) : Blk w1 b t cs := by subst e; exact h
theorem made_take (n : Nat) (hn : n ≤ 64) : (madeCells #[.int .u8 0] 64).size = 64 := by simp [madeCells]
set_option maxHeartbeats 4000000 in
set_option maxRecDepth 10000 in
theorem grow_small {b n : Nat} {lr : Int} {w : World} (h : Blk w b 89 #[.slice none 0 0, .int .i64 0, .int .i8 lr]) (hn : 1 ≤ n) (h64 : n ≤ 64) :
    Calls Tryd.prog 56 #[.pointer (some ⟨b, 0, none⟩), .int .i64 n] w (GrowPost b [] n w) := by
  obtain ⟨i0, hi, hz0, hz1, hz2⟩ := info_parts info_u8
  have hmk : ∀ W, (Instr.makeSlice 32 (.int .i64 n) (.int .i64 64)).run Tryd.prog W = .ok (.slice (some ⟨W.heap.size, 0, none⟩) n 64) (W.alloc (.cells (madeCells #[.int .u8 0] 64) 5)) := fun W => by
    have := run_make (P := Tryd.prog) W 32 5 i0 (.int .u8 0) Tryd.underlying32 hi hz0 .i64 .i64 n 64 (by omega) (by omega) (by rw [hz2]; omega) (by omega)
    rw [hz1] at this
    simpa [Value.cells] using this
  clear hi hz0 hz1 hz2
  have hnil : ∀ W, (binOp .eql 32 (.slice none 0 0) (.slice none 0 0)).run Tryd.prog W = .ok (.bool true) W := fun W => Lib.run_eql_slice_nil_nil W 0 0 Tryd.underlying32
  have c0 : w.cell? ⟨b, 0, none⟩ = some (.slice none 0 0) := h.cell 0
  go_enter Tryd.func56, Tryd.ntmps56
  go_wp2_with fail
  (with_reducible refine (len_own h (by omega)).mono ?_)
  rintro e w1 ⟨rfl, q, hw1⟩
  have H1 := Lib.hid (blk_now h hw1)
  have F1 : Hid (Fr1 b w w1) := Lib.hid (by subst hw1; exact (Fr.refl _ _).drewN q)
  have hs : w1.heap.size = w.heap.size := by subst hw1; rfl
  have HS := Lib.hid hs
  clear hw1 hs c0
  have c0 : w1.cell? ⟨b, 0, none⟩ = some (.slice none 0 0) := H1.out.cell 0
  have c1 : w1.cell? ⟨b, 1, none⟩ = some (.int .i64 0) := H1.out.cell 1
  have f0 := H1.out.frozen 0
  have c0' : (w1.alloc (.cells (madeCells #[.int .u8 0] 64) 5)).cell? ⟨b, 0, none⟩ = some (.slice none 0 0) := (H1.out.alloc _).cell 0
  have f0' : (w1.alloc (.cells (madeCells #[.int .u8 0] 64) 5)).frozen? ⟨b, 0, none⟩ = false := (H1.out.alloc _).frozen 0
  go_wp2_with (go_at_call 55; (with_reducible refine (Tryd.Buffer_tryGrow_none_at b 0 none 0 0 n w1 c0 (by omega) (by decide) (by omega)).mono ?_); rintro e w2 ⟨rfl, rfl⟩)
  go_ret
  have hlt := H1.out.lt
  refine ⟨rfl, w2.heap.size, 64, madeCells #[.int .u8 0] 64, Nat.le_of_eq HS.out.symm, ⟨lr, ?_⟩, (Blk.new w2 _ _).far (by simp; omega) _, by simp [madeCells], by decide, by simpa using h64, by simp, ?_⟩
  · have := (H1.out.alloc (.cells (madeCells #[.int .u8 0] 64) 5)).set_ 0 (.slice (some ⟨w2.heap.size, 0, none⟩) n 64)
    simpa using this
  · exact (F1.out.alloc _).setCell (fun _ => rfl) _

set_option maxHeartbeats 8000000 in
set_option maxRecDepth 10000 in
theorem grow_big {b n : Nat} {lr : Int} {w : World} (h : Blk w b 89 #[.slice none 0 0, .int .i64 0, .int .i8 lr]) (h64 : 64 < n) (hlim : n ≤ 140737488355328) :
    Calls Tryd.prog 56 #[.pointer (some ⟨b, 0, none⟩), .int .i64 n] w (GrowPost b [] n w) := by
  have hnil : ∀ W, (binOp .eql 32 (.slice none 0 0) (.slice none 0 0)).run Tryd.prog W = .ok (.bool true) W := fun W => Lib.run_eql_slice_nil_nil W 0 0 Tryd.underlying32
  have c0 : w.cell? ⟨b, 0, none⟩ = some (.slice none 0 0) := h.cell 0
  go_enter Tryd.func56, Tryd.ntmps56
  go_wp2_with fail
  (with_reducible refine (len_own h (by omega)).mono ?_)
  rintro e w1 ⟨rfl, q, hw1⟩
  have H1 := Lib.hid (blk_now h hw1)
  have F1 : Hid (Fr1 b w w1) := Lib.hid (by subst hw1; exact (Fr.refl _ _).drewN q)
  have hs : w1.heap.size = w.heap.size := by subst hw1; rfl
  have HS := Lib.hid hs
  clear hw1 hs c0
  have c0 : w1.cell? ⟨b, 0, none⟩ = some (.slice none 0 0) := H1.out.cell 0
  have c1 : w1.cell? ⟨b, 1, none⟩ = some (.int .i64 0) := H1.out.cell 1
  have f0 := H1.out.frozen 0
  have hwn : IntKind.i64.wrap (n : Int) = n := by rw [IntKind.wrap_i64]; omega
  go_wp2_with (go_at_call 55; (with_reducible refine (Tryd.Buffer_tryGrow_none_at b 0 none 0 0 n w1 c0 (by omega) (by decide) (by omega)).mono ?_); rintro e w2 ⟨rfl, rfl⟩)
  go_region_with (go_at_call 60; refine (Tryd.bytes_growSlice_nil n _ (by omega) hlim).mono ?_; rintro e w3 ⟨cap2, cells, rfl, hg, hcs, hnc, hcm, hb3⟩; have B3 := Lib.hid hb3; have G3 : Hid (Blk w3 w2.heap.size 5 cells) := Lib.hid hg; have H3 := Lib.hid (H1.out.drew.below hb3 H1.out.drew.lt); have d0 := H3.out.cell 0; have d1 := H3.out.cell 1; have e0 := H3.out.frozen 0; have e1 := H3.out.frozen 1; clear hg hb3)
  all_goals
    go_wp2
    go_ret
    have hlt := H1.out.lt
    have hne : b ≠ w2.heap.size := by omega
    refine ⟨rfl, w2.heap.size, cap2, cells, Nat.le_of_eq HS.out.symm, ⟨lr, ?_⟩, ((G3.out.far (Ne.symm hne) _).far (Ne.symm hne) _).far (Ne.symm hne) _, hcs, hcm, by simpa using hnc, by simp, ?_⟩
    · have := ((H3.out.set_ 0 (.slice (some ⟨w2.heap.size, 0, none⟩) 0 cap2)).set_ 1 (.int .i64 0)).set_ 0 (.slice (some ⟨w2.heap.size, 0, none⟩) n cap2)
      simpa using this
    · exact (((F1.out.drew.trans (Fr.of_below B3.out) (fun _ _ h => h.elim)).setCell (fun _ => rfl) _).setCell (fun _ => rfl) _).setCell (fun _ => rfl) _
end Go.Proofs.YtkihoonjekccgaaDoor.K

/- bytes.Buffer.grow where its row has no room. -/
namespace Go.Proofs.YtkihoonjekccgaaDoor.K
open Go.RowKit
set_option linter.unusedVariables false
set_option linter.unusedSimpArgs false
theorem cut0 (g l cap : Nat) (W : World) (hl : l ≤ cap) : (Instr.slice 32 (.slice (some ⟨g, 0, none⟩) l cap) (some (.int .i64 0)) none none).run Tryd.prog W = .ok (.slice (some ⟨g, 0, none⟩) l cap) W := by
  obtain ⟨i0, hi, hz0, hz1, hz2⟩ := info_parts info_u8
  have hel : Tryd.prog.elem 32 = 5 := by simp [Program.elem, Tryd.underlying32]
  have hu : Tryd.prog.underlying 32 = some (.slice (Tryd.prog.elem 32)) := by rw [hel]; exact Tryd.underlying32
  rw [run_slice_l W 32 (some ⟨g, 0, none⟩) l cap hu .i64 0 (by omega) (by omega), hel]
  by_cases hc : cap = 0 <;> simp [sizeOf, typeInfo, hi, sliced, Result.andThen, Addr.add, hc]

set_option maxHeartbeats 8000000 in
set_option maxRecDepth 10000 in
theorem grow_row {b n g l cap : Nat} {lr : Int} {cur : Array Value} {w : World} (h : Blk w b 89 #[.slice (some ⟨g, 0, none⟩) l cap, .int .i64 0, .int .i8 lr]) (hg : Blk w g 5 cur) (hcs : cur.size = cap) (hl : l ≤ cap) (hcm : cap ≤ maxLen) (hn : 1 ≤ n) (hno : cap - l < n) (hlim : l + n ≤ 140737488355328)
    (h1 : ∀ u ∈ cur.toList.take l, u.oneCell' = true) (hbg : g ≠ b) :
    Calls Tryd.prog 56 #[.pointer (some ⟨b, 0, none⟩), .int .i64 n] w (GrowPost b (cur.toList.take l) n w) := by
  have hl0 : l = 0 ∨ 0 < l := by omega
  have hnil : ∀ W, (binOp .eql 32 (.slice (some ⟨g, 0, none⟩) l cap) (.slice none 0 0)).run Tryd.prog W = .ok (.bool false) W := fun W => Lib.run_eql_slice_some_nil W _ _ _ Tryd.underlying32
  have hcut := fun W => cut0 g l cap W hl
  have hcm' := hcm
  unfold maxLen at hcm'
  have hcap : cap ≤ 140737488355328 := by omega
  have hlen : (cur.toList.take l).length = l := by rw [List.length_take, Array.length_toList]; omega
  have HLen := Lib.hid hlen
  have c0 : w.cell? ⟨b, 0, none⟩ = some (.slice (some ⟨g, 0, none⟩) l cap) := h.cell 0
  have HG := Lib.hid hg
  have HO := Lib.hid h1
  clear hlen hg h1
  obtain ⟨m, hm⟩ : ∃ m : Nat, m = l := ⟨_, rfl⟩
  go_enter Tryd.func56, Tryd.ntmps56
  go_wp2_with fail
  (with_reducible refine (len_own h (by omega)).mono ?_)
  rintro e w1 ⟨rfl, q, hw1⟩
  have H1 := Lib.hid (blk_now h hw1)
  have G1 := Lib.hid (blk_now HG.out hw1)
  have F1 : Hid (Fr1 b w w1) := Lib.hid (by subst hw1; exact (Fr.refl _ _).drewN q)
  have hs : w1.heap.size = w.heap.size := by subst hw1; rfl
  have HS := Lib.hid hs
  clear hw1 hs c0
  have c0 : w1.cell? ⟨b, 0, none⟩ = some (.slice (some ⟨g, 0, none⟩) l cap) := H1.out.cell 0
  have c1 : w1.cell? ⟨b, 1, none⟩ = some (.int .i64 0) := H1.out.cell 1
  have f0 := H1.out.frozen 0
  have hwn : IntKind.i64.wrap (n : Int) = n := by rw [IntKind.wrap_i64]; omega
  have t1 : decide ((n : Int) ≤ (cap : Int).tdiv 2 - (l : Int)) = false := by
    rw [decide_eq_false_iff_not, Int.tdiv_eq_ediv_of_nonneg (by omega)]; omega
  have t2 : decide ((cap : Int) > 9223372036854775807 - (cap : Int) - (n : Int)) = false := by
    rw [decide_eq_false_iff_not]; omega
  clear hm m
  clear hl0
  by_cases hl0 : (l : Int) = 0
  all_goals
    go_wp2_with (go_at_call 55; (with_reducible refine (Tryd.Buffer_tryGrow_none_at b 0 _ l cap n w1 c0 hl hcm hno).mono ?_); rintro e w2 ⟨rfl, rfl⟩)
  all_goals
    go_region_with (go_at_call 60; refine (Tryd.bytes_growSlice_row g l cap n cur _ (by exact G1.out) hcs hl hn hlim hcap HO.out).mono ?_; rintro e w3 ⟨cap2, cells, rfl, hg, hcs2, htk, hnc, hcm2, hb3⟩; have B3 := Lib.hid hb3; have G3 : Hid (Blk w3 w2.heap.size 5 cells) := Lib.hid hg; have H3 := Lib.hid (H1.out.drew.below hb3 H1.out.drew.lt); have d0 := H3.out.cell 0; have d1 := H3.out.cell 1; have e0 := H3.out.frozen 0; have e1 := H3.out.frozen 1; have HT := Lib.hid htk; clear hg hb3 htk)
  all_goals
    go_wp2
    go_ret
    have hlt := H1.out.lt
    have hne : b ≠ w2.heap.size := by omega
    have hlen := HLen.out
    refine ⟨by (first | exact congrArg (fun k : Nat => Ending.returned (.int .i64 (k : Int))) hlen.symm | exact congrArg (fun k : Int => Ending.returned (.int .i64 k)) (show (0 : Int) = (((cur.toList.take l).length : Nat) : Int) by rw [hlen, hl0])), w2.heap.size, cap2, cells, Nat.le_of_eq HS.out.symm, ⟨lr, ?_⟩, ((G3.out.far (Ne.symm hne) _).far (Ne.symm hne) _).far (Ne.symm hne) _, hcs2, hcm2, by rw [hlen]; exact hnc, by rw [hlen]; exact HT.out, ?_⟩
    · have := ((H3.out.set_ 0 (.slice (some ⟨w2.heap.size, 0, none⟩) l cap2)).set_ 1 (.int .i64 0)).set_ 0 (.slice (some ⟨w2.heap.size, 0, none⟩) (l + n) cap2)
      rw [hlen]
      first
        | (simpa using this; done)
        | (have e : l + n = n := by omega
           rw [e] at this ⊢
           simpa using this)
    · exact (((F1.out.drew.trans (Fr.of_below B3.out) (fun _ _ h => h.elim)).setCell (fun _ => rfl) _).setCell (fun _ => rfl) _).setCell (fun _ => rfl) _
end Go.Proofs.YtkihoonjekccgaaDoor.K

/- (*bytes.Buffer).WriteByte and Write, with what they leave alone. -/
namespace Go.Proofs.YtkihoonjekccgaaDoor.K
open Go.RowKit
set_option linter.unusedVariables false
set_option linter.unusedSimpArgs false
/-- What may turn where a buffer at b, whose row is v, is written; where its row lies then. -/
structure WFr (b : Nat) (v v' : Value) (w w' : World) : Prop where
  fr : Fr (fun k => k = b ∨ v.ownBlock = some k) w w'
  row : ∀ k, v'.ownBlock = some k → v.ownBlock = some k ∨ w.heap.size ≤ k
theorem WFr.refl (b : Nat) (v : Value) (w : World) : WFr b v v w w := ⟨Fr.refl _ _, fun k h => .inl h⟩
theorem WFr.trans {b : Nat} {v v1 v2 : Value} {w w1 w2 : World} (h : WFr b v v1 w w1) (k : WFr b v1 v2 w1 w2) : WFr b v v2 w w2 :=
  ⟨h.fr.trans k.fr (fun j hj hs => by
      rcases hs with hs | hs
      · exact .inl hs
      · rcases h.row j hs with h' | h'
        · exact .inr h'
        · omega),
   fun j hj => by
      rcases k.row j hj with h' | h'
      · exact h.row j h'
      · exact .inr (Nat.le_trans h.fr.size h')⟩
/-- The buffer has been given room for n more. -/
def Ready (b : Nat) (v : Value) (bs : List Value) (n : Nat) (w w' : World) : Prop :=
  ∃ k cap cells lr, Blk w' b 89 #[.slice (some ⟨k, 0, none⟩) (bs.length + n) cap, .int .i64 0, .int .i8 lr] ∧ Blk w' k 5 cells ∧ cells.size = cap ∧ cap ≤ maxLen ∧ bs.length + n ≤ cap ∧ cells.toList.take bs.length = bs ∧ k ≠ b ∧
    (v.ownBlock = some k ∨ w.heap.size ≤ k) ∧ Fr (fun k => k = b ∨ v.ownBlock = some k) w w'
theorem own_cases {w : World} {v : Value} {bs : List Value} (h : w.ownsRow 0 5 1 v bs.length bs) : (v = .slice none 0 0 ∧ bs = []) ∨ ∃ g cap cur, v = .slice (some ⟨g, 0, none⟩) bs.length cap ∧ Blk w g 5 cur ∧ bs.length ≤ cap ∧ cap ≤ maxLen ∧ cur.size = cap ∧ cur.toList.take bs.length = bs := by
  rcases h.2 with ⟨rfl, h0⟩ | ⟨g, cap, cur, rfl, _, hg, hnc, hcm, hcs, htk⟩
  · exact .inl ⟨rfl, List.eq_nil_of_length_eq_zero h0⟩
  · exact .inr ⟨g, cap, cur, rfl, hg, hnc, hcm, by simpa using hcs, by simpa using htk⟩
/-- Behind tryGrowByReslice and, where it says no, grow. -/
theorem ready_room {b g l cap n : Nat} {lr : Int} {cur : Array Value} {w : World} (hb : Blk w b 89 #[.slice (some ⟨g, 0, none⟩) l cap, .int .i64 0, .int .i8 lr]) (hg : Blk w g 5 cur) (hcs : cur.size = cap) (hcm : cap ≤ maxLen) (hl : l ≤ cap) (hn : n ≤ cap - l) (hgb : g ≠ b) :
    Ready b (.slice (some ⟨g, 0, none⟩) l cap) (cur.toList.take l) n w (w.setCell ⟨b, 0, none⟩ (.slice (some ⟨g, 0, none⟩) (l + n) cap)) := by
  have hlen : (cur.toList.take l).length = l := by rw [List.length_take, Array.length_toList]; omega
  refine ⟨g, cap, cur, lr, ?_, hg.far hgb _, hcs, hcm, by rw [hlen]; omega, by rw [hlen], hgb, .inl (by simp [Value.ownBlock]), (Fr.refl _ w).setCell (fun _ => .inl rfl) _⟩
  rw [hlen]
  have := hb.set_ 0 (.slice (some ⟨g, 0, none⟩) (l + n) cap)
  simpa using this
theorem ready_grown {b : Nat} {v : Value} {bs : List Value} {n : Nat} {w w' : World} {e : Ending} (h : GrowPost b bs n w e w') (hlt : b < w.heap.size) : Ready b v bs n w w' := by
  obtain ⟨_, k, cap, cells, hk, ⟨lr, hb⟩, hg, hcs, hcm, hl, ht, hf⟩ := h
  exact ⟨k, cap, cells, lr, hb, hg, hcs, hcm, hl, ht, by omega, .inr hk, hf.mono (fun j _ e => .inl e)⟩
end Go.Proofs.YtkihoonjekccgaaDoor.K

/- (*bytes.Buffer).WriteByte. -/
namespace Go.Proofs.YtkihoonjekccgaaDoor.K
open Go.RowKit
set_option linter.unusedVariables false
set_option linter.unusedSimpArgs false
/-- A byte is put at the end. -/
theorem ready_poke {b : Nat} {v : Value} {bs : List Value} {w w' : World} {c : Int} {k cap : Nat} {cells : Array Value} {lr : Int} (hv : v.ownBlock ≠ some b)
    (hb : Blk w' b 89 #[.slice (some ⟨k, 0, none⟩) (bs.length + 1) cap, .int .i64 0, .int .i8 lr]) (hg : Blk w' k 5 cells) (hcs : cells.size = cap) (hcm : cap ≤ maxLen) (hl : bs.length + 1 ≤ cap) (ht : cells.toList.take bs.length = bs) (hkb : k ≠ b)
    (hk : v.ownBlock = some k ∨ w.heap.size ≤ k) (hf : Fr (fun k => k = b ∨ v.ownBlock = some k) w w') :
    Buf b (.slice (some ⟨k, 0, none⟩) (bs.length + 1) cap) (bs ++ [.int .u8 c]) (w'.setCell ⟨k, bs.length, none⟩ (.int .u8 c)) ∧ WFr b v (.slice (some ⟨k, 0, none⟩) (bs.length + 1) cap) w (w'.setCell ⟨k, bs.length, none⟩ (.int .u8 c)) := by
  have hlt : bs.length < cells.toList.length := by have := Array.length_toList (xs := cells); omega
  have htk : cells.toList.take (bs.length + 1) = bs ++ [cells.toList[bs.length]] := by rw [List.take_succ_eq_append_getElem hlt, ht]
  have hown0 : w'.ownsRow 0 5 1 (.slice (some ⟨k, 0, none⟩) (bs.length + 1) cap) (bs.length + 1) (cells.toList.take (bs.length + 1)) :=
    ⟨by rw [htk]; simp, .inr ⟨k, cap, cells, rfl, Nat.zero_le _, hg, hl, hcm, by simpa using hcs, by rw [Nat.mul_one]⟩⟩
  have hset : (cells.toList.take (bs.length + 1)).set bs.length (Value.int .u8 c) = bs ++ [Value.int .u8 c] := by rw [htk]; simp
  have hown : (w'.setCell ⟨k, bs.length, none⟩ (.int .u8 c)).ownsRow 0 5 1 (.slice (some ⟨k, 0, none⟩) (bs.length + 1) cap) (bs ++ [Value.int .u8 c]).length (bs ++ [Value.int .u8 c]) := by
    have := (hown0.stored bs.length (.int .u8 c)).1
    rw [hset] at this
    simpa using this
  refine ⟨⟨⟨lr, hb.far (Ne.symm hkb) _⟩, hown, by simp [Value.ownBlock]; exact hkb⟩, hf.setCell (fun hlt => ?_) _, fun j hj => ?_⟩
  · rcases hk with h | h
    · exact .inr h
    · exact absurd hlt (by simpa using h)
  · have : k = j := by simpa [Value.ownBlock] using hj
    subst this; exact hk
theorem try_room {b g l cap n : Nat} {lr : Int} {cur : Array Value} {w : World} (hb : Blk w b 89 #[.slice (some ⟨g, 0, none⟩) l cap, .int .i64 0, .int .i8 lr]) (hg : Blk w g 5 cur) (hcs : cur.size = cap) (hcm : cap ≤ maxLen) (hl : l ≤ cap) (hn : n ≤ cap - l) (hgb : g ≠ b) :
    Calls Tryd.prog 55 #[.pointer (some ⟨b, 0, none⟩), .int .i64 n] w fun e w' => e = .returned (.tuple #[.int .i64 l, .bool true]) ∧ Hid (Ready b (.slice (some ⟨g, 0, none⟩) l cap) (cur.toList.take l) n w w') :=
  (Tryd.Buffer_tryGrow_room_at b 0 _ l cap n w (hb.cell 0) (hb.frozen 0) hl hcm hn).mono fun e w' ⟨h1, h2⟩ => ⟨h1, Lib.hid (h2 ▸ ready_room hb hg hcs hcm hl hn hgb)⟩
set_option maxHeartbeats 4000000 in
set_option maxRecDepth 10000 in
theorem WriteByte_own {b : Nat} {v : Value} {bs : List Value} {c : Int} {w : World} (h : Buf b v bs w) (h1 : ∀ u ∈ bs, u.oneCell' = true) (hlim : bs.length + 1 ≤ 140737488355328) :
    Calls Tryd.prog 57 #[.pointer (some ⟨b, 0, none⟩), .int .u8 c] w fun e w' => e = .returned .nilIface ∧ ∃ v', Hid (Buf b v' (bs ++ [.int .u8 c]) w') ∧ Hid (WFr b v v' w w') := by
  obtain ⟨⟨lr, hb⟩, hown, hvb⟩ := h
  have HVB := Lib.hid hvb
  have c2 : w.cell? ⟨b, 2, none⟩ = some (.int .i8 lr) := hb.cell 2
  have f2 := hb.frozen 2
  have hb0 : Blk (w.setCell ⟨b, 2, none⟩ (.int .i8 0)) b 89 #[v, .int .i64 0, .int .i8 0] := by simpa using hb.set_ 2 (.int .i8 0)
  have HB0 := Lib.hid hb0
  have F0 : Hid (Fr (fun k => k = b ∨ v.ownBlock = some k) w (w.setCell ⟨b, 2, none⟩ (.int .i8 0))) := Lib.hid ((Fr.refl _ w).setCell (fun _ => .inl rfl) _)
  have hs0 : (w.setCell ⟨b, 2, none⟩ (.int .i8 0)).heap.size = w.heap.size := by simp [World.setCell]
  have HS0 := Lib.hid hs0
  have HLT := Lib.hid hb.lt
  rcases own_cases hown with ⟨rfl, rfl⟩ | ⟨g, cap, cur, rfl, hg, hnc, hcm, hcs, htk⟩
  · have c0 : (w.setCell ⟨b, 2, none⟩ (.int .i8 0)).cell? ⟨b, 0, none⟩ = some (.slice none 0 0) := hb0.cell 0
    clear hb hown hvb hb0 hs0 h1 hlim
    go_enter Tryd.func57, Tryd.ntmps57
    go_wp2_with (first | (go_at_call 55; refine (Tryd.Buffer_tryGrow_none_at b 0 none 0 0 1 _ c0 (by omega) (by decide) (by omega)).mono ?_; rintro e w2 ⟨rfl, rfl⟩) | (go_at_call 56; refine (grow_small (n := 1) HB0.out (by omega) (by omega)).mono ?_; rintro e w3 ⟨rfl, k, cap, cells, hk, ⟨lr3, hb3⟩, hg3, hcs3, hcm3, hl3, ht3, hf3⟩; have d0 := hb3.cell 0; have e3 : ∃ x, w3.cell? ⟨k, 0, none⟩ = some x := ⟨_, (hg3.cell 0).trans (Array.getElem?_eq_getElem (by simp at hl3; omega))⟩; obtain ⟨x3, e3⟩ := e3; have f3 := hg3.frozen 0; have B3 := Lib.hid hb3; have G3 := Lib.hid hg3; have T3 := Lib.hid ht3; have F3 := Lib.hid hf3; have K3 := Lib.hid hk; clear hb3 hg3 ht3 hf3 hk))
    go_ret
    have hlt := HLT.out
    have hs := HS0.out
    have hk : w.heap.size ≤ k := by have := K3.out; omega
    have := ready_poke (c := c) (w := w) HVB.out B3.out G3.out hcs3 hcm3 hl3 T3.out (by omega) (.inr hk) (F0.out.trans F3.out (fun _ _ e => .inl e))
    exact ⟨rfl, _, Lib.hid this.1, Lib.hid this.2⟩
  · have hgb : g ≠ b := by rintro rfl; exact hvb (by simp [Value.ownBlock])
    obtain ⟨l, hl⟩ : ∃ l, l = bs.length := ⟨_, rfl⟩
    have HL := Lib.hid hl
    rw [← hl] at hnc hlim htk hb0 HB0 F0 HVB
    have c0 : (w.setCell ⟨b, 2, none⟩ (.int .i8 0)).cell? ⟨b, 0, none⟩ = some (.slice (some ⟨g, 0, none⟩) l cap) := hb0.cell 0
    have f0 := hb0.frozen 0
    have hg0 : Blk (w.setCell ⟨b, 2, none⟩ (.int .i8 0)) g 5 cur := hg.far hgb _
    have HG0 := Lib.hid hg0
    have HTK := Lib.hid htk
    have H1 := Lib.hid h1
    rw [← hl]
    clear hb hown hvb hb0 hs0 h1 hg hg0 htk hl
    have hcm' := hcm
    unfold maxLen at hcm'
    by_cases hroom : 1 ≤ cap - l
    · go_enter Tryd.func57, Tryd.ntmps57
      go_wp2_with (go_at_call 55; refine (try_room (n := 1) HB0.out HG0.out hcs hcm hnc hroom hgb).mono ?_; rintro e w3 ⟨rfl, R⟩; obtain ⟨k, cap3, cells, lr3, hb3, hg3, hcs3, hcm3, hl3, ht3, hkb, hk, hf3⟩ := R.out; rw [HTK.out, ← HL.out] at hb3 hl3; rw [HTK.out] at ht3; have d0 := hb3.cell 0; have e3 : ∃ x, w3.cell? ⟨k, l, none⟩ = some x := ⟨_, (hg3.cell l).trans (Array.getElem?_eq_getElem (by omega))⟩; obtain ⟨x3, e3⟩ := e3; have f3 := hg3.frozen l; have B3 := Lib.hid hb3; have G3 := Lib.hid hg3; have T3 := Lib.hid ht3; have F3 := Lib.hid hf3; have K3 := Lib.hid hk; clear hb3 hg3 ht3 hf3 hk R)
      go_ret
      have hs := HS0.out
      have hl9 := HL.out
      clear HL
      subst hl9
      have := ready_poke (c := c) (w := w) HVB.out B3.out G3.out hcs3 hcm3 hl3 T3.out hkb (by have := K3.out; rwa [hs] at this) (F0.out.trans F3.out (fun _ _ e => e))
      exact ⟨rfl, _, Lib.hid this.1, Lib.hid this.2⟩
    · have hz : cur.toList.take l = bs := HTK.out
      have hlen : (cur.toList.take l).length = l := by rw [hz]; exact HL.out.symm
      have HLEN := Lib.hid hlen
      clear hz hlen
      go_enter Tryd.func57, Tryd.ntmps57
      go_wp2_with (first | (go_at_call 55; refine (Tryd.Buffer_tryGrow_none_at b 0 _ l cap 1 _ c0 hnc hcm (by omega)).mono ?_; rintro e w2 ⟨rfl, rfl⟩) | (go_at_call 56; refine (grow_row (n := 1) HB0.out HG0.out hcs hnc hcm (by omega) (by omega) hlim (by rw [HTK.out]; exact H1.out) hgb).mono ?_; rintro e w3 ⟨rfl, k, cap3, cells, hk, ⟨lr3, hb3⟩, hg3, hcs3, hcm3, hl3, ht3, hf3⟩; rw [HLEN.out] at hb3 hl3 ht3; rw [HTK.out] at ht3; rw [HLEN.out]; have d0 := hb3.cell 0; have e3 : ∃ x, w3.cell? ⟨k, l, none⟩ = some x := ⟨_, (hg3.cell l).trans (Array.getElem?_eq_getElem (by omega))⟩; obtain ⟨x3, e3⟩ := e3; have f3 := hg3.frozen l; have B3 := Lib.hid hb3; have G3 := Lib.hid hg3; have T3 := Lib.hid ht3; have F3 := Lib.hid hf3; have K3 := Lib.hid hk; clear hb3 hg3 ht3 hf3 hk))
      go_ret
      have hlt := HLT.out
      have hs := HS0.out
      have hk : w.heap.size ≤ k := by have := K3.out; omega
      have hl9 := HL.out
      clear HL HLEN
      subst hl9
      have := ready_poke (c := c) (w := w) HVB.out B3.out G3.out hcs3 hcm3 hl3 T3.out (by omega) (.inr hk) (F0.out.trans F3.out (fun _ _ e => .inl e))
      exact ⟨rfl, _, Lib.hid this.1, Lib.hid this.2⟩
end Go.Proofs.YtkihoonjekccgaaDoor.K

/- (*bytes.Buffer).Write. -/
namespace Go.Proofs.YtkihoonjekccgaaDoor.K
open Go.RowKit
set_option linter.unusedVariables false
set_option linter.unusedSimpArgs false
abbrev c8 : Int → List Value := fun x => [.int .u8 x]
theorem Fr.cell {S : Nat → Prop} {w w' : World} (h : Fr S w w') {p : Addr} (hp : p.block < w.heap.size) (hn : ¬ S p.block) : w'.cell? p = w.cell? p := World.cell?_of_block (h.block _ hp hn)
/-- copy(dst, src), dst in a row that is known whole; nothing else turns. -/
theorem copyF {P : Program} {w : World} {ops : Array Oper} {rest : List Oper} {o : Oper} {a : Act} {Q : Exit → Act → World → Prop} (hgd : o.guard = none) (d s : Operand) (dT sT : TypeId)
    (ho : o.op = .call { callee := .builtin .copy, args := #[d, s], argTypes := #[dT, sT] }) (elem : TypeId) (hu : P.underlying dT = some (.slice elem)) (hsz : (P.info? elem).map (·.size) = some 1)
    (dp sp : Option Addr) (dLen dCap sLen sCap : Nat) (hd : a.eval d = .slice dp dLen dCap) (hs : a.eval s = .slice sp sLen sCap)
    (g off : Nat) (cur : Array Value) (t : TypeId) (hg : Blk w g t cur) (cs : List Value) (hn : cs.length = Nat.min sLen dLen)
    (hpos : 0 < cs.length → dp = some ⟨g, off, none⟩ ∧ ∃ ad, sp = some ad ∧ ∀ j v, cs[j]? = some v → w.cell? (ad.add j) = some v)
    (hfit : off + cs.length ≤ cur.size) (h1 : ∀ v ∈ cs, v.oneCell' = true)
    (h : ∀ w', Hid (Blk w' g t (splice cur.toList off cs).toArray) → Hid (Fr1 g w w') → wpList P ops Q rest (a.put o.dst (goInt cs.length)) w') :
    wpList P ops Q (o :: rest) a w := by
  by_cases h0 : cs.length = 0
  · obtain rfl : cs = [] := List.eq_nil_of_length_eq_zero h0
    refine wpList_copy_nothing hgd d s dT sT ho elem hu hsz dp sp dLen dCap sLen sCap hd hs (by simpa using hn.symm) ?_
    exact h w (Lib.hid (by simpa [splice] using hg)) (Lib.hid (Fr.refl _ _))
  · obtain ⟨rfl, ad, rfl, hsrc⟩ := hpos (by omega)
    refine wpList_copy_own hgd d s dT sT ho elem hu hsz g off dLen dCap ad sLen sCap hd hs cur t hg cs hn hsrc hfit h1 ?_
    exact h _ (Lib.hid (show _ = _ by simpa [splice] using setRow_heap w g _ _ t _ hg)) (Lib.hid ⟨rfl, rfl, rfl, by simp [World.setRow], fun k hk hn => setRow_other w g k _ hn⟩)
theorem grow_nil {b n : Nat} {lr : Int} {w : World} (h : Blk w b 89 #[.slice none 0 0, .int .i64 0, .int .i8 lr]) (hn : 1 ≤ n) (hlim : n ≤ 140737488355328) :
    Calls Tryd.prog 56 #[.pointer (some ⟨b, 0, none⟩), .int .i64 n] w (GrowPost b [] n w) := by
  by_cases h64 : n ≤ 64
  · exact grow_small h hn h64
  · exact grow_big h (by omega) hlim
theorem ready_copy {b : Nat} {v : Value} {bs cs : List Value} {w w3 w4 : World} {k cap m : Nat} {cells : Array Value} {lr : Int} (hcm0 : cs.length = m)
    (hb : Blk w3 b 89 #[.slice (some ⟨k, 0, none⟩) (bs.length + m) cap, .int .i64 0, .int .i8 lr]) (hg : Blk w3 k 5 cells) (hcs : cells.size = cap) (hcm : cap ≤ maxLen) (hl : bs.length + m ≤ cap) (ht : cells.toList.take bs.length = bs) (hkb : k ≠ b)
    (hk : v.ownBlock = some k ∨ w.heap.size ≤ k) (hf : Fr (fun k => k = b ∨ v.ownBlock = some k) w w3) (hg4 : Blk w4 k 5 (splice cells.toList bs.length cs).toArray) (hf4 : Fr1 k w3 w4) :
    Buf b (.slice (some ⟨k, 0, none⟩) (bs.length + m) cap) (bs ++ cs) w4 ∧ WFr b v (.slice (some ⟨k, 0, none⟩) (bs.length + m) cap) w w4 := by
  subst hcm0
  have hsz : cells.toList.length = cap := by rw [Array.length_toList, hcs]
  have hlen : (splice cells.toList bs.length cs).length = cap := by rw [length_splice cells.toList bs.length cs (by omega), hsz]
  have htk : (splice cells.toList bs.length cs).take (bs.length + cs.length) = bs ++ cs := by
    unfold splice
    rw [ht, ← List.append_assoc, List.take_append_of_le_length (by simp), List.take_of_length_le (by simp)]
  refine ⟨⟨⟨lr, hb.fr hf4 (Ne.symm hkb)⟩, ⟨by simp, .inr ⟨k, cap, _, by rw [List.length_append], Nat.zero_le _, hg4, by rw [List.length_append]; exact hl, hcm, by simpa using hlen, by rw [Nat.mul_one, List.length_append]; simpa using htk⟩⟩, by simp [Value.ownBlock]; exact hkb⟩, hf.trans hf4 (fun j hj e => ?_), fun j hj => ?_⟩
  · subst e
    rcases hk with h | h
    · exact .inr h
    · omega
  · have : k = j := by simpa [Value.ownBlock] using hj
    subst this; exact hk
theorem src_now {w w3 : World} {b B : Nat} {v : Value} {A : Option Addr} {l : List Int} (h : RowOf c8 1 w B A l) (hB : B ≤ w.heap.size) (hA : 0 < l.length → ∀ ad, A = some ad → ad.block ≠ b ∧ v.ownBlock ≠ some ad.block)
    (hf : Fr (fun k => k = b ∨ v.ownBlock = some k) w w3) (hl : 0 < (nums .u8 l).length) : ∃ ad, A = some ad ∧ ∀ j u, (nums .u8 l)[j]? = some u → w3.cell? (ad.add j) = some u := by
  rw [nums_length] at hl
  obtain ⟨ad, rfl, _, _⟩ := h.num hl
  refine ⟨ad, rfl, fun j u hu => ?_⟩
  have hj : j < l.length := by have := (List.getElem?_eq_some_iff.1 hu).1; rwa [nums_length] at this
  obtain ⟨ad', e, hb, hc⟩ := h.num hj
  injection e with e; subst e
  have hne := hA hl ad rfl
  rw [hf.cell (by rw [block_of_add]; omega) (by rw [block_of_add]; intro h; rcases h with h | h; exact hne.1 h; exact hne.2 h), hc]
  have : (nums .u8 l)[j]? = some (.int .u8 (l.getD j 0)) := by simp [nums, List.getD_eq_getElem?_getD, List.getElem?_eq_getElem hj]
  rw [this] at hu; exact hu
theorem one_nums (k : IntKind) (l : List Int) : ∀ u ∈ nums k l, u.oneCell' = true := by
  intro u hu
  simp only [nums, List.mem_map] at hu
  obtain ⟨x, _, rfl⟩ := hu
  rfl
theorem info1_u8 : (Tryd.prog.info? 5).map (·.size) = some 1 := by kernel_rfl
set_option maxHeartbeats 4000000 in
set_option maxRecDepth 10000 in
theorem Write_own {b B c : Nat} {v : Value} {bs : List Value} {A : Option Addr} {l : List Int} {w : World} (h : Buf b v bs w) (h1 : ∀ u ∈ bs, u.oneCell' = true) (hlim : bs.length + l.length ≤ 140737488355328)
    (hr : RowOf c8 1 w B A l) (hB : B ≤ w.heap.size) (hA : 0 < l.length → ∀ ad, A = some ad → ad.block ≠ b ∧ v.ownBlock ≠ some ad.block) :
    Calls Tryd.prog 48 #[.pointer (some ⟨b, 0, none⟩), .slice A l.length c] w fun e w' => e = .returned (.tuple #[.int .i64 l.length, .nilIface]) ∧ ∃ v', Hid (Buf b v' (bs ++ nums .u8 l) w') ∧ Hid (WFr b v v' w w') := by
  obtain ⟨⟨lr, hb⟩, hown, hvb⟩ := h
  have HVB := Lib.hid hvb
  have c2 : w.cell? ⟨b, 2, none⟩ = some (.int .i8 lr) := hb.cell 2
  have f2 := hb.frozen 2
  have hb0 : Blk (w.setCell ⟨b, 2, none⟩ (.int .i8 0)) b 89 #[v, .int .i64 0, .int .i8 0] := by simpa using hb.set_ 2 (.int .i8 0)
  have HB0 := Lib.hid hb0
  have F0 : Hid (Fr (fun k => k = b ∨ v.ownBlock = some k) w (w.setCell ⟨b, 2, none⟩ (.int .i8 0))) := Lib.hid ((Fr.refl _ w).setCell (fun _ => .inl rfl) _)
  have hs0 : (w.setCell ⟨b, 2, none⟩ (.int .i8 0)).heap.size = w.heap.size := by simp [World.setCell]
  have HS0 := Lib.hid hs0
  have HLT := Lib.hid hb.lt
  have HR := Lib.hid hr
  have HAN := Lib.hid hA
  obtain ⟨m, hm⟩ : ∃ m, m = l.length := ⟨_, rfl⟩
  have HM := Lib.hid hm
  obtain ⟨cs, hcs0⟩ : ∃ cs, cs = nums .u8 l := ⟨_, rfl⟩
  have HCS := Lib.hid hcs0
  have hml : cs.length = m := by rw [hcs0, nums_length, hm]
  have HML := Lib.hid hml
  rw [← hm] at hlim ⊢
  rw [← hcs0]
  have HOne : Hid (∀ u ∈ cs, u.oneCell' = true) := Lib.hid (hcs0 ▸ one_nums _ _)
  clear hml hcs0 hr hA hm
  rcases own_cases hown with ⟨rfl, rfl⟩ | ⟨g, cap, cur, rfl, hg, hnc, hcm, hcs, htk⟩
  · have c0 : (w.setCell ⟨b, 2, none⟩ (.int .i8 0)).cell? ⟨b, 0, none⟩ = some (.slice none 0 0) := hb0.cell 0
    have f0 := hb0.frozen 0
    clear hb hown hvb hb0 hs0 h1
    simp only [List.length_nil, Nat.zero_add] at hlim
    by_cases hm0 : m = 0
    · obtain rfl : cs = [] := List.eq_nil_of_length_eq_zero (HML.out.trans hm0)
      subst hm0
      go_enter Tryd.func48, Tryd.ntmps48
      go_wp2_with (first | (go_at_call 55; refine (Tryd.Buffer_tryGrow_room_at b 0 none 0 0 0 _ c0 f0 (by omega) (by decide) (by omega)).mono ?_; rintro e w2 ⟨rfl, rfl⟩) | (refine wpList_copy_nothing rfl (.tmp 29) (.tmp 30) 32 32 rfl 5 Tryd.underlying32 info1_u8 _ _ _ _ _ _ rfl rfl (by simp) ?_))
      go_ret2
      refine ⟨rfl, .slice none 0 0, Lib.hid ⟨⟨0, ?_⟩, by simpa using own_nil _ _ _ _, by simp [Value.ownBlock]⟩, Lib.hid ⟨F0.out.setCell (fun _ => .inl rfl) _, fun k hk => by simp [Value.ownBlock] at hk⟩⟩
      simpa using HB0.out.set_ 0 (.slice none 0 0)
    · go_enter Tryd.func48, Tryd.ntmps48
      go_wp2_with (first | (go_at_call 55; refine (Tryd.Buffer_tryGrow_none_at b 0 none 0 0 m _ c0 (by omega) (by decide) (by omega)).mono ?_; rintro e w2 ⟨rfl, rfl⟩) | (go_at_call 56; refine (grow_nil (n := m) HB0.out (by omega) hlim).mono ?_; rintro e w3 ⟨rfl, k, cap, cells, hk, ⟨lr3, hb3⟩, hg3, hcs3, hcm3, hl3, ht3, hf3⟩; have d0 := hb3.cell 0; have B3 := Lib.hid hb3; have G3 := Lib.hid hg3; have T3 := Lib.hid ht3; have F3 := Lib.hid hf3; have K3 := Lib.hid hk; simp only [List.length_nil, Nat.zero_add] at d0 hl3; have S3 := Lib.hid (fun hl => src_now HR.out hB HAN.out (F0.out.trans F3.out (fun _ _ e => .inl e)) (by rw [← HCS.out]; exact hl)); rw [← HCS.out] at S3; clear hb3 hg3 ht3 hf3 hk) | (refine copyF rfl (.tmp 29) (.tmp 30) 32 32 rfl 5 Tryd.underlying32 info1_u8 _ _ _ _ _ _ rfl rfl k 0 cells 5 G3.out cs ?d1 ?d2 ?d3 HOne.out ?_; (case d1 => rw [HML.out]; simp; try omega); (case d2 => exact fun h => ⟨by (first | rfl | (have := HML.out; simp; omega)), S3.out h⟩); (case d3 => rw [HML.out, hcs3]; omega); intro w4 G4 F4; rw [HML.out]))
      go_ret2
      have hlt := HLT.out
      have hs := HS0.out
      have hk : w.heap.size ≤ k := by have := K3.out; omega
      have := ready_copy HML.out B3.out G3.out hcs3 hcm3 (by simpa using hl3) T3.out (by omega) (.inr hk) (F0.out.trans F3.out (fun _ _ e => .inl e)) G4.out F4.out
      exact ⟨rfl, _, Lib.hid this.1, Lib.hid this.2⟩
  · have hgb : g ≠ b := by rintro rfl; exact hvb (by simp [Value.ownBlock])
    obtain ⟨n, hl⟩ : ∃ n, n = bs.length := ⟨_, rfl⟩
    have HL := Lib.hid hl
    rw [← hl] at hnc hlim htk hb0 HB0 F0 HVB HAN
    have c0 : (w.setCell ⟨b, 2, none⟩ (.int .i8 0)).cell? ⟨b, 0, none⟩ = some (.slice (some ⟨g, 0, none⟩) n cap) := hb0.cell 0
    have hg0 : Blk (w.setCell ⟨b, 2, none⟩ (.int .i8 0)) g 5 cur := hg.far hgb _
    have HG0 := Lib.hid hg0
    have HTK := Lib.hid htk
    have H1 := Lib.hid h1
    rw [← hl]
    clear hb hown hvb hb0 hs0 h1 hg hg0 htk hl
    have hcm' := hcm
    unfold maxLen at hcm'
    by_cases hroom : m ≤ cap - n
    · go_enter Tryd.func48, Tryd.ntmps48
      go_wp2_with (first | (go_at_call 55; refine (try_room (n := m) HB0.out HG0.out hcs hcm hnc hroom hgb).mono ?_; rintro e w3 ⟨rfl, R⟩; obtain ⟨k, cap3, cells, lr3, hb3, hg3, hcs3, hcm3, hl3, ht3, hkb, hk, hf3⟩ := R.out; rw [HTK.out, ← HL.out] at hb3 hl3; rw [HTK.out] at ht3; have d0 := hb3.cell 0; have B3 := Lib.hid hb3; have G3 := Lib.hid hg3; have T3 := Lib.hid ht3; have F3 := Lib.hid hf3; have K3 := Lib.hid hk; have S3 := Lib.hid (fun hl => src_now HR.out hB HAN.out (F0.out.trans F3.out (fun _ _ e => e)) (by rw [← HCS.out]; exact hl)); rw [← HCS.out] at S3; clear hb3 hg3 ht3 hf3 hk R) | (refine copyF rfl (.tmp 29) (.tmp 30) 32 32 rfl 5 Tryd.underlying32 info1_u8 _ _ _ _ _ _ rfl rfl k n cells 5 G3.out cs ?c1 ?c2 ?c3 HOne.out ?_; (case c1 => rw [HML.out]; simp; try omega); (case c2 => exact fun h => ⟨by (first | rfl | (have := HML.out; simp; omega)), S3.out h⟩); (case c3 => rw [HML.out, hcs3]; omega); intro w4 G4 F4; rw [HML.out]))
      all_goals
        go_ret2
        have hs := HS0.out
        have hl9 := HL.out
        clear HL
        subst hl9
        have := ready_copy HML.out B3.out G3.out hcs3 hcm3 hl3 T3.out hkb (by have := K3.out; rwa [hs] at this) (F0.out.trans F3.out (fun _ _ e => e)) G4.out F4.out
        exact ⟨rfl, _, Lib.hid this.1, Lib.hid this.2⟩
    · have hz : cur.toList.take n = bs := HTK.out
      have hlen : (cur.toList.take n).length = n := by rw [hz]; exact HL.out.symm
      have HLEN := Lib.hid hlen
      clear hz hlen
      go_enter Tryd.func48, Tryd.ntmps48
      go_wp2_with (first | (go_at_call 55; refine (Tryd.Buffer_tryGrow_none_at b 0 _ n cap m _ c0 hnc hcm (by omega)).mono ?_; rintro e w2 ⟨rfl, rfl⟩) | (go_at_call 56; refine (grow_row (n := m) HB0.out HG0.out hcs hnc hcm (by omega) (by omega) hlim (by rw [HTK.out]; exact H1.out) hgb).mono ?_; rintro e w3 ⟨rfl, k, cap3, cells, hk, ⟨lr3, hb3⟩, hg3, hcs3, hcm3, hl3, ht3, hf3⟩; rw [HLEN.out] at hb3 hl3 ht3; rw [HTK.out] at ht3; rw [HLEN.out]; have d0 := hb3.cell 0; have B3 := Lib.hid hb3; have G3 := Lib.hid hg3; have T3 := Lib.hid ht3; have F3 := Lib.hid hf3; have K3 := Lib.hid hk; have S3 := Lib.hid (fun hl => src_now HR.out hB HAN.out (F0.out.trans F3.out (fun _ _ e => .inl e)) (by rw [← HCS.out]; exact hl)); rw [← HCS.out] at S3; clear hb3 hg3 ht3 hf3 hk) | (refine copyF rfl (.tmp 29) (.tmp 30) 32 32 rfl 5 Tryd.underlying32 info1_u8 _ _ _ _ _ _ rfl rfl k n cells 5 G3.out cs ?e1 ?e2 ?e3 HOne.out ?_; (case e1 => rw [HML.out]; simp; try omega); (case e2 => exact fun h => ⟨by (first | rfl | (have := HML.out; simp; omega)), S3.out h⟩); (case e3 => rw [HML.out, hcs3]; omega); intro w4 G4 F4; rw [HML.out]))
      all_goals
        go_ret2
        have hlt := HLT.out
        have hs := HS0.out
        have hk : w.heap.size ≤ k := by have := K3.out; omega
        have hl9 := HL.out
        clear HL HLEN
        subst hl9
        have := ready_copy HML.out B3.out G3.out hcs3 hcm3 hl3 (by rw [HTK.out] at *; exact T3.out) (by omega) (.inr hk) (F0.out.trans F3.out (fun _ _ e => .inl e)) G4.out F4.out
        exact ⟨rfl, _, Lib.hid this.1, Lib.hid this.2⟩
end Go.Proofs.YtkihoonjekccgaaDoor.K

/- A Writer as the bytes that it holds: put, U8, U16, U32. -/
namespace Go.Proofs.YtkihoonjekccgaaDoor.K
open Go.RowKit
set_option linter.unusedVariables false
set_option linter.unusedSimpArgs false
/-- The Writer at b (its row is v) holds the bytes l. -/
def Wrt (b : Nat) (v : Value) (l : List Int) (w : World) : Prop := Buf b v (nums .u8 l) w
theorem nums_append (k : IntKind) (l m : List Int) : nums k (l ++ m) = nums k l ++ nums k m := by simp [nums]
theorem WriteByteC {b : Nat} {v : Value} {l : List Int} {c : Int} {w : World} (h : Wrt b v l w) (hlim : l.length + 1 ≤ 140737488355328) :
    Calls Tryd.prog 57 #[.pointer (some ⟨b, 0, none⟩), .int .u8 c] w fun e w' => e = .returned .nilIface ∧ ∃ v', Hid (Wrt b v' (l ++ [c]) w') ∧ Hid (WFr b v v' w w') :=
  (WriteByte_own h (one_nums _ _) (by rw [nums_length]; exact hlim)).mono fun e w' ⟨h1, v', h2, h3⟩ => ⟨h1, v', Lib.hid (by unfold Wrt; rw [nums_append]; exact h2.out), h3⟩
/-- What a part's row must be apart from, where a Writer is written. -/
def Away (b : Nat) (v : Value) (w : World) (A : Option Addr) : Prop := ∀ ad, A = some ad → ad.block < w.heap.size ∧ ad.block ≠ b ∧ v.ownBlock ≠ some ad.block
theorem Away.next {b : Nat} {v v' : Value} {w w' : World} {A : Option Addr} (h : Away b v w A) (k : WFr b v v' w w') : Away b v' w' A := fun ad e => by
  obtain ⟨h1, h2, h3⟩ := h ad e
  refine ⟨Nat.lt_of_lt_of_le h1 k.fr.size, h2, fun h4 => ?_⟩
  rcases k.row _ h4 with h5 | h5
  · exact h3 h5
  · omega
theorem WFr.row_of {α : Type} {c : α → List Value} {size B b : Nat} {v v' : Value} {w w' : World} {A : Option Addr} {l : List α} (k : WFr b v v' w w') (h : RowOf c size w B A l) (ha : Away b v w A) : RowOf c size w' B A l := by
  intro i x hx
  obtain ⟨ad, rfl, hb, hc⟩ := h i x hx
  obtain ⟨h1, h2, h3⟩ := ha ad rfl
  exact ⟨ad, rfl, hb, fun j u hu => by rw [k.fr.cell (by rw [block_of_add]; exact h1) (by rw [block_of_add]; intro h; rcases h with h | h; exact h2 h; exact h3 h)]; exact hc j u hu⟩
theorem WriteC {b B c : Nat} {v : Value} {l : List Int} {A : Option Addr} {p : List Int} {w : World} (h : Wrt b v l w) (hlim : l.length + p.length ≤ 140737488355328) (hr : RowOf c8 1 w B A p) (hB : B ≤ w.heap.size) (hA : Away b v w A) :
    Calls Tryd.prog 48 #[.pointer (some ⟨b, 0, none⟩), .slice A p.length c] w fun e w' => e = .returned (.tuple #[.int .i64 p.length, .nilIface]) ∧ ∃ v', Hid (Wrt b v' (l ++ p) w') ∧ Hid (WFr b v v' w w') :=
  (Write_own h (one_nums _ _) (by rw [nums_length]; exact hlim) hr hB (fun _ ad e => (hA ad e).2)).mono fun e w' ⟨h1, v', h2, h3⟩ => ⟨h1, v', Lib.hid (by unfold Wrt; rw [nums_append]; exact h2.out), h3⟩
/-- An empty row may lie anywhere. -/
theorem WFr.row_of0 {α : Type} {c : α → List Value} {size B b : Nat} {v v' : Value} {w w' : World} {A : Option Addr} {l : List α} (k : WFr b v v' w w') (h : RowOf c size w B A l) (ha : 0 < l.length → Away b v w A) : RowOf c size w' B A l :=
  fun i x hx => k.row_of h (ha (by have := (List.getElem?_eq_some_iff.1 hx).1; omega)) i x hx
theorem WriteC0 {b B c : Nat} {v : Value} {l : List Int} {A : Option Addr} {p : List Int} {w : World} (h : Wrt b v l w) (hlim : l.length + p.length ≤ 140737488355328) (hr : RowOf c8 1 w B A p) (hB : B ≤ w.heap.size) (hA : 0 < p.length → Away b v w A) :
    Calls Tryd.prog 48 #[.pointer (some ⟨b, 0, none⟩), .slice A p.length c] w fun e w' => e = .returned (.tuple #[.int .i64 p.length, .nilIface]) ∧ ∃ v', Hid (Wrt b v' (l ++ p) w') ∧ Hid (WFr b v v' w w') :=
  (Write_own h (one_nums _ _) (by rw [nums_length]; exact hlim) hr hB (fun h0 ad e => (hA h0 ad e).2)).mono fun e w' ⟨h1, v', h2, h3⟩ => ⟨h1, v', Lib.hid (by unfold Wrt; rw [nums_append]; exact h2.out), h3⟩
/-- The lowest bytes of a number, the highest first. -/
def be (n : Int) : Nat → List Int
  | 0 => []
  | k + 1 => n / 256 ^ k % 256 :: be n k
theorem be_length (n : Int) (k : Nat) : (be n k).length = k := by induction k with
  | zero => rfl
  | succ k ih => simp [be, ih]
theorem pow8 (r : Nat) : (256 : Int) ^ r = 2 ^ (8 * r) := by rw [Int.pow_mul]; rfl
theorem Wrt.drew {b : Nat} {v : Value} {l : List Int} {w : World} (h : Wrt b v l w) : Wrt b v l w.drew := h
theorem WFr.undrew {b : Nat} {v v' : Value} {w w' : World} (h : WFr b v v' w.drew w') : WFr b v v' w w' := ⟨⟨h.fr.os, h.fr.tape, h.fr.output, h.fr.size, h.fr.block⟩, h.row⟩
theorem wrt_cell {b : Nat} {v : Value} {l : List Int} {w : World} (h : Wrt b v l w) : ∃ u, w.cell? ⟨b, 0, none⟩ = some u := by
  obtain ⟨⟨lr, hb⟩, _⟩ := h
  exact ⟨_, hb.cell 0⟩
set_option maxHeartbeats 4000000 in
set_option maxRecDepth 10000 in
theorem put_own {b : Nat} {v : Value} {l : List Int} {n : Int} {size : Nat} {w : World} (h : Wrt b v l w) (hn0 : 0 ≤ n) (hn1 : n < 4294967296) (hs : size ≤ 4) (hlim : l.length + 4 ≤ 140737488355328) :
    Calls Tryd.prog 51 #[.pointer (some ⟨b, 0, none⟩), .int .u32 n, .int .i64 size] w fun e w' => e = .returned (.pointer (some ⟨b, 0, none⟩)) ∧ ∃ v', Hid (Wrt b v' (l ++ be n size) w') ∧ Hid (WFr b v v' w w') := by
  have H := Lib.hid h
  clear h
  go_enter Tryd.func51, Tryd.ntmps51
  go_wp2
  go_loopw [7] (fun at_ wr => ∃ (r : Nat) (acc : List Int) (v' : Value), at_ = .int .i64 ((r : Int) - 1) ∧ r ≤ size ∧ acc ++ be n r = be n size ∧ Wrt b v' (l ++ acc) wr ∧ WFr b v v' w wr) (fun a _ => (intOf a + 1).toNat)
  case atStart => exact ⟨size, [], v, rfl, by omega, rfl, by simpa using H.out, WFr.refl _ _ _⟩
  case round =>
    obtain ⟨r, acc, v1, rfl, hr, hbe, hw, hf⟩ := hrel
    have HW := Lib.hid hw
    have HF := Lib.hid hf
    have HBE := Lib.hid hbe
    clear hw hf hbe
    cases r with
    | zero =>
      go_wp2
      go_ret
      exact ⟨rfl, v1, Lib.hid (by have := HBE.out; simp [be] at this; rw [← this]; exact HW.out), HF⟩
    | succ r =>
      have hlen : acc.length + (r + 1) = size := by
        have := congrArg List.length HBE.out
        rwa [List.length_append, be_length, be_length] at this
      have HL : Hid ((l ++ acc).length + 1 ≤ 140737488355328) := Lib.hid (by rw [List.length_append]; omega)
      clear hlen
      have e1 : (((r + 1 : Nat) : Int) - 1) = (r : Int) := by omega
      rw [e1]
      have e2 : (8 : Int) * (r : Int) ≤ 24 := by omega
      have e3 : 0 ≤ (8 : Int) * (r : Int) := by omega
      have e4 : IntKind.i64.wrap (8 * (r : Int)) = 8 * (r : Int) := by rw [IntKind.wrap_i64]; omega
      have e5 : (8 : Int) * (r : Int) ≤ 32 := by omega
      go_wp2
      go_region_with (go_at_call 57; refine (WriteByteC HW.out.drew HL.out).mono ?_; rintro e w2 ⟨rfl, v2, H2, F2⟩)
      all_goals
        go_wp2
        go_roundw
        case rel =>
          refine ⟨r, acc ++ [n / 256 ^ r % 256], v2, rfl, by omega, by have := HBE.out; rw [← this]; simp [be], ?_, HF.out.trans F2.out.undrew⟩
          have e9 : IntKind.u8.wrap (n / 2 ^ (8 * (r : Int)).toNat) = n / 256 ^ r % 256 := by rw [pow8, show (8 * (r : Int)).toNat = 8 * r by omega]; rfl
          have := H2.out
          rw [e9, List.append_assoc] at this
          exact this
        case measure => simp [intOf]
set_option maxRecDepth 10000 in
theorem WU8_own {b : Nat} {v : Value} {l : List Int} {n : Int} {w : World} (h : Wrt b v l w) (hn0 : 0 ≤ n) (hn1 : n < 256) (hlim : l.length + 4 ≤ 140737488355328) :
    Calls Tryd.prog 38 #[.pointer (some ⟨b, 0, none⟩), .int .u8 n] w fun e w' => e = .returned (.pointer (some ⟨b, 0, none⟩)) ∧ ∃ v', Hid (Wrt b v' (l ++ be n 1) w') ∧ Hid (WFr b v v' w w') := by
  have H := Lib.hid h
  clear h
  go_enter Tryd.func38, Tryd.ntmps38
  go_wp2_with (go_at_call 51; refine (put_own (size := 1) H.out hn0 (by omega) (by omega) hlim).mono ?_; rintro e w1 ⟨rfl, v1, H1, F1⟩)
  go_ret
  exact ⟨rfl, v1, H1, F1⟩
set_option maxRecDepth 10000 in
theorem WU16_own {b : Nat} {v : Value} {l : List Int} {n : Int} {w : World} (h : Wrt b v l w) (hn0 : 0 ≤ n) (hn1 : n < 65536) (hlim : l.length + 4 ≤ 140737488355328) :
    Calls Tryd.prog 52 #[.pointer (some ⟨b, 0, none⟩), .int .u16 n] w fun e w' => e = .returned (.pointer (some ⟨b, 0, none⟩)) ∧ ∃ v', Hid (Wrt b v' (l ++ be n 2) w') ∧ Hid (WFr b v v' w w') := by
  have H := Lib.hid h
  clear h
  go_enter Tryd.func52, Tryd.ntmps52
  go_wp2_with (go_at_call 51; refine (put_own (size := 2) H.out hn0 (by omega) (by omega) hlim).mono ?_; rintro e w1 ⟨rfl, v1, H1, F1⟩)
  go_ret
  exact ⟨rfl, v1, H1, F1⟩
end Go.Proofs.YtkihoonjekccgaaDoor.K

/- Rows of elements: what is appended to a row of the call's own is read out of another one. -/
namespace Go.Proofs.YtkihoonjekccgaaDoor.K
open Go.RowKit
set_option linter.unusedVariables false
set_option linter.unusedSimpArgs false
theorem flat_at {α : Type} {c : α → List Value} {size : Nat} (hc : ∀ x, (c x).length = size) : ∀ (l : List α) (i : Nat) (x : α), l[i]? = some x → ∀ j u, (c x)[j]? = some u → (l.flatMap c)[i * size + j]? = some u := by
  intro l
  induction l with
  | nil => intro i x h; simp at h
  | cons y l ih =>
    intro i x h j u hu
    rw [List.flatMap_cons]
    cases i with
    | zero =>
      simp at h; subst h
      have hj : j < (c y).length := (List.getElem?_eq_some_iff.1 hu).1
      rw [List.getElem?_append_left (by omega), Nat.zero_mul, Nat.zero_add]
      exact hu
    | succ i =>
      simp at h
      rw [List.getElem?_append_right (by rw [hc, Nat.succ_mul]; omega), hc, show (i + 1) * size + j - size = i * size + j by rw [Nat.succ_mul]; omega]
      exact ih i x h j u hu
theorem flat_inv {α : Type} {c : α → List Value} {size : Nat} (hc : ∀ x, (c x).length = size) : ∀ (l : List α) (j : Nat) (u : Value), (l.flatMap c)[j]? = some u → ∃ i x k, l[i]? = some x ∧ (c x)[k]? = some u ∧ j = i * size + k := by
  intro l
  induction l with
  | nil => intro j u h; simp at h
  | cons y l ih =>
    intro j u h
    rw [List.flatMap_cons] at h
    by_cases hj : j < size
    · rw [List.getElem?_append_left (by rw [hc]; exact hj)] at h
      exact ⟨0, y, j, rfl, h, by omega⟩
    · rw [List.getElem?_append_right (by rw [hc]; omega), hc] at h
      obtain ⟨i, x, k, h1, h2, h3⟩ := ih _ _ h
      exact ⟨i + 1, x, k, by simpa using h1, h2, by rw [Nat.succ_mul]; omega⟩
theorem flat_len {α : Type} {c : α → List Value} {size : Nat} (hc : ∀ x, (c x).length = size) (l : List α) : (l.flatMap c).length = l.length * size := by
  induction l with
  | nil => simp
  | cons y l ih => rw [List.flatMap_cons, List.length_append, hc, ih, List.length_cons, Nat.succ_mul]; omega
theorem row_own {α : Type} {c : α → List Value} {size base : Nat} {e : TypeId} {w : World} {A : Option Addr} {cap : Nat} {l : List α} (hc : ∀ x, (c x).length = size)
    (h : w.ownsRow base e size (.slice A l.length cap) l.length (l.flatMap c)) : RowOf c size w w.heap.size A l := by
  intro i x hx
  have hi : i < l.length := (List.getElem?_eq_some_iff.1 hx).1
  obtain ⟨g, cap', hv, _, hlt⟩ := h.form (by omega)
  have hA : A = some ⟨g, 0, none⟩ := by injection hv
  subst hA
  exact ⟨_, rfl, hlt, fun j u hu => h.cells (g := g) rfl _ _ (flat_at hc l i x hx j u hu)⟩
theorem run_append_nil {P : Program} {w : World} (base : Nat) (t ty e : TypeId) (i : TypeInfo) (size : Nat) (ht : P.underlying t = some (.slice e)) (hi : P.info? e = some i)
    (v : Value) (n c : Nat) (xs : List Value) (hown : w.ownsRow base e size v n xs) :
    (Builtin.append_ #[t, t] ty #[v, .slice none 0 c]).run P w = .ok v w := by
  rcases hown.2 with ⟨rfl, rfl⟩ | ⟨g, cap, cur, rfl, _, _, hnc, _⟩
  · simp [Builtin.append_, run_underlying ht, sizeOf, typeInfo, hi, Builtin.lenOf, Builtin.firstCells]
  · simp [Builtin.append_, run_underlying ht, sizeOf, typeInfo, hi, Builtin.lenOf, Builtin.firstCells, hnc, storeCells]
/-- 'append(s, x...)', s a row of the call's own, x any row that can be read. -/
theorem appR {α : Type} {c : α → List Value} {P : Program} {w : World} {ops : Array Oper} {rest : List Oper} {o : Oper} {a : Act} {Q : Exit → Act → World → Prop} (hgd : o.guard = none) (s x : Operand) (t : TypeId)
    (ho : o.op = .call { callee := .builtin .append, args := #[s, x], argTypes := #[t, t] })
    (e : TypeId) (z : Value) (size bytes : Nat) (ht : P.underlying t = some (.slice e)) (hinfo : (P.info? e).map (fun i => (i.zero, i.size, i.bytes)) = some (some z, size, bytes))
    (hzs : z.cells.size = size) (hsz : 0 < size) (hby : 0 < bytes) (hcs : ∀ y, (c y).length = size) (h1 : ∀ y, ∀ u ∈ c y, u.oneCell' = true)
    (base B : Nat) (v : Value) (xs l : List α) (A : Option Addr) (cap : Nat) (hs : a.eval s = v) (hx : a.eval x = .slice A l.length cap)
    (HR : RowOf c size w B A l) (HO : w.ownsRow base e size v xs.length (xs.flatMap c)) (hbase : base ≤ w.heap.size) (hl : (xs.length + l.length) * bytes ≤ 140737488355328)
    (h : ∀ v1 w1, w1.ownsRow base e size v1 (xs ++ l).length ((xs ++ l).flatMap c) → Fr (fun k => v.ownBlock = some k) w w1 → (∀ k, v1.ownBlock = some k → v.ownBlock = some k ∨ w.heap.size ≤ k) → wpList P ops Q rest (a.put o.dst v1) w1) :
    wpList P ops Q (o :: rest) a w := by
  obtain ⟨i0, hi, hz0, hz1, hz2⟩ := info_parts hinfo
  by_cases hA : A = none
  · subst hA
    have hl0 : l = [] := by
      cases l with
      | nil => rfl
      | cons y l => obtain ⟨ad, e, _⟩ := HR 0 y rfl; cases e
    subst hl0
    refine wpList_plain hgd fun K hK => ?_
    have hrun := run_append_nil (P := P) (w := w) base t o.type e i0 size ht hi v xs.length cap (xs.flatMap c) HO
    have hx' : a.eval x = .slice none 0 cap := hx
    unfold Oper.wp
    simp [execOp, ho, resolve, invoke, builtin, hs, hx', hrun, Result.andThen]
    exact hK _ _ (h v w (by simpa using HO) (Fr.refl _ _) (fun k hk => .inl hk))
  · obtain ⟨ad, rfl⟩ : ∃ ad, A = some ad := by cases A with
      | none => exact absurd rfl hA
      | some ad => exact ⟨ad, rfl⟩
    refine wpList_append_own_at w hgd s x t ho base e i0 z size bytes ht hi hz0 hz1 hz2 hzs hsz v xs.length (xs.flatMap c) hs HO ad l.length cap (l.flatMap c) hx (flat_len hcs l) ?_ ?_ ?_ hl hbase ?_
    · intro j u hu
      obtain ⟨i, y, k, h2, h3, rfl⟩ := flat_inv hcs l j u hu
      obtain ⟨ad', e', _, hc⟩ := HR i y h2
      injection e' with e'; subst e'
      exact hc k u h3
    · intro u hu
      obtain ⟨y, _, hy⟩ := List.mem_flatMap.1 hu
      exact h1 y u hy
    · have := Nat.le_trans (Nat.le_mul_of_pos_right _ hby) hl
      simp only [maxLen]; omega
    · intro v1 w1 hown hg _ hat
      refine h v1 w1 (by rw [List.length_append, List.flatMap_append]; exact hown) ((Fr.refl (fun k => v.ownBlock = some k) w).grown hg (fun j _ e => e)) (fun k hk => ?_)
      rcases hat with hat | hat
      · exact .inl (hat ▸ hk)
      · rw [hat] at hk; injection hk with hk; exact .inr (by omega)
end Go.Proofs.YtkihoonjekccgaaDoor.K

/- A Writer: Bytes of parts, Done; slices.Clone of bytes; Join. -/
namespace Go.Proofs.YtkihoonjekccgaaDoor.K
open Go.RowKit
set_option linter.unusedVariables false
set_option linter.unusedSimpArgs false
/-- A part: where its bytes lie, its capacity, its bytes. -/
abbrev Part := Option Addr × Nat × List Int
abbrev cP : Part → List Value := fun p => [.slice p.1 p.2.2.length p.2.1]
/-- All parts as one. -/
def flat (ps : List Part) : List Int := ps.flatMap fun p => p.2.2
theorem flat_take (ps : List Part) (k : Nat) (h : k < ps.length) : flat (ps.take (k + 1)) = flat (ps.take k) ++ (ps[k]).2.2 := by
  unfold flat
  rw [List.take_succ_eq_append_getElem h, List.flatMap_append]
  simp
theorem RowOf.one {α : Type} {c : α → List Value} {w : World} {B : Nat} {A : Option Addr} {l : List α} {g : α → Value} (hc : ∀ x, c x = [g x]) (h : RowOf c 1 w B A l) {i : Nat} (hi : i < l.length) : ∃ ad, A = some ad ∧ ad.block < B ∧ w.cell? (ad.add i) = some (g l[i]) := by
  obtain ⟨ad, rfl, hb, hcc⟩ := h i (l[i]) (List.getElem?_eq_getElem hi)
  refine ⟨ad, rfl, hb, ?_⟩
  have := hcc 0 (g l[i]) (by rw [hc]; rfl)
  rwa [Nat.mul_one, Nat.add_zero] at this
set_option maxHeartbeats 4000000 in
set_option maxRecDepth 10000 in
theorem WBytes_own0 {b B pc : Nat} {v : Value} {l : List Int} {P : Option Addr} {ps : List Part} {w : World} (h : Wrt b v l w) (hlim : l.length + (flat ps).length ≤ 140737488355328) (hps : ps.length ≤ 140737488355328)
    (hP : RowOf cP 1 w B P ps) (hB : B ≤ w.heap.size) (hPa : Away b v w P) (hp : ∀ p ∈ ps, RowOf c8 1 w B p.1 p.2.2 ∧ (0 < p.2.2.length → Away b v w p.1)) :
    Calls Tryd.prog 35 #[.pointer (some ⟨b, 0, none⟩), .slice P ps.length pc] w fun e w' => e = .returned (.pointer (some ⟨b, 0, none⟩)) ∧ ∃ v', Hid (Wrt b v' (l ++ flat ps) w') ∧ Hid (WFr b v v' w w') := by
  have H := Lib.hid h
  have HP := Lib.hid hP
  have HPA := Lib.hid hPa
  have HPS := Lib.hid hp
  clear h hP hPa hp
  go_enter Tryd.func35, Tryd.ntmps35
  go_wp2
  go_loopw [9] (fun i wr => ∃ (k : Nat) (v' : Value), i = .int .i64 k ∧ k ≤ ps.length ∧ Wrt b v' (l ++ flat (ps.take k)) wr ∧ WFr b v v' w wr) (fun i _ => ps.length - (intOf i).toNat)
  case atStart => exact ⟨0, v, rfl, by omega, by simpa [flat] using H.out, WFr.refl _ _ _⟩
  case round =>
    obtain ⟨k, v1, rfl, hk, hw, hf⟩ := hrel
    have HW := Lib.hid hw
    have HF := Lib.hid hf
    clear hw hf
    by_cases hlt : k < ps.length
    · obtain ⟨ad, rfl, hb, hcell⟩ := (RowOf.one (fun _ => rfl) (HF.out.row_of HP.out HPA.out) hlt)
      have hft := flat_take ps k hlt
      have hmem := HPS.out (ps[k]) (List.getElem_mem hlt)
      have hR := HF.out.row_of0 hmem.1 hmem.2
      have hAw := fun h => (hmem.2 h).next HF.out
      have HR := Lib.hid hR
      have HAW := Lib.hid hAw
      have HFT := Lib.hid hft
      have hll : (flat (ps.take (k + 1))).length ≤ (flat ps).length := by
        have : flat ps = flat (ps.take (k + 1)) ++ flat (ps.drop (k + 1)) := by unfold flat; rw [← List.flatMap_append, List.take_append_drop]
        rw [this, List.length_append]; omega
      have HL : Hid ((l ++ flat (ps.take k)).length + (ps[k]).2.2.length ≤ 140737488355328) := Lib.hid (by rw [hft, List.length_append] at hll; rw [List.length_append]; omega)
      clear hmem hR hAw hft hll
      generalize ps[k] = p at *
      obtain ⟨pA, pcap, pl⟩ := p
      have HB2 : Hid (B ≤ wr.heap.size) := Lib.hid (Nat.le_trans hB HF.out.fr.size)
      go_wp2_with (go_at_call 48; (with_reducible refine (WriteC0 (c := pcap) HW.out HL.out HR.out HB2.out HAW.out).mono ?_); rintro e w2 ⟨rfl, v2, H2, F2⟩)
      go_roundw
      case rel => exact ⟨k + 1, v2, by go_num, by omega, by rw [HFT.out, ← List.append_assoc]; exact H2.out, HF.out.trans F2.out⟩
      case measure => simp [intOf]; omega
    · obtain rfl : k = ps.length := by omega
      rw [List.take_length] at HW
      go_wp2
      go_ret
      exact ⟨rfl, v1, HW, HF⟩
theorem WBytes_own {b B pc : Nat} {v : Value} {l : List Int} {P : Option Addr} {ps : List Part} {w : World} (h : Wrt b v l w) (hlim : l.length + (flat ps).length ≤ 140737488355328) (hps : ps.length ≤ 140737488355328)
    (hP : RowOf cP 1 w B P ps) (hB : B ≤ w.heap.size) (hPa : Away b v w P) (hp : ∀ p ∈ ps, RowOf c8 1 w B p.1 p.2.2 ∧ Away b v w p.1) :
    Calls Tryd.prog 35 #[.pointer (some ⟨b, 0, none⟩), .slice P ps.length pc] w fun e w' => e = .returned (.pointer (some ⟨b, 0, none⟩)) ∧ ∃ v', Hid (Wrt b v' (l ++ flat ps) w') ∧ Hid (WFr b v v' w w') :=
  WBytes_own0 h hlim hps hP hB hPa (fun p h => ⟨(hp p h).1, fun _ => (hp p h).2⟩)
theorem RowOf.more_ {α : Type} {c : α → List Value} {size : Nat} {w : World} {B B' : Nat} {A : Option Addr} {l : List α} (h : RowOf c size w B A l) (hb : B ≤ B') : RowOf c size w B' A l := by
  intro i x hx
  obtain ⟨ad, rfl, hb', hc⟩ := h i x hx
  exact ⟨ad, rfl, by omega, hc⟩
theorem RowOf.now {α : Type} {c : α → List Value} {size : Nat} {w w' : World} {A : Option Addr} {l : List α} (h : RowOf c size w w.heap.size A l) (hb : Below w.heap.size w w') : RowOf c size w' w'.heap.size A l := (h.below hb).more_ hb.size
/-- A row of bytes of the call's own. -/
def Made (B : Nat) (A : Option Addr) (c : Nat) (l : List Int) (w : World) : Prop := w.ownsRow B 5 1 (.slice A l.length c) l.length (nums .u8 l) ∧ RowOf c8 1 w w.heap.size A l ∧ l.length ≤ c
theorem nums_flat (l : List Int) : nums .u8 l = l.flatMap c8 := by
  induction l with
  | nil => rfl
  | cons x l ih => simp [nums] at *; exact ih
theorem made_of {B : Nat} {v : Value} {l : List Int} {w : World} (h : w.ownsRow B 5 1 v l.length (nums .u8 l)) : ∃ A c, v = .slice A l.length c ∧ Made B A c l w := by
  obtain ⟨A, c, rfl, hc⟩ := own_form h
  exact ⟨A, c, rfl, h, row_own (c := c8) (fun _ => rfl) (by rw [← nums_flat]; exact h), hc⟩
/-- A literal row of no elements is made, and written. -/
theorem lit_fr {w w2 : World} {v : Value} {o : Obj} (h4 : Fr (fun k => v.ownBlock = some k) (w.alloc o) w2) (h : ∀ k, v.ownBlock = some k → w.heap.size ≤ k) : Fr0 w w2 :=
  ((Fr.refl (fun _ => False) w).alloc o).trans h4 (fun j hj e => by have := h j e; omega)
set_option maxHeartbeats 4000000 in
set_option maxRecDepth 10000 in
theorem CloneC {A : Option Addr} {c : Nat} {l : List Int} {w : World} (hl : l.length ≤ 140737488355328) (h : RowOf c8 1 w w.heap.size A l) :
    Calls Tryd.prog 44 #[.slice A l.length c] w fun e w' => ∃ A' c', e = .returned (.slice A' l.length c') ∧ Hid (Made w.heap.size A' c' l w') ∧ Hid (Fr0 w w') := by
  cases A with
  | none =>
    have hl0 : l = [] := by
      cases l with
      | nil => rfl
      | cons y l => obtain ⟨ad, e, _⟩ := h 0 y rfl; cases e
    subst hl0
    have hnil : ∀ W, (binOp .eql 32 (.slice none 0 c) (.slice none 0 0)).run Tryd.prog W = .ok (.bool true) W := fun W => Lib.run_eql_slice_nil_nil W _ _ Tryd.underlying32
    go_enter Tryd.func44, Tryd.ntmps44
    go_wp2
    go_ret
    exact ⟨none, 0, rfl, Lib.hid ⟨own_nil _ _ _ _, h, Nat.le_refl _⟩, Lib.hid (Fr.refl _ _)⟩
  | some ad =>
    have hnil : ∀ W, (binOp .eql 32 (.slice (some ad) l.length c) (.slice none 0 0)).run Tryd.prog W = .ok (.bool false) W := fun W => Lib.run_eql_slice_some_nil W _ _ _ Tryd.underlying32
    have HR := Lib.hid h
    clear h
    go_enter Tryd.func44, Tryd.ntmps44
    go_wp2_with (at_builtin; go_loud (refine appR (c := c8) rfl _ _ _ rfl 5 (.int .u8 0) 1 1 Tryd.underlying32 info_u8 rfl (by omega) (by omega) (fun _ => rfl) (fun y u hu => by simp at hu; subst hu; rfl) w.heap.size w.heap.size _ [] l _ _ rfl rfl (RowOf.below HR.out ((Below.refl _ w).alloc (Nat.le_refl _) _)) (World.ownsRow_lit w #[] 0 (Nat.le_refl _) (by decide) rfl) (by simp) (by simp only [List.length_nil]; omega) ?_; intro v2 w2 h3 h4 h5; have F1 := Lib.hid (lit_fr h4 (fun k hk => Nat.le_of_eq (Option.some.inj hk))); have G1 := Lib.hid (made_of (B := w.heap.size) (v := v2) (l := l) (by rw [nums_flat]; exact h3)); clear h3 h4 h5))
    go_ret
    obtain ⟨A2, c2, rfl, hm⟩ := G1.out
    exact ⟨A2, c2, rfl, Lib.hid hm, F1⟩
end Go.Proofs.YtkihoonjekccgaaDoor.K

/- A Writer: what it holds is told; Join. -/
namespace Go.Proofs.YtkihoonjekccgaaDoor.K
open Go.RowKit
set_option linter.unusedVariables false
set_option linter.unusedSimpArgs false
theorem cut0n (W : World) : (Instr.slice 32 (.slice none 0 0) (some (.int .i64 0)) none none).run Tryd.prog W = .ok (.slice none 0 0) W := by
  obtain ⟨i0, hi, hz0, hz1, hz2⟩ := info_parts info_u8
  have hel : Tryd.prog.elem 32 = 5 := by simp [Program.elem, Tryd.underlying32]
  have hu : Tryd.prog.underlying 32 = some (.slice (Tryd.prog.elem 32)) := by rw [hel]; exact Tryd.underlying32
  rw [run_slice_l W 32 none 0 0 hu .i64 0 (by omega) (by omega), hel]
  simp [sizeOf, typeInfo, hi, sliced, Result.andThen]
set_option maxRecDepth 10000 in
theorem wrt_open {b : Nat} {v : Value} {l : List Int} {w : World} (h : Wrt b v l w) : ∃ A c, v = .slice A l.length c ∧ RowOf c8 1 w w.heap.size A l ∧ w.cell? ⟨b, 0, none⟩ = some (.slice A l.length c) ∧ w.cell? ⟨b, 1, none⟩ = some (.int .i64 0) ∧
    ∀ W, (Instr.slice 32 (.slice A l.length c) (some (.int .i64 0)) none none).run Tryd.prog W = .ok (.slice A l.length c) W := by
  obtain ⟨⟨lr, hb⟩, hown, hv⟩ := h
  rw [nums_length] at hown
  obtain ⟨A, c, rfl, hc⟩ := own_form hown
  refine ⟨A, c, rfl, row_own (c := c8) (fun _ => rfl) (by rw [← nums_flat]; exact hown), hb.cell 0, hb.cell 1, fun W => ?_⟩
  rcases hown.2 with ⟨hv0, h0⟩ | ⟨g, cap, cur, hv0, _, _, hnc, _⟩
  · injection hv0 with h1 h2 h3
    subst h1 h3; rw [h2]; exact cut0n W
  · injection hv0 with h1 h2 h3
    subst h1 h3; exact cut0 g _ _ W hc
set_option maxHeartbeats 4000000 in
set_option maxRecDepth 10000 in
theorem BufBytesC {b : Nat} {v : Value} {l : List Int} {w : World} (h : Wrt b v l w) :
    Calls Tryd.prog 49 #[.pointer (some ⟨b, 0, none⟩)] w fun e w' => ∃ A c, e = .returned (.slice A l.length c) ∧ Hid (RowOf c8 1 w w.heap.size A l) ∧ ∃ n, w' = w.drewN n := by
  obtain ⟨A, c, _, hr, c0, c1, hcut⟩ := wrt_open h
  have HR := Lib.hid hr
  clear h hr
  go_enter Tryd.func49, Tryd.ntmps49
  go_wp2_with fail
  go_quiet (fail)
  go_wp2
  go_ret
  exact ⟨A, c, rfl, HR, _, rfl⟩
theorem RowOf.drewN_ {α : Type} {c : α → List Value} {size B : Nat} {w : World} {A : Option Addr} {l : List α} (h : RowOf c size w B A l) (n : Nat) : RowOf c size (w.drewN n) B A l := h
theorem Fr.undrew {S : Nat → Prop} {w w' : World} (h : Fr S w.drew w') : Fr S w w' := ⟨h.os, h.tape, h.output, h.size, h.block⟩
theorem Fr.undrewN {S : Nat → Prop} {w w' : World} {n : Nat} (h : Fr S (w.drewN n) w') : Fr S w w' := ⟨h.os, h.tape, h.output, h.size, h.block⟩
set_option maxRecDepth 10000 in
theorem WDoneC {b : Nat} {v : Value} {l : List Int} {w : World} (h : Wrt b v l w) (hl : l.length ≤ 140737488355328) :
    Calls Tryd.prog 36 #[.pointer (some ⟨b, 0, none⟩)] w fun e w' => ∃ A' c', e = .returned (.slice A' l.length c') ∧ Hid (Made w.heap.size A' c' l w') ∧ Hid (Fr0 w w') := by
  have H := Lib.hid h
  clear h
  go_enter Tryd.func36, Tryd.ntmps36
  go_wp2_with fail
  (with_reducible refine (BufBytesC H.out).mono ?_)
  rintro e w1 ⟨A, c, rfl, HR, n, rfl⟩
  go_wp2_with fail
  (with_reducible refine (CloneC hl (HR.out.drewN_ n)).mono ?_)
  rintro e w2 ⟨A2, c2, rfl, H2, F2⟩
  go_wp2
  go_ret
  exact ⟨A2, c2, rfl, H2, Lib.hid F2.out.undrewN⟩
theorem wrt_new (w : World) : Wrt w.heap.size (.slice none 0 0) [] (w.alloc (.cells #[.slice none 0 0, .int .i64 0, .int .i8 0] 89)) :=
  ⟨⟨0, Blk.new w _ _⟩, own_nil _ _ _ _, by simp [Value.ownBlock]⟩
set_option maxHeartbeats 4000000 in
set_option maxRecDepth 10000 in
theorem JoinC {pc : Nat} {P : Option Addr} {ps : List Part} {w : World} (hlim : (flat ps).length ≤ 140737488355328) (hps : ps.length ≤ 140737488355328)
    (hP : RowOf cP 1 w w.heap.size P ps) (hPa : ∀ ad, P = some ad → ad.block < w.heap.size) (hp : ∀ p ∈ ps, RowOf c8 1 w w.heap.size p.1 p.2.2 ∧ ∀ ad, p.1 = some ad → ad.block < w.heap.size) :
    Calls Tryd.prog 23 #[.slice P ps.length pc] w fun e w' => ∃ A' c', e = .returned (.slice A' (flat ps).length c') ∧ Hid (Made w.heap.size A' c' (flat ps) w') ∧ Hid (Fr0 w w') := by
  obtain ⟨W, hW⟩ : ∃ W, W = w.alloc (.cells #[.slice none 0 0, .int .i64 0, .int .i8 0] 89) := ⟨_, rfl⟩
  have hs : W.heap.size = w.heap.size + 1 := by rw [hW]; simp
  have bel : Below w.heap.size w W := by rw [hW]; exact (Below.refl _ w).alloc (Nat.le_refl _) _
  have aw : ∀ (A : Option Addr), (∀ ad, A = some ad → ad.block < w.heap.size) → Away w.heap.size (.slice none 0 0) W A := fun A h ad e => by
    have := h ad e
    exact ⟨by omega, by omega, by simp [Value.ownBlock]⟩
  have C := WBytes_own (pc := pc) (P := P) (ps := ps) (hW ▸ wrt_new w : Wrt w.heap.size (.slice none 0 0) [] W) (by simpa using hlim) hps (hP.below bel) (by omega) (aw P hPa) (fun p h => ⟨((hp p h).1).below bel, aw _ (hp p h).2⟩)
  have HC := Lib.hid C
  have HL := Lib.hid hlim
  rw [hW] at HC
  clear C aw bel hs hp hPa hP
  go_enter Tryd.func23, Tryd.ntmps23
  go_wp2_with fail
  (with_reducible refine HC.out.mono ?_)
  rintro e w1 ⟨rfl, v1, H1, F1⟩
  have F1' : Hid (Fr0 w w1) := Lib.hid (((Fr.refl (fun _ => False) w).alloc _).trans F1.out.fr (fun j hj e => by
    rcases e with e | e
    · omega
    · simp [Value.ownBlock] at e))
  go_wp2_with fail
  (with_reducible refine (WDoneC H1.out (by simpa using HL.out)).mono ?_)
  rintro e w2 ⟨A2, c2, rfl, H2, F2⟩
  go_wp2
  go_ret
  obtain ⟨h1, h2, h3⟩ := H2.out
  exact ⟨A2, c2, rfl, Lib.hid ⟨own_weak h1 F1'.out.size, h2, h3⟩, Lib.hid (F1'.out.trans F2.out (fun _ _ h => h))⟩
end Go.Proofs.YtkihoonjekccgaaDoor.K

/- The sum: a byte by bits, a byte by the table. -/
namespace Go.Proofs.YtkihoonjekccgaaDoor.K
open Go.RowKit
set_option linter.unusedVariables false
set_option linter.unusedSimpArgs false
/-- A sum, as a number. -/
abbrev iv (x : B16) : Int := (x.toNat : Int)
theorem iv_lt (x : B16) : 0 ≤ iv x ∧ iv x < 65536 := by
  have := x.isLt
  unfold iv
  omega
theorem iv_xor (x y : B16) : bits .xor .u16 (iv x) (iv y) = iv (x ^^^ y) := by
  have h1 := iv_lt x
  have h2 := iv_lt y
  rw [u16_xor _ _ h1.1 h1.2 h2.1 h2.2]
  simp [iv, BitVec.toNat_xor]
theorem iv_up (c : Int) (hc : 0 ≤ c ∧ c < 256) : iv (up c) = c * 256 := by
  have := up_toNat c hc
  unfold iv
  omega
theorem gs_iv (y : B16) : bits .xor .u16 (IntKind.u16.wrap (iv y * 2)) (iv y / 32768 * 4129) = iv (gs y) := by
  unfold gs
  rw [← iv_xor]
  have h1 : IntKind.u16.wrap (iv y * 2) = iv (y <<< 1) := by
    rw [IntKind.wrap_u16]
    simp only [iv, BitVec.toNat_shiftLeft, Nat.shiftLeft_eq]
    omega
  have h2 : iv y / 32768 * 4129 = iv (if y.msb then 0x1021#16 else 0#16) := by
    rw [BitVec.msb_eq_decide]
    have hy := y.isLt
    by_cases h : 2 ^ (16 - 1) ≤ y.toNat
    · simp only [h, decide_true, if_true, iv]
      show (y.toNat : Int) / 32768 * 4129 = 4129
      omega
    · simp only [h, decide_false, Bool.false_eq_true, if_false, iv]
      show (y.toNat : Int) / 32768 * 4129 = 0
      omega
  rw [h1, h2]
end Go.Proofs.YtkihoonjekccgaaDoor.K

/- The sum by the table. -/
namespace Go.Proofs.YtkihoonjekccgaaDoor.K
open Go.RowKit
set_option linter.unusedVariables false
set_option linter.unusedSimpArgs false
/-- The table stands in its place. -/
def Turns (w : World) : Prop := ∀ i : Nat, i < 16 → w.cell? ⟨0, i, none⟩ = some (.int .u16 ((i : Int) * 4129))
theorem Turns.drew {w : World} (h : Turns w) : Turns w.drew := h
theorem Turns.drewN {w : World} (h : Turns w) (n : Nat) : Turns (w.drewN n) := h
theorem Turns.lt {w : World} (h : Turns w) : 0 < w.heap.size := by
  have := h 0 (by omega)
  unfold World.cell? at this
  cases hx : w.heap[0]? with
  | none => simp [hx] at this
  | some o => exact (Array.getElem?_eq_some_iff.1 hx).1
theorem Turns.fr {S : Nat → Prop} {w w' : World} (h : Turns w) (k : Fr S w w') (hn : ¬ S 0) : Turns w' := fun i hi => by
  have := h i hi
  unfold World.cell? at this ⊢
  rw [k.block _ h.lt hn]
  exact this
theorem Turns.fr0 {w w' : World} (h : Turns w) (k : Fr0 w w') : Turns w' := h.fr k (fun e => e)
theorem Turns.below {B : Nat} {w w' : World} (h : Turns w) (k : Below B w w') (hB : 0 < B) : Turns w' := fun i hi => (k.cell hB).trans (h i hi)
theorem xor_add (a b k : Nat) (h : b < 2 ^ k) : (a * 2 ^ k) ^^^ b = a * 2 ^ k + b := by
  have h1 : a * 2 ^ k = a <<< k := by rw [Nat.shiftLeft_eq]
  have hor : a <<< k + b = a <<< k ||| b := Nat.shiftLeft_add_eq_or_of_lt h _
  rw [h1, hor]
  apply Nat.eq_of_testBit_eq
  intro i
  rw [Nat.testBit_xor, Nat.testBit_or, Nat.testBit_shiftLeft]
  by_cases h8 : k ≤ i
  · have : b.testBit i = false := Nat.testBit_lt_two_pow (Nat.lt_of_lt_of_le h (Nat.pow_le_pow_right (by omega) h8))
    rw [this]; simp
  · simp [h8]
theorem xor_mul (a b k : Nat) : (a * 2 ^ k) ^^^ (b * 2 ^ k) = (a ^^^ b) * 2 ^ k := by
  apply Nat.eq_of_testBit_eq
  intro i
  rw [Nat.testBit_xor, Nat.testBit_mul_two_pow, Nat.testBit_mul_two_pow, Nat.testBit_mul_two_pow, Nat.testBit_xor]
  by_cases h8 : k ≤ i <;> simp [h8]
theorem xor_lt16 (a b : Nat) (ha : a < 16) (hb : b < 16) : a ^^^ b < 16 := Nat.xor_lt_two_pow (n := 4) ha hb
/-- Four bits of a number go by, h of a byte beside them. -/
def half (x : B16) (h : Nat) : B16 := gn 4 (x ^^^ BitVec.ofNat 16 (h * 4096))
theorem turn_iv : ∀ t : Fin 16, iv (gn 4 (BitVec.ofNat 16 (t.val * 4096))) = (t.val : Int) * 4129 := by decide
theorem half_iv (x : B16) (h : Nat) (hh : h < 16) : bits .xor .u16 (IntKind.u16.wrap (iv x * 16)) (((x.toNat / 4096 ^^^ h : Nat) : Int) * 4129) = iv (half x h) := by
  have hx := x.isLt
  have ht : x.toNat / 4096 ^^^ h < 16 := xor_lt16 _ _ (by omega) hh
  have e1 : x ^^^ BitVec.ofNat 16 (h * 4096) = BitVec.ofNat 16 ((x.toNat / 4096 ^^^ h) * 4096) ^^^ BitVec.ofNat 16 (x.toNat % 4096) := by
    apply BitVec.eq_of_toNat_eq
    rw [BitVec.toNat_xor, BitVec.toNat_xor]
    simp only [BitVec.toNat_ofNat]
    rw [Nat.mod_eq_of_lt (by omega : h * 4096 < 2 ^ 16), Nat.mod_eq_of_lt (by omega : (x.toNat / 4096 ^^^ h) * 4096 < 2 ^ 16), Nat.mod_eq_of_lt (by omega : x.toNat % 4096 < 2 ^ 16)]
    have e2 : x.toNat = (x.toNat / 4096 * 2 ^ 12) ^^^ (x.toNat % 4096) := by rw [xor_add _ _ 12 (by omega)]; omega
    have e3 := xor_mul (x.toNat / 4096) h 12
    conv => lhs; rw [e2]
    rw [show (4096 : Nat) = 2 ^ 12 by rfl] at *
    rw [← e3, Nat.xor_assoc, Nat.xor_comm (x.toNat % 2 ^ 12), ← Nat.xor_assoc]
  have e4 : (gn 4 (BitVec.ofNat 16 (x.toNat % 4096))) = BitVec.ofNat 16 (x.toNat % 4096 * 16) := by
    apply BitVec.eq_of_toNat_eq
    have h1 : (BitVec.ofNat 16 (x.toNat % 4096)).toNat = x.toNat % 4096 := by rw [BitVec.toNat_ofNat]; omega
    rw [gn_low 4 _ (by rw [h1]; omega), h1, BitVec.toNat_ofNat]
    omega
  have e5 : IntKind.u16.wrap (iv x * 16) = iv (BitVec.ofNat 16 (x.toNat % 4096 * 16)) := by
    rw [IntKind.wrap_u16]
    simp only [iv, BitVec.toNat_ofNat]
    omega
  unfold half
  rw [e1, gn_xor, e4, e5, ← turn_iv ⟨_, ht⟩, iv_xor, BitVec.xor_comm]
theorem half_half (x : B16) (c : Int) (hc : 0 ≤ c ∧ c < 256) : half (half x (c.toNat / 16)) (c.toNat % 16) = sb x c := by
  have hup : up c = BitVec.ofNat 16 (c.toNat / 16 * 4096) ^^^ BitVec.ofNat 16 (c.toNat % 16 * 256) := by
    apply BitVec.eq_of_toNat_eq
    rw [up_toNat c hc, BitVec.toNat_xor, BitVec.toNat_ofNat, BitVec.toNat_ofNat, Nat.mod_eq_of_lt (by omega : c.toNat / 16 * 4096 < 2 ^ 16), Nat.mod_eq_of_lt (by omega : c.toNat % 16 * 256 < 2 ^ 16), show (4096 : Nat) = 2 ^ 12 by rfl, xor_add _ _ 12 (by omega)]
    omega
  have hlow : gn 4 (BitVec.ofNat 16 (c.toNat % 16 * 256)) = BitVec.ofNat 16 (c.toNat % 16 * 4096) := by
    apply BitVec.eq_of_toNat_eq
    have h1 : (BitVec.ofNat 16 (c.toNat % 16 * 256)).toNat = c.toNat % 16 * 256 := by rw [BitVec.toNat_ofNat]; omega
    rw [gn_low 4 _ (by rw [h1]; omega), h1, BitVec.toNat_ofNat]
    omega
  unfold half sb
  rw [show (8 : Nat) = 4 + 4 by rfl, gn_add, hup, ← BitVec.xor_assoc, gn_xor 4 _ (BitVec.ofNat 16 (c.toNat % 16 * 256)), hlow]
/-- What is there when k halves have gone by. -/
def hk (x : B16) (c : Int) : Nat → B16
  | 0 => x
  | 1 => half x (c.toNat / 16)
  | _ => sb x c
set_option maxHeartbeats 4000000 in
set_option maxRecDepth 10000 in
theorem tableC (x : B16) (c : Int) (hc : 0 ≤ c ∧ c < 256) {w : World} (hT : Turns w) :
    Calls Tryd.prog 54 #[.int .u16 (iv x), .int .u8 c] w fun e w' => e = .returned (.int .u16 (iv (sb x c))) ∧ w' = w := by
  have HX := Lib.hid (iv_lt x)
  have HC := Lib.hid hc
  obtain ⟨c0, c1⟩ := hc
  have i0 : ∀ (a b : Value) W, (Instr.index 121 (.agg #[a, b]) (.int .i64 0)).run Tryd.prog W = .ok a W := fun a b W => by kernel_rfl
  have i1 : ∀ (a b : Value) W, (Instr.index 121 (.agg #[a, b]) (.int .i64 1)).run Tryd.prog W = .ok b W := fun a b W => by kernel_rfl
  go_enter Tryd.func54, Tryd.ntmps54
  go_wp2
  go_loop [0, 12] (fun r i => ∃ k : Nat, k ≤ 2 ∧ i = .int .i64 k ∧ r = .int .u16 (iv (hk x c k))) (fun _ i => 2 - (intOf i).toNat)
  case atStart => exact ⟨0, by omega, rfl, rfl⟩
  case round =>
    obtain ⟨k, hk2, rfl, rfl⟩ := hrel
    by_cases hlt : k < 2
    · have step : ∃ (h T : Nat), h < 16 ∧ T < 16 ∧ (k = 0 ∧ (h : Int) = c / 16 ∨ k = 1 ∧ (h : Int) = c % 16) ∧ bits .xor .u8 (iv (hk x c k) / 4096) (h : Int) = (T : Int) ∧ bits .xor .u16 (IntKind.u16.wrap (iv (hk x c k) * 16)) ((T : Int) * 4129) = iv (hk x c (k + 1)) := by
        have hy := iv_lt (hk x c k)
        have key : ∀ h : Nat, h < 16 → bits .xor .u8 (iv (hk x c k) / 4096) (h : Int) = (((hk x c k).toNat / 4096 ^^^ h : Nat) : Int) := by
          intro h hh
          rw [u8_xor _ _ (by omega) (by omega) (by omega) (by omega)]
          have : (iv (hk x c k) / 4096).toNat = (hk x c k).toNat / 4096 := by unfold iv; omega
          rw [this]; rfl
        have hlt16 : ∀ h : Nat, h < 16 → (hk x c k).toNat / 4096 ^^^ h < 16 := fun h hh => xor_lt16 _ _ (by have := (hk x c k).isLt; omega) hh
        have hk01 : k = 0 ∨ k = 1 := by omega
        rcases hk01 with rfl | rfl
        · exact ⟨c.toNat / 16, _, by omega, hlt16 _ (by omega), .inl ⟨rfl, by omega⟩, key _ (by omega), by rw [half_iv _ _ (by omega)]; rfl⟩
        · exact ⟨c.toNat % 16, _, by omega, hlt16 _ (by omega), .inr ⟨rfl, by omega⟩, key _ (by omega), by rw [half_iv _ _ (by omega)]; show iv (half (half x (c.toNat / 16)) (c.toNat % 16)) = _; rw [half_half x c HC.out]; rfl⟩
      obtain ⟨h, T, hh, hT16, hcase, hx8, hx16⟩ := step
      have hcell := hT T hT16
      have hb := iv_lt (hk x c k)
      have HX16 := Lib.hid hx16
      clear hx16
      generalize iv (hk x c k) = n at *
      obtain ⟨n0, n1⟩ := hb
      rcases hcase with ⟨rfl, hc1⟩ | ⟨rfl, hc1⟩
      · rw [hc1] at hx8
        clear hc1
        rw [show ((0 : Nat) : Int) = 0 from rfl]
        go_wp2
        go_round
        case rel => exact ⟨1, by omega, rfl, by rw [HX16.out]⟩
        case measure => simp [intOf]
      · rw [hc1] at hx8
        clear hc1
        rw [show ((1 : Nat) : Int) = 1 from rfl]
        go_wp2
        go_round
        case rel => exact ⟨2, by omega, rfl, by rw [HX16.out]⟩
        case measure => simp [intOf]
    · obtain rfl : k = 2 := by omega
      go_wp2
      go_ret
      exact ⟨rfl, rfl⟩
end Go.Proofs.YtkihoonjekccgaaDoor.K

/- What the row's condition gives out of the table. -/
namespace Go.Proofs.YtkihoonjekccgaaDoor.K
open Go.ChangeShapes Go.WideShapes Go.ChangeAt Go.RowKit
set_option linter.unusedVariables false
set_option linter.unusedSimpArgs false
theorem arg_lt {P : Program} {w : World} {r : Reach} {base : Nat} {t e : TypeId} (ht : P.underlying t = some (.slice e)) {A : Option Addr} {len cap : Nat} (h : Value.okWide P w r base t (.slice A len cap)) : ∀ ad, A = some ad → ad.block < w.heap.size := by
  rintro ad rfl
  simp only [Value.okWide, ht, Cell.okWide, Cell.ok, World.has] at h
  obtain ⟨_, _, _, _, row, cells, hs, _⟩ := h
  unfold World.shape? at hs
  rcases Nat.lt_or_ge ad.block w.heap.size with h | h
  · exact h
  · rw [Array.getElem?_eq_none h] at hs
    simp at hs
theorem turns_of {W : World} (h : laidMetH Tryd.prog [("bytes.ErrTooLarge", Rows.laid_bytes_ErrTooLarge), ("lamplight/crc.turns", Rows.laid_lamplight_crc_turns)] W) : Turns W := by
  rw [MakeChecks.laidMetH_plain _ _ _ (by kernel_rfl)] at h
  obtain ⟨ps, ⟨g0, t0, cs0, f0, p0, q0, hg0, ht0, hv0, hd0, ⟨g1, t1, cs1, f1, p1, q1, hg1, ht1, hv1, hd1, _, _⟩, _⟩, _, _⟩ := h
  obtain rfl := Option.some.inj ((show Tryd.prog.globalNamed "lamplight/crc.turns" = some 0 by kernel_rfl).symm.trans hg1)
  obtain rfl := Option.some.inj ((show (Tryd.prog.globals[0]?).map (·.type) = some 122 by kernel_rfl).symm.trans ht1)
  have c1 : Tryd.prog.cellsOf 97 = 1 := by kernel_rfl
  obtain ⟨xs, m, _, ex, hlen, hl, hel⟩ := DataW.trod_array Tryd.underlying122 hd1
  have e3 : [Lit.int .u16 0, .int .u16 4129, .int .u16 8258, .int .u16 12387, .int .u16 16516, .int .u16 20645, .int .u16 24774, .int .u16 28903, .int .u16 33032, .int .u16 37161, .int .u16 41290, .int .u16 45419, .int .u16 49548, .int .u16 53677, .int .u16 57806, .int .u16 61935].map DataW.lit = xs.map (·.1) := by
    have := (Prod.mk.inj ex).1
    exact DataW.agg.inj this
  intro i hi
  have k := hel i hi
  rw [c1, Nat.mul_one] at k
  have hc := World.var?_cell hg1 hv1 i
  have hxl : i < xs.length := by rw [hl]; exact hi
  rw [List.getElem?_eq_getElem hxl] at k
  obtain ⟨z, h1, h2, _⟩ := DataW.trod_int Tryd.underlying97 k
  have h4 : (xs.map (·.1))[i]? = some (DataW.lit (.int .u16 z)) := by
    rw [List.getElem?_map, List.getElem?_eq_getElem hxl, h2]; rfl
  rw [← e3, List.getElem?_map] at h4
  have h5 : cs1.toList[i]? = some (.int .u16 z) := by
    have := congrArg (fun l => l[0]?) h1
    simpa [List.getElem?_take, List.getElem?_drop] using this
  rw [hc, ← Array.getElem?_toList, h5]
  have hz : z = (i : Int) * 4129 := by
    have hi' : i = 0 ∨ i = 1 ∨ i = 2 ∨ i = 3 ∨ i = 4 ∨ i = 5 ∨ i = 6 ∨ i = 7 ∨ i = 8 ∨ i = 9 ∨ i = 10 ∨ i = 11 ∨ i = 12 ∨ i = 13 ∨ i = 14 ∨ i = 15 := by omega
    rcases hi' with h | h | h | h | h | h | h | h | h | h | h | h | h | h | h | h <;> subst h <;> simp at h4 <;> omega
  rw [hz]
end Go.Proofs.YtkihoonjekccgaaDoor.K

/- A Reader: Read, Bytes, Left, Done, Rest. -/
namespace Go.Proofs.YtkihoonjekccgaaDoor.K
open Go.RowKit
set_option linter.unusedVariables false
set_option linter.unusedSimpArgs false
/-- The Reader at r: the bytes l are left; they lie in block G. -/
def Rd (r : Nat) (G : Option Nat) (l : List Int) (w : World) : Prop :=
  ∃ o c cells, Blk w r 102 #[.slice (G.map fun g => ⟨g, o, none⟩) l.length c] ∧ l.length ≤ c ∧ c ≤ 9223372036854775807 ∧ (∀ g, G = some g → Blk w g 5 cells ∧ ∀ i x, l[i]? = some x → cells[o + i]? = some (.int .u8 x)) ∧ (G = none → l = [])
section
variable {r : Nat} {G : Option Nat} {l : List Int} {w w' : World} {S : Nat → Prop}
theorem Rd.fr (h : Rd r G l w) (k : Fr S w w') (hr : ¬ S r) (hg : ∀ g, G = some g → ¬ S g) : Rd r G l w' := by
  obtain ⟨o, c, cells, hb, hl, hc, hG, h0⟩ := h
  exact ⟨o, c, cells, hb.fr k hr, hl, hc, fun g e => ⟨((hG g e).1).fr k (hg g e), (hG g e).2⟩, h0⟩
theorem Rd.fr0 (h : Rd r G l w) (k : Fr0 w w') : Rd r G l w' := h.fr k (fun h => h) (fun _ _ h => h)
theorem Rd.drew (h : Rd r G l w) : Rd r G l w.drew := h
theorem Rd.drewN (h : Rd r G l w) (n : Nat) : Rd r G l (w.drewN n) := h
theorem Rd.lt (h : Rd r G l w) : r < w.heap.size := by obtain ⟨o, c, cells, hb, _⟩ := h; exact hb.lt
theorem Rd.ltG (h : Rd r G l w) : ∀ g, G = some g → g < w.heap.size := fun g e => by obtain ⟨o, c, cells, hb, _, _, hG, _⟩ := h; exact (hG g e).1.lt
end
set_option maxHeartbeats 4000000 in
set_option maxRecDepth 10000 in
theorem ReadC {A : Option Addr} {c : Nat} {l : List Int} {w : World} (hl : l.length ≤ 140737488355328) (h : RowOf c8 1 w w.heap.size A l) :
    Calls Tryd.prog 28 #[.slice A l.length c] w fun e w' => ∃ r G, e = .returned (.pointer (some ⟨r, 0, none⟩)) ∧ w.heap.size ≤ r ∧ (∀ g, G = some g → w.heap.size ≤ g) ∧ Hid (Rd r G l w') ∧ Hid (Fr0 w w') := by
  have H := Lib.hid h
  clear h
  go_enter Tryd.func28, Tryd.ntmps28
  go_wp2_with fail
  (with_reducible refine (CloneC hl H.out).mono ?_)
  rintro e w1 ⟨A1, c1, rfl, H1, F1⟩
  go_wp2
  go_ret
  obtain ⟨hown, hrow, hc⟩ := H1.out
  have hs := F1.out.size
  rcases hown.2 with ⟨hv, h0⟩ | ⟨g, cap, cur, hv, hg, hblk, hnc, hcm, hcs, htk⟩
  · injection hv with h1 h2 h3
    subst h1
    obtain rfl : l = [] := List.eq_nil_of_length_eq_zero h0
    exact ⟨_, none, rfl, hs, fun g e => (by cases e), Lib.hid ⟨0, c1, #[], Blk.new w1 _ _, hc, by omega, fun g e => (by cases e), fun _ => rfl⟩, Lib.hid (F1.out.alloc _)⟩
  · injection hv with h1 h2 h3
    subst h1 h3
    unfold maxLen at hcm
    refine ⟨_, some g, rfl, hs, fun g' e => (by injection e with e; omega), Lib.hid ⟨0, c1, cur, Blk.new w1 _ _, hc, by omega, fun g' e => ?_, fun e => by cases e⟩, Lib.hid (F1.out.alloc _)⟩
    injection e with e
    subst e
    refine ⟨Blk.alloc hblk _, fun i x hx => ?_⟩
    have hi : i < l.length := (List.getElem?_eq_some_iff.1 hx).1
    have e1 : (nums .u8 l)[i]? = some (.int .u8 x) := by simp [nums, hx]
    rw [← htk, List.getElem?_take, if_pos (by omega)] at e1
    rw [Nat.zero_add, ← e1, Array.getElem?_toList]
theorem rd_cell {r : Nat} {G : Option Nat} {l : List Int} {w : World} (h : Rd r G l w) : ∃ A c, w.cell? ⟨r, 0, none⟩ = some (.slice A l.length c) ∧ l.length ≤ c ∧ c ≤ 9223372036854775807 := by
  obtain ⟨o, c, cells, hb, hl, hc, _⟩ := h
  exact ⟨_, c, hb.cell 0, hl, hc⟩
set_option maxRecDepth 10000 in
theorem RBytesNeg {r : Nat} {n : Int} {w : World} (hn : n < 0) :
    Calls Tryd.prog 46 #[.pointer (some ⟨r, 0, none⟩), .int .i64 n] w fun e w' => e = .returned (.tuple #[.slice none 0 0, .int .i64 1]) ∧ w' = w := by
  go_enter Tryd.func46, Tryd.ntmps46
  go_wp2
  go_ret2
  exact ⟨rfl, rfl⟩
set_option maxRecDepth 10000 in
theorem RBytesShort {r : Nat} {G : Option Nat} {l : List Int} {n : Int} {w : World} (h : Rd r G l w) (hn : (l.length : Int) < n) :
    Calls Tryd.prog 46 #[.pointer (some ⟨r, 0, none⟩), .int .i64 n] w fun e w' => e = .returned (.tuple #[.slice none 0 0, .int .i64 2]) ∧ w' = w := by
  obtain ⟨A, c, c0, _, _⟩ := rd_cell h
  have hn0 : ¬ n < 0 := by omega
  clear h
  go_enter Tryd.func46, Tryd.ntmps46
  go_wp2
  go_ret2
  exact ⟨rfl, rfl⟩
theorem splice_all {α : Type} (L cs : List α) (h : cs.length = L.length) : splice L 0 cs = cs := by simp [splice, h]
theorem cutd {G : Option Nat} {o l c n : Nat} (hn : n ≤ l) (hl : l ≤ c) (hc : c ≤ 9223372036854775807) : ∃ o' c', (∀ W, (Instr.slice 32 (.slice (G.map fun g => (⟨g, o, none⟩ : Addr)) l c) (some (.int .i64 n)) none none).run Tryd.prog W = .ok (.slice (G.map fun g => ⟨g, o', none⟩) (l - n) c') W) ∧ l - n ≤ c' ∧ c' ≤ c ∧ (0 < l - n → o' = o + n) := by
  obtain ⟨i0, hi, hz0, hz1, hz2⟩ := info_parts info_u8
  have hel : Tryd.prog.elem 32 = 5 := by simp [Program.elem, Tryd.underlying32]
  have hu : Tryd.prog.underlying 32 = some (.slice (Tryd.prog.elem 32)) := by rw [hel]; exact Tryd.underlying32
  refine ⟨if c = n then o else o + n, c - n, fun W => ?_, by omega, by omega, fun h => if_neg (by omega)⟩
  rw [run_slice_l W 32 _ l c hu .i64 n (by omega) (by omega), hel]
  by_cases hcn : c = n
  · subst hcn
    cases G <;> simp [sizeOf, typeInfo, hi, hz1, sliced, Result.andThen]
  · cases G <;> simp [sizeOf, typeInfo, hi, hz1, sliced, Result.andThen, hcn, add_plain]
set_option maxHeartbeats 4000000 in
set_option maxRecDepth 10000 in
theorem RBytesOk {r n : Nat} {G : Option Nat} {l : List Int} {w : World} (h : Rd r G l w) (hn : n ≤ l.length) (hlim : n ≤ 140737488355328) :
    Calls Tryd.prog 46 #[.pointer (some ⟨r, 0, none⟩), .int .i64 n] w fun e w' => e = .returned (.tuple #[.slice (some ⟨w.heap.size, 0, none⟩) n n, .int .i64 0]) ∧ Hid (Blk w' w.heap.size 5 (nums .u8 (l.take n)).toArray) ∧ Hid (Rd r G (l.drop n) w') ∧ Hid (Fr1 r w w') := by
  obtain ⟨o, c, cells, hb, hlc, hc, hG, h0⟩ := h
  obtain ⟨i0, hi, hz0, hz1, hz2⟩ := info_parts info_u8
  have hmk : ∀ W, (Instr.makeSlice 32 (.int .i64 n) (.int .i64 n)).run Tryd.prog W = .ok (.slice (some ⟨W.heap.size, 0, none⟩) n n) (W.alloc (.cells (madeCells #[.int .u8 0] n) 5)) := fun W => by
    have := run_make (P := Tryd.prog) W 32 5 i0 (.int .u8 0) Tryd.underlying32 hi hz0 .i64 .i64 n n (by omega) (by omega) (by rw [hz2]; omega) (by omega)
    rw [hz1] at this
    simpa [Value.cells] using this
  clear hi hz0 hz1 hz2
  obtain ⟨o', c', hcut, hc1, hc2, hc3⟩ := cutd (G := G) (o := o) hn hlc hc
  obtain ⟨A, hA⟩ : ∃ A, A = G.map fun g => (⟨g, o, none⟩ : Addr) := ⟨_, rfl⟩
  obtain ⟨A', hA'⟩ : ∃ A, A = G.map fun g => (⟨g, o', none⟩ : Addr) := ⟨_, rfl⟩
  rw [← hA, ← hA'] at hcut
  rw [← hA] at hb
  obtain ⟨cs, hcs⟩ : ∃ cs, cs = nums .u8 (l.take n) := ⟨_, rfl⟩
  have hml : cs.length = n := by rw [hcs, nums_length, List.length_take]; omega
  have hone : ∀ u ∈ cs, u.oneCell' = true := hcs ▸ one_nums _ _
  obtain ⟨cur, hcur⟩ : ∃ cur, cur = madeCells #[.int .u8 0] n := ⟨_, rfl⟩
  have hsz : cur.size = n := by rw [hcur]; simp [madeCells]
  rw [← hcur] at hmk
  have c0 : w.cell? ⟨r, 0, none⟩ = some (.slice A l.length c) := hb.cell 0
  have hb1 : Blk (w.alloc (.cells cur 5)) r 102 #[.slice A l.length c] := hb.alloc _
  have c1 : (w.alloc (.cells cur 5)).cell? ⟨r, 0, none⟩ = some (.slice A l.length c) := hb1.cell 0
  have hsrc : 0 < cs.length → ∃ ad, A = some ad ∧ ∀ j u, cs[j]? = some u → (w.alloc (.cells cur 5)).cell? (ad.add j) = some u := by
    intro hp
    cases hGe : G with
    | none => have := h0 hGe; subst this; simp at hn; omega
    | some g =>
      rw [hGe] at hA
      refine ⟨_, hA, fun j u hu => ?_⟩
      obtain ⟨k1, k2⟩ := hG g hGe
      have hj : j < n := by rw [← hml]; exact (List.getElem?_eq_some_iff.1 hu).1
      rw [hcs] at hu
      have hx : l[j]? = some l[j] := List.getElem?_eq_getElem (by omega)
      have := k2 j _ hx
      rw [add_plain, (k1.alloc _).cell, this, ← hu]
      simp [nums, List.getElem?_take, hj, hx]
  have HB := Lib.hid hb
  have HB1 := Lib.hid hb1
  have HS := Lib.hid hsrc
  have HG := Lib.hid hG
  have H0 := Lib.hid h0
  have HONE := Lib.hid hone
  have HML := Lib.hid hml
  have HCS := Lib.hid hcs
  have HA' := Lib.hid hA'
  have HC3 := Lib.hid hc3
  have hne : r ≠ w.heap.size := by have := hb.lt; omega
  rw [← hcs]
  clear hb hb1 hsrc hG h0 hone hml hcs hA hA' hcur hc3
  have hn0 : ¬ ((n : Int) < 0) := by omega
  have hn1 : ¬ ((n : Int) > (l.length : Int)) := by omega
  go_enter Tryd.func46, Tryd.ntmps46
  go_wp2_with ((refine copyF rfl (.tmp 20) (.tmp 24) 32 32 rfl 5 Tryd.underlying32 info1_u8 _ _ _ _ _ _ rfl rfl w.heap.size 0 cur 5 (Blk.new w _ _) cs ?c1 ?c2 ?c3 HONE.out ?_; (case c1 => rw [HML.out]; exact (Nat.min_eq_right hn).symm); (case c2 => exact fun h => ⟨rfl, HS.out h⟩); (case c3 => rw [HML.out, hsz]; omega); intro w4 G4 F4; have B4 := Lib.hid (HB1.out.fr F4.out hne); have d0 := B4.out.cell 0; have d1 := B4.out.frozen 0; clear c0 c1))
  go_ret2
  refine ⟨rfl, Lib.hid ?_, Lib.hid ⟨o', c', cells, ?_, by rw [List.length_drop]; exact hc1, by omega, fun g e => ⟨?_, fun i x hx => ?_⟩, fun e => by rw [H0.out e]; simp⟩, Lib.hid ?_⟩
  · have := G4.out
    rw [splice_all _ _ (by rw [HML.out, Array.length_toList, hsz])] at this
    exact this.far (Ne.symm hne) _
  · rw [← HA'.out, List.length_drop]
    simpa using B4.out.set_ 0 (.slice A' (l.length - n) c')
  · have k1 := ((HG.out g e).1).lt
    exact ((((HG.out g e).1).alloc _).fr F4.out (by omega)).far (by
      have := Blk.ne_ ((HG.out g e).1) HB.out (by decide)
      exact this) _
  · rw [List.getElem?_drop] at hx
    have hi : n + i < l.length := (List.getElem?_eq_some_iff.1 hx).1
    rw [HC3.out (by omega), Nat.add_assoc]
    exact (HG.out g e).2 _ _ hx
  · exact ((((Fr.refl (fun k => k = r) w).alloc _).trans F4.out (fun j hj e => by subst e; omega))).setCell (fun _ => rfl) _
set_option maxHeartbeats 4000000 in
set_option maxRecDepth 10000 in
theorem RRestC {r : Nat} {G : Option Nat} {l : List Int} {w : World} (h : Rd r G l w) (hlim : l.length ≤ 140737488355328) :
    Calls Tryd.prog 30 #[.pointer (some ⟨r, 0, none⟩)] w fun e w' => e = .returned (.slice (some ⟨w.heap.size, 0, none⟩) l.length l.length) ∧ Hid (Blk w' w.heap.size 5 (nums .u8 l).toArray) ∧ Hid (Rd r G [] w') ∧ Hid (Fr1 r w w') := by
  obtain ⟨A, c, c0, _, _⟩ := rd_cell h
  have HC := Lib.hid (RBytesOk h (Nat.le_refl _) hlim)
  clear h
  go_enter Tryd.func30, Tryd.ntmps30
  go_wp2_with (go_at_call 46; (with_reducible refine HC.out.mono ?_); rintro e w1 ⟨rfl, H1, H2, H3⟩)
  go_ret
  rw [List.take_length] at H1
  rw [List.drop_length] at H2
  exact ⟨rfl, H1, H2, H3⟩
end Go.Proofs.YtkihoonjekccgaaDoor.K

/- A Reader: numbers of one, two, four bytes. -/
namespace Go.Proofs.YtkihoonjekccgaaDoor.K
open Go.RowKit
set_option linter.unusedVariables false
set_option linter.unusedSimpArgs false
/-- Bytes as a number, the highest first. -/
def num (l : List Int) : Int := l.foldl (fun n c => n * 256 + c) 0
theorem num_snoc (l : List Int) (c : Int) : num (l ++ [c]) = num l * 256 + c := by simp [num]
theorem num_bound (l : List Int) (h : ∀ x ∈ l, (0 : Int) ≤ x ∧ x < 256) : 0 ≤ num l ∧ num l < 256 ^ l.length := by
  have key : ∀ (n : Nat) (l : List Int), l.length = n → (∀ x ∈ l, (0 : Int) ≤ x ∧ x < 256) → 0 ≤ num l ∧ num l < 256 ^ l.length := by
    intro n
    induction n with
    | zero => intro l hl h; obtain rfl := List.eq_nil_of_length_eq_zero hl; simp [num]
    | succ n ih =>
      intro l hl h
      have hne : l ≠ [] := by rintro rfl; simp at hl
      have e := List.dropLast_concat_getLast hne
      generalize l.dropLast = m at *
      generalize l.getLast hne = c at *
      subst e
      rw [List.length_append, List.length_singleton] at hl
      have h1 := ih m (by omega) (fun x hx => h x (by simp [hx]))
      have h2 := h c (by simp)
      rw [num_snoc, List.length_append, List.length_singleton, Int.pow_succ]
      generalize (256 : Int) ^ m.length = q at *
      omega
  exact key _ l rfl h
theorem or_byte (a c : Int) (ha : 0 ≤ a) (ha1 : a < 16777216) (h0 : 0 ≤ c) (h1 : c < 256) : bits .or .u32 (a * 256) c = a * 256 + c :=
  bits_join .u32 32 (by decide) (fun n h0 h1 => by rw [IntKind.wrap_u32]; omega) 8 (a * 256) c (by omega) (by omega) (by omega) h0 h1 (by omega)
/-- Bytes, each from 0 to 255. -/
def InB (l : List Int) : Prop := ∀ x ∈ l, (0 : Int) ≤ x ∧ x < 256
set_option maxHeartbeats 4000000 in
set_option maxRecDepth 10000 in
theorem numberOk {r n : Nat} {G : Option Nat} {l : List Int} {w : World} (h : Rd r G l w) (hn : n ≤ l.length) (h4 : n ≤ 4) (hb : InB l) :
    Calls Tryd.prog 45 #[.pointer (some ⟨r, 0, none⟩), .int .i64 n] w fun e w' => e = .returned (.tuple #[.int .u32 (num (l.take n)), .int .i64 0]) ∧ Hid (Rd r G (l.drop n) w') ∧ Hid (Fr1 r w w') := by
  have HC := Lib.hid (RBytesOk h hn (by omega))
  have HI := Lib.hid hb
  have hlen : (l.take n).length = n := by rw [List.length_take]; omega
  have HLen := Lib.hid hlen
  have HI2 : Hid (InB (l.take n)) := Lib.hid (fun x hx => HI.out x (List.mem_of_mem_take hx))
  obtain ⟨m, hm⟩ : ∃ m, m = l.take n := ⟨_, rfl⟩
  rw [← hm] at HC HLen HI2 ⊢
  clear h hb hlen hm
  go_enter Tryd.func45, Tryd.ntmps45
  go_wp2_with (go_at_call 46; (with_reducible refine HC.out.mono ?_); rintro e w1 ⟨rfl, H1, H2, H3⟩)
  go_loop [4, 17] (fun t i => ∃ k : Nat, k ≤ n ∧ i = .int .i64 k ∧ t = .int .u32 (num (m.take k))) (fun _ i => n - (intOf i).toNat)
  case atStart => exact ⟨0, Nat.zero_le _, rfl, rfl⟩
  case round =>
    obtain ⟨k, hk, rfl, rfl⟩ := hrel
    by_cases hlt : k < n
    · have hkm : k < m.length := by rw [HLen.out]; exact hlt
      have hc := H1.out.cell k
      have hx : (nums .u8 m).toArray[k]? = some (.int .u8 m[k]) := by simp [nums, hkm]
      rw [hx] at hc
      have hns : num (m.take (k + 1)) = num (m.take k) * 256 + m[k] := by rw [List.take_succ_eq_append_getElem hkm, num_snoc]
      have hbm := HI2.out (m[k]) (List.getElem_mem hkm)
      have hnb := num_bound (m.take k) (fun x hx => HI2.out x (List.mem_of_mem_take hx))
      have hkl : (m.take k).length = k := by rw [List.length_take]; omega
      rw [hkl] at hnb
      have hp : (256 : Int) ^ k ≤ 16777216 := by
        have : k = 0 ∨ k = 1 ∨ k = 2 ∨ k = 3 := by omega
        rcases this with h | h | h | h <;> subst h <;> decide
      have hnb1 : num (m.take k) < 16777216 := by omega
      have HNS := Lib.hid hns
      have hnb0 := hnb.1
      clear hx hns hnb hkl hp
      generalize m[k] = x at *
      generalize num (m.take k) = a at *
      obtain ⟨hx0, hx1⟩ := hbm
      go_wp2
      rw [or_byte a x hnb0 hnb1 hx0 hx1]
      go_round
      case rel => exact ⟨k + 1, by omega, by go_num, by rw [HNS.out]⟩
      case measure => simp [intOf]; omega
    · obtain rfl : k = n := by omega
      have e : m.take k = m := List.take_of_length_le (by rw [HLen.out]; exact Nat.le_refl _)
      rw [e]
      go_wp2
      go_ret2
      exact ⟨rfl, H2, H3⟩
set_option maxHeartbeats 4000000 in
set_option maxRecDepth 10000 in
theorem numberShort {r : Nat} {n : Int} {G : Option Nat} {l : List Int} {w : World} (h : Rd r G l w) (hn : (l.length : Int) < n) :
    Calls Tryd.prog 45 #[.pointer (some ⟨r, 0, none⟩), .int .i64 n] w fun e w' => e = .returned (.tuple #[.int .u32 0, .int .i64 2]) ∧ w' = w := by
  have HC := Lib.hid (RBytesShort h hn)
  clear h
  go_enter Tryd.func45, Tryd.ntmps45
  go_wp2_with (go_at_call 46; (with_reducible refine HC.out.mono ?_); rintro e w1 ⟨rfl, rfl⟩)
  refine wp_loop_rounds 1 ?_
  rw [rounds_succ]
  go_wp2
  go_ret2
  exact ⟨rfl, rfl⟩
theorem num_lt {l : List Int} {k : Nat} (hb : InB l) (hk : l.length ≤ k) : 0 ≤ num l ∧ num l < 256 ^ k := by
  have h := num_bound l hb
  have : (256 : Int) ^ l.length ≤ 256 ^ k := by
    have : (256 : Nat) ^ l.length ≤ 256 ^ k := Nat.pow_le_pow_right (by omega) hk
    have h2 : ((256 ^ l.length : Nat) : Int) ≤ ((256 ^ k : Nat) : Int) := Int.ofNat_le.2 this
    rwa [Int.natCast_pow, Int.natCast_pow] at h2
  omega
theorem InB.take_ {l : List Int} (h : InB l) (n : Nat) : InB (l.take n) := fun x hx => h x (List.mem_of_mem_take hx)
theorem InB.drop_ {l : List Int} (h : InB l) (n : Nat) : InB (l.drop n) := fun x hx => h x (List.mem_of_mem_drop hx)
set_option maxRecDepth 10000 in
theorem RU8_ok {r : Nat} {G : Option Nat} {l : List Int} {w : World} (h : Rd r G l w) (hn : 1 ≤ l.length) (hb : InB l) :
    Calls Tryd.prog 29 #[.pointer (some ⟨r, 0, none⟩)] w fun e w' => e = .returned (.tuple #[.int .u8 (num (l.take 1)), .int .i64 0]) ∧ Hid (Rd r G (l.drop 1) w') ∧ Hid (Fr1 r w w') := by
  have HC := Lib.hid (numberOk (n := 1) h hn (by omega) hb)
  have hnb := num_lt (k := 1) (hb.take_ 1) (by rw [List.length_take]; omega)
  obtain ⟨a, ha⟩ : ∃ a, a = num (l.take 1) := ⟨_, rfl⟩
  have hq : (256 : Int) ^ 1 = 256 := by decide
  rw [← ha] at HC hnb ⊢
  rw [hq] at hnb
  obtain ⟨hn0, hn1⟩ := hnb
  clear h hb ha hq
  go_enter Tryd.func29, Tryd.ntmps29
  go_wp2_with (go_at_call 45; refine HC.out.mono ?_; rintro e w1 ⟨rfl, H2, H3⟩)
  go_ret2
  exact ⟨rfl, H2, H3⟩
set_option maxRecDepth 10000 in
theorem RU8_short {r : Nat} {G : Option Nat} {l : List Int} {w : World} (h : Rd r G l w) (hn : l.length < 1) :
    Calls Tryd.prog 29 #[.pointer (some ⟨r, 0, none⟩)] w fun e w' => e = .returned (.tuple #[.int .u8 0, .int .i64 2]) ∧ w' = w := by
  have HC := Lib.hid (numberShort (n := 1) h (by omega))
  clear h
  go_enter Tryd.func29, Tryd.ntmps29
  go_wp2_with (go_at_call 45; refine HC.out.mono ?_; rintro e w1 ⟨rfl, rfl⟩)
  go_ret2
  exact ⟨rfl, rfl⟩
set_option maxRecDepth 10000 in
theorem RU16_ok {r : Nat} {G : Option Nat} {l : List Int} {w : World} (h : Rd r G l w) (hn : 2 ≤ l.length) (hb : InB l) :
    Calls Tryd.prog 42 #[.pointer (some ⟨r, 0, none⟩)] w fun e w' => e = .returned (.tuple #[.int .u16 (num (l.take 2)), .int .i64 0]) ∧ Hid (Rd r G (l.drop 2) w') ∧ Hid (Fr1 r w w') := by
  have HC := Lib.hid (numberOk (n := 2) h hn (by omega) hb)
  have hnb := num_lt (k := 2) (hb.take_ 2) (by rw [List.length_take]; omega)
  obtain ⟨a, ha⟩ : ∃ a, a = num (l.take 2) := ⟨_, rfl⟩
  have hq : (256 : Int) ^ 2 = 65536 := by decide
  rw [← ha] at HC hnb ⊢
  rw [hq] at hnb
  obtain ⟨hn0, hn1⟩ := hnb
  clear h hb ha hq
  go_enter Tryd.func42, Tryd.ntmps42
  go_wp2_with (go_at_call 45; refine HC.out.mono ?_; rintro e w1 ⟨rfl, H2, H3⟩)
  go_ret2
  exact ⟨rfl, H2, H3⟩
set_option maxRecDepth 10000 in
theorem RU16_short {r : Nat} {G : Option Nat} {l : List Int} {w : World} (h : Rd r G l w) (hn : l.length < 2) :
    Calls Tryd.prog 42 #[.pointer (some ⟨r, 0, none⟩)] w fun e w' => e = .returned (.tuple #[.int .u16 0, .int .i64 2]) ∧ w' = w := by
  have HC := Lib.hid (numberShort (n := 2) h (by omega))
  clear h
  go_enter Tryd.func42, Tryd.ntmps42
  go_wp2_with (go_at_call 45; refine HC.out.mono ?_; rintro e w1 ⟨rfl, rfl⟩)
  go_ret2
  exact ⟨rfl, rfl⟩
end Go.Proofs.YtkihoonjekccgaaDoor.K

/- Strings of bytes. -/
namespace Go.Proofs.YtkihoonjekccgaaDoor.K
open Go.RowKit
set_option linter.unusedVariables false
set_option linter.unusedSimpArgs false
/-- string(b), b any row of bytes. -/
theorem str_row {w : World} {B : Nat} {A : Option Addr} {l : List Int} {c : Nat} (h : RowOf c8 1 w B A l) :
    (convert 32 9 (.slice A l.length c)).run Tryd.prog w = .ok (.string (strOfNums l)) w := by
  cases A with
  | none =>
    have hl0 : l = [] := by
      cases l with
      | nil => rfl
      | cons y l => obtain ⟨ad, e, _⟩ := h 0 y rfl; cases e
    subst hl0
    exact run_convert_bytes_nil w 32 5 Tryd.underlying32 Tryd.underlying5 0 c 9 Tryd.underlying9
  | some ad =>
    have hl : (loadCells ad l.length).run Tryd.prog w = .ok (l.map (Value.int .u8)).toArray w := by
      have := run_loadCells_list (P := Tryd.prog) w ad (l.map (Value.int .u8)) (fun j v hj => by
        have hjl : j < l.length := by have := (List.getElem?_eq_some_iff.1 hj).1; rwa [List.length_map] at this
        obtain ⟨ad', e, _, hc⟩ := h.num hjl
        injection e with e; subst e
        rw [hc]
        rw [List.getElem?_map, List.getElem?_eq_getElem hjl] at hj
        simp at hj
        subst hj
        simp [List.getD_eq_getElem?_getD, List.getElem?_eq_getElem hjl])
      simpa using this
    rw [run_convert_bytes_string w 32 9 5 _ l.length c Tryd.underlying32 Tryd.underlying5 Tryd.underlying9, run_bytesToString w ad l.length c l hl, foldl_push_bytes]
    simp [strOfNums, ByteArray.empty, ByteArray.emptyWithCapacity]
    rfl
theorem row_blk {w : World} {g B : Nat} {l : List Int} (h : Blk w g 5 (nums .u8 l).toArray) (hg : g < B) : RowOf c8 1 w B (some ⟨g, 0, none⟩) l := by
  intro i x hx
  refine ⟨_, rfl, hg, fun j u hu => ?_⟩
  match j, hu with
  | 0, hu =>
    simp at hu; subst hu
    rw [add_plain, h.cell]
    simp [nums, hx]
theorem str_size (l : List Int) : (strOfNums l).size = l.length := strOfNums_size l
theorem str_append (a b : List Int) : strOfNums a ++ strOfNums b = strOfNums (a ++ b) := by
  apply ByteArray.ext
  simp [strOfNums]
theorem str_nil : strOfNums [] = ByteArray.empty := by apply ByteArray.ext; rfl
theorem u8_inj {x y : Int} (hx : 0 ≤ x ∧ x < 256) (hy : 0 ≤ y ∧ y < 256) (h : UInt8.ofNat x.toNat = UInt8.ofNat y.toNat) : x = y := by
  have h1 := congrArg UInt8.toNat h
  simp at h1
  omega
theorem map_inj_on {α β : Type} {f : α → β} {P : α → Prop} (hf : ∀ x y, P x → P y → f x = f y → x = y) : ∀ (a b : List α), (∀ x ∈ a, P x) → (∀ x ∈ b, P x) → a.map f = b.map f → a = b := by
  intro a
  induction a with
  | nil => intro b _ _ h; cases b with
    | nil => rfl
    | cons y b => simp at h
  | cons x a ih =>
    intro b ha hb h
    cases b with
    | nil => simp at h
    | cons y b =>
      simp only [List.map_cons, List.cons.injEq] at h
      rw [hf x y (ha x (by simp)) (hb y (by simp)) h.1, ih b (fun z hz => ha z (by simp [hz])) (fun z hz => hb z (by simp [hz])) h.2]
theorem str_inj {a b : List Int} (ha : InB a) (hb : InB b) (h : strOfNums a = strOfNums b) : a = b := by
  have h2 : (strOfNums a).data.toList = (strOfNums b).data.toList := by rw [h]
  rw [strOfNums_data, strOfNums_data] at h2
  exact map_inj_on (P := fun x => 0 ≤ x ∧ x < 256) (fun x y hx hy => u8_inj hx hy) a b ha hb h2
theorem str_list (l : List Int) : (strOfNums l).toList = l.map fun n => UInt8.ofNat n.toNat := by rw [ByteArray.toList_eq, strOfNums_data]
theorem str_eq {a b : List Int} (ha : InB a) (hb : InB b) : ((strOfNums a).toList == (strOfNums b).toList) = decide (a = b) := by
  rw [str_list, str_list]
  by_cases h : a = b
  · subst h; simp
  · have : ¬ (a.map (fun n => UInt8.ofNat n.toNat) = b.map fun n => UInt8.ofNat n.toNat) := fun h2 => h (map_inj_on (P := fun x => 0 ≤ x ∧ x < 256) (fun x y hx hy => u8_inj hx hy) a b ha hb h2)
    simp [h, this]
theorem str_cut (l : List Int) (a b : Nat) : (strOfNums l).extract a b = strOfNums ((l.take b).drop a) := by
  apply ByteArray.ext
  apply Array.ext'
  simp [strOfNums, List.extract_eq_take_drop, List.drop_take, List.map_drop, List.map_take]
theorem str_at (l : List Int) (i : Nat) (hi : i < l.length) (hb : InB l) (hs : i < (strOfNums l).size) : (((strOfNums l)[i]'hs).toNat : Int) = l[i] := by
  have h := hb _ (List.getElem_mem hi)
  have : (strOfNums l)[i]'hs = UInt8.ofNat (l[i]).toNat := by
    show (strOfNums l).data[i]'_ = _
    simp [strOfNums]
  rw [this]
  simp
  omega
/-- The document's number, as a text. -/
theorem be_zero (n : Int) : be n 0 = [] := rfl
theorem num_cons (l : List Int) (k : Nat) (h : k < l.length) : num (l.take (k + 1)) = num (l.take k) * 256 + l[k] := by rw [List.take_succ_eq_append_getElem h, num_snoc]
theorem scut_hi (l : List Int) (k : Nat) (hk : k ≤ l.length) (W : World) : (Instr.slice 9 (.string (strOfNums l)) none (some (.int .i64 k)) none).run Tryd.prog W = .ok (.string (strOfNums (l.take k))) W := by
  rw [run_slice_string_h W 9 (strOfNums l) Tryd.underlying9 .i64 k (by omega) (by rw [str_size]; omega), Int.toNat_natCast, str_cut]
  simp
theorem scut_lo (l : List Int) (k : Nat) (hk : k ≤ l.length) (W : World) : (Instr.slice 9 (.string (strOfNums l)) (some (.int .i64 k)) none none).run Tryd.prog W = .ok (.string (strOfNums (l.drop k))) W := by
  rw [run_slice_string_l W 9 (strOfNums l) Tryd.underlying9 .i64 k (by omega) (by rw [str_size]; omega), Int.toNat_natCast, str_cut, str_size, List.take_length]
end Go.Proofs.YtkihoonjekccgaaDoor.K

/- What must be in any case: shown of layer 1. -/
namespace Go.Proofs.YtkihoonjekccgaaDoor.K
open Go.RowKit
set_option linter.unusedVariables false
set_option linter.unusedSimpArgs false
theorem RU8_is {r : Nat} {G : Option Nat} {l m : List Int} {x : Int} {w : World} (h : Rd r G l w) (hn : 1 ≤ l.length) (hb : InB l) (hx : num (l.take 1) = x) (hm : l.drop 1 = m) :
    Calls Tryd.prog 29 #[.pointer (some ⟨r, 0, none⟩)] w fun e w' => e = .returned (.tuple #[.int .u8 x, .int .i64 0]) ∧ Hid (Rd r G m w') ∧ Hid (Fr1 r w w') := by subst hx hm; exact RU8_ok h hn hb
theorem RU16_is {r : Nat} {G : Option Nat} {l m : List Int} {x : Int} {w : World} (h : Rd r G l w) (hn : 2 ≤ l.length) (hb : InB l) (hx : num (l.take 2) = x) (hm : l.drop 2 = m) :
    Calls Tryd.prog 42 #[.pointer (some ⟨r, 0, none⟩)] w fun e w' => e = .returned (.tuple #[.int .u16 x, .int .i64 0]) ∧ Hid (Rd r G m w') ∧ Hid (Fr1 r w w') := by subst hx hm; exact RU16_ok h hn hb
theorem inB_of {l : List Int} (h : (l.all fun x => decide (0 ≤ x) && decide (x < 256)) = true) : InB l := fun x hx => by
  have := List.all_eq_true.1 h x hx
  simpa using this
theorem Wrt.fr {b : Nat} {v : Value} {l : List Int} {S : Nat → Prop} {w w' : World} (h : Wrt b v l w) (k : Fr S w w') (hb : ¬ S b) (hv : ∀ j, v.ownBlock = some j → ¬ S j) : Wrt b v l w' := by
  obtain ⟨⟨lr, h1⟩, h2, h3⟩ := h
  exact ⟨⟨lr, h1.fr k hb⟩, own_fr h2 k hv, h3⟩
theorem Wrt.alloc {b : Nat} {v : Value} {l : List Int} {w : World} (h : Wrt b v l w) (o : Obj) : Wrt b v l (w.alloc o) := h.fr ((Fr.refl (fun _ => False) w).alloc o) (fun h => h) (fun _ _ h => h)
theorem Wrt.lt {b : Nat} {v : Value} {l : List Int} {w : World} (h : Wrt b v l w) : b < w.heap.size := by obtain ⟨⟨lr, h1⟩, _⟩ := h; exact h1.lt
theorem Wrt.ltv {b : Nat} {v : Value} {l : List Int} {w : World} (h : Wrt b v l w) : ∀ j, v.ownBlock = some j → j < w.heap.size := fun j e => (h.2.1.lt j e).2
theorem row_vals {α : Type} {c : α → List Value} {f : α → Value} {w : World} {g B : Nat} {t : TypeId} {l : List α} (hc : ∀ x, c x = [f x]) (h : Blk w g t (l.map f).toArray) (hg : g < B) : RowOf c 1 w B (some ⟨g, 0, none⟩) l := by
  intro i x hx
  refine ⟨_, rfl, hg, fun j u hu => ?_⟩
  rw [hc] at hu
  match j, hu with
  | 0, hu =>
    simp at hu; subst hu
    rw [add_plain, h.cell]
    simp [hx]
/-- What lies in a block that is neither a Writer's own nor its row's. -/
theorem away_ge {b : Nat} {v : Value} {w : World} {g o n : Nat} (hg : n ≤ g) (hgw : g < w.heap.size) (hb : b < n) (hv : ∀ j, v.ownBlock = some j → j < n) : Away b v w (some ⟨g, o, none⟩) := fun ad e => by
  injection e with e; subst e
  refine ⟨hgw, ?_, fun e => ?_⟩
  · show g ≠ b
    omega
  · have := hv _ e
    simp at this; omega
theorem away_none {b : Nat} {v : Value} {w : World} : Away b v w none := fun ad e => by cases e
theorem row_none {α : Type} {c : α → List Value} {size : Nat} {w : World} {B : Nat} : RowOf c size w B none ([] : List α) := fun i x h => by simp at h
theorem JoinE {pc : Nat} {P : Option Addr} {ps : List Part} {m : List Int} {w : World} (hm : flat ps = m) (hlim : m.length ≤ 140737488355328) (hps : ps.length ≤ 140737488355328)
    (hP : RowOf cP 1 w w.heap.size P ps) (hPa : ∀ ad, P = some ad → ad.block < w.heap.size) (hp : ∀ p ∈ ps, RowOf c8 1 w w.heap.size p.1 p.2.2 ∧ ∀ ad, p.1 = some ad → ad.block < w.heap.size) :
    Calls Tryd.prog 23 #[.slice P ps.length pc] w fun e w' => ∃ A' c', e = .returned (.slice A' m.length c') ∧ Hid (Made w.heap.size A' c' m w') ∧ Hid (Fr0 w w') := by subst hm; exact JoinC hlim hps hP hPa hp
theorem row_lit {w : World} {g B : Nat} {l : List Int} {fr : Nat × Nat} (h : w.heap[g]? = some (.cells (nums .u8 l).toArray 5 fr)) (hg : g < B) : RowOf c8 1 w B (some ⟨g, 0, none⟩) l := by
  intro i x hx
  refine ⟨_, rfl, hg, fun j u hu => ?_⟩
  match j, hu with
  | 0, hu =>
    simp at hu; subst hu
    rw [add_plain, cell_of_row w g _ _ _ _ h]
    simp [nums, hx]
theorem heap_alloc_old {w : World} {g : Nat} {x : Obj} (h : w.heap[g]? = some x) (o : Obj) : (w.alloc o).heap[g]? = some x := by
  have : g < w.heap.size := by
    rcases Nat.lt_or_ge g w.heap.size with hlt | hge
    · exact hlt
    · rw [Array.getElem?_eq_none hge] at h; cases h
  exact (Below.heap_alloc w o g this).trans h
theorem Blk.new_at {w : World} {t : TypeId} {cs : Array Value} {g : Nat} (hg : g = w.heap.size) : Blk (w.alloc (.cells cs t)) g t cs := by subst hg; exact Blk.new w t cs
theorem heap_new_at {w : World} {o : Obj} {g : Nat} (hg : g = w.heap.size) : (w.alloc o).heap[g]? = some o := by subst hg; exact heap_alloc_new w o
theorem kconv (w : World) (C : Array Value) (n c : Nat) : (convert 32 32 (.slice (some ⟨w.heap.size, 0, none⟩) n c)).run Tryd.prog (w.alloc (.cells C 5)) = .ok (.slice (some ⟨w.heap.size, 0, none⟩) n c) (w.alloc (.cells C 5 (C.size, C.size + 1))) := Lib.run_convert_bytes_const (P := Tryd.prog) w 32 5 C n c Tryd.underlying32 Tryd.underlying5
theorem kconv1 (w : World) (o : Obj) (C : Array Value) (n c : Nat) : (convert 32 32 (.slice (some ⟨w.heap.size + 1, 0, none⟩) n c)).run Tryd.prog ((w.alloc o).alloc (.cells C 5)) = .ok (.slice (some ⟨w.heap.size + 1, 0, none⟩) n c) ((w.alloc o).alloc (.cells C 5 (C.size, C.size + 1))) := Joins.run_convert_bytes_const_at (P := Tryd.prog) (w.alloc o) 32 5 C n c _ (by simp) Tryd.underlying32 Tryd.underlying5
theorem Wrt.to {b : Nat} {v : Value} {l m : List Int} {w : World} (h : Wrt b v l w) (e : l = m) : Wrt b v m w := e ▸ h
theorem fr1_below {r B : Nat} {w w1 w2 : World} (h : Below B w w1) (k : Fr1 r w1 w2) (hr : B ≤ r) (hB : B ≤ w.heap.size) : Below B w w2 :=
  below_fr h k (below_size h hB) (fun j e => by omega)
theorem fr0_below {B : Nat} {w w1 w2 : World} (h : Below B w w1) (k : Fr0 w1 w2) (hB : B ≤ w.heap.size) : Below B w w2 :=
  below_fr h k (below_size h hB) (fun j e => e.elim)
theorem wfr_below {b B : Nat} {v v' : Value} {w w1 w2 : World} (h : Below B w w1) (k : WFr b v v' w1 w2) (hb : B ≤ b) (hv : ∀ j, v.ownBlock = some j → B ≤ j) (hB : B ≤ w.heap.size) : Below B w w2 :=
  below_fr h k.fr (below_size h hB) (fun j e => by
    rcases e with e | e
    · omega
    · exact hv j e)
theorem wfr_base {b B : Nat} {v v' : Value} {w w' : World} (k : WFr b v v' w w') (hv : ∀ j, v.ownBlock = some j → B ≤ j) (hB : B ≤ w.heap.size) : ∀ j, v'.ownBlock = some j → B ≤ j := fun j e => by
  rcases k.row j e with h | h
  · exact hv j h
  · omega
theorem base_nil (B : Nat) : ∀ j, (Value.slice none 0 0).ownBlock = some j → B ≤ j := fun j e => by simp [Value.ownBlock] at e
end Go.Proofs.YtkihoonjekccgaaDoor.K

/- Numbers and their bytes: plain laws. -/
namespace Go.Proofs.YtkihoonjekccgaaDoor.K
open Go.RowKit
set_option linter.unusedVariables false
set_option linter.unusedSimpArgs false
theorem pow_pos8 (k : Nat) : (0 : Int) < 256 ^ k := Int.pow_pos (by decide)
theorem num_append (a b : List Int) : num (a ++ b) = num a * 256 ^ b.length + num b := by
  have key : ∀ (n : Nat) (b : List Int), b.length = n → num (a ++ b) = num a * 256 ^ b.length + num b := by
    intro n
    induction n with
    | zero => intro b hb; obtain rfl := List.eq_nil_of_length_eq_zero hb; simp [num]
    | succ n ih =>
      intro b hb
      have hne : b ≠ [] := by rintro rfl; simp at hb
      have e := List.dropLast_concat_getLast hne
      generalize b.dropLast = m at *
      generalize b.getLast hne = c at *
      subst e
      rw [List.length_append, List.length_singleton] at hb
      rw [← List.append_assoc, num_snoc, num_snoc, ih m (by omega), List.length_append, List.length_singleton, Int.pow_succ, Int.add_mul, Int.mul_assoc, Int.add_assoc]
  exact key _ b rfl
theorem num_one (x : Int) : num [x] = x := by simp [num]
theorem num_cons' (x : Int) (t : List Int) : num (x :: t) = x * 256 ^ t.length + num t := by
  have := num_append [x] t
  rwa [num_one] at this
theorem be_add (x m : Int) (k : Nat) : ∀ j, j ≤ k → be (x * 256 ^ k + m) j = be m j := by
  intro j
  induction j with
  | zero => intro _; rfl
  | succ j ih =>
    intro hj
    simp only [be]
    rw [ih (by omega)]
    have e : (256 : Int) ^ k = 256 ^ (k - j - 1) * 256 * 256 ^ j := by
      rw [show k = (k - j - 1) + 1 + j by omega, Int.pow_add, Int.pow_succ]
      simp
    have e2 : (x * 256 ^ k + m) / 256 ^ j = m / 256 ^ j + x * 256 ^ (k - j - 1) * 256 := by
      rw [e, Int.add_comm, ← Int.mul_assoc, ← Int.mul_assoc, Int.add_mul_ediv_right _ _ (Int.ne_of_gt (pow_pos8 j))]
    rw [e2]
    congr 1
    omega
theorem be_num (l : List Int) (h : InB l) : be (num l) l.length = l := by
  induction l with
  | nil => rfl
  | cons x t ih =>
    have ht : InB t := fun y hy => h y (by simp [hy])
    have hx := h x (by simp)
    have hb := num_bound t ht
    rw [num_cons', List.length_cons]
    simp only [be]
    rw [be_add x (num t) t.length t.length (Nat.le_refl _), ih ht]
    congr 1
    rw [Int.add_comm, Int.add_mul_ediv_right _ _ (Int.ne_of_gt (pow_pos8 _)), Int.ediv_eq_zero_of_lt hb.1 hb.2]
    omega
theorem num_be (n : Int) (k : Nat) : num (be n k) = n % 256 ^ k := by
  induction k with
  | zero => simp [be, num]
  | succ k ih =>
    simp only [be]
    rw [num_cons', be_length, ih, Int.pow_succ, Int.mul_comm (256 ^ k) 256]
    have hp := pow_pos8 k
    generalize (256 : Int) ^ k = q at *
    have h1 := Int.emod_add_mul_ediv n q
    have h2 := Int.emod_add_mul_ediv (n / q) 256
    have h3 : n % (256 * q) = n % q + q * (n / q % 256) := by
      have e : n = (n % q + q * (n / q % 256)) + (256 * q) * (n / q / 256) := by
        have : q * (n / q) = q * (n / q % 256) + 256 * q * (n / q / 256) := by
          conv => lhs; rw [← h2]
          rw [Int.mul_add, ← Int.mul_assoc, Int.mul_comm q 256]
        omega
      have hr0 : 0 ≤ n % q := Int.emod_nonneg _ (by omega)
      have hr1 : n % q < q := Int.emod_lt_of_pos _ hp
      have hs0 : 0 ≤ n / q % 256 := Int.emod_nonneg _ (by decide)
      have hs1 : n / q % 256 ≤ 255 := by have := Int.emod_lt_of_pos (n / q) (show (0 : Int) < 256 by decide); omega
      have ha : 0 ≤ q * (n / q % 256) := Int.mul_nonneg (by omega) hs0
      have hb : q * (n / q % 256) ≤ q * 255 := Int.mul_le_mul_of_nonneg_left hs1 (by omega)
      conv => lhs; rw [e]
      rw [Int.add_mul_emod_self_left]
      exact Int.emod_eq_of_lt (by omega) (by omega)
    rw [h3, Int.mul_comm q]
    omega
theorem be_inB (n : Int) (k : Nat) : InB (be n k) := by
  induction k with
  | zero => intro x hx; simp [be] at hx
  | succ k ih =>
    intro x hx
    simp only [be, List.mem_cons] at hx
    rcases hx with rfl | hx
    · exact ⟨Int.emod_nonneg _ (by decide), Int.emod_lt_of_pos _ (by decide)⟩
    · exact ih x hx
theorem take_add {α : Type} (l : List α) (a b : Nat) : l.take (a + b) = l.take a ++ (l.drop a).take b := by rw [List.take_add]
end Go.Proofs.YtkihoonjekccgaaDoor.K

/- What the laws about octets share. -/
namespace Go.Proofs.YtkihoonjekccgaaDoor.K
open Go.RowKit
set_option linter.unusedVariables false
set_option linter.unusedSimpArgs false
theorem min_two (ats : Array TypeId) (ty : TypeId) (a b : Value) : Builtin.min_ ats ty #[a, b] = (Builtin.min2 a b >>= fun s => pure s) := by simp only [Builtin.min_, List.foldlM_cons, List.foldlM_nil]
theorem min2_min (k k' : IntKind) (x y : Int) : Builtin.min2 (.int k x) (.int k' y) = pure (.int k (min x y)) := by
  simp only [Builtin.min2]; congr 2; split <;> omega
theorem min_nat (n k : Nat) : ∃ m : Nat, min (n : Int) (k : Int) = (m : Int) ∧ m ≤ n ∧ m ≤ k := ⟨min n k, by omega, by omega, by omega⟩
theorem and_mask (x : Int) (k : Nat) (hk : k < 9223372036854775808) : ∃ m : Nat, m ≤ k ∧ bits .and .i64 x k = m := by
  have h2 : (BitVec.ofInt 64 (k : Int)).toNat = k := by
    rw [BitVec.ofInt_natCast, BitVec.toNat_ofNat]; exact Nat.mod_eq_of_lt (by omega)
  have h : (BitVec.ofInt 64 x &&& BitVec.ofInt 64 (k : Int)).toNat ≤ k := by
    rw [BitVec.toNat_and, h2]
    exact Nat.and_le_right
  refine ⟨_, h, ?_⟩
  show IntKind.i64.wrap ((BitVec.ofInt 64 x &&& BitVec.ofInt 64 (k : Int)).toNat : Int) = _
  rw [IntKind.wrap_i64]
  omega
/-- x[:k], of any slice. -/
theorem cut_hi {t e : TypeId} {i : TypeInfo} (ht : Tryd.prog.underlying t = some (.slice e)) (hi : Tryd.prog.info? e = some i) (A : Option Addr) (n c k : Nat) (hc : k ≤ c) (W : World) : (Instr.slice t (.slice A n c) none (some (.int .i64 k)) none).run Tryd.prog W = .ok (.slice A k c) W := by
  have hel : Tryd.prog.elem t = e := by simp [Program.elem, ht]
  have hu : Tryd.prog.underlying t = some (.slice (Tryd.prog.elem t)) := by rw [hel]; exact ht
  rw [run_slice_h W t A n c hu .i64 k (by omega) (by omega), hel]
  by_cases hcn : c = 0 <;> cases A <;> simp [sizeOf, typeInfo, hi, sliced, Result.andThen, Addr.add, hcn]
/-- x[k:], of any slice of elements of one cell. -/
theorem cut_lo {t e : TypeId} {i : TypeInfo} (ht : Tryd.prog.underlying t = some (.slice e)) (hi : Tryd.prog.info? e = some i) (h1 : i.size = 1) (A : Option Addr) (n c k : Nat) (hk : k ≤ n) (hc : n ≤ c) (hcm : c ≤ 9223372036854775807) (W : World) : (Instr.slice t (.slice A n c) (some (.int .i64 k)) none none).run Tryd.prog W = .ok (.slice (if c = k then A else A.map (·.add k)) (n - k) (c - k)) W := by
  have hel : Tryd.prog.elem t = e := by simp [Program.elem, ht]
  have hu : Tryd.prog.underlying t = some (.slice (Tryd.prog.elem t)) := by rw [hel]; exact ht
  rw [run_slice_l W t A n c hu .i64 k (by omega) (by omega), hel]
  by_cases hcn : c = k
  · subst hcn
    cases A <;> simp [sizeOf, typeInfo, hi, h1, sliced, Result.andThen]
  · cases A <;> simp [sizeOf, typeInfo, hi, h1, sliced, Result.andThen, hcn]
theorem RowOf.take_ {α : Type} {c : α → List Value} {size : Nat} {w : World} {B : Nat} {A : Option Addr} {l : List α} (h : RowOf c size w B A l) (n : Nat) : RowOf c size w B A (l.take n) := by
  intro i x hx
  refine h i x ?_
  rw [List.getElem?_take] at hx
  split at hx
  · exact hx
  · cases hx
theorem RowOf.drop_ {α : Type} {c : α → List Value} {w : World} {B cap : Nat} {A : Option Addr} {l : List α} (h : RowOf c 1 w B A l) (k : Nat) (hc : l.length ≤ cap) : RowOf c 1 w B (if cap = k then A else A.map (·.add k)) (l.drop k) := by
  intro i x hx
  rw [List.getElem?_drop] at hx
  obtain ⟨ad, rfl, hb, hcc⟩ := h (k + i) x hx
  have hlt : k + i < l.length := (List.getElem?_eq_some_iff.1 hx).1
  rw [if_neg (by omega)]
  refine ⟨_, rfl, by rw [block_of_add]; exact hb, fun j u hu => ?_⟩
  have := hcc j u hu
  rw [add_of_add]
  rwa [show k + (i * 1 + j) = (k + i) * 1 + j by omega]
theorem bytes_info : ∃ i, Tryd.prog.info? 5 = some i ∧ i.size = 1 := by
  obtain ⟨i, h1, _, h2, _⟩ := info_parts info_u8
  exact ⟨i, h1, h2⟩
theorem bcut_hi (A : Option Addr) (n c k : Nat) (hc : k ≤ c) (W : World) : (Instr.slice 32 (.slice A n c) none (some (.int .i64 k)) none).run Tryd.prog W = .ok (.slice A k c) W := by
  obtain ⟨i, h1, _⟩ := bytes_info
  exact cut_hi Tryd.underlying32 h1 A n c k hc W
theorem bcut_lo (A : Option Addr) (n c k : Nat) (hk : k ≤ n) (hc : n ≤ c) (hcm : c ≤ 9223372036854775807) (W : World) : (Instr.slice 32 (.slice A n c) (some (.int .i64 k)) none none).run Tryd.prog W = .ok (.slice (if c = k then A else A.map (·.add k)) (n - k) (c - k)) W := by
  obtain ⟨i, h1, h2⟩ := bytes_info
  exact cut_lo Tryd.underlying32 h1 h2 A n c k hk hc hcm W
theorem gne {r : Nat} {G : Option Nat} {l : List Int} {w : World} (h : Rd r G l w) : ∀ g, G = some g → g ≠ r := fun g e => by
  obtain ⟨o, c, cells, hb, _, _, hG, _⟩ := h
  exact Blk.ne_ (hG g e).1 hb (by decide)
theorem made_lt {B : Nat} {A : Option Addr} {c : Nat} {l : List Int} {w : World} (h : Made B A c l w) : ∀ ad, A = some ad → B ≤ ad.block ∧ ad.block < w.heap.size := fun ad e => by
  subst e
  exact h.1.lt ad.block rfl
theorem row_fr {α : Type} {c : α → List Value} {size : Nat} {A : Option Addr} {l : List α} {w w' : World} {S : Nat → Prop} {B : Nat} (h : RowOf c size w B A l) (k : Fr S w w') (ha : ∀ ad, A = some ad → ad.block < w.heap.size ∧ ¬ S ad.block) : RowOf c size w' B A l := by
  intro i x hx
  obtain ⟨ad, rfl, hb, hc⟩ := h i x hx
  obtain ⟨h1, h2⟩ := ha ad rfl
  exact ⟨ad, rfl, hb, fun j u hu => by rw [k.cell (by rw [block_of_add]; exact h1) (by rw [block_of_add]; exact h2)]; exact hc j u hu⟩
theorem ReadE {A : Option Addr} {c n : Nat} {l : List Int} {w : World} (hn : l.length = n) (hl : l.length ≤ 140737488355328) (h : RowOf c8 1 w w.heap.size A l) :
    Calls Tryd.prog 28 #[.slice A n c] w fun e w' => ∃ r G, e = .returned (.pointer (some ⟨r, 0, none⟩)) ∧ w.heap.size ≤ r ∧ (∀ g, G = some g → w.heap.size ≤ g) ∧ Hid (Rd r G l w') ∧ Hid (Fr0 w w') := by subst hn; exact ReadC hl h
theorem WDoneE {b n : Nat} {v : Value} {l : List Int} {w : World} (hn : l.length = n) (h : Wrt b v l w) (hl : l.length ≤ 140737488355328) :
    Calls Tryd.prog 36 #[.pointer (some ⟨b, 0, none⟩)] w fun e w' => ∃ A' c', e = .returned (.slice A' n c') ∧ Hid (Made w.heap.size A' c' l w') ∧ Hid (Fr0 w w') := by subst hn; exact WDoneC h hl
theorem str_n {w : World} {B n : Nat} {A : Option Addr} {l : List Int} {c : Nat} (hn : l.length = n) (h : RowOf c8 1 w B A l) :
    (convert 32 9 (.slice A n c)).run Tryd.prog w = .ok (.string (strOfNums l)) w := by subst hn; exact str_row h
/-- Below some number all is as it was: what a row that was there reads still. -/
theorem RowOf.ext {α : Type} {c : α → List Value} {size : Nat} {w w' : World} {B B' : Nat} {A : Option Addr} {l : List α} (h : RowOf c size w B A l) (hb : Below B' w w') (hB : B ≤ B') : RowOf c size w' B A l := h.below (hb.mono hB)
theorem below_drewN {B : Nat} {w W : World} (h : Below B w W) (n : Nat) : Below B w (W.drewN n) := ⟨h.os, h.tape, h.output, h.size, h.block⟩
theorem below_dr {B : Nat} {w W : World} (h : Below B w W) : Below B w W.drew := ⟨h.os, h.tape, h.output, h.size, h.block⟩
theorem row_none_nil {α : Type} {c : α → List Value} {size : Nat} {w : World} {B : Nat} {l : List α} (h : RowOf c size w B none l) : l = [] := by
  cases l with
  | nil => rfl
  | cons y l => obtain ⟨ad, e, _⟩ := h 0 y rfl; cases e
end Go.Proofs.YtkihoonjekccgaaDoor.K

/- sum: all bytes of all parts, by a function that is handed in; Bits, Table. -/
namespace Go.Proofs.YtkihoonjekccgaaDoor.K
open Go.RowKit
set_option linter.unusedVariables false
set_option linter.unusedSimpArgs false
theorem cf_take (s : B16) (l : List Int) (k : Nat) (h : k < l.length) : cf s (l.take (k + 1)) = sb (cf s (l.take k)) l[k] := by
  rw [List.take_succ_eq_append_getElem h, cf_snoc]
set_option maxHeartbeats 4000000 in
set_option maxRecDepth 10000 in
theorem sumC {g : Nat} (he : ∀ (args : Array Value) (W : World), (callFunc g args).run Tryd.prog W = .ok (.enter g args) W) (hg : ∀ (x : B16) (c : Int), 0 ≤ c ∧ c < 256 → ∀ {w : World}, Turns w → Calls Tryd.prog g #[.int .u16 (iv x), .int .u8 c] w fun e w' => e = .returned (.int .u16 (iv (sb x c))) ∧ w' = w)
    {B pc : Nat} {P : Option Addr} {ps : List Part} {w : World} (hT : Turns w) (hps : ps.length ≤ 140737488355328)
    (hP : RowOf cP 1 w B P ps) (hp : ∀ p ∈ ps, RowOf c8 1 w B p.1 p.2.2 ∧ InB p.2.2 ∧ p.2.2.length ≤ 140737488355328) :
    Calls Tryd.prog 53 #[.func (.func g) #[] #[], .slice P ps.length pc] w fun e w' => e = .returned (.int .u16 (crcN (flat ps))) ∧ w' = w := by
  have HP := Lib.hid hP
  have HPS := Lib.hid hp
  clear hP hp
  go_enter Tryd.func53, Tryd.ntmps53
  go_wp2
  go_loop [5, 12] (fun r i => ∃ k : Nat, k ≤ ps.length ∧ i = .int .i64 k ∧ r = .int .u16 (crcN (flat (ps.take k)))) (fun _ i => ps.length - (intOf i).toNat)
  case atStart => exact ⟨0, by omega, rfl, rfl⟩
  case round =>
    obtain ⟨k, hk2, rfl, rfl⟩ := hrel
    by_cases hlt : k < ps.length
    · obtain ⟨ad, rfl, hb, hcell⟩ := (RowOf.one (fun _ => rfl) HP.out hlt)
      have hft := flat_take ps k hlt
      have hmem := HPS.out (ps[k]) (List.getElem_mem hlt)
      have HFT := Lib.hid hft
      have HM := Lib.hid hmem
      have hlen := hmem.2.2
      clear hft hmem
      generalize ps[k] = p at *
      obtain ⟨pA, pcap, pl⟩ := p
      go_wp2
      go_loop [5, 18] (fun r i => ∃ j : Nat, j ≤ pl.length ∧ i = .int .i64 j ∧ r = .int .u16 (iv (cf (crc (flat (ps.take k))) (pl.take j)))) (fun _ i => pl.length - (intOf i).toNat)
      case atStart => exact ⟨0, by omega, rfl, rfl⟩
      case round =>
        obtain ⟨j, hj2, rfl, rfl⟩ := hrel
        by_cases hjl : j < pl.length
        · obtain ⟨ad2, rfl, hb2, hcell2⟩ := (RowOf.one (fun _ => rfl) HM.out.1 hjl)
          have HB := Lib.hid (HM.out.2.1 _ (List.getElem_mem hjl))
          have HFT2 := Lib.hid (cf_take (crc (flat (ps.take k))) pl j hjl)
          generalize pl[j] = c at *
          go_wp2_with fail
          (with_reducible refine (hg _ c HB.out hT).mono ?_)
          rintro e w2 ⟨rfl, rfl⟩
          go_wp2
          go_round
          case rel => exact ⟨j + 1, by omega, by go_num, by rw [HFT2.out]⟩
          case measure => simp [intOf]; omega
        · obtain rfl : j = pl.length := by omega
          have e : iv (cf (crc (flat (ps.take k))) (pl.take pl.length)) = crcN (flat (ps.take (k + 1))) := by rw [List.take_length, HFT.out]; unfold crcN crc; rw [cf_app]
          rw [e]
          clear e
          go_wp2
          go_round
          case rel => exact ⟨k + 1, by omega, by go_num, rfl⟩
          case measure => simp [intOf]; omega
    · obtain rfl : k = ps.length := by omega
      rw [List.take_length]
      go_wp2
      go_ret
      exact ⟨rfl, rfl⟩
theorem enter_table (args : Array Value) (W : World) : (callFunc 54 args).run Tryd.prog W = .ok (.enter 54 args) W := by kernel_rfl
set_option maxRecDepth 10000 in
theorem CTableC {B pc : Nat} {P : Option Addr} {ps : List Part} {w : World} (hT : Turns w) (hps : ps.length ≤ 140737488355328)
    (hP : RowOf cP 1 w B P ps) (hp : ∀ p ∈ ps, RowOf c8 1 w B p.1 p.2.2 ∧ InB p.2.2 ∧ p.2.2.length ≤ 140737488355328) :
    Calls Tryd.prog 43 #[.slice P ps.length pc] w fun e w' => e = .returned (.int .u16 (crcN (flat ps))) ∧ w' = w := by
  have C := Lib.hid (sumC (pc := pc) enter_table (fun x c hc {w} hT => tableC x c hc hT) hT hps hP hp)
  clear hP hp
  go_enter Tryd.func43, Tryd.ntmps43
  go_wp2_with fail
  (with_reducible refine C.out.mono ?_)
  rintro e w2 ⟨rfl, rfl⟩
  go_wp2
  go_ret
  exact ⟨rfl, rfl⟩
end Go.Proofs.YtkihoonjekccgaaDoor.K

/- Append, as a step of a region that draws its order. -/
namespace Go.Proofs.YtkihoonjekccgaaDoor.K
open Go.RowKit
set_option linter.unusedVariables false
set_option linter.unusedSimpArgs false
/-- 'append(s, x...)', s a row of the call's own, x any row that can be read: one step. -/
theorem stepR {α : Type} {c : α → List Value} {P : Program} {w : World} {ops : Array Oper} {o : Oper} {a : Act} {K : Act → World → Prop} {Q : Exit → Act → World → Prop} {E : Prop} (hgd : o.guard = none) (s x : Operand) (t : TypeId)
    (ho : o.op = .call { callee := .builtin .append, args := #[s, x], argTypes := #[t, t] })
    (e : TypeId) (z : Value) (size bytes : Nat) (ht : P.underlying t = some (.slice e)) (hinfo : (P.info? e).map (fun i => (i.zero, i.size, i.bytes)) = some (some z, size, bytes))
    (hzs : z.cells.size = size) (hsz : 0 < size) (hby : 0 < bytes) (hcs : ∀ y, (c y).length = size) (h1 : ∀ y, ∀ u ∈ c y, u.oneCell' = true)
    (base B : Nat) (v : Value) (xs l : List α) (A : Option Addr) (cap : Nat) (hs : a.eval s = v) (hx : a.eval x = .slice A l.length cap)
    (HR : RowOf c size w B A l) (HO : w.ownsRow base e size v xs.length (xs.flatMap c)) (hbase : base ≤ w.heap.size) (hl : (xs.length + l.length) * bytes ≤ 140737488355328)
    (h : ∀ v1 w1, w1.ownsRow base e size v1 (xs ++ l).length ((xs ++ l).flatMap c) → Fr (fun k => v.ownBlock = some k) w w1 → (∀ k, v1.ownBlock = some k → v.ownBlock = some k ∨ w.heap.size ≤ k) → K (a.put o.dst v1) w1) :
    if Region.wanted o (yielded ops a.tmps) = true then Oper.wp P o a w K Q else E := by
  have hw : Region.wanted o (yielded ops a.tmps) = true := by simp [Region.wanted, hgd]
  rw [if_pos hw]
  obtain ⟨i0, hi, hz0, hz1, hz2⟩ := info_parts hinfo
  by_cases hA : A = none
  · subst hA
    have hl0 : l = [] := row_none_nil HR
    subst hl0
    have hrun := run_append_nil (P := P) (w := w) base t o.type e i0 size ht hi v xs.length cap (xs.flatMap c) HO
    have hx' : a.eval x = .slice none 0 cap := hx
    unfold Oper.wp
    simp [execOp, ho, resolve, invoke, builtin, hs, hx', hrun, Result.andThen]
    exact h v w (by simpa using HO) (Fr.refl _ _) (fun k hk => .inl hk)
  · obtain ⟨ad, rfl⟩ : ∃ ad, A = some ad := by cases A with
      | none => exact absurd rfl hA
      | some ad => exact ⟨ad, rfl⟩
    have hlen := Nat.le_trans (Nat.le_mul_of_pos_right (xs.length + l.length) hby) hl
    obtain ⟨v', w', hrun, h2, hg, _, hat⟩ := run_append_own_at (P := P) w base t o.type e i0 z size bytes ht hi hz0 hz1 hz2 hzs hsz v xs.length (xs.flatMap c) HO ad l.length cap (l.flatMap c) (flat_len hcs l)
      (fun j u hu => by
        obtain ⟨i, y, k, h2, h3, rfl⟩ := flat_inv hcs l j u hu
        obtain ⟨ad', e', _, hc⟩ := HR i y h2
        injection e' with e'; subst e'
        exact hc k u h3)
      (fun u hu => by
        obtain ⟨y, _, hy⟩ := List.mem_flatMap.1 hu
        exact h1 y u hy) (by simp only [maxLen]; omega) hl hbase
    unfold Oper.wp execOp
    simp only [ho, resolve, invoke, builtin, Sem.run_bind, Sem.run_pure, Result.andThen_ok, List.map_toArray, List.map_cons, List.map_nil, hs, hx, hrun]
    refine h v' w' (by rw [List.length_append, List.flatMap_append]; exact h2) ((Fr.refl (fun k => v.ownBlock = some k) w).grown hg (fun j _ e => e)) (fun k hk => ?_)
    rcases hat with hat | hat
    · exact .inl (hat ▸ hk)
    · rw [hat] at hk; injection hk with hk; exact .inr (by omega)
/-- Rows of unlike elements lie apart. -/
theorem own_ne {w : World} {b b' : Nat} {e e' : TypeId} {s s' n n' : Nat} {v v' : Value} {xs xs' : List Value} (h : w.ownsRow b e s v n xs) (h' : w.ownsRow b' e' s' v' n' xs') (hne : e ≠ e') : ∀ j, v.ownBlock = some j → v'.ownBlock ≠ some j := by
  intro j hj
  rcases h.2 with ⟨rfl, _⟩ | ⟨g, cap, cur, rfl, _, hh, _⟩
  · simp [Value.ownBlock] at hj
  · have : g = j := by simpa [Value.ownBlock] using hj
    subst this
    exact own_blk_ne h' hh (fun e => hne e.symm)
theorem info_bytes : (Tryd.prog.info? 32).map (fun i => (i.zero, i.size, i.bytes)) = some (some (.slice none 0 0), 1, 24) := by kernel_rfl
theorem Made.fr {B : Nat} {A : Option Addr} {c : Nat} {l : List Int} {S : Nat → Prop} {w w' : World} (h : Made B A c l w) (k : Fr S w w') (hn : ∀ j, (Value.slice A l.length c).ownBlock = some j → ¬ S j) : Made B A c l w' := by
  obtain ⟨A', c', e, hm⟩ := made_of (B := B) (own_fr h.1 k hn)
  injection e with e1 _ e2
  subst e1 e2
  exact hm
theorem Made.low {B B' : Nat} {A : Option Addr} {c : Nat} {l : List Int} {w : World} (h : Made B A c l w) (hb : B' ≤ B) : Made B' A c l w := ⟨own_weak h.1 hb, h.2.1, h.2.2⟩
/-- What 'parts' tells: at most five parts of the call's own, of at most fifty bytes each. -/
structure Own5 (B : Nat) (v : Value) (ps : List Part) (w : World) : Prop where
  row : w.ownsRow B 32 1 v ps.length (ps.flatMap cP)
  each : ∀ p ∈ ps, Made B p.1 p.2.1 p.2.2 w ∧ p.2.2.length ≤ 50 ∧ InB p.2.2
  few : ps.length ≤ 5
end Go.Proofs.YtkihoonjekccgaaDoor.K

/- Append: what is handed in, and its sum. -/
namespace Go.Proofs.YtkihoonjekccgaaDoor.K
open Go.RowKit
set_option linter.unusedVariables false
set_option linter.unusedSimpArgs false
theorem flat_one (A : Option Addr) (c : Nat) (l : List Int) : flat [(A, c, l)] = l := by simp [flat]
/-- One part, just laid as a row. -/
theorem row_one {w : World} {A : Option Addr} {c : Nat} {l : List Int} {g B : Nat} (hg : g = w.heap.size) (hB : g < B) : RowOf cP 1 (w.alloc (.cells #[.slice A l.length c] 32)) B (some ⟨g, 0, none⟩) [(A, c, l)] :=
  row_vals (t := 32) (f := fun p => .slice p.1 p.2.2.length p.2.1) (fun _ => rfl) (Blk.new_at hg) hB
theorem CTable1 {g pc : Nat} {A : Option Addr} {c : Nat} {l : List Int} {w : World} (hg : g = w.heap.size) (hT : Turns w) (h : RowOf c8 1 w w.heap.size A l) (hi : InB l) (hl : l.length ≤ 140737488355328) :
    Calls Tryd.prog 43 #[.slice (some ⟨g, 0, none⟩) 1 pc] (w.alloc (.cells #[.slice A l.length c] 32)) fun e w' => e = .returned (.int .u16 (crcN l)) ∧ w' = w.alloc (.cells #[.slice A l.length c] 32) := by
  have := CTableC (pc := pc) (B := w.heap.size + 1) (ps := [(A, c, l)]) (hT.fr0 ((Fr.refl (fun _ => False) w).alloc (.cells #[.slice A l.length c] 32))) (by simp) (row_one hg (by omega))
    (by
      intro p hp
      rw [List.mem_singleton] at hp
      subst hp
      exact ⟨(h.below ((Below.refl w.heap.size w).alloc (Nat.le_refl _) _)).more_ (by omega), hi, hl⟩)
  rw [flat_one] at this
  exact this
set_option maxHeartbeats 4000000 in
set_option maxRecDepth 10000 in
theorem CAppendC {A : Option Addr} {c : Nat} {l : List Int} {w : World} (hT : Turns w) (h : RowOf c8 1 w w.heap.size A l) (ha : ∀ ad, A = some ad → ad.block < w.heap.size) (hi : InB l) (hl : l.length + 4 ≤ 140737488355328) :
    Calls Tryd.prog 40 #[.slice A l.length c] w fun e w' => ∃ A' c', e = .returned (.slice A' (l.length + 2) c') ∧ Hid (Made w.heap.size A' c' (l ++ be (crcN l) 2) w') ∧ Hid (Fr0 w w') := by
  have HR := Lib.hid h
  have HA := Lib.hid ha
  have HI := Lib.hid hi
  have hlen2 : (l ++ be (crcN l) 2).length = l.length + 2 := by rw [List.length_append, be_length]
  have HL2 := Lib.hid hlen2
  clear h ha hi hlen2
  go_enter Tryd.func40, Tryd.ntmps40
  go_wp2_with fail
  refine (WBytes_own (v := .slice none 0 0) (l := []) (ps := [(A, c, l)]) (B := w.heap.size + 2) ?c0 ?c1 ?c2 ?c3 ?c4 ?c5 ?_).mono ?_
  case c0 => exact (wrt_new w).alloc _
  case c1 => rw [flat_one]; simp; omega
  case c2 => simp
  case c3 => exact row_one (by simp) (by omega)
  case c4 => simp
  case c5 => exact away_ge (n := w.heap.size + 1) (by omega) (by simp) (by omega) (fun j e => by simp [Value.ownBlock] at e)
  · intro p hp
    rw [List.mem_singleton] at hp
    subst hp
    refine ⟨(HR.out.below (((Below.refl w.heap.size w).alloc (Nat.le_refl _) _).alloc (by simp) _)).more_ (by omega), fun ad e => ?_⟩
    have := HA.out ad e
    exact ⟨by simp; omega, by omega, by simp [Value.ownBlock]⟩
  rintro e w1 ⟨rfl, v1, H1, F1⟩
  have b1 : Below w.heap.size w w1 := wfr_below (((Below.refl w.heap.size w).alloc (Nat.le_refl _) _).alloc (by simp) _) F1.out (Nat.le_refl _) (base_nil _) (Nat.le_refl _)
  have B1 := Lib.hid b1
  have V1 := Lib.hid (wfr_base F1.out (base_nil w.heap.size) (by simp; omega))
  have H1 : Hid (Wrt w.heap.size v1 l w1) := Lib.hid (H1.out.to (by rw [flat_one]; simp))
  have hs1 := b1.size
  have hT1 := hT.below b1 hT.lt
  have HLT1 := Lib.hid H1.out.lt
  clear F1 b1
  go_wp2_with fail
  refine (CTable1 rfl hT1 (HR.out.now B1.out) HI.out (by omega)).mono ?_
  rintro e w2 ⟨rfl, rfl⟩
  have hcb := crcN_bound l
  go_wp2_with fail
  refine (WU16_own (n := crcN l) (H1.out.alloc _) hcb.1 hcb.2 (by omega)).mono ?_
  rintro e w3 ⟨rfl, v3, H3, F3⟩
  have B3 := Lib.hid (wfr_below (B1.out.alloc hs1 _) F3.out (Nat.le_refl _) V1.out (Nat.le_refl _))
  clear F3 V1
  have hs3 := B3.out.size
  go_wp2_with fail
  refine (WDoneE HL2.out H3.out (by rw [HL2.out]; omega)).mono ?_
  rintro e w4 ⟨A4, c4, rfl, H4, F4⟩
  go_wp2
  go_ret
  exact ⟨A4, c4, rfl, Lib.hid (H4.out.low hs3), Lib.hid (Fr.of_below (fr0_below B3.out F4.out (Nat.le_refl _)))⟩
end Go.Proofs.YtkihoonjekccgaaDoor.K

/- Valid: the last two bytes are the sum of those ahead. -/
namespace Go.Proofs.YtkihoonjekccgaaDoor.K
open Go.RowKit
set_option linter.unusedVariables false
set_option linter.unusedSimpArgs false
/-- Bytes with their sum. -/
def valid (l : List Int) : Bool := decide (2 ≤ l.length ∧ num (l.drop (l.length - 2)) = crcN (l.take (l.length - 2)))
set_option maxHeartbeats 4000000 in
set_option maxRecDepth 10000 in
theorem CValidC {A : Option Addr} {c : Nat} {l : List Int} {w : World} (hT : Turns w) (h : RowOf c8 1 w w.heap.size A l) (hi : InB l) (hl : l.length ≤ 140737488355328) (hc : l.length ≤ c) (hcm : c ≤ 9223372036854775807) :
    Calls Tryd.prog 27 #[.slice A l.length c] w fun e w' => e = .returned (.bool (valid l)) ∧ Hid (Below w.heap.size w w') := by
  have HR := Lib.hid h
  have HI := Lib.hid hi
  by_cases h2 : 2 ≤ l.length
  · obtain ⟨n, hn⟩ : ∃ n, l.length = n + 2 := ⟨l.length - 2, by omega⟩
    have hv : valid l = (num (l.drop n) == crcN (l.take n)) := by
      unfold valid
      rw [hn, show n + 2 - 2 = n by omega]
      rw [Bool.eq_iff_iff]
      simp
    have hql : (l.drop n).length = 2 := by rw [List.length_drop]; omega
    have hpl : (l.take n).length = n := by rw [List.length_take]; omega
    have HQ := Lib.hid (h.drop_ (cap := c) n hc)
    have HP := Lib.hid (h.take_ n)
    have HQI : Hid (InB (l.drop n)) := Lib.hid (fun x hx => HI.out x (List.mem_of_mem_drop hx))
    have HPI : Hid (InB (l.take n)) := Lib.hid (fun x hx => HI.out x (List.mem_of_mem_take hx))
    have lo : ∀ W, (Instr.slice 32 (.slice A (n + 2) c) (some (.int .i64 n)) none none).run Tryd.prog W = .ok (.slice (if c = n then A else A.map (·.add n)) 2 (c - n)) W := fun W => by
      have := bcut_lo A (n + 2) c n (by omega) (by omega) hcm W
      rwa [show n + 2 - n = 2 by omega] at this
    have hI := fun W => bcut_hi A (n + 2) c n (by omega) W
    rw [hv]
    rw [hn] at hl hc h2 ⊢
    generalize l.drop n = q at *
    generalize l.take n = p at *
    generalize (if c = n then A else A.map (·.add n)) = A2 at *
    have HQL := Lib.hid hql
    have HPL := Lib.hid hpl
    clear h hi hn hv hql hpl HR HI h2
    go_enter Tryd.func27, Tryd.ntmps27
    go_wp2_with fail
    refine (ReadE HQL.out (by rw [HQL.out]; decide) HQ.out).mono ?_
    rintro e w1 ⟨r, G, rfl, hr, hG, H1, F1⟩
    have B1 := Lib.hid (fr0_below (Below.refl _ w) F1.out (Nat.le_refl _))
    clear hG F1
    go_wp2_with fail
    refine (RU16_is (x := num q) (m := []) H1.out (by rw [HQL.out]; decide) HQI.out (by rw [← HQL.out, List.take_length]) (by rw [← HQL.out, List.drop_length])).mono ?_
    rintro e w2 ⟨rfl, H2, F2⟩
    have b2 := fr1_below B1.out F2.out hr (Nat.le_refl _)
    have B2 := Lib.hid b2
    have hT2 := hT.below b2 hT.lt
    have hs2 := b2.size
    have HC := CTable1 (pc := 1) (g := w2.heap.size) (c := c) (w := w2) rfl hT2 (HP.out.now b2) HPI.out (by rw [HPL.out]; omega)
    rw [HPL.out] at HC
    clear H1 H2 B1 F2 b2
    go_wp2_with fail
    refine HC.mono ?_
    rintro e w3 ⟨rfl, rfl⟩
    go_wp2
    go_ret
    exact ⟨rfl, Lib.hid (B2.out.alloc hs2 _)⟩
  · have hv : valid l = false := by unfold valid; simp [h2]
    rw [hv]
    have hlt : l.length < 2 := by omega
    clear h hi
    go_enter Tryd.func27, Tryd.ntmps27
    go_wp2
    go_ret
    exact ⟨rfl, Lib.hid (Below.refl _ _)⟩
end Go.Proofs.YtkihoonjekccgaaDoor.K

/- Bits, Table of a row of parts that was just laid; what begins each law. -/
namespace Go.Proofs.YtkihoonjekccgaaDoor.K
open Go.RowKit
attribute [local go_sem ↓] Go.wp_at_zero Go.wp_at_succ
set_option linter.unusedVariables false
set_option linter.unusedSimpArgs false
abbrev pv : Part → Value := fun p => .slice p.1 p.2.2.length p.2.1
/-- The same memory, but for draws. -/
structure Same (w w1 : World) : Prop where
  heap : w1.heap = w.heap
  os : w1.os = w.os
  tape : w1.tape = w.tape
  output : w1.output = w.output
section
variable {w w1 w2 : World} {B : Nat}
theorem Same.refl (w : World) : Same w w := ⟨rfl, rfl, rfl, rfl⟩
theorem Same.cell (h : Same w w1) (p : Addr) : w1.cell? p = w.cell? p := by unfold World.cell?; rw [h.heap]
theorem Same.turns (h : Same w w1) (k : Turns w) : Turns w1 := fun i hi => (h.cell _).trans (k i hi)
theorem Same.row {α : Type} {c : α → List Value} {size : Nat} {A : Option Addr} {l : List α} (h : Same w w1) (k : RowOf c size w B A l) : RowOf c size w1 B A l := fun i x hx => by
  obtain ⟨ad, rfl, hb, hc⟩ := k i x hx
  exact ⟨ad, rfl, hb, fun j u hu => (h.cell _).trans (hc j u hu)⟩
theorem Same.size (h : Same w w1) : w1.heap.size = w.heap.size := by rw [h.heap]
theorem Same.below (h : Same w w1) (k : Below B w1 w2) : Below B w w2 := ⟨k.os.trans h.os, k.tape.trans h.tape, k.output.trans h.output, by rw [← h.size]; exact k.size, fun j hj => (k.block j hj).trans (by rw [h.heap])⟩
theorem Same.fr {S : Nat → Prop} (h : Same w w1) (k : Fr S w1 w2) : Fr S w w2 := ⟨k.os.trans h.os, k.tape.trans h.tape, k.output.trans h.output, by rw [← h.size]; exact k.size, fun j hj hn => (k.block j (by rw [h.size]; exact hj) hn).trans (by rw [h.heap])⟩
theorem Same.row0 {α : Type} {c : α → List Value} {size : Nat} {A : Option Addr} {l : List α} (h : Same w w1) (k : RowOf c size w w.heap.size A l) : RowOf c size w1 w1.heap.size A l := (h.row k).more_ (by rw [h.size]; exact Nat.le_refl _)
end
/-- Parts that may be summed in a world. -/
def Parts (w : World) (ps : List Part) : Prop := ∀ p ∈ ps, RowOf c8 1 w w.heap.size p.1 p.2.2 ∧ InB p.2.2 ∧ p.2.2.length ≤ 140737488355328
theorem Parts.nil (w : World) : Parts w [] := fun p hp => by cases hp
theorem Parts.cons {w : World} {A : Option Addr} {c : Nat} {l : List Int} {ps : List Part} (h : RowOf c8 1 w w.heap.size A l) (hi : InB l) (hl : l.length ≤ 140737488355328) (k : Parts w ps) : Parts w ((A, c, l) :: ps) := fun p hp => by
  rcases List.mem_cons.1 hp with rfl | hp
  · exact ⟨h, hi, hl⟩
  · exact k p hp
theorem Parts.below {w w1 : World} {ps : List Part} (h : Parts w ps) (k : Below w.heap.size w w1) : Parts w1 ps := fun p hp => ⟨(h p hp).1.now k, (h p hp).2⟩
theorem CTableL {g pc n : Nat} {ps : List Part} {x : Int} {w w1 : World} (hn : ps.length = n) (hg : g = w.heap.size) (hs : Same (w.alloc (.cells (ps.map pv).toArray 32)) w1) (hT : Turns w) (h : Parts w ps) (hl : ps.length ≤ 140737488355328) (hx : crcN (flat ps) = x) :
    Calls Tryd.prog 43 #[.slice (some ⟨g, 0, none⟩) n pc] w1 fun e w' => e = .returned (.int .u16 x) ∧ Hid (Below w.heap.size w w') := by
  subst hx hn
  refine (CTableC (pc := pc) (B := w.heap.size + 1) (ps := ps) (hs.turns (hT.fr0 ((Fr.refl (fun _ => False) w).alloc _))) hl (hs.row (row_vals (t := 32) (f := pv) (fun _ => rfl) (Blk.new_at hg) (by omega)))
    (fun p hp => ⟨(hs.row ((h p hp).1.below ((Below.refl w.heap.size w).alloc (Nat.le_refl _) _))).more_ (by omega), (h p hp).2⟩)).mono ?_
  rintro e w2 ⟨rfl, rfl⟩
  exact ⟨rfl, Lib.hid (((Below.refl w.heap.size w).alloc (Nat.le_refl _) _).trans (hs.below (Below.refl _ _)))⟩
theorem CTableM {g pc n : Nat} {ps : List Part} {cs : Array Value} {x : Int} {w w1 : World} (hn : ps.length = n) (hg : g = w.heap.size) (hs : Same (w.alloc (.cells cs 32)) w1) (hcs : (ps.map pv).toArray = cs) (hT : Turns w) (h : Parts w ps) (hl : n ≤ 140737488355328) (hx : crcN (flat ps) = x) :
    Calls Tryd.prog 43 #[.slice (some ⟨g, 0, none⟩) n pc] w1 fun e w' => e = .returned (.int .u16 x) ∧ Hid (Below w.heap.size w w') := by
  subst hcs; exact CTableL hn hg hs hT h (hn ▸ hl) hx
theorem CTableN {w w1 : World} (hs : Same w w1) (hT : Turns w) : Calls Tryd.prog 43 #[.slice none 0 0] w1 fun e w' => e = .returned (.int .u16 65535) ∧ Hid (Below w.heap.size w w') := by
  refine (CTableC (pc := 0) (B := w.heap.size) (P := none) (ps := []) (hs.turns hT) (by simp) row_none (fun p hp => by cases hp)).mono ?_
  rintro e w2 ⟨rfl, rfl⟩
  exact ⟨rfl, Lib.hid (hs.below (Below.refl _ _))⟩
theorem CAppendE {A : Option Addr} {c n n2 : Nat} {l m : List Int} {w w1 : World} (hn : l.length = n) (hn2 : n + 2 = n2) (hm : l ++ be (crcN l) 2 = m) (hs : Same w w1) (hT : Turns w) (h : RowOf c8 1 w w.heap.size A l) (ha : ∀ ad, A = some ad → ad.block < w.heap.size) (hi : InB l) (hl : n + 4 ≤ 140737488355328) :
    Calls Tryd.prog 40 #[.slice A n c] w1 fun e w' => ∃ A' c', e = .returned (.slice A' n2 c') ∧ Hid (Made w.heap.size A' c' m w') ∧ Hid (Below w.heap.size w w') := by
  subst hn hn2 hm
  refine (CAppendC (c := c) (hs.turns hT) (hs.row0 h) (by rw [hs.size]; exact ha) hi hl).mono ?_
  rintro e w2 ⟨A', c', rfl, H, F⟩
  exact ⟨A', c', rfl, hs.size ▸ H, Lib.hid (hs.fr F.out).below0⟩
theorem CValidE {A : Option Addr} {c n : Nat} {b : Bool} {l : List Int} {w w1 : World} (hn : l.length = n) (hv : valid l = b) (hs : Same w w1) (hT : Turns w) (h : RowOf c8 1 w w.heap.size A l) (hi : InB l) (hl : n ≤ 140737488355328) (hc : n ≤ c) (hcm : c ≤ 9223372036854775807) :
    Calls Tryd.prog 27 #[.slice A n c] w1 fun e w' => e = .returned (.bool b) ∧ Hid (Below w.heap.size w w') := by
  subst hn hv
  refine (CValidC (hs.turns hT) (hs.row0 h) hi hl hc hcm).mono ?_
  rintro e w2 ⟨rfl, H⟩
  exact ⟨rfl, Lib.hid (hs.below (hs.size ▸ H.out))⟩
theorem made_cap {B : Nat} {A : Option Addr} {c : Nat} {l : List Int} {w : World} (h : Made B A c l w) : c ≤ 9223372036854775807 := by
  rcases h.1.2 with ⟨hv, h0⟩ | ⟨g, cap, cur, hv, _, _, _, hm, _⟩
  · injection hv with _ _ h; omega
  · injection hv with _ _ h; unfold maxLen at hm; omega
end Go.Proofs.YtkihoonjekccgaaDoor.K

/- 'parts' of layer 1's laws. -/
namespace Go.Proofs.YtkihoonjekccgaaDoor.K
open Go.RowKit
set_option linter.unusedVariables false
set_option linter.unusedSimpArgs false
attribute [local go_sem] min2_min min_two
theorem Own5.fr {B : Nat} {v : Value} {ps : List Part} {S : Nat → Prop} {w w' : World} (h : Own5 B v ps w) (k : Fr S w w') (hS : ∀ j, B ≤ j → j < w.heap.size → ¬ S j) : Own5 B v ps w' :=
  ⟨own_fr h.row k (fun j e => by have := h.row.lt j e; exact hS j this.1 this.2), fun p hp => by
    obtain ⟨h1, h2, h3⟩ := h.each p hp
    exact ⟨h1.fr k (fun j e => by have := h1.1.lt j e; exact hS j this.1 this.2), h2, h3⟩, h.few⟩
theorem Own5.add {B : Nat} {v v1 : Value} {ps : List Part} {p : Part} {w w1 : World} (h : Own5 B v ps w) (hp : Made B p.1 p.2.1 p.2.2 w) (h50 : p.2.2.length ≤ 50) (hi : InB p.2.2) (h5 : ps.length < 5)
    (h1 : w1.ownsRow B 32 1 v1 (ps ++ [p]).length ((ps ++ [p]).flatMap cP)) (hf : Fr (fun k => v.ownBlock = some k) w w1) : Own5 B v1 (ps ++ [p]) w1 :=
  ⟨h1, fun q hq => by
    rcases List.mem_append.1 hq with hq | hq
    · obtain ⟨a1, a2, a3⟩ := h.each q hq
      exact ⟨a1.fr hf (fun j e e2 => own_ne a1.1 h.row (by decide) j e e2), a2, a3⟩
    · obtain rfl : q = p := by simpa using hq
      exact ⟨hp.fr hf (fun j e e2 => own_ne hp.1 h.row (by decide) j e e2), h50, hi⟩, by simp; omega⟩
theorem flat_app (a b : List Part) : flat (a ++ b) = flat a ++ flat b := by simp [flat]
theorem flat_le {ps : List Part} {n : Nat} (h : ∀ p ∈ ps, p.2.2.length ≤ n) : (flat ps).length ≤ ps.length * n := by
  induction ps with
  | nil => simp [flat]
  | cons p ps ih =>
    have := ih (fun q hq => h q (by simp [hq]))
    have h1 := h p (by simp)
    rw [show flat (p :: ps) = p.2.2 ++ flat ps from rfl, List.length_append, List.length_cons, Nat.succ_mul]; omega
theorem flat_inB {ps : List Part} (h : ∀ p ∈ ps, InB p.2.2) : InB (flat ps) := fun x hx => by
  obtain ⟨p, hp, hx⟩ := List.mem_flatMap.1 hx
  exact h p hp x hx
/-- The input: rows of bytes, each as it can be read. -/
structure In2 (B : Nat) (P : Option Addr) (qs : List Part) (w : World) : Prop where
  row : RowOf cP 1 w B P qs
  each : ∀ p ∈ qs, RowOf c8 1 w B p.1 p.2.2 ∧ InB p.2.2 ∧ p.2.2.length ≤ p.2.1 ∧ p.2.1 ≤ 9223372036854775807
theorem In2.below {B : Nat} {P : Option Addr} {qs : List Part} {w w' : World} (h : In2 B P qs w) (hb : Below B w w') : In2 B P qs w' := ⟨h.row.below hb, fun p hp => ⟨((h.each p hp).1).below hb, (h.each p hp).2⟩⟩
end Go.Proofs.YtkihoonjekccgaaDoor.K

/- What Stuff does: a range over a function of one's own. -/
namespace Go.Proofs.YtkihoonjekccgaaDoor.K
open Go.RowKit Go.Shelf
attribute [local go_sem] Oper.semAt_some
set_option linter.unusedVariables false
set_option linter.unusedSimpArgs false

/-- What a byte becomes. -/
def stf1 (c : Int) : List Int := if c = 126 then [125, 94] else if c = 125 then [125, 93] else [c]
def stf (l : List Int) : List Int := l.flatMap stf1
theorem stf_snoc (l : List Int) (c : Int) : stf (l ++ [c]) = stf l ++ stf1 c := by simp [stf]
theorem stf_len (l : List Int) : l.length ≤ (stf l).length ∧ (stf l).length ≤ 2 * l.length := by
  induction l with
  | nil => simp [stf]
  | cons c l ih =>
    have h : (stf1 c).length = 1 ∨ (stf1 c).length = 2 := by unfold stf1; split <;> (try split) <;> simp
    simp only [stf, List.flatMap_cons, List.length_append, List.length_cons] at *
    omega
theorem stf_take {l : List Int} {k : Nat} (h : k < l.length) : stf (l.take (k + 1)) = stf (l.take k) ++ stf1 (l.getD k 0) := by
  rw [List.take_succ_eq_append_getElem h, stf_snoc, List.getD_eq_getElem?_getD, List.getElem?_eq_getElem h]; rfl
theorem stf_take_lt {l : List Int} {k : Nat} (h : k < l.length) : (stf (l.take k)).length + (stf1 (l.getD k 0)).length ≤ (stf l).length := by
  have h1 : stf l = stf (l.take (k + 1)) ++ stf (l.drop (k + 1)) := by
    unfold stf
    rw [← List.flatMap_append, List.take_append_drop]
  rw [h1, List.length_append, stf_take h, List.length_append]
  omega

theorem special_in (F : Fence) (n : Nat) (h16 : F.fn 41) (hro : F.round = none) (c : Int) (b : Bool) (hb : (c = 126 ∨ c = 125) ↔ b = true) (w : World) :
    CallsIn F n Tryd.prog 41 #[.int .u8 c] w fun e w' => e = .returned (.bool b) ∧ w = w' := by
  by_cases h1 : c = 126
  · obtain rfl : b = true := hb.1 (.inl h1)
    subst h1
    refine callsIn_of_wp Tryd.func41 rfl h16 ?_ hro
    simp only [Tryd.ntmps41, List.size_toArray, List.length_cons, List.length_nil, Nat.reduceAdd, Nat.reduceSub, Array.replicate_succ, Array.replicate_zero, List.push_toArray, List.append_toArray, List.nil_append, List.cons_append]
    gi_wp2
    go_ret
    exact ⟨rfl, rfl⟩
  · have h1' : (c == 126) = false := by simp [h1]
    by_cases h2 : c = 125
    · obtain rfl : b = true := hb.1 (.inr h2)
      subst h2
      refine callsIn_of_wp Tryd.func41 rfl h16 ?_ hro
      simp only [Tryd.ntmps41, List.size_toArray, List.length_cons, List.length_nil, Nat.reduceAdd, Nat.reduceSub, Array.replicate_succ, Array.replicate_zero, List.push_toArray, List.append_toArray, List.nil_append, List.cons_append]
      gi_wp2
      go_ret
      exact ⟨rfl, rfl⟩
    · obtain rfl : b = false := by cases b with | false => rfl | true => rcases hb.2 rfl with h | h; exact absurd h h1; exact absurd h h2
      have h2' : (c == 125) = false := by simp [h2]
      clear hb h1 h2
      refine callsIn_of_wp Tryd.func41 rfl h16 ?_ hro
      simp only [Tryd.ntmps41, List.size_toArray, List.length_cons, List.length_nil, Nat.reduceAdd, Nat.reduceSub, Array.replicate_succ, Array.replicate_zero, List.push_toArray, List.append_toArray, List.nil_append, List.cons_append]
      gi_wp2
      go_ret
      exact ⟨rfl, rfl⟩

/-- The bytes of a slice below block n₀, as a list. -/
def Bytes (n₀ : Nat) (W : World) (A : Option Addr) (l : List Int) : Prop := RowOf (fun x : Int => [.int .u8 x]) 1 W n₀ A l
set_option maxRecDepth 100000 in
set_option maxHeartbeats 2000000 in
theorem stuffed1_in (F : Fence) (n : Nat) (h17 : F.fn 50) (h16 : F.fn 41) (hro : F.round = none) (hn : 1 ≤ n) (l Bs n₀ : Nat) (A : Option Addr) (cap : Nat) (zs : List Int) (hreach : zs.length ≤ 70000000000000) (J Jx : List Int → World → Prop)
    (hY : ∀ pre x W, J pre W → pre.length < (stf zs).length → YieldAt F (n - 1) Tryd.prog l #[.int .u8 x] W fun e W' =>
      (e = .returned (.bool true) ∧ J (pre ++ [x]) W' ∧ Below n₀ W W') ∨ (e = .returned (.bool false) ∧ Jx (pre ++ [x]) W'))
    (W : World) (hBs : W.cell? ⟨Bs, 0, none⟩ = some (.slice A zs.length cap)) (hc : Bytes n₀ W A zs) (h0 : J [] W) :
    CallsIn F n Tryd.prog 50 #[.func (.yield l) #[] #[], .pointer (some ⟨Bs, 0, none⟩)] W fun e W' => (∃ v, e = .returned v) ∧
      ((∃ ys, ys = stf zs ∧ J ys W') ∨ (∃ pre, Jx pre W')) := by
  refine callsIn_of_wp Tryd.func50 rfl h17 ?_ hro
  simp only [Tryd.ntmps50, List.size_toArray, List.length_cons, List.length_nil, Nat.reduceAdd, Nat.reduceSub, Array.replicate_succ, Array.replicate_zero, List.push_toArray, List.append_toArray, List.nil_append, List.cons_append]
  gi_wp2
  gi_loopw [7] (fun i wr => ∃ k : Nat, k ≤ zs.length ∧ i = .int .i64 k ∧ J (stf (zs.take k)) wr ∧ Below n₀ W wr)
    (fun i _ => zs.length - (intOf i).toNat)
  case atStart => exact ⟨0, Nat.zero_le _, rfl, h0, Below.refl _ _⟩
  case round =>
    obtain ⟨k, hk, rfl, hJs, hnx⟩ := hrel
    have HC := Lib.hid hc
    have HN := Lib.hid hnx
    clear hc hnx hBs
    by_cases hlt : k < zs.length
    · obtain ⟨ad, rfl, hb, hcell⟩ := (RowOf.below HC.out HN.out).num hlt
      have htk := Lib.hid (stf_take hlt)
      have hl2 := stf_take_lt hlt
      generalize zs.getD k 0 = x at *
      by_cases h1 : x = 126
      · subst h1
        have hl3 : (stf1 126).length = 2 := rfl
        obtain ⟨fn, tmps, assign, body, hy, hR⟩ := hY _ 125 wr hJs (by omega)
        have hx : bits .xor .u8 126 32 = 94 := by decide
        gi_wp2_with (gi_at_call 41; refine (special_in F (n - 1) h16 hro 126 true (by simp) _).mono ?_; rintro e w' ⟨rfl, rfl⟩)
        refine hR.mono ?_
        rintro e W3 (⟨rfl, hJ3, hk3⟩ | ⟨rfl, hJx3⟩)
        · obtain ⟨fn2, tmps2, assign2, body2, hy2, hR2⟩ := hY _ 94 W3 hJ3 (by rw [List.length_append]; simp; omega)
          clear hy hR
          gi_wp2
          refine hR2.mono ?_
          rintro e W4 (⟨rfl, hJ4, hk4⟩ | ⟨rfl, hJx4⟩)
          · gi_wp2
            go_roundw
            case rel => exact ⟨k + 1, by omega, by simp, by rw [htk.out]; have h := hJ4; rw [List.append_assoc] at h; exact h, HN.out.trans (hk3.trans hk4)⟩
            case measure => simp [intOf]; omega
          · gi_wp2
            refine bodyPost_ret (results_none rfl _ _ _) rfl ?_
            exact ⟨⟨_, rfl⟩, .inr ⟨_, hJx4⟩⟩
        · gi_wp2
          refine bodyPost_ret (results_none rfl _ _ _) rfl ?_
          exact ⟨⟨_, rfl⟩, .inr ⟨_, hJx3⟩⟩
      · by_cases h2 : x = 125
        · subst h2
          have hl3 : (stf1 125).length = 2 := rfl
          obtain ⟨fn, tmps, assign, body, hy, hR⟩ := hY _ 125 wr hJs (by omega)
          have hx : bits .xor .u8 125 32 = 93 := by decide
          gi_wp2_with (gi_at_call 41; refine (special_in F (n - 1) h16 hro 125 true (by simp) _).mono ?_; rintro e w' ⟨rfl, rfl⟩)
          refine hR.mono ?_
          rintro e W3 (⟨rfl, hJ3, hk3⟩ | ⟨rfl, hJx3⟩)
          · obtain ⟨fn2, tmps2, assign2, body2, hy2, hR2⟩ := hY _ 93 W3 hJ3 (by rw [List.length_append]; simp; omega)
            clear hy hR
            gi_wp2
            refine hR2.mono ?_
            rintro e W4 (⟨rfl, hJ4, hk4⟩ | ⟨rfl, hJx4⟩)
            · gi_wp2
              go_roundw
              case rel => exact ⟨k + 1, by omega, by simp, by rw [htk.out]; have h := hJ4; rw [List.append_assoc] at h; exact h, HN.out.trans (hk3.trans hk4)⟩
              case measure => simp [intOf]; omega
            · gi_wp2
              refine bodyPost_ret (results_none rfl _ _ _) rfl ?_
              exact ⟨⟨_, rfl⟩, .inr ⟨_, hJx4⟩⟩
          · gi_wp2
            refine bodyPost_ret (results_none rfl _ _ _) rfl ?_
            exact ⟨⟨_, rfl⟩, .inr ⟨_, hJx3⟩⟩
        · have hl3 : stf1 x = [x] := by simp [stf1, h1, h2]
          have H3 := Lib.hid hl3
          rw [hl3] at hl2
          obtain ⟨fn, tmps, assign, body, hy, hR⟩ := hY _ x wr hJs (by simp at hl2; omega)
          have hq := Lib.hid (show (x = 126 ∨ x = 125) ↔ false = true by simp [h1, h2])
          clear h1 h2 hl3
          gi_wp2_with (gi_at_call 41; refine (special_in F (n - 1) h16 hro x false hq.out _).mono ?_; rintro e w' ⟨rfl, rfl⟩)
          refine hR.mono ?_
          rintro e W3 (⟨rfl, hJ3, hk3⟩ | ⟨rfl, hJx3⟩)
          · gi_wp2
            go_roundw
            case rel => exact ⟨k + 1, by omega, by simp, by rw [htk.out, H3.out]; exact hJ3, HN.out.trans hk3⟩
            case measure => simp [intOf]; omega
          · gi_wp2
            refine bodyPost_ret (results_none rfl _ _ _) rfl ?_
            exact ⟨⟨_, rfl⟩, .inr ⟨_, hJx3⟩⟩
    · obtain rfl : k = zs.length := by omega
      rw [List.take_length] at hJs
      gi_wp2
      go_end0
      exact ⟨⟨_, rfl⟩, .inl ⟨_, rfl, hJs⟩⟩

set_option maxHeartbeats 1000000 in
theorem stuffed_in (F : Fence) (n : Nat) (h15 : F.fn 37) (hro : F.round = none) (A : Option Addr) (len cap : Nat) (w : World) :
    CallsIn F n Tryd.prog 37 #[.slice A len cap] w fun e w' => e = .returned (.func (.func 50) #[] #[.pointer (some ⟨w.heap.size, 0, none⟩)]) ∧ w' = w.alloc (.cells #[.slice A len cap] 32) := by
  refine callsIn_of_wp Tryd.func37 rfl h15 ?_ hro
  simp only [Tryd.ntmps37, List.size_toArray, List.length_cons, List.length_nil, Nat.reduceAdd, Nat.reduceSub, Array.replicate_succ, Array.replicate_zero, List.push_toArray, List.append_toArray, List.nil_append, List.cons_append]
  gi_wp2
  go_ret
  exact ⟨rfl, rfl⟩
theorem stuffed_stops (F : Fence) (n : Nat) (h17 : F.fn 50) (h16 : F.fn 41) (hro : F.round = none) (hn : 1 ≤ n) (Bs n₀ : Nat) (A : Option Addr) (cap : Nat) (zs : List Int) (hreach : zs.length ≤ 70000000000000) (w : World) (hBs : Bs < w.heap.size) (hn₀ : n₀ ≤ w.heap.size)
    (hc : w.cell? ⟨Bs, 0, none⟩ = some (.slice A zs.length cap)) (hI : Bytes n₀ w A zs) :
    SeqStopsK F n Tryd.prog 50 #[.pointer (some ⟨Bs, 0, none⟩)] (fun x : Int => #[Value.int .u8 x]) (Below n₀) (fun ys => ys = stf zs) (fun _ => True) (stf zs).length w := fun l J Jx W hW _ _ hY h0 => by
  have hc' := (hW.cell (p := ⟨Bs, 0, none⟩) hBs).trans hc
  refine (stuffed1_in F n h17 h16 hro hn l Bs n₀ A cap zs hreach J Jx hY W hc' (hI.below (hW.mono hn₀)) h0).mono ?_
  rintro e W' ⟨he, ⟨ys, rfl, hj⟩ | ⟨pre, hj⟩⟩
  · exact ⟨he, .inl ⟨_, rfl, hj⟩⟩
  · exact ⟨he, .inr ⟨_, trivial, hj⟩⟩

theorem run_make0 {P : Program} (t e : TypeId) (i : TypeInfo) (z : Value) (ht : P.underlying t = some (.slice e)) (hi : P.info? e = some i) (hz : i.zero = some z)
    (kl kc : IntKind) (c : Nat) (hbytes : i.bytes * c ≤ 281474976710656) (h63 : c ≤ 9223372036854775807) (w : World) :
    (Instr.makeSlice t (.int kl 0) (.int kc (c : Int))).run P w = .ok (.slice (some ⟨w.heap.size, 0, none⟩) 0 c) (w.alloc (.cells (madeCells z.cells (c * i.size)) e)) := by
  have hb : (i.bytes : Int) * (c : Int) ≤ 281474976710656 := by
    have h : ((i.bytes * c : Nat) : Int) ≤ 281474976710656 := by omega
    rwa [Int.natCast_mul] at h
  have hr := run_make (P := P) w t e i z ht hi hz kl kc 0 c (by omega) (by omega) hb (by omega)
  simpa using hr
theorem own_made0 (w : World) (e : TypeId) (z : Value) (c : Nat) (hz : z.cells.size = 1) (hm : c ≤ maxLen) : (w.alloc (.cells (madeCells z.cells (c * 1)) e)).ownsRow w.heap.size e 1 (.slice (some ⟨w.heap.size, 0, none⟩) 0 c) 0 [] :=
  ⟨rfl, Or.inr ⟨w.heap.size, c, _, rfl, Nat.le_refl _, Blk.new w _ _, Nat.zero_le _, hm, by simp [madeCells, hz], rfl⟩⟩
/-- What Stuff comes to. -/
def StuffPost (l : List Int) (w : World) (e : Ending) (W' : World) : Prop := ∃ v, e = .returned v ∧ W'.ownsRow w.heap.size 5 1 v (stf l).length (nums .u8 (stf l)) ∧ Below w.heap.size w W'
set_option maxRecDepth 100000 in
set_option maxHeartbeats 4000000 in
theorem Stuff_in (F : Fence) (n : Nat) (h11 : F.fn 24) (h15 : F.fn 37) (h16 : F.fn 41) (h17 : F.fn 50) (hro : F.round = none) (hn : 3 ≤ n) (A : Option Addr) (cap : Nat) (zs : List Int) (hreach : zs.length ≤ 70000000000000) (w : World) (hL : Bytes w.heap.size w A zs) :
    CallsIn F n Tryd.prog 24 #[.slice A zs.length cap] w (StuffPost zs w) := by
  have h1 : 1 ≤ n := by omega
  obtain ⟨i0, hi, hz0, hz1, hz2⟩ := info_parts info_u8
  have hmk := run_make0 (P := Tryd.prog) 32 5 i0 (.int .u8 0) Tryd.underlying32 hi hz0 .i64 .i64 zs.length (by rw [hz2]; omega) (by omega)
  rw [hz1] at hmk
  refine callsIn_of_wp_marks Tryd.func24 rfl h11 ?_ hro
  simp only [Tryd.ntmps24, List.size_toArray, List.length_cons, List.length_nil, Nat.reduceAdd, Nat.reduceSub, Array.replicate_succ, Array.replicate_zero, List.push_toArray, List.append_toArray, List.nil_append, List.cons_append]
  gi_wp2_with (gi_at_call 37; refine (stuffed_in F (n - 1) h15 hro _ _ _ _).mono ?_; rintro e w' ⟨rfl, rfl⟩)
  have hml : zs.length ≤ maxLen := by unfold maxLen; omega
  have ho0 := own_made0 w 5 (.int .u8 0) zs.length rfl hml
  have bO := Boxed.new (w.alloc (.cells (madeCells #[.int .u8 0] zs.length) 5)) 32 (.slice (some ⟨w.heap.size, 0, none⟩) 0 zs.length)
  have bN := Boxed.new ((w.alloc (.cells (madeCells #[.int .u8 0] zs.length) 5)).alloc (.cells #[.slice (some ⟨w.heap.size, 0, none⟩) 0 zs.length] 32)) 32 (.slice A zs.length cap)
  simp only [World.size_alloc] at bO bN
  rw [Nat.mul_one] at ho0
  have hB0 : Below w.heap.size w (((w.alloc (.cells (madeCells #[.int .u8 0] zs.length) 5)).alloc (.cells #[.slice (some ⟨w.heap.size, 0, none⟩) 0 zs.length] 32)).alloc (.cells #[.slice A zs.length cap] 32)) :=
    (((Below.refl _ w).alloc (Nat.le_refl _) _).alloc (by simp) _).alloc (by simp; omega) _
  have hsl := stf_len zs
  refine wpIn_rangeFunc_ownG hro h1 (gf := 50) (lb := #[.pointer (some ⟨w.heap.size + 1 + 1, 0, none⟩)]) rfl h17 (enters_of Tryd.func50 (by kernel_rfl) rfl)
    (stuffed_stops F (n - 1) h17 h16 hro (by omega) (w.heap.size + 1 + 1) w.heap.size A cap zs hreach _ (by simp) (by simp; omega) bN.cell (hL.below hB0)) belowK_t (belowK_b (by simp; omega)) (Below.refl _ _) (fun _ => rfl)
    (fun pre W => (∃ v, Boxed W (w.heap.size + 1) 32 v ∧ W.ownsRow w.heap.size 5 1 v pre.length (nums .u8 pre) ∧ True) ∧ Below w.heap.size w W)
    (fun _ _ _ => False)
    (OwnFrom.and (Own.from (holdsRow_own w.heap.size (w.heap.size + 1) 32 5 1 (fun pre : List Int => pre.length) (fun pre => nums .u8 pre) (fun _ _ => True)) _) (ownFrom_below (Nat.le_refl _) (by simp; omega)))
    (fun _ _ _ _ _ hs _ _ => hs)
    ⟨⟨_, bO.alloc _, (ho0.alloc _).alloc _, trivial⟩, hB0⟩
    (fun x => { tmps := #[.slice A zs.length cap, undef, .slice none 0 0, .pointer (some ⟨w.heap.size + 1, 0, none⟩), .int .u8 x, .slice A zs.length cap, .int .i64 zs.length, .slice (some ⟨w.heap.size, 0, none⟩) 0 zs.length, .slice A zs.length cap, .func (.func 50) #[] #[.pointer (some ⟨w.heap.size + 1 + 1, 0, none⟩)], .int .u8 x, undef, undef, undef, undef, undef], defers := [] }) ?assign ?body ?done ?stop
  case assign =>
    intro l x W K hK
    gi_wp2
    exact hK
  case body =>
    rintro l pre x W ⟨⟨v, hv, hrow, hnil⟩, hB⟩ hlt
    have hc := hv.cell
    clear hmk ho0 bO bN hB0
    have hp1 : pre.length + 1 ≤ maxLen := by unfold maxLen; omega
    have hp2 : (pre.length + 1) * 1 ≤ 140737488355328 := by omega
    have hp3 : w.heap.size ≤ (W.alloc (.cells #[.int .u8 x] 5)).heap.size := by have := hB.size; simp; omega
    gi_wp2_with (gi_at_builtin; refine wpListIn_append_own _ rfl _ _ 32 rfl w.heap.size 5 i0 (.int .u8 0) 1 1 Tryd.underlying32 hi hz0 hz1 hz2 rfl (by decide) _ _ _ rfl (hrow.alloc _) ⟨W.heap.size, 0, none⟩ 1 1 [.int .u8 x] rfl rfl (cell_one_new _ _ _) (by simp [Value.oneCell']) hp1 hp2 hp3 ?_; intro v' w1 hown' hgrow _; obtain ⟨g', cap', rfl⟩ := ownsRow_succ hown'; obtain ⟨hv1, hv2, hr2, hk2, hb2⟩ := hv.appended (by decide) hrow hB.size (Nat.le_succ _) hown' hgrow; have hc1 := hv1.cell; have hf1 := hv1.frozen)
    exact ⟨hk2.from _, hb2, ⟨_, hv2, by rw [nums_snoc, List.length_append]; exact hr2, trivial⟩, hB.trans hb2⟩
  case done =>
    rintro D ys W hD rfl ⟨⟨v, hv, hrow, hnil⟩, hB⟩ hK
    have hc := hv.cell
    gi_wp2
    refine ⟨by simp, .inl ⟨_, _, rfl, run_takeDeferred hK, ?_⟩⟩
    exact ⟨_, results_tmp rfl _ _ _, v, rfl, ownsRow_putObj hrow _ hK rfl, hB.trans (belowK_b (w := w) (Nat.le_refl _) W D _ _ (by simp at hD; omega) hK rfl rfl)⟩
  case stop =>
    rintro D c pre W _ _ h _
    exact h.elim
/-- Stuff, at whatever bytes. -/
theorem Stuff_any (A : Option Addr) (cap : Nat) (zs : List Int) (hreach : zs.length ≤ 70000000000000) (w : World) (hL : Bytes w.heap.size w A zs) :
    Calls Tryd.prog 24 #[.slice A zs.length cap] w (StuffPost zs w) :=
  (callsIn_wide (n := 3)).1 (Stuff_in Fence.wide 3 trivial trivial trivial trivial rfl (by omega) A cap zs hreach w hL)
end Go.Proofs.YtkihoonjekccgaaDoor.K

/- What Unstuff does: two labels and their jumps. -/
namespace Go.Proofs.YtkihoonjekccgaaDoor.K
open Go.RowKit
set_option linter.unusedVariables false
set_option linter.unusedSimpArgs false

/-- As Q; by a goto: what holds at that label. -/
def _root_.Go.Exit.jumpN (J : Nat → Act → World → Prop) (Q : Exit → Act → World → Prop) : Exit → Act → World → Prop
  | .goto l, a, w => J l a w
  | e, a, w => Q e a w
/-- A scope with several labels: at each jump what holds there, and a measure that falls. -/
theorem wp_scope_jumpsN {P : Program} {a : Act} {w : World} {Q : Exit → Act → World → Prop} {c : Code} (J : Nat → Act → World → Prop) (μ : Nat → Act → World → Nat)
    (first : c.wp P (Exit.jumpN J Q) a w)
    (pass : ∀ l a w, J l a w → ∃ rest, findLabel c l = some rest ∧ rest.wp P (Exit.jumpN (fun l' a' w' => J l' a' w' ∧ μ l' a' w' < μ l a w) Q) a w) : (Code.scope c).wp P Q a w := by
  intro b k cs
  have key : ∀ n l a w, μ l a w = n → J l a w → ∃ rest, findLabel c l = some rest ∧ ∃ e a' w', Q e a' w' ∧ Arrives P (lone (b.at a (.code rest :: .inScope c :: k)) cs w) b k cs e a' w' := by
    intro n
    induction n using Nat.strongRecOn with
    | _ n ih =>
      intro l a w hn hJ
      obtain ⟨rest, hf, hp⟩ := pass l a w hJ
      refine ⟨rest, hf, ?_⟩
      obtain ⟨e, a₁, w₁, hq, harr⟩ := hp b (.inScope c :: k) cs
      cases e with
      | normal => exact ⟨.normal, a₁, w₁, hq, Steps.trans harr (.one step_inScope)⟩
      | exit id => exact ⟨.exit id, a₁, w₁, hq, fun k' hk => harr k' (by simp [exitTo, hk])⟩
      | goto l' =>
        obtain ⟨hJ', hlt⟩ := hq
        obtain ⟨rest', hf', e₂, a₂, w₂, hq₂, harr₂⟩ := ih _ (by omega) l' a₁ w₁ rfl hJ'
        have hg : gotoIn l' (.inScope c :: k) = some (.code rest' :: .inScope c :: k) := by simp [gotoIn, hf']
        exact ⟨e₂, a₂, w₂, hq₂, .of_steps (harr _ hg) harr₂⟩
      | ret => exact ⟨_, a₁, w₁, hq, harr⟩
      | panic ch => exact ⟨_, a₁, w₁, hq, harr⟩
      | outgrown => exact ⟨_, a₁, w₁, hq, harr⟩
  obtain ⟨e, a₁, w₁, hq, harr⟩ := first b (.inScope c :: k) cs
  cases e with
  | normal => exact ⟨.normal, a₁, w₁, hq, .head step_scope (Steps.trans harr (.one step_inScope))⟩
  | exit id => exact ⟨.exit id, a₁, w₁, hq, fun k' hk => .head step_scope (harr k' (by simp [exitTo, hk]))⟩
  | goto l' =>
    obtain ⟨rest', hf', e₂, a₂, w₂, hq₂, harr₂⟩ := key _ l' a₁ w₁ rfl hq
    have hg : gotoIn l' (.inScope c :: k) = some (.code rest' :: .inScope c :: k) := by simp [gotoIn, hf']
    exact ⟨e₂, a₂, w₂, hq₂, .of_steps (.head step_scope (harr _ hg)) harr₂⟩
  | ret => exact ⟨_, a₁, w₁, hq, .of_steps (.one step_scope) harr⟩
  | panic ch => exact ⟨_, a₁, w₁, hq, .of_steps (.one step_scope) harr⟩
  | outgrown => exact ⟨_, a₁, w₁, hq, .of_steps (.one step_scope) harr⟩

/-- What bytes are unstuffed to; behind a 7D or not. -/
def unst : Bool → List Int → List Int → List Int × Int
  | false, [], acc => (acc, 0)
  | true, [], _ => ([], 2)
  | false, c :: r, acc => if c = 126 then ([], 3) else if c = 125 then unst true r acc else unst false r (acc ++ [c])
  | true, c :: r, acc => if bits .xor .u8 c 32 = 126 then unst false r (acc ++ [126]) else if bits .xor .u8 c 32 = 125 then unst false r (acc ++ [125]) else ([], 3)
theorem unst_end {l acc : List Int} {k : Nat} (b : Bool) (h : k = l.length) : unst b (l.drop k) acc = if b then ([], 2) else (acc, 0) := by
  rw [List.drop_of_length_le (by omega)]; cases b <;> rfl
theorem unst_at {l acc : List Int} {k : Nat} (b : Bool) (h : k < l.length) : unst b (l.drop k) acc = unst b (l.getD k 0 :: l.drop (k + 1)) acc := by
  rw [List.drop_eq_getElem_cons h, List.getD_eq_getElem?_getD, List.getElem?_eq_getElem h]; rfl
theorem special_any (c : Int) (b : Bool) (hb : (c = 126 ∨ c = 125) ↔ b = true) (w : World) : Calls Tryd.prog 41 #[.int .u8 c] w fun e w' => e = .returned (.bool b) ∧ w = w' :=
  (callsIn_wide (n := 1)).1 (special_in Fence.wide 1 trivial rfl c b hb w)

theorem lit_succ {n : Nat} (l : List Value) (h : l.length = n + 1) : ∃ x r, l = x :: r ∧ r.length = n := by
  cases l with
  | nil => simp at h
  | cons x r => exact ⟨x, r, rfl, by simpa using h⟩
theorem lit48 (a : Array Value) (h : a.size = 48) : ∃ f : Nat → Value, a = #[f 0, f 1, f 2, f 3, f 4, f 5, f 6, f 7, f 8, f 9, f 10, f 11, f 12, f 13, f 14, f 15, f 16, f 17, f 18, f 19, f 20, f 21, f 22, f 23, f 24, f 25, f 26, f 27, f 28, f 29, f 30, f 31, f 32, f 33, f 34, f 35, f 36, f 37, f 38, f 39, f 40, f 41, f 42, f 43, f 44, f 45, f 46, f 47] := by
  refine ⟨fun i => a.getD i undef, ?_⟩
  apply Array.ext'
  obtain ⟨l0⟩ := a
  have h0 : l0.length = 48 := h
  clear h
  obtain ⟨x0, l1, e0, h1⟩ := lit_succ (n := 47) l0 h0
  obtain ⟨x1, l2, e1, h2⟩ := lit_succ (n := 46) l1 h1
  obtain ⟨x2, l3, e2, h3⟩ := lit_succ (n := 45) l2 h2
  obtain ⟨x3, l4, e3, h4⟩ := lit_succ (n := 44) l3 h3
  obtain ⟨x4, l5, e4, h5⟩ := lit_succ (n := 43) l4 h4
  obtain ⟨x5, l6, e5, h6⟩ := lit_succ (n := 42) l5 h5
  obtain ⟨x6, l7, e6, h7⟩ := lit_succ (n := 41) l6 h6
  obtain ⟨x7, l8, e7, h8⟩ := lit_succ (n := 40) l7 h7
  obtain ⟨x8, l9, e8, h9⟩ := lit_succ (n := 39) l8 h8
  obtain ⟨x9, l10, e9, h10⟩ := lit_succ (n := 38) l9 h9
  obtain ⟨x10, l11, e10, h11⟩ := lit_succ (n := 37) l10 h10
  obtain ⟨x11, l12, e11, h12⟩ := lit_succ (n := 36) l11 h11
  obtain ⟨x12, l13, e12, h13⟩ := lit_succ (n := 35) l12 h12
  obtain ⟨x13, l14, e13, h14⟩ := lit_succ (n := 34) l13 h13
  obtain ⟨x14, l15, e14, h15⟩ := lit_succ (n := 33) l14 h14
  obtain ⟨x15, l16, e15, h16⟩ := lit_succ (n := 32) l15 h15
  obtain ⟨x16, l17, e16, h17⟩ := lit_succ (n := 31) l16 h16
  obtain ⟨x17, l18, e17, h18⟩ := lit_succ (n := 30) l17 h17
  obtain ⟨x18, l19, e18, h19⟩ := lit_succ (n := 29) l18 h18
  obtain ⟨x19, l20, e19, h20⟩ := lit_succ (n := 28) l19 h19
  obtain ⟨x20, l21, e20, h21⟩ := lit_succ (n := 27) l20 h20
  obtain ⟨x21, l22, e21, h22⟩ := lit_succ (n := 26) l21 h21
  obtain ⟨x22, l23, e22, h23⟩ := lit_succ (n := 25) l22 h22
  obtain ⟨x23, l24, e23, h24⟩ := lit_succ (n := 24) l23 h23
  obtain ⟨x24, l25, e24, h25⟩ := lit_succ (n := 23) l24 h24
  obtain ⟨x25, l26, e25, h26⟩ := lit_succ (n := 22) l25 h25
  obtain ⟨x26, l27, e26, h27⟩ := lit_succ (n := 21) l26 h26
  obtain ⟨x27, l28, e27, h28⟩ := lit_succ (n := 20) l27 h27
  obtain ⟨x28, l29, e28, h29⟩ := lit_succ (n := 19) l28 h28
  obtain ⟨x29, l30, e29, h30⟩ := lit_succ (n := 18) l29 h29
  obtain ⟨x30, l31, e30, h31⟩ := lit_succ (n := 17) l30 h30
  obtain ⟨x31, l32, e31, h32⟩ := lit_succ (n := 16) l31 h31
  obtain ⟨x32, l33, e32, h33⟩ := lit_succ (n := 15) l32 h32
  obtain ⟨x33, l34, e33, h34⟩ := lit_succ (n := 14) l33 h33
  obtain ⟨x34, l35, e34, h35⟩ := lit_succ (n := 13) l34 h34
  obtain ⟨x35, l36, e35, h36⟩ := lit_succ (n := 12) l35 h35
  obtain ⟨x36, l37, e36, h37⟩ := lit_succ (n := 11) l36 h36
  obtain ⟨x37, l38, e37, h38⟩ := lit_succ (n := 10) l37 h37
  obtain ⟨x38, l39, e38, h39⟩ := lit_succ (n := 9) l38 h38
  obtain ⟨x39, l40, e39, h40⟩ := lit_succ (n := 8) l39 h39
  obtain ⟨x40, l41, e40, h41⟩ := lit_succ (n := 7) l40 h40
  obtain ⟨x41, l42, e41, h42⟩ := lit_succ (n := 6) l41 h41
  obtain ⟨x42, l43, e42, h43⟩ := lit_succ (n := 5) l42 h42
  obtain ⟨x43, l44, e43, h44⟩ := lit_succ (n := 4) l43 h43
  obtain ⟨x44, l45, e44, h45⟩ := lit_succ (n := 3) l44 h44
  obtain ⟨x45, l46, e45, h46⟩ := lit_succ (n := 2) l45 h45
  obtain ⟨x46, l47, e46, h47⟩ := lit_succ (n := 1) l46 h46
  obtain ⟨x47, l48, e47, h48⟩ := lit_succ (n := 0) l47 h47
  have e48 : l48 = [] := List.eq_nil_of_length_eq_zero h48
  subst e48 e47 e46 e45 e44 e43 e42 e41 e40 e39 e38 e37 e36 e35 e34 e33 e32 e31 e30 e29 e28 e27 e26 e25 e24 e23 e22 e21 e20 e19 e18 e17 e16 e15 e14 e13 e12 e11 e10 e9 e8 e7 e6 e5 e4 e3 e2 e1 e0
  rfl

def UnstuffPost (l : List Int) (w : World) (e : Ending) (w' : World) : Prop :=
  ∃ v, e = .returned (.tuple #[v, .int .i64 (unst false l []).2]) ∧ w'.ownsRow w.heap.size 5 1 v (unst false l []).1.length (nums .u8 (unst false l []).1) ∧ Below w.heap.size w w'
/-- At a label. -/
def UnJ (A : Option Addr) (cap : Nat) (l : List Int) (w : World) (lab : Nat) (a : Act) (wr : World) : Prop :=
  a.tmps.size = 48 ∧ a.defers = [] ∧ a.tmps.getD 0 undef = .slice A l.length cap ∧ lab ≤ 1 ∧ ∃ (k : Nat) (acc : List Int) (v : Value), a.tmps.getD 4 undef = v ∧ a.tmps.getD 5 undef = .int .i64 k ∧ k ≤ l.length ∧ acc.length ≤ k ∧
    wr.ownsRow w.heap.size 5 1 v acc.length (nums .u8 acc) ∧ Below w.heap.size w wr ∧ unst (lab == 1) (l.drop k) acc = unst false l []

set_option maxHeartbeats 4000000 in
set_option maxRecDepth 10000 in
theorem Unstuff_any (A : Option Addr) (cap : Nat) (l : List Int) (hreach : l.length ≤ 70000000000000) (w : World) (hL : Bytes w.heap.size w A l) :
    Calls Tryd.prog 26 #[.slice A l.length cap] w (UnstuffPost l w) := by
  obtain ⟨i0, hi, hz0, hz1, hz2⟩ := info_parts info_u8
  have hmk := run_make0 (P := Tryd.prog) 32 5 i0 (.int .u8 0) Tryd.underlying32 hi hz0 .i64 .i64 l.length (by rw [hz2]; omega) (by omega)
  rw [hz1] at hmk
  have hml : l.length ≤ maxLen := by unfold maxLen; omega
  have ho0 := Lib.hid (own_made0 w 5 (.int .u8 0) l.length rfl hml)
  have HL := Lib.hid hL
  clear hL hi hz0 hz1 hz2
  go_enter Tryd.func26, Tryd.ntmps26
  go_wp2
  refine wp_scope_jumpsN (UnJ A cap l w) (fun lab a _ => 2 * (l.length - (intOf (a.tmps.getD 5 undef)).toNat) + (if lab = 1 then 1 else 2)) ?_ ?_
  · go_wp2
    have hk0 : ((0 : Nat) : Int) = 0 := rfl
    obtain ⟨k, hk⟩ : ∃ k : Nat, (k : Int) = 0 := ⟨0, rfl⟩
    have hk' : k ≤ l.length := by omega
    obtain ⟨acc, hacc⟩ : ∃ acc : List Int, acc = [] := ⟨_, rfl⟩
    have hal : acc.length ≤ k := by rw [hacc]; simp
    have HU : Hid (unst false (l.drop k) acc = unst false l []) := Lib.hid (by rw [hacc, show k = 0 by omega]; rfl)
    have HB : Hid (Below w.heap.size w (w.alloc (.cells (madeCells #[.int .u8 0] l.length) 5))) := Lib.hid ((Below.refl _ _).alloc (Nat.le_refl _) _)
    have HO : Hid ((w.alloc (.cells (madeCells #[.int .u8 0] l.length) 5)).ownsRow w.heap.size 5 1 (.slice (some ⟨w.heap.size, 0, none⟩) 0 l.length) acc.length (nums .u8 acc)) := Lib.hid (by rw [hacc]; have := ho0.out; rwa [Nat.mul_one] at this)
    generalize w.alloc (.cells (madeCells #[.int .u8 0] l.length) 5) = wr at *
    rw [← hk]
    generalize Value.slice (some ⟨w.heap.size, 0, none⟩) 0 l.length = v at *
    clear hmk ho0 hk hk0 hacc
    go_step3
    by_cases hlt : k < l.length
    · obtain ⟨ad, rfl, hb, hcell⟩ := (RowOf.below HL.out HB.out).num hlt
      have hat := Lib.hid (unst_at (acc := acc) false hlt)
      generalize l.getD k 0 = x at *
      have hkl : ((k : Int) == (l.length : Int)) = false := by rw [beq_eq_false_iff_ne]; omega
      by_cases h1 : x = 126
      · subst h1
        have hres := Lib.hid (show unst false l [] = ([], 3) by rw [← HU.out, hat.out]; rfl)
        go_wp2
        simp only [Exit.jumpN]
        go_ret2
        exact ⟨_, by rw [hres.out]; rfl, by rw [hres.out]; exact own_nil _ _ _ _, HB.out⟩
      · by_cases h2 : x = 125
        · subst h2
          have hu2 := Lib.hid (show unst true (l.drop (k + 1)) acc = unst false l [] by rw [← HU.out, hat.out]; rfl)
          go_wp2
          go_step3
          exact ⟨rfl, rfl, rfl, by omega, k + 1, acc, _, rfl, by simp, by omega, by omega, HO.out, HB.out, hu2.out⟩
        · have h1' : (x == 126) = false := by simp [h1]
          have h2' : (x == 125) = false := by simp [h2]
          have hu2 := Lib.hid (show unst false (l.drop (k + 1)) (acc ++ [x]) = unst false l [] by rw [← HU.out, hat.out]; simp [unst, h1, h2])
          clear h1 h2
          go_wp2_with (at_builtin; refine app1 rfl _ _ _ rfl 5 (.int .u8 0) 1 1 Tryd.underlying32 info_u8 rfl (by omega) (by omega) _ _ _ _ [.int .u8 x] rfl rfl rfl (by simp [Value.oneCell']) HO.out HB.out.size (by omega) ?_; intro v2 w2 h3 h4 _; have H3 := Lib.hid h3; have H4 := Lib.hid h4; clear h3 h4)
          go_step3
          exact ⟨rfl, rfl, rfl, by omega, k + 1, acc ++ [x], _, rfl, by simp, by omega, by simp; omega, by rw [nums_snoc, List.length_append]; exact H3.out, HB.out.trans ((H4.out.mono (S' := fun j => w.heap.size ≤ j) (fun j _ hj => (HO.out.lt j hj).1)).below (fun _ _ h => h) HB.out.size), hu2.out⟩
    · have hkl : ((k : Int) == (l.length : Int)) = true := by simp; omega
      have hres := Lib.hid (show unst false l [] = (acc, 0) by rw [← HU.out, unst_end false (by omega)]; rfl)
      go_wp2
      simp only [Exit.jumpN]
      go_ret2
      exact ⟨_, by rw [hres.out]; rfl, by rw [hres.out]; exact HO.out, HB.out⟩
  · rintro lab a wr ⟨hs, hd, h0, hlab, k, acc, v, h4, h5, hk, hal, hown, hbel, hu⟩
    obtain ⟨tm, df⟩ := a
    simp only at hs hd h0 h4 h5
    subst hd
    obtain ⟨f, rfl⟩ := lit48 tm hs
    have g0 : f 0 = .slice A l.length cap := h0
    have g4 : f 4 = v := h4
    have g5 : f 5 = .int .i64 k := h5
    rw [g0, g4, g5]
    have HO := Lib.hid hown
    have HB := Lib.hid hbel
    have hlab2 : lab = 0 ∨ lab = 1 := by omega
    clear hmk ho0 hs h0 h4 h5 g0 g4 g5 hown hbel hlab
    rcases hlab2 with rfl | rfl
    · have HU : Hid (unst false (l.drop k) acc = unst false l []) := Lib.hid hu
      clear hu
      refine ⟨_, rfl, ?_⟩
      by_cases hlt : k < l.length
      · obtain ⟨ad, rfl, hb, hcell⟩ := (RowOf.below HL.out HB.out).num hlt
        have hat := Lib.hid (unst_at (acc := acc) false hlt)
        generalize l.getD k 0 = x at *
        have hkl : ((k : Int) == (l.length : Int)) = false := by rw [beq_eq_false_iff_ne]; omega
        by_cases h1 : x = 126
        · subst h1
          have hres := Lib.hid (show unst false l [] = ([], 3) by rw [← HU.out, hat.out]; rfl)
          go_wp2
          simp only [Exit.jumpN]
          go_ret2
          exact ⟨_, by rw [hres.out]; rfl, by rw [hres.out]; exact own_nil _ _ _ _, HB.out⟩
        · by_cases h2 : x = 125
          · subst h2
            have hu2 := Lib.hid (show unst true (l.drop (k + 1)) acc = unst false l [] by rw [← HU.out, hat.out]; rfl)
            go_wp2
            go_step3
            exact ⟨⟨rfl, rfl, rfl, by omega, k + 1, acc, _, rfl, by simp, by omega, by omega, HO.out, HB.out, hu2.out⟩, by simp [intOf]; omega⟩
          · have h1' : (x == 126) = false := by simp [h1]
            have h2' : (x == 125) = false := by simp [h2]
            have hu2 := Lib.hid (show unst false (l.drop (k + 1)) (acc ++ [x]) = unst false l [] by rw [← HU.out, hat.out]; simp [unst, h1, h2])
            clear h1 h2
            go_wp2_with (at_builtin; refine app1 rfl _ _ _ rfl 5 (.int .u8 0) 1 1 Tryd.underlying32 info_u8 rfl (by omega) (by omega) _ _ _ _ [.int .u8 x] rfl rfl rfl (by simp [Value.oneCell']) HO.out HB.out.size (by omega) ?_; intro v2 w2 h3 h4 _; have H3 := Lib.hid h3; have H4 := Lib.hid h4; clear h3 h4)
            go_step3
            exact ⟨⟨rfl, rfl, rfl, by omega, k + 1, acc ++ [x], _, rfl, by simp, by omega, by simp; omega, by rw [nums_snoc, List.length_append]; exact H3.out, HB.out.trans ((H4.out.mono (S' := fun j => w.heap.size ≤ j) (fun j _ hj => (HO.out.lt j hj).1)).below (fun _ _ h => h) HB.out.size), hu2.out⟩, by simp [intOf]; omega⟩
      · have hkl : ((k : Int) == (l.length : Int)) = true := by simp; omega
        have hres := Lib.hid (show unst false l [] = (acc, 0) by rw [← HU.out, unst_end false (by omega)]; rfl)
        go_wp2
        simp only [Exit.jumpN]
        go_ret2
        exact ⟨_, by rw [hres.out]; rfl, by rw [hres.out]; exact HO.out, HB.out⟩
    · have HU : Hid (unst true (l.drop k) acc = unst false l []) := Lib.hid hu
      clear hu
      refine ⟨_, rfl, ?_⟩
      have hx8 : ∀ c : Int, bits .xor .u8 c 32 = bits .xor .u8 c 32 := fun _ => rfl
      by_cases hlt : k < l.length
      · obtain ⟨ad, rfl, hb, hcell⟩ := (RowOf.below HL.out HB.out).num hlt
        have hat := Lib.hid (unst_at (acc := acc) true hlt)
        generalize l.getD k 0 = x0 at *
        have hkl : ((k : Int) == (l.length : Int)) = false := by rw [beq_eq_false_iff_ne]; omega
        obtain ⟨x, hx⟩ : ∃ x, bits .xor .u8 x0 32 = x := ⟨_, rfl⟩
        clear hx8
        by_cases h1 : x = 126 ∨ x = 125
        · have hu2 := Lib.hid (show unst false (l.drop (k + 1)) (acc ++ [x]) = unst false l [] by
            rw [← HU.out, hat.out]
            rcases h1 with h1 | h1
            · subst h1; simp [unst, hx]
            · subst h1; simp [unst, hx])
          have hsp := Lib.hid (show (x = 126 ∨ x = 125) ↔ true = true by simp [h1])
          clear h1
          go_wp2_with (first | (go_at_call 41; refine (special_any x true hsp.out _).mono ?_; rintro e w' ⟨rfl, rfl⟩) | (at_builtin; refine app1 rfl _ _ _ rfl 5 (.int .u8 0) 1 1 Tryd.underlying32 info_u8 rfl (by omega) (by omega) _ _ _ _ [.int .u8 x] rfl rfl rfl (by simp [Value.oneCell']) HO.out HB.out.size (by omega) ?_; intro v2 w2 h3 h4 _; have H3 := Lib.hid h3; have H4 := Lib.hid h4; clear h3 h4))
          go_step3
          exact ⟨⟨rfl, rfl, rfl, by omega, k + 1, acc ++ [x], _, rfl, by simp, by omega, by simp; omega, by rw [nums_snoc, List.length_append]; exact H3.out, HB.out.trans ((H4.out.mono (S' := fun j => w.heap.size ≤ j) (fun j _ hj => (HO.out.lt j hj).1)).below (fun _ _ h => h) HB.out.size), hu2.out⟩, by simp [intOf]; omega⟩
        · have hres := Lib.hid (show unst false l [] = ([], 3) by
            rw [← HU.out, hat.out]
            have h2 : ¬ x = 126 := fun h => h1 (.inl h)
            have h3 : ¬ x = 125 := fun h => h1 (.inr h)
            simp [unst, hx, h2, h3])
          have hsp := Lib.hid (show (x = 126 ∨ x = 125) ↔ false = true by simp [h1])
          clear h1
          go_wp2_with (go_at_call 41; refine (special_any x false hsp.out _).mono ?_; rintro e w' ⟨rfl, rfl⟩)
          simp only [Exit.jumpN]
          go_ret2
          exact ⟨_, by rw [hres.out]; rfl, by rw [hres.out]; exact own_nil _ _ _ _, HB.out⟩
      · have hkl : ((k : Int) == (l.length : Int)) = true := by simp; omega
        have hres := Lib.hid (show unst false l [] = ([], 2) by rw [← HU.out, unst_end true (by omega)]; rfl)
        go_wp2
        simp only [Exit.jumpN]
        go_ret2
        exact ⟨_, by rw [hres.out]; rfl, by rw [hres.out]; exact own_nil _ _ _ _, HB.out⟩
end Go.Proofs.YtkihoonjekccgaaDoor.K

/- Frames: whether one is right; its bits. -/
namespace Go.Proofs.YtkihoonjekccgaaDoor.K
open Go.RowKit
set_option linter.unusedVariables false
set_option linter.unusedSimpArgs false
attribute [local go_sem ↓] Go.wp_at_zero Go.wp_at_succ
/-- A frame, plain. -/
structure Fp where
  addr : Int
  kind : Int
  ses : Int
  seq : Int
  ack : Int
  B : List Int
/-- Its numbers are bytes. -/
structure Fp.ok (f : Fp) : Prop where
  a : 0 ≤ f.addr ∧ f.addr < 256
  k : 0 ≤ f.kind ∧ f.kind < 256
  s : 0 ≤ f.ses ∧ f.ses < 256
  q : 0 ≤ f.seq ∧ f.seq < 256
  x : 0 ≤ f.ack ∧ f.ack < 256
  b : InB f.B
def rightF (f : Fp) : Bool := decide (1 ≤ f.addr ∧ f.addr ≤ 31 ∧ 1 ≤ f.kind ∧ f.kind ≤ 5 ∧ f.seq ≤ 1 ∧ f.ack ≤ 1 ∧ f.B.length ≤ 24)
abbrev fvs (f : Fp) (A : Option Addr) (c : Nat) : Array Value := #[.int .u8 f.addr, .int .u8 f.kind, .int .u8 f.ses, .int .u8 f.seq, .int .u8 f.ack, .slice A f.B.length c]
set_option maxHeartbeats 1000000 in
set_option maxRecDepth 10000 in
theorem rightC (f : Fp) (A : Option Addr) (c : Nat) (w : World) : Calls Tryd.prog 22 #[.agg #[.int .u8 f.addr, .int .u8 f.kind, .int .u8 f.ses, .int .u8 f.seq, .int .u8 f.ack, .slice A f.B.length c]] w fun e w' => e = .returned (.bool (rightF f)) ∧ Hid (Below w.heap.size w w') := by
  obtain ⟨addr, kind, ses, seq, ack, B⟩ := f
  simp only
  rcases (by omega : addr < 1 ∨ (1 ≤ addr ∧ 31 < addr) ∨ (1 ≤ addr ∧ addr ≤ 31 ∧ kind < 1) ∨ (1 ≤ addr ∧ addr ≤ 31 ∧ 1 ≤ kind ∧ 5 < kind) ∨ (1 ≤ addr ∧ addr ≤ 31 ∧ 1 ≤ kind ∧ kind ≤ 5 ∧ 1 < seq) ∨ (1 ≤ addr ∧ addr ≤ 31 ∧ 1 ≤ kind ∧ kind ≤ 5 ∧ seq ≤ 1 ∧ 1 < ack) ∨ (1 ≤ addr ∧ addr ≤ 31 ∧ 1 ≤ kind ∧ kind ≤ 5 ∧ seq ≤ 1 ∧ ack ≤ 1 ∧ 24 < (B.length : Int)) ∨ (1 ≤ addr ∧ addr ≤ 31 ∧ 1 ≤ kind ∧ kind ≤ 5 ∧ seq ≤ 1 ∧ ack ≤ 1 ∧ (B.length : Int) ≤ 24)) with h | ⟨h1, h⟩ | ⟨h1, h2, h⟩ | ⟨h1, h2, h3, h⟩ | ⟨h1, h2, h3, h4, h⟩ | ⟨h1, h2, h3, h4, h5, h⟩ | ⟨h1, h2, h3, h4, h5, h6, h⟩ | ⟨h1, h2, h3, h4, h5, h6, h⟩
  all_goals
    go_enter Tryd.func22, Tryd.ntmps22
    go_wp2
    go_ret
    exact ⟨ret_bool (by unfold rightF; simp; first | omega | (rw [Bool.eq_iff_iff]; simp; omega)), Lib.hid ((Below.refl _ w).alloc (Nat.le_refl _) _)⟩
set_option maxHeartbeats 1000000 in
set_option maxRecDepth 10000 in
theorem bitsFC (f : Fp) (A : Option Addr) (c : Nat) (w : World) (hq : 0 ≤ f.seq ∧ f.seq ≤ 1) (hx : 0 ≤ f.ack ∧ f.ack ≤ 1) : Calls Tryd.prog 39 #[.agg #[.int .u8 f.addr, .int .u8 f.kind, .int .u8 f.ses, .int .u8 f.seq, .int .u8 f.ack, .slice A f.B.length c]] w fun e w' => e = .returned (.int .u8 (f.seq + 2 * f.ack)) ∧ Hid (Below w.heap.size w w') := by
  obtain ⟨addr, kind, ses, seq, ack, B⟩ := f
  simp only at hq hx ⊢
  have hb00 : bits .or .u8 0 0 = 0 := by decide
  have hb01 : bits .or .u8 0 2 = 2 := by decide
  have hb10 : bits .or .u8 1 0 = 1 := by decide
  have hb11 : bits .or .u8 1 2 = 3 := by decide
  rcases (by omega : (seq = 0 ∧ ack = 0) ∨ (seq = 0 ∧ ack = 1) ∨ (seq = 1 ∧ ack = 0) ∨ (seq = 1 ∧ ack = 1)) with ⟨rfl, rfl⟩ | ⟨rfl, rfl⟩ | ⟨rfl, rfl⟩ | ⟨rfl, rfl⟩
  all_goals
    clear hq hx
    go_enter Tryd.func39, Tryd.ntmps39
    go_wp2
    go_ret
    exact ⟨rfl, Lib.hid ((Below.refl _ w).alloc (Nat.le_refl _) _)⟩
set_option maxHeartbeats 1000000 in
set_option maxRecDepth 10000 in
theorem RightFC (f : Fp) (A : Option Addr) (c : Nat) (w : World) : Calls Tryd.prog 16 #[.agg #[.int .u8 f.addr, .int .u8 f.kind, .int .u8 f.ses, .int .u8 f.seq, .int .u8 f.ack, .slice A f.B.length c]] w fun e w' => e = .returned (.int .i64 (if rightF f then 0 else 1)) ∧ Hid (Below w.heap.size w w') := by
  have HC := fun W => Lib.hid (rightC f A c W)
  cases hr : rightF f with
  | true =>
    simp only [hr] at HC
    clear hr
    go_enter Tryd.func16, Tryd.ntmps16
    go_wp2_with fail
    refine Calls.mono (HC _).out ?_
    rintro e w1 ⟨rfl, H1⟩
    go_wp2
    go_ret
    exact ⟨rfl, Lib.hid (((Below.refl _ w).alloc (Nat.le_refl _) _).trans (H1.out.mono (by simp)))⟩
  | false =>
    simp only [hr] at HC
    clear hr
    go_enter Tryd.func16, Tryd.ntmps16
    go_wp2_with fail
    refine Calls.mono (HC _).out ?_
    rintro e w1 ⟨rfl, H1⟩
    go_wp2
    go_ret
    exact ⟨rfl, Lib.hid (((Below.refl _ w).alloc (Nat.le_refl _) _).trans (H1.out.mono (by simp)))⟩
end Go.Proofs.YtkihoonjekccgaaDoor.K

/- Frames: the inner bytes, and Encode. -/
namespace Go.Proofs.YtkihoonjekccgaaDoor.K
open Go.RowKit
set_option linter.unusedVariables false
set_option linter.unusedSimpArgs false
attribute [local go_sem ↓] Go.wp_at_zero Go.wp_at_succ
theorem StuffM {A : Option Addr} {c n : Nat} {l : List Int} (hn : l.length = n) (hl : n ≤ 70000000000000) (w : World) (h : RowOf c8 1 w w.heap.size A l) :
    Calls Tryd.prog 24 #[.slice A n c] w fun e w' => ∃ A' c', e = .returned (.slice A' (stf l).length c') ∧ Hid (Made w.heap.size A' c' (stf l) w') ∧ Hid (Below w.heap.size w w') := by
  subst hn
  refine (Stuff_any A c l hl w h).mono ?_
  rintro e w' ⟨v, rfl, ho, hb⟩
  obtain ⟨A2, c2, rfl, hm⟩ := made_of ho
  exact ⟨A2, c2, rfl, Lib.hid hm, Lib.hid hb⟩
theorem UnstuffM {A : Option Addr} {c n : Nat} {l z : List Int} {f : Int} (hn : l.length = n) (hl : n ≤ 70000000000000) (hu : unst false l [] = (z, f)) (w : World) (h : RowOf c8 1 w w.heap.size A l) :
    Calls Tryd.prog 26 #[.slice A n c] w fun e w' => ∃ A' c', e = .returned (.tuple #[.slice A' z.length c', .int .i64 f]) ∧ Hid (Made w.heap.size A' c' z w') ∧ Hid (Below w.heap.size w w') := by
  subst hn
  refine (Unstuff_any A c l hl w h).mono ?_
  rintro e w' ⟨v, rfl, ho, hb⟩
  rw [hu] at ho ⊢
  obtain ⟨A2, c2, rfl, hm⟩ := made_of ho
  exact ⟨A2, c2, rfl, Lib.hid hm, Lib.hid hb⟩
theorem Same.fr0 {w w1 : World} (h : Same w w1) : Fr0 w w1 := ⟨h.os, h.tape, h.output, by rw [h.heap]; exact Nat.le_refl _, fun k _ _ => by rw [h.heap]⟩
theorem be_one (n : Int) (h0 : 0 ≤ n) (h1 : n < 256) : be n 1 = [n] := by
  show [n / 256 ^ 0 % 256] = [n]
  congr 1; omega
theorem WU8S {b : Nat} {v : Value} {l m : List Int} {n : Int} {w w1 : World} (hs : Same w w1) (h : Wrt b v l w) (hn0 : 0 ≤ n) (hn1 : n < 256) (hm : l ++ [n] = m) (hlim : l.length + 4 ≤ 140737488355328) :
    Calls Tryd.prog 38 #[.pointer (some ⟨b, 0, none⟩), .int .u8 n] w1 fun e w' => e = .returned (.pointer (some ⟨b, 0, none⟩)) ∧ ∃ v', Hid (Wrt b v' m w') ∧ Hid (WFr b v v' w w') := by
  subst hm
  refine (WU8_own (h.fr hs.fr0 (fun h => h) (fun _ _ h => h)) hn0 hn1 hlim).mono ?_
  rintro e w' ⟨rfl, v', H1, H2⟩
  rw [be_one n hn0 hn1] at H1
  exact ⟨rfl, v', H1, Lib.hid ⟨hs.fr H2.out.fr, fun j e => by have := H2.out.row j e; rwa [hs.size] at this⟩⟩
theorem bitsFS {g : Fp} {A : Option Addr} {c : Nat} {w w1 : World} (hs : Same w w1) (hq : 0 ≤ g.seq ∧ g.seq ≤ 1) (hx : 0 ≤ g.ack ∧ g.ack ≤ 1) : Calls Tryd.prog 39 #[.agg #[.int .u8 g.addr, .int .u8 g.kind, .int .u8 g.ses, .int .u8 g.seq, .int .u8 g.ack, .slice A g.B.length c]] w1 fun e w' => e = .returned (.int .u8 (g.seq + 2 * g.ack)) ∧ Hid (Below w.heap.size w w') := by
  refine (bitsFC g A c w1 hq hx).mono ?_
  rintro e w' ⟨rfl, H⟩
  exact ⟨rfl, Lib.hid (hs.below (hs.size ▸ H.out))⟩
/-- The bytes ahead of the sum. -/
def hdF (f : Fp) : List Int := [f.addr, f.kind, f.ses, f.seq + 2 * f.ack, (f.B.length : Int)] ++ f.B
def innerL (f : Fp) : List Int := hdF f ++ be (crcN (hdF f)) 2
def encL (f : Fp) : List Int := [126] ++ (stf (innerL f) ++ [126])
theorem hdF_len (f : Fp) : (hdF f).length = f.B.length + 5 := by simp [hdF]
theorem innerL_len (f : Fp) : (innerL f).length = f.B.length + 7 := by simp [innerL, hdF_len, be_length]
theorem right_of {f : Fp} (h : rightF f = true) : 1 ≤ f.addr ∧ f.addr ≤ 31 ∧ 1 ≤ f.kind ∧ f.kind ≤ 5 ∧ f.seq ≤ 1 ∧ f.ack ≤ 1 ∧ f.B.length ≤ 24 := of_decide_eq_true h
theorem hdF_inB {f : Fp} (hf : f.ok) (hr : rightF f = true) : InB (hdF f) := fun x hx => by
  have h := right_of hr
  have h1 := hf.a
  have h2 := hf.k
  have h3 := hf.s
  have h4 := hf.q
  have h5 := hf.x
  rcases List.mem_append.1 hx with hx | hx
  · simp only [List.mem_cons, List.not_mem_nil, or_false] at hx
    rcases hx with rfl | rfl | rfl | rfl | rfl <;> omega
  · exact hf.b x hx
theorem innerL_inB {f : Fp} (hf : f.ok) (hr : rightF f = true) : InB (innerL f) := fun x hx => (List.mem_append.1 hx).elim (hdF_inB hf hr x) (be_inB _ _ x)
/-- Where a frame's inner bytes are put: the frame in its block, a Writer behind it. -/
structure InS (w : World) (f : Fp) (A : Option Addr) (c : Nat) (v : Value) (l : List Int) (wq : World) : Prop where
  hw : Wrt (w.heap.size + 1) v l wq
  hv : ∀ j, v.ownBlock = some j → w.heap.size + 2 ≤ j
  hk : Blk wq w.heap.size 66 (fvs f A c)
  hb : Below w.heap.size w wq
  hs : w.heap.size + 2 ≤ wq.heap.size
section
variable {w wq w1 : World} {f : Fp} {A : Option Addr} {c : Nat} {v : Value} {l m : List Int} {n : Int}
theorem fvs_cells {w : World} {g : Nat} {t : TypeId} {f : Fp} {A : Option Addr} {c : Nat} (h : Blk w g t (fvs f A c)) : w.cell? ⟨g, 0, none⟩ = some (.int .u8 f.addr) ∧ w.cell? ⟨g, 1, none⟩ = some (.int .u8 f.kind) ∧ w.cell? ⟨g, 2, none⟩ = some (.int .u8 f.ses) ∧ w.cell? ⟨g, 3, none⟩ = some (.int .u8 f.seq) ∧ w.cell? ⟨g, 4, none⟩ = some (.int .u8 f.ack) ∧ w.cell? ⟨g, 5, none⟩ = some (.slice A f.B.length c) :=
  ⟨h.cell 0, h.cell 1, h.cell 2, h.cell 3, h.cell 4, h.cell 5⟩
theorem InS.cells (h : InS w f A c v l wq) : wq.cell? ⟨w.heap.size, 0, none⟩ = some (.int .u8 f.addr) ∧ wq.cell? ⟨w.heap.size, 1, none⟩ = some (.int .u8 f.kind) ∧ wq.cell? ⟨w.heap.size, 2, none⟩ = some (.int .u8 f.ses) ∧ wq.cell? ⟨w.heap.size, 3, none⟩ = some (.int .u8 f.seq) ∧ wq.cell? ⟨w.heap.size, 4, none⟩ = some (.int .u8 f.ack) ∧ wq.cell? ⟨w.heap.size, 5, none⟩ = some (.slice A f.B.length c) :=
  ⟨h.hk.cell 0, h.hk.cell 1, h.hk.cell 2, h.hk.cell 3, h.hk.cell 4, h.hk.cell 5⟩
theorem InS.u8 (hs : Same wq w1) (h : InS w f A c v l wq) (hn0 : 0 ≤ n) (hn1 : n < 256) (hm : l ++ [n] = m) (hlim : l.length + 4 ≤ 140737488355328) :
    Calls Tryd.prog 38 #[.pointer (some ⟨w.heap.size + 1, 0, none⟩), .int .u8 n] w1 fun e w' => e = .returned (.pointer (some ⟨w.heap.size + 1, 0, none⟩)) ∧ ∃ v', Hid (InS w f A c v' m w') := by
  refine (WU8S hs h.hw hn0 hn1 hm hlim).mono ?_
  rintro e w' ⟨rfl, v', H1, H2⟩
  have hv' := wfr_base H2.out h.hv h.hs
  exact ⟨rfl, v', Lib.hid ⟨H1.out, hv', h.hk.fr H2.out.fr (fun e => by
    rcases e with e | e
    · omega
    · have := h.hv _ e; omega), wfr_below h.hb H2.out (by omega) (fun j e => by have := h.hv j e; omega) (Nat.le_refl _), Nat.le_trans h.hs H2.out.fr.size⟩⟩
theorem InS.bits (hs : Same wq w1) (h : InS w f A c v l wq) (hq : 0 ≤ f.seq ∧ f.seq ≤ 1) (hx : 0 ≤ f.ack ∧ f.ack ≤ 1) :
    Calls Tryd.prog 39 #[.agg #[.int .u8 f.addr, .int .u8 f.kind, .int .u8 f.ses, .int .u8 f.seq, .int .u8 f.ack, .slice A f.B.length c]] w1 fun e w' => e = .returned (.int .u8 (f.seq + 2 * f.ack)) ∧ Hid (InS w f A c v l w') := by
  refine (bitsFS hs hq hx).mono ?_
  rintro e w' ⟨rfl, H⟩
  have hf := Fr.of_below H.out
  exact ⟨rfl, Lib.hid ⟨h.hw.fr hf (fun h => h) (fun _ _ h => h), h.hv, h.hk.fr hf (fun h => h), h.hb.trans (H.out.mono h.hb.size), Nat.le_trans h.hs H.out.size⟩⟩
end
theorem row_lt8 {w : World} {B : Nat} {A : Option Addr} {l : List Int} (h : RowOf c8 1 w B A l) : 0 < l.length → ∀ ad, A = some ad → ad.block < B := fun h0 ad e => by
  obtain ⟨ad', e', hb, _⟩ := h 0 (l[0]) (List.getElem?_eq_getElem h0)
  rw [e] at e'
  obtain rfl := Option.some.inj e'
  exact hb
set_option maxHeartbeats 1000000 in
set_option maxRecDepth 10000 in
theorem innerC (f : Fp) (hf : f.ok) (hr : rightF f = true) (A : Option Addr) (c : Nat) (w : World) (hT : Turns w) (hB : RowOf c8 1 w w.heap.size A f.B) :
    Calls Tryd.prog 25 #[.agg #[.int .u8 f.addr, .int .u8 f.kind, .int .u8 f.ses, .int .u8 f.seq, .int .u8 f.ack, .slice A f.B.length c]] w fun e w' => ∃ A' c', e = .returned (.slice A' (innerL f).length c') ∧ Hid (Made w.heap.size A' c' (innerL f) w') ∧ Hid (Below w.heap.size w w') := by
  have HRow := Lib.hid hB
  have HA := Lib.hid (row_lt8 hB)
  have HHI := Lib.hid (hdF_inB hf hr)
  have HHL := Lib.hid (hdF_len f)
  have HIL := Lib.hid (innerL_len f)
  have hrr := right_of hr
  obtain ⟨hk1, hk2, hk3, hk4, hk5, hk6, hk7⟩ := hrr
  obtain ⟨⟨a0, a1⟩, ⟨b0, b1⟩, ⟨c0, c1⟩, ⟨d0, d1⟩, ⟨e0, e1⟩, _⟩ := hf
  have hk8 : (f.B.length : Int) ≤ 24 := by omega
  have hw8 : IntKind.u8.wrap (f.B.length : Int) = (f.B.length : Int) := by rw [IntKind.wrap_u8]; omega
  obtain ⟨W, hW⟩ : ∃ W, W = (w.alloc (.cells #[.int .u8 f.addr, .int .u8 f.kind, .int .u8 f.ses, .int .u8 f.seq, .int .u8 f.ack, .slice A f.B.length c] 66)).alloc (.cells #[.slice none 0 0, .int .i64 0, .int .i8 0] 89) := ⟨_, rfl⟩
  have hBlk : Blk W w.heap.size 66 (fvs f A c) := by rw [hW]; exact (Blk.new w _ _).alloc _
  have hWr : Wrt (w.heap.size + 1) (.slice none 0 0) [] W := by rw [hW]; have := wrt_new (w.alloc (.cells #[.int .u8 f.addr, .int .u8 f.kind, .int .u8 f.ses, .int .u8 f.seq, .int .u8 f.ack, .slice A f.B.length c] 66)); simpa using this
  have hBel : Below w.heap.size w W := by rw [hW]; exact ((Below.refl _ w).alloc (Nat.le_refl _) _).alloc (by simp) _
  have hs : W.heap.size = w.heap.size + 2 := by rw [hW]; simp
  have HI : Hid (InS w f A c (.slice none 0 0) [] W) := Lib.hid ⟨hWr, base_nil _, hBlk, hBel, by omega⟩
  have HWE := Lib.hid hW.symm
  have t0 : Hid True := Lib.hid trivial
  have u0 : Hid True := Lib.hid trivial
  clear hW hBlk hWr hBel hs hr hB
  go_enter Tryd.func25, Tryd.ntmps25
  go_wp2
  rw [HWE.out]
  go_region_held (fun w' => w'.cell? ⟨w.heap.size, 0, none⟩ = some (.int .u8 f.addr) ∧ w'.cell? ⟨w.heap.size, 1, none⟩ = some (.int .u8 f.kind) ∧ w'.cell? ⟨w.heap.size, 2, none⟩ = some (.int .u8 f.ses) ∧ w'.cell? ⟨w.heap.size, 3, none⟩ = some (.int .u8 f.seq) ∧ w'.cell? ⟨w.heap.size, 4, none⟩ = some (.int .u8 f.ack) ∧ w'.cell? ⟨w.heap.size, 5, none⟩ = some (.slice A f.B.length c)) (exact HI.out.cells) (first
    | (go_at_call 38; have _t := t0; refine Calls.mono (InS.u8 (n := f.addr) (m := [f.addr]) (by exact ⟨rfl, rfl, rfl, rfl⟩) HI.out a0 a1 rfl (by simp)) ?_; rintro e wq ⟨rfl, vq, HI2⟩; have t1 := t0; clear t0 HI; have HI := HI2; clear HI2)
    | (go_at_call 38; have _t := t1; refine Calls.mono (InS.u8 (n := f.kind) (m := [f.addr, f.kind]) (by exact ⟨rfl, rfl, rfl, rfl⟩) HI.out b0 b1 rfl (by simp)) ?_; rintro e wq ⟨rfl, vq, HI2⟩; have t2 := t1; clear t1 HI; have HI := HI2; clear HI2)
    | (go_at_call 38; have _t := t2; refine Calls.mono (InS.u8 (n := f.ses) (m := [f.addr, f.kind, f.ses]) (by exact ⟨rfl, rfl, rfl, rfl⟩) HI.out c0 c1 rfl (by simp)) ?_; rintro e wq ⟨rfl, vq, HI2⟩; have t3 := t2; clear t2 HI; have HI := HI2; clear HI2)
    | (go_at_call 38; have _t := t3; refine Calls.mono (InS.u8 (n := f.seq + 2 * f.ack) (m := [f.addr, f.kind, f.ses, f.seq + 2 * f.ack]) (by exact ⟨rfl, rfl, rfl, rfl⟩) HI.out (by omega) (by omega) rfl (by simp)) ?_; rintro e wq ⟨rfl, vq, HI2⟩; have t4 := t3; clear t3 HI; have HI := HI2; clear HI2)
    | (go_at_call 38; have _t := t4; refine Calls.mono (InS.u8 (n := (f.B.length : Int)) (m := [f.addr, f.kind, f.ses, f.seq + 2 * f.ack, (f.B.length : Int)]) (by exact ⟨rfl, rfl, rfl, rfl⟩) HI.out (by omega) (by omega) rfl (by simp)) ?_; rintro e wq ⟨rfl, vq, HI2⟩; clear t4 HI; have HI := HI2; clear HI2)
    | (go_at_call 39; have _t := u0; refine Calls.mono (InS.bits (by exact ⟨rfl, rfl, rfl, rfl⟩) HI.out ⟨d0, hk5⟩ ⟨e0, hk6⟩) ?_; rintro e wq ⟨rfl, HI2⟩; clear u0 HI; have HI := HI2; clear HI2))
  have HXI : Hid (hdF f ++ be (crcN (hdF f)) 2 = innerL f) := Lib.hid rfl
  have HXF : Hid ([f.addr, f.kind, f.ses, f.seq + 2 * f.ack, (f.B.length : Int)] ++ f.B = hdF f) := Lib.hid rfl
  have HN2 : Hid ((hdF f).length + 2 = (innerL f).length) := Lib.hid (by rw [HHL.out, HIL.out])
  have hlen30 : (hdF f).length ≤ 40 := by rw [HHL.out]; omega
  clear HWE
  generalize hdF f = X at *
  go_wp2_with fail
  refine (WBytes_own0 (v := vq) (l := [f.addr, f.kind, f.ses, f.seq + 2 * f.ack, (f.B.length : Int)]) (ps := [(A, c, f.B)]) (B := wq.heap.size + 1) ?c0 ?c1 ?c2 ?c3 ?c4 ?c5 ?c6).mono ?_
  case c0 => exact HI.out.hw.alloc _
  case c1 => rw [flat_one]; simp; omega
  case c2 => simp
  case c3 => exact row_one rfl (by omega)
  case c4 => simp
  case c5 =>
    intro ad e
    obtain rfl := Option.some.inj e
    refine ⟨by simp, by have := HI.out.hs; simp; omega, fun e => ?_⟩
    have := HI.out.hw.ltv _ e
    simp at this
  case c6 =>
    intro p hp
    rw [List.mem_singleton] at hp
    subst hp
    refine ⟨((HRow.out.below HI.out.hb).below ((Below.refl w.heap.size wq).alloc HI.out.hb.size _)).more_ (by have := HI.out.hs; omega), fun h0 ad e => ?_⟩
    have := HA.out h0 ad e
    have := HI.out.hs
    exact ⟨by simp; omega, by omega, fun e => by have := HI.out.hv _ e; omega⟩
  rintro e w1 ⟨rfl, v1, H1, F1⟩
  have H1 : Hid (Wrt (w.heap.size + 1) v1 X w1) := Lib.hid (H1.out.to (by rw [flat_one]; exact HXF.out))
  have B1 := Lib.hid (wfr_below (HI.out.hb.alloc HI.out.hb.size _) F1.out (by omega) (fun j e => by have := HI.out.hv j e; omega) (Nat.le_refl _))
  clear F1 HI
  have hs1 := B1.out.size
  go_wp2_with fail
  refine (WDoneC H1.out (by omega)).mono ?_
  rintro e w2 ⟨A2, c2, rfl, H2, F2⟩
  have B2 := Lib.hid (fr0_below B1.out F2.out (Nat.le_refl _))
  have hs2 := F2.out.size
  have hT2 := hT.below B2.out hT.lt
  clear F2 H1
  go_wp2_with fail
  refine Calls.mono (CAppendE (w := w2) rfl HN2.out HXI.out ⟨rfl, rfl, rfl, rfl⟩ hT2 H2.out.2.1 (fun ad e => (made_lt H2.out ad e).2) HHI.out (by omega)) ?_
  rintro e w3 ⟨A3, c3, rfl, H3, F3⟩
  go_wp2
  go_ret
  exact ⟨A3, c3, rfl, Lib.hid (H3.out.low (by omega)), Lib.hid (B2.out.trans (F3.out.mono B2.out.size))⟩
/-- Encode of a right frame: 7E, its inner bytes stuffed, 7E. -/
theorem encL_flat (f : Fp) (A A' : Option Addr) (c c' n : Nat) : flat [(A, c, [126]), (A', n, stf (innerL f)), (A, c, [126])] = encL f := by simp [flat, encL]
theorem stf_inB {l : List Int} (h : InB l) : InB (stf l) := fun x hx => by
  obtain ⟨y, hy, hx⟩ := List.mem_flatMap.1 hx
  have := h y hy
  unfold stf1 at hx
  split at hx
  · simp at hx; omega
  · split at hx
    · simp at hx; omega
    · simp at hx; omega
theorem encL_len (f : Fp) : (encL f).length = (stf (innerL f)).length + 2 := by simp [encL]
set_option maxHeartbeats 4000000 in
set_option maxRecDepth 10000 in
theorem EncodeC (f : Fp) (hf : f.ok) (hr : rightF f = true) (A : Option Addr) (c : Nat) (w : World) (hT : Turns w) (hB : RowOf c8 1 w w.heap.size A f.B) :
    Calls Tryd.prog 17 #[.agg #[.int .u8 f.addr, .int .u8 f.kind, .int .u8 f.ses, .int .u8 f.seq, .int .u8 f.ack, .slice A f.B.length c]] w fun e w' => ∃ A' c', e = .returned (.tuple #[.slice A' (encL f).length c', .int .i64 0]) ∧ Hid (Made w.heap.size A' c' (encL f) w') ∧ Hid (Below w.heap.size w w') := by
  have HRow := Lib.hid hB
  have HF := Lib.hid hf
  have HR := fun W => Lib.hid (RightFC f A c W)
  simp only [hr, if_true] at HR
  have HRR := Lib.hid hr
  have HIL := Lib.hid (innerL_len f)
  have h24 := (right_of hr).2.2.2.2.2.2
  have HSL := Lib.hid (stf_len (innerL f))
  have HEL := Lib.hid (encL_len f)
  have hb0 : Below w.heap.size w (w.alloc (.cells #[.int .u8 f.addr, .int .u8 f.kind, .int .u8 f.ses, .int .u8 f.seq, .int .u8 f.ack, .slice A f.B.length c] 35)) := (Below.refl _ w).alloc (Nat.le_refl _) _
  have HB0 := Lib.hid hb0
  have HK0 : Hid (Blk (w.alloc (.cells #[.int .u8 f.addr, .int .u8 f.kind, .int .u8 f.ses, .int .u8 f.seq, .int .u8 f.ack, .slice A f.B.length c] 35)) w.heap.size 35 (fvs f A c)) := Lib.hid (Blk.new w _ _)
  have hs0 : (w.alloc (.cells #[.int .u8 f.addr, .int .u8 f.kind, .int .u8 f.ses, .int .u8 f.seq, .int .u8 f.ack, .slice A f.B.length c] 35)).heap.size = w.heap.size + 1 := by simp
  have HS0 := Lib.hid hs0
  clear hr hb0 hs0 hf hB
  go_enter Tryd.func17, Tryd.ntmps17
  go_wp2_with fail
  generalize w.alloc (.cells #[.int .u8 f.addr, .int .u8 f.kind, .int .u8 f.ses, .int .u8 f.seq, .int .u8 f.ack, .slice A f.B.length c] 35) = W at *
  refine Calls.mono (HR W).out ?_
  rintro e w1 ⟨rfl, H1⟩
  have hk1 : Blk w1 w.heap.size 35 (fvs f A c) := HK0.out.fr (Fr.of_below H1.out) (fun h => h)
  have B1 := Lib.hid (HB0.out.trans (H1.out.mono HB0.out.size))
  obtain ⟨k0, k1, k2, k3, k4, k5⟩ := fvs_cells hk1
  have hs1 := H1.out.size
  rw [HS0.out] at hs1
  have hlt1 : w.heap.size < w1.heap.size := by omega
  clear HR hk1 H1 HK0 HB0 HS0
  go_wp2_with fail
  have B2 := Lib.hid (B1.out.alloc (Nat.le_of_lt hlt1) (.cells #[.int .u8 126] 5))
  have R2 : Hid (RowOf c8 1 (w1.alloc (.cells #[.int .u8 126] 5)) (w1.heap.size + 1) (some ⟨w1.heap.size, 0, none⟩) [126]) := Lib.hid (row_blk (l := [126]) (Blk.new w1 _ _) (by omega))
  have hs2 : w1.heap.size + 1 ≤ (w1.alloc (.cells #[.int .u8 126] 5)).heap.size := by simp
  clear k0 k1 k2 k3 k4 k5
  generalize w1.alloc (.cells #[.int .u8 126] 5) = w2 at *
  have hT2 := hT.below B2.out hT.lt
  have hw2 := B2.out.size
  refine Calls.mono (innerC f HF.out HRR.out A c w2 hT2 (HRow.out.now B2.out)) ?_
  rintro e w3 ⟨A3, c3, rfl, H3, B3⟩
  have hs3 := B3.out.size
  have hi31 : (innerL f).length ≤ 31 := by have := HIL.out; omega
  clear hT2
  go_wp2_with fail
  refine Calls.mono (StuffM rfl (by omega) w3 H3.out.2.1) ?_
  rintro e w4 ⟨A4, c4, rfl, H4, B4⟩
  have hs4 := B4.out.size
  have R4 := Lib.hid (((R2.out.below (B3.out.mono hs2)).below (B4.out.mono (Nat.le_trans hs2 hs3))))
  have B5 := Lib.hid (B2.out.trans ((B3.out.trans (B4.out.mono hs3)).mono hw2))
  have hel := HEL.out
  have hsl := HSL.out
  have hel70 : (encL f).length ≤ 70 := by omega
  clear hel hsl H3
  go_wp2_with fail
  have bel : Below w4.heap.size w4 (w4.alloc (.cells #[.slice (some ⟨w1.heap.size, 0, none⟩) 1 1, .slice A4 (stf (innerL f)).length c4, .slice (some ⟨w1.heap.size, 0, none⟩) 1 1] 32)) := (Below.refl _ w4).alloc (Nat.le_refl _) _
  refine Calls.mono (JoinE (pc := 3) (P := some ⟨w4.heap.size, 0, none⟩) (w := w4.alloc (.cells #[.slice (some ⟨w1.heap.size, 0, none⟩) 1 1, .slice A4 (stf (innerL f)).length c4, .slice (some ⟨w1.heap.size, 0, none⟩) 1 1] 32)) (m := encL f) (ps := [(some ⟨w1.heap.size, 0, none⟩, 1, [126]), (A4, c4, stf (innerL f)), (some ⟨w1.heap.size, 0, none⟩, 1, [126])]) (by simp [flat, encL]) (by omega) (by simp) (row_vals (t := 32) (f := fun p => .slice p.1 p.2.2.length p.2.1) (fun _ => rfl) (Blk.new_at rfl) (by simp)) (fun ad e => by injection e with e; subst e; simp) ?_) ?_
  · have r126 : RowOf c8 1 (w4.alloc (.cells #[.slice (some ⟨w1.heap.size, 0, none⟩) 1 1, .slice A4 (stf (innerL f)).length c4, .slice (some ⟨w1.heap.size, 0, none⟩) 1 1] 32)) (w4.alloc (.cells #[.slice (some ⟨w1.heap.size, 0, none⟩) 1 1, .slice A4 (stf (innerL f)).length c4, .slice (some ⟨w1.heap.size, 0, none⟩) 1 1] 32)).heap.size (some ⟨w1.heap.size, 0, none⟩) [126] := ((R4.out.below (bel.mono (by omega))).more_ (by simp; omega))
    intro p hp
    simp only [List.mem_cons, List.not_mem_nil, or_false] at hp
    rcases hp with rfl | rfl | rfl
    · exact ⟨r126, fun ad e => by obtain rfl := Option.some.inj e; simp; omega⟩
    · exact ⟨(H4.out.2.1.below bel).more_ (by simp), fun ad e => by have := made_lt H4.out ad e; simp; omega⟩
    · exact ⟨r126, fun ad e => by obtain rfl := Option.some.inj e; simp; omega⟩
  rintro e w5 ⟨A5, c5, rfl, H5, F5⟩
  go_wp2
  go_ret2
  exact ⟨A5, c5, rfl, Lib.hid (H5.out.low (by simp; omega)), Lib.hid (fr0_below (B5.out.trans (bel.mono (by omega))) F5.out (Nat.le_refl _))⟩
set_option maxHeartbeats 1000000 in
set_option maxRecDepth 10000 in
theorem EncodeNo (f : Fp) (hr : rightF f = false) (A : Option Addr) (c : Nat) (w : World) :
    Calls Tryd.prog 17 #[.agg #[.int .u8 f.addr, .int .u8 f.kind, .int .u8 f.ses, .int .u8 f.seq, .int .u8 f.ack, .slice A f.B.length c]] w fun e w' => e = .returned (.tuple #[.slice none 0 0, .int .i64 1]) ∧ Hid (Below w.heap.size w w') := by
  have HR := fun W => Lib.hid (RightFC f A c W)
  simp only [hr] at HR
  clear hr
  go_enter Tryd.func17, Tryd.ntmps17
  go_wp2_with fail
  refine Calls.mono (HR _).out ?_
  rintro e w1 ⟨rfl, H1⟩
  go_wp2
  go_ret2
  exact ⟨rfl, Lib.hid (((Below.refl _ w).alloc (Nat.le_refl _) _).trans (H1.out.mono (by simp)))⟩
end Go.Proofs.YtkihoonjekccgaaDoor.K
