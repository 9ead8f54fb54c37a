/- Orders: Add, where it adds. -/
import Derived.Test.YtigknfkkegccgaaDoorOB6
import Derived.Test.YtigknfkkegccgaaDoorRi
import Derived.Test.YtigknfkkegccgaaDoorO6
namespace Go.Proofs.YtigknfkkegccgaaDoor.K
open Go.RowKit
set_option linter.unusedVariables false
set_option linter.unusedSimpArgs false
attribute [local go_sem ↓] Go.wp_at_zero Go.wp_at_succ
theorem info_or : (Tryd.prog.info? 25).map (fun i => (i.zero, i.size, i.bytes)) = some (some (.agg #[.int .u32 0, .slice none 0 0]), 2, 32) := by kernel_rfl
theorem one_or (y : So) : ∀ u ∈ cO y, u.oneCell' = true := by
  intro u hu
  simp only [cO, List.mem_cons, List.not_mem_nil, or_false] at hu
  rcases hu with rfl | rfl <;> rfl
theorem enter_own (args : Array Value) (W : World) : (callFunc 46 args).run Tryd.prog W = .ok (.enter 46 args) W := rfl
theorem run_call_own {ρ : Operand → Value} {s : Nat} {v : Value} {ts : Array TypeId} {W : World} {o : Oper} (ho : o.op = .call { callee := .value (.func 46), args := #[.tmp s], argTypes := ts }) (e : ρ (.tmp s) = v) (hf : ρ (.func 46) = .func (.func 46) #[] #[] := by rfl) : (execOp ρ o).run Tryd.prog W = .ok (.enter 46 #[v]) W := by
  rw [← enter_own]
  simp [execOp, ho, e, hf, go_sem, resolve, invoke]
/-- The fixed things of Add's great region. -/
structure AP where
  w : World
  B : Nat
  b : Nat
  g : Nat
  VA : Option Addr
  vc : Nat
  os : List So
  ids : List Int
  id : Int
  A : Option Addr
  c : Nat
  ls : List Ln
  q : Nat
  a0 : Act
/-- What holds all along: the book as it was, the order in its box. -/
structure AW (p : AP) (w' : World) : Prop where
  bk : Bk p.B p.b p.g (.slice p.VA p.os.length p.vc) p.os p.ids w'
  box : Blk w' p.q 25 #[.int .u32 p.id, .slice p.A p.ls.length p.c]
  row : RowOf cL 3 w' w'.heap.size p.A p.ls
  fr : Fr0 p.w w'
  q : p.w.heap.size ≤ p.q
  old : ∀ k, (Value.slice p.VA p.os.length p.vc).ownBlock = some k → k < p.w.heap.size
theorem AW.next {p : AP} {w1 w2 : World} (h : AW p w1) (k : Fr0 w1 w2) : AW p w2 :=
  ⟨h.bk.fr k (fun _ _ _ h => h), h.box.fr k (fun h => h), RowOf.now h.row k.below0, h.fr.trans k (fun _ _ h => h), h.q, h.old⟩
/-- The end: the book with one order more. -/
structure AE (p : AP) (A' : Option Addr) (c' : Nat) (A2 : Option Addr) (c2 : Nat) (w' : World) : Prop where
  bk : Bk p.B p.b p.g (.slice A2 (p.os.length + 1) c2) (p.os ++ [⟨p.id, A', c', p.ls⟩]) p.ids w'
  box : Blk w' p.q 25 #[.int .u32 p.id, .slice p.A p.ls.length p.c]
  made : MadeL p.w.heap.size A' c' p.ls w'
  fr : Fr (fun j => j = p.b ∨ (Value.slice p.VA p.os.length p.vc).ownBlock = some j) p.w w'
  fresh : ∀ k, (Value.slice A2 (p.os.length + 1) c2).ownBlock = some k → (Value.slice p.VA p.os.length p.vc).ownBlock = some k ∨ p.w.heap.size ≤ k
/-- How the world stands, by how far the region has come. -/
def PhA (p : AP) (a : Act) (w' : World) : Nat → Prop
  | 0 => AW p w'
  | 1 => AW p w' ∧ ∃ A' c', slot a 40 = .agg #[.int .u32 p.id, .slice A' p.ls.length c'] ∧ MadeL p.w.heap.size A' c' p.ls w'
  | 2 => ∃ W A' c', w' = W.alloc (.cells #[.int .u32 p.id, .slice A' p.ls.length c'] 25) ∧ AW p W ∧ MadeL p.w.heap.size A' c' p.ls W ∧ slot a 41 = .slice (some ⟨W.heap.size, 0, none⟩) 1 1
  | 3 => ∃ A' c' A2 c2, slot a 42 = .slice A2 (p.os.length + 1) c2 ∧ w'.cell? ⟨p.b, 0, none⟩ = some (.slice p.VA p.os.length p.vc) ∧ w'.frozen? ⟨p.b, 0, none⟩ = false ∧ AE p A' c' A2 c2 (w'.setCell ⟨p.b, 0, none⟩ (.slice A2 (p.os.length + 1) c2))
  | _ => ∃ A' c' A2 c2, AE p A' c' A2 c2 w'
def valA (p : AP) : Nat → Option Value
  | 0 => some (.pointer (some ⟨p.b, 0, none⟩))
  | 1 => some (.pointer (some ⟨p.b, 0, none⟩))
  | 2 => some (.pointer (some ⟨p.b, 0, none⟩))
  | 3 => some (.pointer (some ⟨p.b, 0, none⟩))
  | 4 => some (.slice p.VA p.os.length p.vc)
  | 5 => some (.agg #[.int .u32 p.id, .slice p.A p.ls.length p.c])
  | 9 => some (.pointer (some ⟨p.b, 0, none⟩))
  | 10 => some (.pointer (some ⟨p.b, 0, none⟩))
  | _ => none
structure AL (l : Array Bool) (n : Nat) : Prop where
  le : n ≤ 4
  o : l.getD 6 false = decide (1 ≤ n)
  s : l.getD 7 false = decide (2 ≤ n)
  p : l.getD 8 false = decide (3 ≤ n)
  t : l.getD 11 false = decide (4 ≤ n)
  l4 : 3 ≤ n → l.getD 4 false = true
  l5 : 1 ≤ n → l.getD 5 false = true
section
variable {p : AP} {l : Array Bool} {a : Act} {w' w2 : World} {j : Nat} {v : Value}
theorem slot_keepA (hs : a.tmps.size = 51) (hj : j < 12) {s : Nat} (h : s ≠ 34 + j) : slot (a.put (some (34 + j)) v) s = slot a s := by
  rw [put_at (by omega), if_neg h]
end
structure AI (p : AP) (l : Array Bool) (a : Act) (w' : World) : Prop where
  size : a.tmps.size = 51
  defs : a.defers = p.a0.defers
  base : ∀ s, s < 34 ∨ 45 ≤ s → slot a s = slot p.a0 s
  vals : ∀ j v, valA p j = some v → l.getD j false = true → slot a (34 + j) = v
  ph : ∃ n, AL l n ∧ PhA p a w' n
section
variable {p : AP} {l : Array Bool} {a : Act} {w' w2 : World} {j : Nat} {v : Value}
theorem AI.slots (h : AI p l a w') (hj : j < 11) (hsz : l.size = 12) (hv : ∀ u, valA p j = some u → v = u)
    (hp : ∃ n, AL (l.setIfInBounds j true) n ∧ PhA p (a.put (some (34 + j)) v) w2 n) : AI p (l.setIfInBounds j true) (a.put (some (34 + j)) v) w2 := by
  have hjs : j < l.size := by omega
  refine ⟨put_size.trans h.size, put_defers.trans h.defs, fun s hs => (slot_keepA h.size (by omega) (by omega)).trans (h.base s hs), fun k u hk hl => ?_, hp⟩
  by_cases e : k = j
  · subst e
    rw [put_at (by rw [h.size]; omega), if_pos rfl]
    exact hv u hk
  · rw [gset_ne e] at hl
    exact (slot_keepA h.size (by omega) (by omega)).trans (h.vals k u hk hl)
theorem PhA.put (hs : a.tmps.size = 51) (hj : j < 11) (hn : j ≠ 6 ∧ j ≠ 7 ∧ j ≠ 8) {n : Nat} (h : PhA p a w' n) : PhA p (a.put (some (34 + j)) v) w' n := by
  match n with
  | 0 => exact h
  | 1 =>
    obtain ⟨h1, A', c', e, hm⟩ := h
    exact ⟨h1, A', c', (slot_keepA hs (by omega) (by omega)).trans e, hm⟩
  | 2 =>
    obtain ⟨W, A', c', e, hp, hm, hs4⟩ := h
    exact ⟨W, A', c', e, hp, hm, (slot_keepA hs (by omega) (by omega)).trans hs4⟩
  | 3 =>
    obtain ⟨A', c', A2, c2, e, hp⟩ := h
    exact ⟨A', c', A2, c2, (slot_keepA hs (by omega) (by omega)).trans e, hp⟩
  | n + 4 => exact h
theorem AI.stay (h : AI p l a w') (hj : j < 11) (hsz : l.size = 12) (hv : ∀ u, valA p j = some u → v = u) (hn : j ≠ 6 ∧ j ≠ 7 ∧ j ≠ 8) : AI p (l.setIfInBounds j true) (a.put (some (34 + j)) v) w' := by
  obtain ⟨n, hl, hw⟩ := h.ph
  have hjs : j < l.size := by omega
  refine h.slots hj hsz hv ⟨n, ⟨hl.le, ?_, ?_, ?_, ?_, fun e => ?_, fun e => ?_⟩, hw.put h.size hj hn⟩
  · rw [gset_ne (by omega)]; exact hl.o
  · rw [gset_ne (by omega)]; exact hl.s
  · rw [gset_ne (by omega)]; exact hl.p
  · rw [gset_ne (by omega)]; exact hl.t
  · rw [gset hjs]; split
    · rfl
    · exact hl.l4 e
  · rw [gset hjs]; split
    · rfl
    · exact hl.l5 e
theorem AL.step {n : Nat} (h : AL l n) (hsz : l.size = 12) (hc : (n = 0 ∧ j = 6) ∨ (n = 1 ∧ j = 7) ∨ (n = 2 ∧ j = 8) ∨ (n = 3 ∧ j = 11)) (k : n = 2 → l.getD 4 false = true) (k5 : n = 0 → l.getD 5 false = true) : AL (l.setIfInBounds j true) (n + 1) := by
  have hjs : j < l.size := by omega
  have h4 := h.l4
  have h5 := h.l5
  refine ⟨by omega, ?_, ?_, ?_, ?_, ?_, ?_⟩
  all_goals
    rcases hc with ⟨rfl, rfl⟩ | ⟨rfl, rfl⟩ | ⟨rfl, rfl⟩ | ⟨rfl, rfl⟩
    all_goals
      (try simp only [gset hjs, h.o, h.s, h.p, h.t, ↓reduceIte])
      first
        | decide
        | (intro e; omega)
        | (intro e; exact k rfl)
        | (intro e; exact h4 (by omega))
        | (intro e; exact k5 rfl)
        | (intro e; exact h5 (by omega))
theorem AI.last (h : AI p l a w') (hsz : l.size = 12) (hp : ∃ n, AL (l.setIfInBounds 11 true) n ∧ PhA p a w2 n) : AI p (l.setIfInBounds 11 true) a w2 := by
  refine ⟨h.size, h.defs, h.base, fun k u hk hl => ?_, hp⟩
  by_cases e : k = 11
  · subst e; cases hk
  · rw [gset_ne e] at hl
    exact h.vals k u hk hl
theorem AL.init (n : Nat) : AL (Array.replicate n false) 0 := by
  refine ⟨by omega, ?_, ?_, ?_, ?_, ?_, ?_⟩
  all_goals
    (try simp only [rep_false])
    first
      | decide
      | (intro h; omega)
theorem AI.init {n : Nat} (hs : p.a0.tmps.size = 51) (h : AW p w') : AI p (Array.replicate n false) p.a0 w' := by
  refine ⟨hs, rfl, fun _ _ => rfl, fun j v _ h => ?_, 0, AL.init n, h⟩
  rw [rep_false] at h
  cases h
theorem ever_own_ne {g base size n : Nat} {e : TypeId} {ids : List Int} {v : Value} {xs : List Value} {w : World} (h : Ever g ids w) (h' : w.ownsRow base e size v n xs) : v.ownBlock ≠ some g := by
  obtain ⟨D, ⟨es, clock, hh, _⟩, _⟩ := h
  rcases h'.2 with ⟨rfl, _⟩ | ⟨g', cap, cur, rfl, _, hh', _⟩
  · simp [Value.ownBlock]
  · intro e
    have : g' = g := by simpa [Value.ownBlock] using e
    rw [this, hh] at hh'
    cases hh'
theorem PhA.cell {n : Nat} (h : PhA p a w' n) (hn : n < 3) : w'.cell? ⟨p.b, 0, none⟩ = some (.slice p.VA p.os.length p.vc) := by
  match n, hn with
  | 0, _ => exact (AW.bk h).blk.cell 0
  | 1, _ => exact (AW.bk h.1).blk.cell 0
  | 2, _ =>
    obtain ⟨W, A', c', rfl, hp, _⟩ := h
    exact (hp.bk.blk.alloc _).cell 0
/-- An order is appended, behind its own making. -/
theorem AW.app {A' A2 : Option Addr} {c' c2 : Nat} {w3 : World} (h : AW p w') (hm : MadeL p.w.heap.size A' c' p.ls w') (hB : p.B ≤ p.w.heap.size) (h3 : w3.ownsRow p.B 25 2 (.slice A2 (p.os.length + 1) c2) (p.os.length + 1) ((p.os ++ [(⟨p.id, A', c', p.ls⟩ : So)]).flatMap cO)) (h4 : Fr (fun k => (Value.slice p.VA p.os.length p.vc).ownBlock = some k) w' w3)
    (h5 : ∀ k, (Value.slice A2 (p.os.length + 1) c2).ownBlock = some k → (Value.slice p.VA p.os.length p.vc).ownBlock = some k ∨ w'.heap.size ≤ k) :
    w3.cell? ⟨p.b, 0, none⟩ = some (.slice p.VA p.os.length p.vc) ∧ w3.frozen? ⟨p.b, 0, none⟩ = false ∧ AE p A' c' A2 c2 (w3.setCell ⟨p.b, 0, none⟩ (.slice A2 (p.os.length + 1) c2)) := by
  have hb := h.bk.blk.fr h4 (fun e => own_blk_ne h.bk.row h.bk.blk (by decide) e)
  have hbox := h.box.fr h4 (fun e => by have := h.old _ e; have := h.q; omega)
  have hF : Fr (fun j => j = p.b) w3 (w3.setCell ⟨p.b, 0, none⟩ (.slice A2 (p.os.length + 1) c2)) := (Fr.refl (fun j => j = p.b) w3).setCell (p := ⟨p.b, 0, none⟩) (fun _ => rfl) _
  have hml : ∀ {o : So} {B : Nat}, MadeL B o.A o.c o.ls w' → MadeL B o.A o.c o.ls (w3.setCell ⟨p.b, 0, none⟩ (.slice A2 (p.os.length + 1) c2)) := fun {o B} ho => by
    have h1 := ho.fr h4 (fun j e e' => own_ne ho.1 h.bk.row (by decide) j e e')
    exact h1.fr hF (fun j e e' => own_blk_ne h1.1 hb (by decide) (e' ▸ e))
  refine ⟨hb.cell 0, hb.frozen 0, ⟨⟨by simpa using hb.set_ 0 (.slice A2 (p.os.length + 1) c2), ?_, ?_, ?_, h.bk.low⟩, hbox.far (Blk.ne_ hbox hb (by decide)) _, hml (o := ⟨p.id, A', c', p.ls⟩) hm, ((h.fr.mono (fun _ _ h => h.elim)).trans h4 (fun j _ e => .inr e)).trans hF (fun j _ e => .inl e), fun k hk => (h5 k hk).imp id (fun e => Nat.le_trans h.fr.size e)⟩⟩
  · rw [List.length_append, List.length_singleton]
    exact own_fr h3 hF (fun j e e' => own_blk_ne h3 hb (by decide) (e' ▸ e))
  · intro o ho
    rcases List.mem_append.1 ho with ho | ho
    · exact hml (h.bk.each o ho)
    · rw [List.mem_singleton] at ho
      subst ho
      exact (hml (o := ⟨p.id, A', c', p.ls⟩) hm).low hB
  · exact (h.bk.ever.fr h4 (fun e => ever_own_ne h.bk.ever h.bk.row e)).fr hF h.bk.low.2.2
end
end Go.Proofs.YtigknfkkegccgaaDoor.K
