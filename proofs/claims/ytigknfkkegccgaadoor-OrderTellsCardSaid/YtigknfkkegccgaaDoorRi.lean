/- A region that draws its order, by an invariant: what each operation that may come up keeps holds behind all of them. -/
import Derived.Test.YtigknfkkegccgaaDoorKit
import Derived.Orders
import Derived.RegionTactic
namespace Go.Proofs.YtigknfkkegccgaaDoor.K
set_option linter.unusedVariables false
set_option linter.unusedSimpArgs false
/-- How many are not listed. -/
def left (ops : Array Oper) (listed : Array Bool) : Nat := ((List.range ops.size).filter fun i => !listed.getD i false).length
theorem left_le (ops : Array Oper) (listed : Array Bool) : left ops listed ≤ ops.size := by
  unfold left
  exact Nat.le_trans (List.length_filter_le _ _) (by simp)
theorem filter_less {α : Type} {p q : α → Bool} : ∀ (l : List α), (∀ x ∈ l, q x = true → p x = true) → (∃ x ∈ l, p x = true ∧ q x = false) → (l.filter q).length < (l.filter p).length := by
  intro l
  induction l with
  | nil => rintro _ ⟨x, hx, _⟩; cases hx
  | cons y l ih =>
    rintro h ⟨x, hx, h1, h2⟩
    have hle : (l.filter q).length ≤ (l.filter p).length := by
      have : ∀ m : List α, (∀ x ∈ m, q x = true → p x = true) → (m.filter q).length ≤ (m.filter p).length := by
        intro m
        induction m with
        | nil => intro _; exact Nat.le_refl _
        | cons z m ih =>
          intro h
          have := ih (fun x hx => h x (by simp [hx]))
          cases hq : q z with
          | true => have hp := h z (by simp) hq; simp [List.filter_cons, hq, hp]; omega
          | false => cases hp : p z <;> simp [List.filter_cons, hq, hp] <;> omega
      exact this l (fun x hx => h x (by simp [hx]))
    rcases List.mem_cons.1 hx with rfl | hx
    · simp [List.filter_cons, h1, h2]; omega
    · have := ih (fun x hx => h x (by simp [hx])) ⟨x, hx, h1, h2⟩
      cases hq : q y with
      | true => have hp := h y (by simp) hq; simp [List.filter_cons, hq, hp]; omega
      | false => cases hp : p y <;> simp [List.filter_cons, hq, hp] <;> omega
/-- An invariant that each operation that may come up keeps. -/
theorem wpAny_inv {P : Program} {md : Region.Mode} {ops : Array Oper} {Q : Exit → Act → World → Prop} (I : Array Bool → Act → World → Prop)
    (hstep : ∀ (listed : Array Bool) (a : Act) (w : World), listed.size = ops.size → I listed a w → ∀ j ∈ Region.ready md ops listed, wpOp P ops Q j (fun a' w' => I (listed.setIfInBounds j true) a' w') a w)
    (hdone : ∀ (listed : Array Bool) (a : Act) (w : World), listed.size = ops.size → I listed a w → Region.ready md ops listed = [] → Q .normal a w) :
    ∀ (fuel : Nat) (listed : Array Bool) (a : Act) (w : World), listed.size = ops.size → left ops listed ≤ fuel → I listed a w → wpAny P md ops Q fuel listed a w := by
  intro fuel
  induction fuel with
  | zero =>
    intro listed a w hs hl hI
    have hr : Region.ready md ops listed = [] := by
      cases hr : Region.ready md ops listed with
      | nil => rfl
      | cons j rs =>
        have hj := mem_ready.1 (show j ∈ Region.ready md ops listed by rw [hr]; simp)
        obtain ⟨h1, o, ho, _⟩ := hj
        have hlt : j < ops.size := (Array.getElem?_eq_some_iff.1 ho).1
        exfalso
        have : j ∈ (List.range ops.size).filter fun i => !listed.getD i false := by
          rw [List.mem_filter, List.mem_range]
          refine ⟨hlt, ?_⟩
          have : listed.getD j false = listed.getD j true := by simp [Array.getD, show j < listed.size by omega]
          rw [this, h1]; rfl
        have := List.length_pos_of_mem this
        unfold left at hl
        omega
    exact ⟨hr, hdone listed a w hs hI hr⟩
  | succ fuel ih =>
    intro listed a w hs hl hI
    refine ⟨fun hr => hdone listed a w hs hI hr, fun j hj => ?_⟩
    have hj' := mem_ready.1 hj
    obtain ⟨h1, o, ho, _⟩ := hj'
    have hlt : j < ops.size := (Array.getElem?_eq_some_iff.1 ho).1
    have hf : listed.getD j false = false := by
      have : listed.getD j false = listed.getD j true := by simp [Array.getD, show j < listed.size by omega]
      rw [this, h1]
    refine wpOp_mono (fun a' w' h => ih _ a' w' (by simpa using hs) ?_ h) (hstep listed a w hs hI j hj)
    have : left ops (listed.setIfInBounds j true) < left ops listed := by
      unfold left
      refine filter_less _ (fun x _ hx => ?_) ⟨j, List.mem_range.2 hlt, by rw [hf]; rfl, ?_⟩
      · by_cases e : j = x
        · subst e; rw [hf]; rfl
        · rwa [getD_set_ne false e] at hx
      · have : (listed.setIfInBounds j true).getD j false = true := by simp [Array.getD, show j < listed.size by omega]
        rw [this]; rfl
    omega
/-- The same of a whole region; the invariant may name the frame that it begins with. -/
theorem region_inv {P : Program} {id : Nat} {ops : Array Oper} {Q : Exit → Act → World → Prop} {a0 : Act} {w0 : World} (I : Act → Array Bool → Act → World → Prop) (hm : P.follows .mixedOrders = true)
    (hinit : I a0 (Array.replicate ops.size false) a0 w0.drew)
    (hdone : ∀ (listed : Array Bool) (a : Act) (w : World), listed.size = ops.size → I a0 listed a w → Region.ready .any ops listed = [] → Q .normal a w)
    (hstep : ∀ (listed : Array Bool) (a : Act) (w : World), listed.size = ops.size → I a0 listed a w → ∀ j ∈ Region.ready .any ops listed, wpOp P ops Q j (fun a' w' => I a0 (listed.setIfInBounds j true) a' w') a w) :
    (Code.region id ops true).wp P Q a0 w0 :=
  wp_region_any hm (wpAny_inv (I a0) hstep hdone _ _ _ _ (by simp) (left_le _ _) hinit)
/-- When nothing may come up any more, all is listed. -/
theorem ready_nil {md : Region.Mode} {ops : Array Oper} {listed : Array Bool} (hs : listed.size = ops.size) (hedge : ops.toList.zipIdx.all (fun x => x.1.after.toList.all fun e => decide (e.on < x.2)) = true) (hr : Region.ready md ops listed = []) : ∀ j, j < ops.size → listed.getD j false = true := by
  intro j
  induction j using Nat.strongRecOn with
  | ind j ih =>
    intro hj
    cases hl : listed.getD j false with
    | true => rfl
    | false =>
      exfalso
      have hl2 : listed.getD j true = false := by rw [← hl]; simp [Array.getD, show j < listed.size by omega]
      have ho : ops[j]? = some ops[j] := Array.getElem?_eq_getElem hj
      have : j ∈ Region.ready md ops listed := mem_ready.2 ⟨hl2, _, ho, fun e he _ => by
        have h1 := List.all_eq_true.1 hedge (ops[j], j) (by
          rw [List.mem_zipIdx_iff_getElem?]
          simp [hj])
        have h2 := List.all_eq_true.1 h1 e (by simpa using he)
        have h3 : e.on < j := by simpa using h2
        exact ih _ h3 (by omega)⟩
      rw [hr] at this
      cases this
/-- What slot s holds. -/
abbrev slot (a : Act) (s : Nat) : Value := a.tmps.getD s undef
theorem put_at {a : Act} {d s : Nat} {v : Value} (hd : d < a.tmps.size) : slot (a.put (some d) v) s = if s = d then v else slot a s := by
  unfold slot
  simp only [Act.put]
  by_cases h : s = d
  · subst h; simp [Array.getD, hd]
  · rw [if_neg h, Array.getD_eq_getD_getElem?, Array.getD_eq_getD_getElem?, Array.getElem?_setIfInBounds_ne (Ne.symm h)]
theorem put_size {a : Act} {d : Option Nat} {v : Value} : (a.put d v).tmps.size = a.tmps.size := by
  cases d <;> simp [Act.put]
theorem put_defers {a : Act} {d : Option Nat} {v : Value} : (a.put d v).defers = a.defers := by
  cases d <;> simp [Act.put]
theorem wanted_none {o : Oper} {y : Nat → Option Bool} (h : o.guard = none) : Region.wanted o y = true := by simp [Region.wanted, h]
theorem wanted_some {ops : Array Oper} {a : Act} {o g : Oper} {i d : Nat} {b : Bool} (h : o.guard = some (i, b)) (hg : ops[i]? = some g) (hd : g.dst = some d) (hv : slot a d = .bool b) : Region.wanted o (yielded ops a.tmps) = true := by
  have : a.tmps[d]? = some (.bool b) := by
    unfold slot at hv
    rw [Array.getD_eq_getD_getElem?] at hv
    cases h2 : a.tmps[d]? with
    | none => rw [h2] at hv; simp [undef] at hv
    | some v => rw [h2] at hv; simpa using hv
  simp [Region.wanted, h, yielded, hg, hd, this]
theorem stepV {P : Program} {ops : Array Oper} {Q : Exit → Act → World → Prop} {K : Act → World → Prop} {j : Nat} {o : Oper} {a : Act} {w w2 : World} {v : Value} (ho : ops[j]? = some o) (hw : Region.wanted o (yielded ops a.tmps) = true)
    (hrun : (execOp a.eval o).run P w = .ok (.value v) w2) (h : K (a.put o.dst v) w2) : wpOp P ops Q j K a w := by
  unfold wpOp
  rw [ho]
  simp only [hw, if_true]
  left
  unfold Oper.wp
  rw [hrun]
  exact h
theorem stepC {P : Program} {ops : Array Oper} {Q : Exit → Act → World → Prop} {K : Act → World → Prop} {j f : Nat} {args : Array Value} {o : Oper} {a : Act} {w w1 : World} {R : Ending → World → Prop} (ho : ops[j]? = some o) (hw : Region.wanted o (yielded ops a.tmps) = true)
    (hrun : (execOp a.eval o).run P w = .ok (.enter f args) w1) (hc : Calls P f args w1 R) (h : ∀ e w2, R e w2 → ∃ v, e = .returned v ∧ K (a.put o.dst v) w2) : wpOp P ops Q j K a w := by
  unfold wpOp
  rw [ho]
  simp only [hw, if_true]
  left
  unfold Oper.wp
  rw [hrun]
  refine Calls.mono hc (fun e w2 hr => ?_)
  obtain ⟨v, rfl, hk⟩ := h e w2 hr
  exact hk
end Go.Proofs.YtigknfkkegccgaaDoor.K
