/- What Unstuff does: two labels and their jumps. -/
import Derived.Test.YtkihoonjekccgaaDoorStf
import Derived.WalkMore
import Derived.ScopeJumps
namespace Go.Proofs.YtkihoonjekccgaaDoor.K
open Go.RowKit
set_option linter.unusedVariables false
set_option linter.unusedSimpArgs false

/-- As Q; by a goto: what holds at that label. -/
def _root_.Go.Exit.jumpN (J : Nat → Act → World → Prop) (Q : Exit → Act → World → Prop) : Exit → Act → World → Prop
  | .goto l, a, w => J l a w
  | e, a, w => Q e a w
/-- A scope with several labels: at each jump what holds there, and a measure that falls. -/
theorem wp_scope_jumpsN {P : Program} {a : Act} {w : World} {Q : Exit → Act → World → Prop} {c : Code} (J : Nat → Act → World → Prop) (μ : Nat → Act → World → Nat)
    (first : c.wp P (Exit.jumpN J Q) a w)
    (pass : ∀ l a w, J l a w → ∃ rest, findLabel c l = some rest ∧ rest.wp P (Exit.jumpN (fun l' a' w' => J l' a' w' ∧ μ l' a' w' < μ l a w) Q) a w) : (Code.scope c).wp P Q a w := by
  intro b k cs
  have key : ∀ n l a w, μ l a w = n → J l a w → ∃ rest, findLabel c l = some rest ∧ ∃ e a' w', Q e a' w' ∧ Arrives P (lone (b.at a (.code rest :: .inScope c :: k)) cs w) b k cs e a' w' := by
    intro n
    induction n using Nat.strongRecOn with
    | _ n ih =>
      intro l a w hn hJ
      obtain ⟨rest, hf, hp⟩ := pass l a w hJ
      refine ⟨rest, hf, ?_⟩
      obtain ⟨e, a₁, w₁, hq, harr⟩ := hp b (.inScope c :: k) cs
      cases e with
      | normal => exact ⟨.normal, a₁, w₁, hq, Steps.trans harr (.one step_inScope)⟩
      | exit id => exact ⟨.exit id, a₁, w₁, hq, fun k' hk => harr k' (by simp [exitTo, hk])⟩
      | goto l' =>
        obtain ⟨hJ', hlt⟩ := hq
        obtain ⟨rest', hf', e₂, a₂, w₂, hq₂, harr₂⟩ := ih _ (by omega) l' a₁ w₁ rfl hJ'
        have hg : gotoIn l' (.inScope c :: k) = some (.code rest' :: .inScope c :: k) := by simp [gotoIn, hf']
        exact ⟨e₂, a₂, w₂, hq₂, .of_steps (harr _ hg) harr₂⟩
      | ret => exact ⟨_, a₁, w₁, hq, harr⟩
      | panic ch => exact ⟨_, a₁, w₁, hq, harr⟩
      | outgrown => exact ⟨_, a₁, w₁, hq, harr⟩
  obtain ⟨e, a₁, w₁, hq, harr⟩ := first b (.inScope c :: k) cs
  cases e with
  | normal => exact ⟨.normal, a₁, w₁, hq, .head step_scope (Steps.trans harr (.one step_inScope))⟩
  | exit id => exact ⟨.exit id, a₁, w₁, hq, fun k' hk => .head step_scope (harr k' (by simp [exitTo, hk]))⟩
  | goto l' =>
    obtain ⟨rest', hf', e₂, a₂, w₂, hq₂, harr₂⟩ := key _ l' a₁ w₁ rfl hq
    have hg : gotoIn l' (.inScope c :: k) = some (.code rest' :: .inScope c :: k) := by simp [gotoIn, hf']
    exact ⟨e₂, a₂, w₂, hq₂, .of_steps (.head step_scope (harr _ hg)) harr₂⟩
  | ret => exact ⟨_, a₁, w₁, hq, .of_steps (.one step_scope) harr⟩
  | panic ch => exact ⟨_, a₁, w₁, hq, .of_steps (.one step_scope) harr⟩
  | outgrown => exact ⟨_, a₁, w₁, hq, .of_steps (.one step_scope) harr⟩

/-- What bytes are unstuffed to; behind a 7D or not. -/
def unst : Bool → List Int → List Int → List Int × Int
  | false, [], acc => (acc, 0)
  | true, [], _ => ([], 2)
  | false, c :: r, acc => if c = 126 then ([], 3) else if c = 125 then unst true r acc else unst false r (acc ++ [c])
  | true, c :: r, acc => if bits .xor .u8 c 32 = 126 then unst false r (acc ++ [126]) else if bits .xor .u8 c 32 = 125 then unst false r (acc ++ [125]) else ([], 3)
theorem unst_end {l acc : List Int} {k : Nat} (b : Bool) (h : k = l.length) : unst b (l.drop k) acc = if b then ([], 2) else (acc, 0) := by
  rw [List.drop_of_length_le (by omega)]; cases b <;> rfl
theorem unst_at {l acc : List Int} {k : Nat} (b : Bool) (h : k < l.length) : unst b (l.drop k) acc = unst b (l.getD k 0 :: l.drop (k + 1)) acc := by
  rw [List.drop_eq_getElem_cons h, List.getD_eq_getElem?_getD, List.getElem?_eq_getElem h]; rfl
theorem special_any (c : Int) (b : Bool) (hb : (c = 126 ∨ c = 125) ↔ b = true) (w : World) : Calls Tryd.prog 41 #[.int .u8 c] w fun e w' => e = .returned (.bool b) ∧ w = w' :=
  (callsIn_wide (n := 1)).1 (special_in Fence.wide 1 trivial rfl c b hb w)

theorem lit_succ {n : Nat} (l : List Value) (h : l.length = n + 1) : ∃ x r, l = x :: r ∧ r.length = n := by
  cases l with
  | nil => simp at h
  | cons x r => exact ⟨x, r, rfl, by simpa using h⟩
theorem lit48 (a : Array Value) (h : a.size = 48) : ∃ f : Nat → Value, a = #[f 0, f 1, f 2, f 3, f 4, f 5, f 6, f 7, f 8, f 9, f 10, f 11, f 12, f 13, f 14, f 15, f 16, f 17, f 18, f 19, f 20, f 21, f 22, f 23, f 24, f 25, f 26, f 27, f 28, f 29, f 30, f 31, f 32, f 33, f 34, f 35, f 36, f 37, f 38, f 39, f 40, f 41, f 42, f 43, f 44, f 45, f 46, f 47] := by
  refine ⟨fun i => a.getD i undef, ?_⟩
  apply Array.ext'
  obtain ⟨l0⟩ := a
  have h0 : l0.length = 48 := h
  clear h
  obtain ⟨x0, l1, e0, h1⟩ := lit_succ (n := 47) l0 h0
  obtain ⟨x1, l2, e1, h2⟩ := lit_succ (n := 46) l1 h1
  obtain ⟨x2, l3, e2, h3⟩ := lit_succ (n := 45) l2 h2
  obtain ⟨x3, l4, e3, h4⟩ := lit_succ (n := 44) l3 h3
  obtain ⟨x4, l5, e4, h5⟩ := lit_succ (n := 43) l4 h4
  obtain ⟨x5, l6, e5, h6⟩ := lit_succ (n := 42) l5 h5
  obtain ⟨x6, l7, e6, h7⟩ := lit_succ (n := 41) l6 h6
  obtain ⟨x7, l8, e7, h8⟩ := lit_succ (n := 40) l7 h7
  obtain ⟨x8, l9, e8, h9⟩ := lit_succ (n := 39) l8 h8
  obtain ⟨x9, l10, e9, h10⟩ := lit_succ (n := 38) l9 h9
  obtain ⟨x10, l11, e10, h11⟩ := lit_succ (n := 37) l10 h10
  obtain ⟨x11, l12, e11, h12⟩ := lit_succ (n := 36) l11 h11
  obtain ⟨x12, l13, e12, h13⟩ := lit_succ (n := 35) l12 h12
  obtain ⟨x13, l14, e13, h14⟩ := lit_succ (n := 34) l13 h13
  obtain ⟨x14, l15, e14, h15⟩ := lit_succ (n := 33) l14 h14
  obtain ⟨x15, l16, e15, h16⟩ := lit_succ (n := 32) l15 h15
  obtain ⟨x16, l17, e16, h17⟩ := lit_succ (n := 31) l16 h16
  obtain ⟨x17, l18, e17, h18⟩ := lit_succ (n := 30) l17 h17
  obtain ⟨x18, l19, e18, h19⟩ := lit_succ (n := 29) l18 h18
  obtain ⟨x19, l20, e19, h20⟩ := lit_succ (n := 28) l19 h19
  obtain ⟨x20, l21, e20, h21⟩ := lit_succ (n := 27) l20 h20
  obtain ⟨x21, l22, e21, h22⟩ := lit_succ (n := 26) l21 h21
  obtain ⟨x22, l23, e22, h23⟩ := lit_succ (n := 25) l22 h22
  obtain ⟨x23, l24, e23, h24⟩ := lit_succ (n := 24) l23 h23
  obtain ⟨x24, l25, e24, h25⟩ := lit_succ (n := 23) l24 h24
  obtain ⟨x25, l26, e25, h26⟩ := lit_succ (n := 22) l25 h25
  obtain ⟨x26, l27, e26, h27⟩ := lit_succ (n := 21) l26 h26
  obtain ⟨x27, l28, e27, h28⟩ := lit_succ (n := 20) l27 h27
  obtain ⟨x28, l29, e28, h29⟩ := lit_succ (n := 19) l28 h28
  obtain ⟨x29, l30, e29, h30⟩ := lit_succ (n := 18) l29 h29
  obtain ⟨x30, l31, e30, h31⟩ := lit_succ (n := 17) l30 h30
  obtain ⟨x31, l32, e31, h32⟩ := lit_succ (n := 16) l31 h31
  obtain ⟨x32, l33, e32, h33⟩ := lit_succ (n := 15) l32 h32
  obtain ⟨x33, l34, e33, h34⟩ := lit_succ (n := 14) l33 h33
  obtain ⟨x34, l35, e34, h35⟩ := lit_succ (n := 13) l34 h34
  obtain ⟨x35, l36, e35, h36⟩ := lit_succ (n := 12) l35 h35
  obtain ⟨x36, l37, e36, h37⟩ := lit_succ (n := 11) l36 h36
  obtain ⟨x37, l38, e37, h38⟩ := lit_succ (n := 10) l37 h37
  obtain ⟨x38, l39, e38, h39⟩ := lit_succ (n := 9) l38 h38
  obtain ⟨x39, l40, e39, h40⟩ := lit_succ (n := 8) l39 h39
  obtain ⟨x40, l41, e40, h41⟩ := lit_succ (n := 7) l40 h40
  obtain ⟨x41, l42, e41, h42⟩ := lit_succ (n := 6) l41 h41
  obtain ⟨x42, l43, e42, h43⟩ := lit_succ (n := 5) l42 h42
  obtain ⟨x43, l44, e43, h44⟩ := lit_succ (n := 4) l43 h43
  obtain ⟨x44, l45, e44, h45⟩ := lit_succ (n := 3) l44 h44
  obtain ⟨x45, l46, e45, h46⟩ := lit_succ (n := 2) l45 h45
  obtain ⟨x46, l47, e46, h47⟩ := lit_succ (n := 1) l46 h46
  obtain ⟨x47, l48, e47, h48⟩ := lit_succ (n := 0) l47 h47
  have e48 : l48 = [] := List.eq_nil_of_length_eq_zero h48
  subst e48 e47 e46 e45 e44 e43 e42 e41 e40 e39 e38 e37 e36 e35 e34 e33 e32 e31 e30 e29 e28 e27 e26 e25 e24 e23 e22 e21 e20 e19 e18 e17 e16 e15 e14 e13 e12 e11 e10 e9 e8 e7 e6 e5 e4 e3 e2 e1 e0
  rfl

def UnstuffPost (l : List Int) (w : World) (e : Ending) (w' : World) : Prop :=
  ∃ v, e = .returned (.tuple #[v, .int .i64 (unst false l []).2]) ∧ w'.ownsRow w.heap.size 5 1 v (unst false l []).1.length (nums .u8 (unst false l []).1) ∧ Below w.heap.size w w'
/-- At a label. -/
def UnJ (A : Option Addr) (cap : Nat) (l : List Int) (w : World) (lab : Nat) (a : Act) (wr : World) : Prop :=
  a.tmps.size = 48 ∧ a.defers = [] ∧ a.tmps.getD 0 undef = .slice A l.length cap ∧ lab ≤ 1 ∧ ∃ (k : Nat) (acc : List Int) (v : Value), a.tmps.getD 4 undef = v ∧ a.tmps.getD 5 undef = .int .i64 k ∧ k ≤ l.length ∧ acc.length ≤ k ∧
    wr.ownsRow w.heap.size 5 1 v acc.length (nums .u8 acc) ∧ Below w.heap.size w wr ∧ unst (lab == 1) (l.drop k) acc = unst false l []

set_option maxHeartbeats 4000000 in
set_option maxRecDepth 10000 in
theorem Unstuff_any (A : Option Addr) (cap : Nat) (l : List Int) (hreach : l.length ≤ 70000000000000) (w : World) (hL : Bytes w.heap.size w A l) :
    Calls Tryd.prog 26 #[.slice A l.length cap] w (UnstuffPost l w) := by
  obtain ⟨i0, hi, hz0, hz1, hz2⟩ := info_parts info_u8
  have hmk := run_make0 (P := Tryd.prog) 32 5 i0 (.int .u8 0) Tryd.underlying32 hi hz0 .i64 .i64 l.length (by rw [hz2]; omega) (by omega)
  rw [hz1] at hmk
  have hml : l.length ≤ maxLen := by unfold maxLen; omega
  have ho0 := Lib.hid (own_made0 w 5 (.int .u8 0) l.length rfl hml)
  have HL := Lib.hid hL
  clear hL hi hz0 hz1 hz2
  go_enter Tryd.func26, Tryd.ntmps26
  go_wp2
  refine wp_scope_jumpsN (UnJ A cap l w) (fun lab a _ => 2 * (l.length - (intOf (a.tmps.getD 5 undef)).toNat) + (if lab = 1 then 1 else 2)) ?_ ?_
  · go_wp2
    have hk0 : ((0 : Nat) : Int) = 0 := rfl
    obtain ⟨k, hk⟩ : ∃ k : Nat, (k : Int) = 0 := ⟨0, rfl⟩
    have hk' : k ≤ l.length := by omega
    obtain ⟨acc, hacc⟩ : ∃ acc : List Int, acc = [] := ⟨_, rfl⟩
    have hal : acc.length ≤ k := by rw [hacc]; simp
    have HU : Hid (unst false (l.drop k) acc = unst false l []) := Lib.hid (by rw [hacc, show k = 0 by omega]; rfl)
    have HB : Hid (Below w.heap.size w (w.alloc (.cells (madeCells #[.int .u8 0] l.length) 5))) := Lib.hid ((Below.refl _ _).alloc (Nat.le_refl _) _)
    have HO : Hid ((w.alloc (.cells (madeCells #[.int .u8 0] l.length) 5)).ownsRow w.heap.size 5 1 (.slice (some ⟨w.heap.size, 0, none⟩) 0 l.length) acc.length (nums .u8 acc)) := Lib.hid (by rw [hacc]; have := ho0.out; rwa [Nat.mul_one] at this)
    generalize w.alloc (.cells (madeCells #[.int .u8 0] l.length) 5) = wr at *
    rw [← hk]
    generalize Value.slice (some ⟨w.heap.size, 0, none⟩) 0 l.length = v at *
    clear hmk ho0 hk hk0 hacc
    go_step3
    by_cases hlt : k < l.length
    · obtain ⟨ad, rfl, hb, hcell⟩ := (RowOf.below HL.out HB.out).num hlt
      have hat := Lib.hid (unst_at (acc := acc) false hlt)
      generalize l.getD k 0 = x at *
      have hkl : ((k : Int) == (l.length : Int)) = false := by rw [beq_eq_false_iff_ne]; omega
      by_cases h1 : x = 126
      · subst h1
        have hres := Lib.hid (show unst false l [] = ([], 3) by rw [← HU.out, hat.out]; rfl)
        go_wp2
        simp only [Exit.jumpN]
        go_ret2
        exact ⟨_, by rw [hres.out]; rfl, by rw [hres.out]; exact own_nil _ _ _ _, HB.out⟩
      · by_cases h2 : x = 125
        · subst h2
          have hu2 := Lib.hid (show unst true (l.drop (k + 1)) acc = unst false l [] by rw [← HU.out, hat.out]; rfl)
          go_wp2
          go_step3
          exact ⟨rfl, rfl, rfl, by omega, k + 1, acc, _, rfl, by simp, by omega, by omega, HO.out, HB.out, hu2.out⟩
        · have h1' : (x == 126) = false := by simp [h1]
          have h2' : (x == 125) = false := by simp [h2]
          have hu2 := Lib.hid (show unst false (l.drop (k + 1)) (acc ++ [x]) = unst false l [] by rw [← HU.out, hat.out]; simp [unst, h1, h2])
          clear h1 h2
          go_wp2_with (at_builtin; refine app1 rfl _ _ _ rfl 5 (.int .u8 0) 1 1 Tryd.underlying32 info_u8 rfl (by omega) (by omega) _ _ _ _ [.int .u8 x] rfl rfl rfl (by simp [Value.oneCell']) HO.out HB.out.size (by omega) ?_; intro v2 w2 h3 h4 _; have H3 := Lib.hid h3; have H4 := Lib.hid h4; clear h3 h4)
          go_step3
          exact ⟨rfl, rfl, rfl, by omega, k + 1, acc ++ [x], _, rfl, by simp, by omega, by simp; omega, by rw [nums_snoc, List.length_append]; exact H3.out, HB.out.trans ((H4.out.mono (S' := fun j => w.heap.size ≤ j) (fun j _ hj => (HO.out.lt j hj).1)).below (fun _ _ h => h) HB.out.size), hu2.out⟩
    · have hkl : ((k : Int) == (l.length : Int)) = true := by simp; omega
      have hres := Lib.hid (show unst false l [] = (acc, 0) by rw [← HU.out, unst_end false (by omega)]; rfl)
      go_wp2
      simp only [Exit.jumpN]
      go_ret2
      exact ⟨_, by rw [hres.out]; rfl, by rw [hres.out]; exact HO.out, HB.out⟩
  · rintro lab a wr ⟨hs, hd, h0, hlab, k, acc, v, h4, h5, hk, hal, hown, hbel, hu⟩
    obtain ⟨tm, df⟩ := a
    simp only at hs hd h0 h4 h5
    subst hd
    obtain ⟨f, rfl⟩ := lit48 tm hs
    have g0 : f 0 = .slice A l.length cap := h0
    have g4 : f 4 = v := h4
    have g5 : f 5 = .int .i64 k := h5
    rw [g0, g4, g5]
    have HO := Lib.hid hown
    have HB := Lib.hid hbel
    have hlab2 : lab = 0 ∨ lab = 1 := by omega
    clear hmk ho0 hs h0 h4 h5 g0 g4 g5 hown hbel hlab
    rcases hlab2 with rfl | rfl
    · have HU : Hid (unst false (l.drop k) acc = unst false l []) := Lib.hid hu
      clear hu
      refine ⟨_, rfl, ?_⟩
      by_cases hlt : k < l.length
      · obtain ⟨ad, rfl, hb, hcell⟩ := (RowOf.below HL.out HB.out).num hlt
        have hat := Lib.hid (unst_at (acc := acc) false hlt)
        generalize l.getD k 0 = x at *
        have hkl : ((k : Int) == (l.length : Int)) = false := by rw [beq_eq_false_iff_ne]; omega
        by_cases h1 : x = 126
        · subst h1
          have hres := Lib.hid (show unst false l [] = ([], 3) by rw [← HU.out, hat.out]; rfl)
          go_wp2
          simp only [Exit.jumpN]
          go_ret2
          exact ⟨_, by rw [hres.out]; rfl, by rw [hres.out]; exact own_nil _ _ _ _, HB.out⟩
        · by_cases h2 : x = 125
          · subst h2
            have hu2 := Lib.hid (show unst true (l.drop (k + 1)) acc = unst false l [] by rw [← HU.out, hat.out]; rfl)
            go_wp2
            go_step3
            exact ⟨⟨rfl, rfl, rfl, by omega, k + 1, acc, _, rfl, by simp, by omega, by omega, HO.out, HB.out, hu2.out⟩, by simp [intOf]; omega⟩
          · have h1' : (x == 126) = false := by simp [h1]
            have h2' : (x == 125) = false := by simp [h2]
            have hu2 := Lib.hid (show unst false (l.drop (k + 1)) (acc ++ [x]) = unst false l [] by rw [← HU.out, hat.out]; simp [unst, h1, h2])
            clear h1 h2
            go_wp2_with (at_builtin; refine app1 rfl _ _ _ rfl 5 (.int .u8 0) 1 1 Tryd.underlying32 info_u8 rfl (by omega) (by omega) _ _ _ _ [.int .u8 x] rfl rfl rfl (by simp [Value.oneCell']) HO.out HB.out.size (by omega) ?_; intro v2 w2 h3 h4 _; have H3 := Lib.hid h3; have H4 := Lib.hid h4; clear h3 h4)
            go_step3
            exact ⟨⟨rfl, rfl, rfl, by omega, k + 1, acc ++ [x], _, rfl, by simp, by omega, by simp; omega, by rw [nums_snoc, List.length_append]; exact H3.out, HB.out.trans ((H4.out.mono (S' := fun j => w.heap.size ≤ j) (fun j _ hj => (HO.out.lt j hj).1)).below (fun _ _ h => h) HB.out.size), hu2.out⟩, by simp [intOf]; omega⟩
      · have hkl : ((k : Int) == (l.length : Int)) = true := by simp; omega
        have hres := Lib.hid (show unst false l [] = (acc, 0) by rw [← HU.out, unst_end false (by omega)]; rfl)
        go_wp2
        simp only [Exit.jumpN]
        go_ret2
        exact ⟨_, by rw [hres.out]; rfl, by rw [hres.out]; exact HO.out, HB.out⟩
    · have HU : Hid (unst true (l.drop k) acc = unst false l []) := Lib.hid hu
      clear hu
      refine ⟨_, rfl, ?_⟩
      have hx8 : ∀ c : Int, bits .xor .u8 c 32 = bits .xor .u8 c 32 := fun _ => rfl
      by_cases hlt : k < l.length
      · obtain ⟨ad, rfl, hb, hcell⟩ := (RowOf.below HL.out HB.out).num hlt
        have hat := Lib.hid (unst_at (acc := acc) true hlt)
        generalize l.getD k 0 = x0 at *
        have hkl : ((k : Int) == (l.length : Int)) = false := by rw [beq_eq_false_iff_ne]; omega
        obtain ⟨x, hx⟩ : ∃ x, bits .xor .u8 x0 32 = x := ⟨_, rfl⟩
        clear hx8
        by_cases h1 : x = 126 ∨ x = 125
        · have hu2 := Lib.hid (show unst false (l.drop (k + 1)) (acc ++ [x]) = unst false l [] by
            rw [← HU.out, hat.out]
            rcases h1 with h1 | h1
            · subst h1; simp [unst, hx]
            · subst h1; simp [unst, hx])
          have hsp := Lib.hid (show (x = 126 ∨ x = 125) ↔ true = true by simp [h1])
          clear h1
          go_wp2_with (first | (go_at_call 41; refine (special_any x true hsp.out _).mono ?_; rintro e w' ⟨rfl, rfl⟩) | (at_builtin; refine app1 rfl _ _ _ rfl 5 (.int .u8 0) 1 1 Tryd.underlying32 info_u8 rfl (by omega) (by omega) _ _ _ _ [.int .u8 x] rfl rfl rfl (by simp [Value.oneCell']) HO.out HB.out.size (by omega) ?_; intro v2 w2 h3 h4 _; have H3 := Lib.hid h3; have H4 := Lib.hid h4; clear h3 h4))
          go_step3
          exact ⟨⟨rfl, rfl, rfl, by omega, k + 1, acc ++ [x], _, rfl, by simp, by omega, by simp; omega, by rw [nums_snoc, List.length_append]; exact H3.out, HB.out.trans ((H4.out.mono (S' := fun j => w.heap.size ≤ j) (fun j _ hj => (HO.out.lt j hj).1)).below (fun _ _ h => h) HB.out.size), hu2.out⟩, by simp [intOf]; omega⟩
        · have hres := Lib.hid (show unst false l [] = ([], 3) by
            rw [← HU.out, hat.out]
            have h2 : ¬ x = 126 := fun h => h1 (.inl h)
            have h3 : ¬ x = 125 := fun h => h1 (.inr h)
            simp [unst, hx, h2, h3])
          have hsp := Lib.hid (show (x = 126 ∨ x = 125) ↔ false = true by simp [h1])
          clear h1
          go_wp2_with (go_at_call 41; refine (special_any x false hsp.out _).mono ?_; rintro e w' ⟨rfl, rfl⟩)
          simp only [Exit.jumpN]
          go_ret2
          exact ⟨_, by rw [hres.out]; rfl, by rw [hres.out]; exact own_nil _ _ _ _, HB.out⟩
      · have hkl : ((k : Int) == (l.length : Int)) = true := by simp; omega
        have hres := Lib.hid (show unst false l [] = ([], 2) by rw [← HU.out, unst_end true (by omega)]; rfl)
        go_wp2
        simp only [Exit.jumpN]
        go_ret2
        exact ⟨_, by rw [hres.out]; rfl, by rw [hres.out]; exact own_nil _ _ _ _, HB.out⟩
end Go.Proofs.YtkihoonjekccgaaDoor.K
