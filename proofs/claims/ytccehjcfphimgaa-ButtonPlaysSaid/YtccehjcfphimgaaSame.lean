/- Two rows of numbers held against each other; and what must be in any case. -/
import Derived.Test.YtccehjcfphimgaaBtns
namespace Go.Proofs.Ytccehjcfphimgaa
open Go.RowKit
set_option linter.unusedVariables false
set_option linter.unusedSimpArgs false

theorem nums_at {k : IntKind} {xs : List Int} {i : Nat} {u : Value} (h : (nums k xs)[i]? = some u) : u = .int k (xs.getD i 0) := by
  unfold nums at h
  rw [List.getElem?_map] at h
  cases hx : xs[i]? with
  | none => rw [hx] at h; cases h
  | some x => rw [hx] at h; injection h with h; rw [← h, List.getD_eq_getElem?_getD, hx]; rfl
theorem same_ext {xs ys : List Int} (hl : xs.length = ys.length) (h : ∀ j, j < xs.length → xs.getD j 0 = ys.getD j 0) : xs = ys := by
  refine List.ext_getElem hl fun j h1 h2 => ?_
  have := h j h1
  simpa [List.getD_eq_getElem?_getD, List.getElem?_eq_getElem h1, List.getElem?_eq_getElem h2] using this

def SamePost (xs ys : List Int) (w : World) (e : Ending) (w' : World) : Prop := e = .returned (.bool (decide (xs = ys))) ∧ ∃ k, w' = w.drewN k
/-- The rounds of 'same': all alike as far as k. -/
def SameRel (xs ys : List Int) (w : World) (k : Nat) (wr : World) : Prop := k ≤ xs.length ∧ (∀ j, j < k → xs.getD j 0 = ys.getD j 0) ∧ ∃ m, wr = w.drewN m
set_option maxHeartbeats 400000 in
theorem same_any (A B : Option Addr) (c d : Nat) (xs ys : List Int) (b1 b2 : Nat) (w : World) (ha : Reads w b1 1 A xs.length (nums .i64 xs)) (hb : Reads w b2 1 B ys.length (nums .i64 ys))
    (hx : xs.length ≤ 4611686018427387904) :
    Calls Try.prog 14 #[.slice A xs.length c, .slice B ys.length d] w (SamePost xs ys w) := by
  have HA := Lib.hid ha
  have HB := Lib.hid hb
  clear ha hb
  by_cases hl : xs.length = ys.length
  · have HL := Lib.hid hl
    have h0 := Lib.hid (show SameRel xs ys w 0 w from ⟨by omega, fun j h => absurd h (by omega), 0, rfl⟩)
    have HP := Lib.hid (show ∀ wr, SameRel xs ys w xs.length wr → SamePost xs ys w (.returned (.bool true)) wr from
      fun wr h => ⟨by rw [decide_eq_true (same_ext hl h.2.1)], h.2.2⟩)
    have HF := Lib.hid (show ∀ wr k m, SameRel xs ys w k wr → k < xs.length → ¬ xs.getD k 0 = ys.getD k 0 → SamePost xs ys w (.returned (.bool false)) (wr.drewN m) from
      fun wr k m h hk hne => ⟨by rw [decide_eq_false (fun e => hne (by rw [e]))], by
        obtain ⟨n, rfl⟩ := h.2.2
        exact ⟨n + m, by rw [World.drewN_drewN]⟩⟩)
    rw [← hl]
    clear hl
    go_enter Try.func14, Try.ntmps14
    go_wp2
    go_loopw [5] (fun i wr => ∃ k : Nat, i = .int .i64 k ∧ SameRel xs ys w k wr) (fun i _ => xs.length - (intOf i).toNat)
    case atStart => exact ⟨0, rfl, h0.out⟩
    case round =>
      obtain ⟨k, rfl, hR⟩ := hrel
      have hk := hR.1
      by_cases hlt : k < xs.length
      · obtain ⟨m0, hm0⟩ := hR.2.2
        obtain ⟨ad, u, rfl, _, hu, hc⟩ := (HA.out).at_ hlt
        obtain ⟨be, v, rfl, _, hv, hd⟩ := (HB.out).at_ (k := k) (by have := HL.out; omega)
        have hu' := nums_at hu
        have hv' := nums_at hv
        subst hu' hv'
        have hc' : wr.cell? (ad.add k) = some (.int .i64 (xs.getD k 0)) := by rw [hm0]; exact hc
        have hd' : wr.cell? (be.add k) = some (.int .i64 (ys.getD k 0)) := by rw [hm0]; exact hd
        have HR := Lib.hid hR
        clear hR hm0 hc hd hu hv HA HB h0
        generalize hX : xs.getD k 0 = X at *
        generalize hY : ys.getD k 0 = Y at *
        have HX := Lib.hid hX
        have HY := Lib.hid hY
        clear hX hY
        by_cases he : X = Y
        · have hq : (X == Y) = true := by simp [he]
          have HE := Lib.hid he
          clear he
          go_wp2_with fail
          go_quiet (fail)
          go_wp2
          go_roundw
          case rel => exact ⟨k + 1, by go_num, by omega, fun j hj => by
            by_cases h : j < k
            · exact HR.out.2.1 j h
            · obtain rfl : j = k := by omega
              rw [HX.out, HY.out, HE.out], by
            obtain ⟨n, hn⟩ := HR.out.2.2
            exact ⟨_, by rw [hn, World.drewN_drewN]⟩⟩
          case measure => simp [intOf]; omega
        · have hq : (X == Y) = false := by simp [he]
          have HE := Lib.hid he
          clear he
          go_wp2_with fail
          go_quiet (fail)
          go_wp2
          go_ret
          exact HF.out _ k _ HR.out hlt (by rw [HX.out, HY.out]; exact HE.out)
      · obtain rfl : k = xs.length := by omega
        have HR := Lib.hid hR
        clear hR
        go_wp2
        go_ret
        exact HP.out _ HR.out
  · have HP := Lib.hid (show SamePost xs ys w (.returned (.bool false)) w from ⟨by rw [decide_eq_false (fun e => hl (by rw [e]))], 0, rfl⟩)
    have hq : ((xs.length : Int) == (ys.length : Int)) = false := by rw [beq_eq_false_iff_ne]; omega
    clear hl
    go_enter Try.func14, Try.ntmps14
    go_wp2
    go_ret
    exact HP.out

/-- 'same' with its answer named; of the world it turns nothing. -/
theorem same_b (A B : Option Addr) (c d : Nat) (xs ys : List Int) (b : Bool) (hb' : decide (xs = ys) = b) (b1 b2 : Nat) (w : World) (ha : Reads w b1 1 A xs.length (nums .i64 xs)) (hb : Reads w b2 1 B ys.length (nums .i64 ys))
    (hx : xs.length ≤ 4611686018427387904) :
    Calls Try.prog 14 #[.slice A xs.length c, .slice B ys.length d] w fun e w' => e = .returned (.bool b) ∧ Hid (Fr0 w w' ∧ ∀ p, w'.cell? p = w.cell? p) := by
  refine (same_any A B c d xs ys b1 b2 w ha hb hx).mono ?_
  rintro e w' ⟨he, k, rfl⟩
  exact ⟨by rw [he, hb'], (Fr.refl _ w).drewN k, fun p => rfl⟩
theorem fr_drewN {S : Nat → Prop} (w : World) (k : Nat) : Fr S w (w.drewN k) := (Fr.refl S w).drewN k
theorem wf_z4 : WfS z4 := fun n => by simp [z4, I64]
theorem wf_set {s : BS} (h : WfS s) (n : Int) (d : Bool) {now : Int} (hn : I64 now) : WfS (setS s n d now) := by
  intro m
  unfold setS upd pressB
  split
  · dsimp only
    split
    · split
      · exact h _
      · exact hn
    · exact h m
  · exact h m

/-- Buttons of the call's own: their block, new behind w0, and that nothing older has turned. -/
structure Own (w0 w : World) (g : Nat) (s : BS) : Prop where
  blk : Blk w g 29 (enc s)
  wf : WfS s
  base : w0.heap.size ≤ g
  fr : Fr0 w0 w
section
variable {w0 w w' : World} {g : Nat} {s s' : BS}
theorem Own.step (h : Own w0 w g s) (hb : Blk w' g 29 (enc s')) (hs : WfS s') (hf : Fr1 g w w') : Own w0 w' g s' :=
  ⟨hb, hs, h.base, h.fr.trans hf (fun j hj e => by have := h.base; omega)⟩
theorem Own.other {S : Nat → Prop} (h : Own w0 w g s) (hf : Fr S w w') (hn : ¬ S g) (hS : ∀ j, S j → w0.heap.size ≤ j) : Own w0 w' g s :=
  ⟨h.blk.fr hf hn, h.wf, h.base, h.fr.trans hf (fun j hj e => by have := hS j e; omega)⟩
theorem Own.other0 (h : Own w0 w g s) (hf : Fr0 w w') : Own w0 w' g s := h.other hf (fun h => h) (fun _ h => h.elim)
theorem Own.new (w : World) : Own w (w.alloc (.cells (enc z4) 29)) w.heap.size z4 := ⟨Blk.new w _ _, wf_z4, Nat.le_refl _, (Fr.refl _ _).alloc _⟩
theorem own_keep {base n size : Nat} {e : TypeId} {v : Value} {xs : List Value} (ho : w.ownsRow base e size v n xs) (hb : Blk w g 29 (enc s)) (he : e ≠ 29) (hf : Fr1 g w w') : w'.ownsRow base e size v n xs :=
  own_fr ho hf (fun j hj e => by subst e; exact own_blk_ne ho hb he hj)

theorem Set_own (h : Own w0 w g s) (n : Int) (d : Bool) (now : Int) (hn : I64 now) (r : Int) (hr : (if okN n then 0 else 1) = r) :
    Calls Try.prog 11 #[.pointer (some ⟨g, 0, none⟩), .int .i64 n, .bool d, .int .i64 now] w fun e w' => e = .returned (.int .i64 r) ∧ Hid (Own w0 w' g (setS s n d now) ∧ Fr1 g w w') :=
  (Set_any g s n d now w h.blk).mono fun e w' ⟨he, hb, hf⟩ => ⟨by rw [he, hr], h.step hb (wf_set h.wf n d hn) hf, hf⟩
theorem Down_own (h : Own w0 w g s) (n : Int) (b : Bool) (hb : (okN n && (s n.toNat).down) = b) :
    Calls Try.prog 18 #[.pointer (some ⟨g, 0, none⟩), .int .i64 n] w fun e w' => e = .returned (.bool b) ∧ w = w' :=
  (Down_any g s n w h.blk).mono fun e w' ⟨he, hw⟩ => ⟨by rw [he, hb], hw⟩
theorem Reset_own (h : Own w0 w g s) : Calls Try.prog 16 #[.pointer (some ⟨g, 0, none⟩)] w fun e w' => e = .returned (.tuple #[]) ∧ Hid (Own w0 w' g z4 ∧ Fr1 g w w') :=
  (Reset_any g s w h.blk).mono fun e w' ⟨he, hb, hf⟩ => ⟨he, h.step hb wf_z4 hf, hf⟩
theorem Pressed_own (h : Own w0 w g s) (now : Int) (hn : I64 now) (xs : List Int) (hx : prs s now 4 = xs) (n : Nat) (hl : xs.length = n) :
    Calls Try.prog 13 #[.pointer (some ⟨g, 0, none⟩), .int .i64 now] w fun e w' => ∃ A c, e = .returned (.slice A n c) ∧
      Hid (Own w0 w' g (tld s now 4) ∧ w'.ownsRow w.heap.size 3 1 (.slice A n c) n (nums .i64 xs) ∧ Fr1 g w w') := by
  refine (Pressed_any g s now w h.blk h.wf hn).mono ?_
  rintro e w' ⟨v, he, hb, ho, hf⟩
  obtain ⟨A, c, rfl, _⟩ := own_form ho
  subst hx hl
  exact ⟨A, c, he, h.step hb (wf_tld h.wf now 4) hf, ho, hf⟩
end

theorem i64_lit (n : Int) (h : -9223372036854775808 ≤ n ∧ n < 9223372036854775808) : I64 n := h
/-- A literal row of numbers. -/
theorem lit_reads (w : World) (xs : List Int) (k : IntKind) (t : TypeId) : Reads (w.alloc (.cells (nums k xs).toArray t)) (w.heap.size + 1) 1 (some ⟨w.heap.size, 0, none⟩) xs.length (nums k xs) := by
  refine ⟨by simp [nums], fun _ => ⟨_, rfl, Nat.lt_succ_self _, fun j u hu => ?_⟩⟩
  rw [add_plain, Nat.zero_add, (Blk.new w t (nums k xs).toArray).cell]
  simpa using hu
set_option maxHeartbeats 1000000 in
set_option maxRecDepth 10000 in
theorem shown_any (w : World) : Calls Try.prog 10 #[] w fun e w' => e = .returned (.bool true) ∧ Fr0 w w' := by
  have O0 := Lib.hid (Own.new w)
  have i5 := Lib.hid (i64_lit 5 (by omega))
  have i7 := Lib.hid (i64_lit 7 (by omega))
  have i8 := Lib.hid (i64_lit 8 (by omega))
  have i9 := Lib.hid (i64_lit 9 (by omega))
  have i12 := Lib.hid (i64_lit 12 (by omega))
  go_enter Try.func10, Try.ntmps10
  go_wp2_with fail
  refine (Set_own O0.out 2 true 5 i5.out 0 rfl).mono ?_
  rintro e w1 ⟨rfl, O1⟩
  go_wp2_with fail
  refine (Set_own O1.out.1 2 true 7 i7.out 0 rfl).mono ?_
  rintro e w2 ⟨rfl, O2⟩
  go_wp2_with fail
  refine (Set_own O2.out.1 4 true 7 i7.out 1 rfl).mono ?_
  rintro e w3 ⟨rfl, O3⟩
  go_wp2_with fail
  refine (Pressed_own O3.out.1 7 i7.out [] (by decide) 0 rfl).mono ?_
  rintro e w4 ⟨A4, c4, rfl, O4⟩
  go_wp2_with fail
  refine (Pressed_own O4.out.1 8 i8.out [2] (by decide) 1 rfl).mono ?_
  rintro e w5 ⟨A5, c5, rfl, O5⟩
  go_wp2_with fail
  refine (Pressed_own O5.out.1 9 i9.out [] (by decide) 0 rfl).mono ?_
  rintro e w6 ⟨A6, c6, rfl, O6⟩
  go_wp2_with fail
  refine (Down_own O6.out.1 2 true (by decide)).mono ?_
  rintro e w6' ⟨rfl, rfl⟩
  go_wp2_with fail
  refine (Set_own O6.out.1 2 false 9 i9.out 0 rfl).mono ?_
  rintro e w7 ⟨rfl, O7⟩
  go_wp2_with fail
  refine (Set_own O7.out.1 2 true 9 i9.out 0 rfl).mono ?_
  rintro e w8 ⟨rfl, O8⟩
  go_wp2_with fail
  refine (Set_own O8.out.1 0 true 9 i9.out 0 rfl).mono ?_
  rintro e w9 ⟨rfl, O9⟩
  go_wp2_with fail
  refine (Pressed_own O9.out.1 12 i12.out [0, 2] (by decide) 2 rfl).mono ?_
  rintro e w10 ⟨A10, c10, rfl, O10⟩
  go_wp2_with fail
  refine (Reset_own O10.out.1).mono ?_
  rintro e w11 ⟨rfl, O11⟩
  have E5 := Lib.hid (own_keep (own_keep (own_keep (own_keep (own_keep (own_keep O5.out.2.1 O5.out.1.blk (by decide) O6.out.2.2) O6.out.1.blk (by decide) O7.out.2) O7.out.1.blk (by decide) O8.out.2) O8.out.1.blk (by decide) O9.out.2) O9.out.1.blk (by decide) O10.out.2.2) O10.out.1.blk (by decide) O11.out.2)
  have E10 := Lib.hid (own_keep O10.out.2.1 O10.out.1.blk (by decide) O11.out.2)
  go_wp2_with fail
  refine (same_b A5 _ c5 _ [2] [2] true (by decide) _ _ _ ((Reads.of_own E5.out).alloc (Nat.le_refl _) _) (lit_reads _ [2] .i64 _) (by decide)).mono ?_
  rintro e w12 ⟨rfl, H12⟩
  have E10' := Lib.hid ((Reads.of_own E10.out).keep (w' := w12) (fun p hp => (H12.out.2 p).trans (World.cell?_alloc_lt w11 _ p hp)))
  have O12 := Lib.hid (O11.out.1.other0 (((Fr.refl (fun _ => False) w11).alloc (.cells (nums .i64 [2]).toArray 3)).trans H12.out.1 (fun _ _ h => h)))
  have Z12 : Hid (w11.heap.size ≤ w12.heap.size) := Lib.hid (by have h := H12.out.1.size; simp at h; omega)
  go_wp2_with fail
  refine (same_b A10 _ c10 _ [0, 2] [0, 2] true (by decide) _ _ _ (E10'.out.alloc Z12.out _) (lit_reads _ [0, 2] .i64 _) (by decide)).mono ?_
  rintro e w13 ⟨rfl, H13⟩
  have O13 := Lib.hid (O12.out.other0 (((Fr.refl (fun _ => False) w12).alloc (.cells (nums .i64 [0, 2]).toArray 3)).trans H13.out.1 (fun _ _ h => h)))
  go_wp2_with fail
  refine (Down_own O13.out 0 false (by decide)).mono ?_
  rintro e w14 ⟨rfl, rfl⟩
  go_wp2
  go_ret
  exact ⟨rfl, O13.out.fr⟩
end Go.Proofs.Ytccehjcfphimgaa
