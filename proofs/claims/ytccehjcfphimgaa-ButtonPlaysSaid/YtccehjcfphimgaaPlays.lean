/- The walk of ButtonPlays. -/
import Derived.Test.YtccehjcfphimgaaRef10
namespace Go.Proofs.Ytccehjcfphimgaa
open Go.RowKit
set_option linter.unusedVariables false
set_option linter.unusedSimpArgs false
attribute [local go_sem ↓] Go.wp_at_zero Go.wp_at_succ

/-- The buttons are as what was set and told says. -/
def Link (s : BS) (es : List Evt) : Prop := ∀ n : Nat, n < 4 → (snOf n es).d = (s n).down ∧ ((s n).down = true → (snOf n es).q = (s n).since ∧ (snOf n es).t = (s n).told)
theorem link_z4 : Link z4 [] := fun n _ => ⟨rfl, fun h => by cases h⟩
theorem snOf_other {b : Int} {es : List Evt} {e : Evt} (h : e.btn ≠ b) : snOf b (es ++ [e]) = snOf b es := by rw [snOf_snoc, snStep, if_neg h]
theorem link_set {s : BS} {es : List Evt} (h : Link s es) (n : Int) (d : Bool) (now : Int) : Link (setS s n d now) (evsSet es n d now) := by
  unfold setS evsSet
  cases ho : okN n
  · exact h
  · obtain ⟨k, rfl, hk⟩ := okN_nat ho
    rw [if_pos rfl, if_pos rfl]
    intro i hi
    obtain ⟨h1, h2⟩ := h i hi
    by_cases e : i = k
    · subst e
      rw [snOf_snoc, snStep, if_pos rfl]
      simp only [upd, Int.toNat_natCast, if_true]
      unfold pressB
      by_cases e1 : (s i).down = d
      · rw [if_pos e1]
        cases d
        · rw [if_neg (by simp)]
          simp [e1]
        · have e2 : (snOf i es).d = true := h1.trans e1
          simp only [Bool.false_eq_true, if_false, e2, Bool.not_true, Bool.and_false]
          exact ⟨e1.symm, fun hh => h2 hh⟩
      · rw [if_neg e1]
        have e2 : (snOf i es).d = !d := by rw [h1]; cases hd : (s i).down <;> cases d <;> simp_all
        cases d
        · simp
        · simp [e2]
    · have hne : (⟨(k : Int), false, d, now⟩ : Evt).btn ≠ (i : Int) := by show (k : Int) ≠ i; omega
      rw [snOf_other hne]
      simp only [upd, Int.toNat_natCast, if_neg e]
      exact ⟨h1, h2⟩
theorem link_tells {s : BS} {es : List Evt} (h : Link s es) {n : Nat} (hn : n < 4) (now : Int) : rTells es n now = tellsB (s n) now := by
  obtain ⟨h1, h2⟩ := h n hn
  unfold rTells tellsB
  rw [h1]
  cases hd : (s n).down
  · rfl
  · obtain ⟨h3, h4⟩ := h2 hd
    rw [h3, h4]
    cases (s n).told
    · by_cases e : (s n).since + 3 ≤ now
      · have e1 : (s n).since ≤ now := by omega
        have e2 : 3 ≤ now - (s n).since := by omega
        simp [e, e1, e2]
      · have e2 : ¬ 3 ≤ now - (s n).since := by omega
        simp [e, e2]
    · simp
theorem link_prs {s : BS} {es : List Evt} (h : Link s es) (now : Int) (k : Nat) (hk : k ≤ 4) : (rPrs es now k).2 = prs s now k ∧ Link (tld s now k) (rPrs es now k).1 := by
  induction k with
  | zero => exact ⟨rfl, by rw [tld_zero]; exact h⟩
  | succ k ih =>
    obtain ⟨i1, i2⟩ := ih (by omega)
    have ht : rTells (rPrs es now k).1 k now = tellsB (s k) now := by rw [link_tells i2 (by omega), tld_at]
    simp only [rPrs, prs, ht]
    have hs := tld_succ s now k
    cases hb : tellsB (s k) now
    · refine ⟨i1, ?_⟩
      rw [tld_at, toldB_no hb] at hs
      rw [← hs]
      intro i hi
      obtain ⟨a, b⟩ := i2 i hi
      by_cases e : i = k
      · subst e; rw [tld_at] at a b; simp only [upd, if_true]; exact ⟨a, b⟩
      · simp only [upd, if_neg e]; exact ⟨a, b⟩
    · refine ⟨by simp [i1], ?_⟩
      rw [if_pos rfl, ← hs]
      intro i hi
      obtain ⟨a, b⟩ := i2 i hi
      by_cases e : i = k
      · subst e
        rw [tld_at] at a b hs ⊢
        rw [snOf_snoc, snStep, if_pos rfl]
        simp only [upd, if_true]
        have hd : (s i).down = true := by
          unfold tellsB at hb
          cases hh : (s i).down
          · rw [hh] at hb; simp at hb
          · rfl
        refine ⟨by simp [toldB, hb]; exact a, fun _ => ?_⟩
        simp [toldB, hb]; exact (b hd).1
      · have hne : (⟨(k : Int), true, false, 0⟩ : Evt).btn ≠ (i : Int) := by show (k : Int) ≠ i; omega
        rw [snOf_other hne]
        simp only [upd, if_neg e]
        exact ⟨a, b⟩
theorem wfe_set {es : List Evt} (h : WfE es) (n : Int) (d : Bool) {now : Int} (hn : I64 now) : WfE (evsSet es n d now) := by
  unfold evsSet
  split
  · intro e he
    rcases List.mem_append.1 he with he | he
    · exact h e he
    · simp at he; subst he; exact hn
  · exact h
theorem evs_len (es : List Evt) (n : Int) (d : Bool) (now : Int) : (evsSet es n d now).length ≤ es.length + 1 := by unfold evsSet; split <;> simp
/-- What is told of a button being down is the same. -/
theorem link_down {s : BS} {es : List Evt} (h : Link s es) (n : Int) : (okN n && (s n.toNat).down) = (((snOf n es).d && decide (0 ≤ n)) && decide (n < 4)) := by
  cases ho : okN n
  · simp [okN] at ho
    by_cases h0 : 0 ≤ n
    · have h4 : ¬ n < 4 := by omega
      simp [h4]
    · simp [h0]
  · obtain ⟨k, rfl, hk⟩ := okN_nat ho
    have h1 := (h k hk).1
    have h2 : (k : Int) < 4 := by omega
    simp [h1, h2]

def PlaysRel (w0 : World) (gx gr i : Nat) (wr : World) : Prop := ∃ s es, Own w0 wr gx s ∧ Ref w0 wr gr es ∧ Link s es ∧ WfE es ∧ es.length ≤ 5 * i ∧ i ≤ 200
theorem TS.ownB {w0 w w1 : World} {g : Nat} {s : BS} (h : Own w0 w g s) (hf : Fr (TS w0 TR w) w w1) : Own w0 w1 g s :=
  ⟨TS.blk hf h.blk (by unfold TR; decide), h.wf, h.base, TS.own0 hf h.fr⟩
theorem Ref.alloc {w0 w : World} {g : Nat} {es : List Evt} (h : Ref w0 w g es) (o : Obj) : Ref w0 (w.alloc o) g es := h.fr0 ((Fr.refl _ w).alloc o)
theorem Ref.new2 {w w1 : World} (h : Fr0 w w1) : Own w ((w1.alloc (.cells (enc z4) 29)).alloc (.cells #[.slice none 0 0] 33)) w1.heap.size z4 ∧ Ref w ((w1.alloc (.cells (enc z4) 29)).alloc (.cells #[.slice none 0 0] 33)) (w1.heap.size + 1) [] := by
  refine ⟨(Own.new' h).alloc _, ⟨none, 0, ?_, own_nil _ _ _ _⟩, Nat.le_succ_of_le h.size, (h.alloc _).alloc _⟩
  have := Blk.new (w1.alloc (.cells (enc z4) 29)) 33 #[.slice none 0 0]
  simpa using this
theorem Ref.clear {w0 w : World} {g : Nat} {es : List Evt} (h : Ref w0 w g es) : Ref w0 (w.setCell ⟨g, 0, none⟩ (.slice none 0 0)) g [] ∧ Fr1 g w (w.setCell ⟨g, 0, none⟩ (.slice none 0 0)) ∧ (∃ A c, w.cell? ⟨g, 0, none⟩ = some (.slice A es.length c)) ∧ w.frozen? ⟨g, 0, none⟩ = false := by
  obtain ⟨A, c, hb, ho⟩ := h.ex
  refine ⟨⟨⟨none, 0, ?_, own_nil _ _ _ _⟩, h.base, h.fr.setCell (fun hh => by have := h.base; have : g < w0.heap.size := hh; omega) _⟩, fr1_set 0 _, ⟨A, c, hb.cell 0⟩, hb.frozen 0⟩
  have := hb.set_ 0 (.slice none 0 0)
  simpa using this

/-- The loop that writes over what was told. -/
def PlIn (w0 : World) (gx gr : Nat) (s : BS) (es : List Evt) (gs : Nat) (cs : Array Value) (A : Option Addr) (c n : Nat) (wr : World) : Prop :=
  Own w0 wr gx s ∧ Ref w0 wr gr es ∧ Blk wr gs 35 cs ∧ ∃ (b : Nat) (xs : List Value), wr.ownsRow b 3 1 (.slice A n c) n xs ∧ w0.heap.size ≤ b
theorem plin_store {w0 wr : World} {gx gr gs n c k : Nat} {s : BS} {es : List Evt} {cs : Array Value} {A : Option Addr} (h : PlIn w0 gx gr s es gs cs A c n wr) (hk : k < n) :
    ∃ gp, A = some ⟨gp, 0, none⟩ ∧ (∃ u, wr.cell? ⟨gp, k, none⟩ = some u) ∧ wr.frozen? ⟨gp, k, none⟩ = false ∧ ∀ v : Value, v.oneCell' = true → PlIn w0 gx gr s es gs cs A c n (wr.setCell ⟨gp, k, none⟩ v) := by
  obtain ⟨h1, h2, h3, b, xs, h4, h5⟩ := h
  obtain ⟨hl, hx⟩ := h4
  rcases hx with ⟨he, _⟩ | ⟨gp, cap, cur, he, hg, hh, hc, hm, hs, ht⟩
  · injection he with _ he _; omega
  · injection he with hA he1 he2
    subst hA he2
    have hbl : Blk wr gp 3 cur := hh
    have hf : Fr (TS w0 (fun t => t = 3) wr) wr (wr.setCell ⟨gp, k, none⟩ (.int .i64 9)) := (Fr.refl _ _).setCell (p := ⟨gp, k, none⟩) (fun _ => ⟨Nat.le_trans h5 hg, cur, _, _, hh, rfl⟩) _
    refine ⟨gp, rfl, ⟨_, by rw [hbl.cell]; exact Array.getElem?_eq_getElem (by omega)⟩, hbl.frozen k, fun v _ => ?_⟩
    have hf : Fr (TS w0 (fun t => t = 3) wr) wr (wr.setCell ⟨gp, k, none⟩ v) := (Fr.refl _ _).setCell (p := ⟨gp, k, none⟩) (fun _ => ⟨Nat.le_trans h5 hg, cur, _, _, hh, rfl⟩) _
    refine ⟨⟨TS.blk hf h1.blk (by decide), h1.wf, h1.base, TS.own0 hf h1.fr⟩, h2.frT hf (by decide) (by decide), TS.blk hf h3 (by decide), b, (cur.setIfInBounds k v).toList.take (n * 1), ⟨?_, Or.inr ⟨gp, c, cur.setIfInBounds k v, rfl, hg, hbl.set_ k v, hc, hm, by simpa using hs, rfl⟩⟩, h5⟩
    simp; omega
theorem ref_ne {w0 w' : World} {g g' : Nat} {t : TypeId} {es : List Evt} {cs : Array Value} (h : Ref w0 w' g es) (hb : Blk w' g' t cs) (ht : t ≠ 33) : g' ≠ g := by
  obtain ⟨A, c, h1, _⟩ := h.ex
  exact Blk.ne_ hb h1 ht
theorem RSet_b {w0 w : World} {g : Nat} {es : List Evt} (h : Ref w0 w g es) (n : Int) (d : Bool) (now : Int) (hn : es.length ≤ 1000000) (b : Bool) (hb : okN n = b) :
    Calls Try.prog 12 #[.pointer (some ⟨g, 0, none⟩), .int .i64 n, .bool d, .int .i64 now] w fun e w' => e = .returned (.bool b) ∧ Hid (Ref w0 w' g (evsSet es n d now) ∧ Fr (TS w0 TR w) w w') := by
  subst hb
  exact RSet_any h n d now hn
theorem RPrs_b {w0 w : World} {g : Nat} {es : List Evt} (h : Ref w0 w g es) (now : Int) (hn : es.length ≤ 999990) (hw : WfE es) (hnow : I64 now) (xs : List Int) (hx : (rPrs es now 4).2 = xs) :
    Calls Try.prog 15 #[.pointer (some ⟨g, 0, none⟩), .int .i64 now] w fun e w' => ∃ A c, e = .returned (.slice A xs.length c) ∧ Hid (Ref w0 w' g (rPrs es now 4).1 ∧ w'.ownsRow w.heap.size 3 1 (.slice A xs.length c) xs.length (nums .i64 xs) ∧ Fr (TS w0 TR w) w w') := by
  subst hx
  exact RPressed_any h now hn hw hnow

set_option maxHeartbeats 4000000 in
set_option maxRecDepth 10000 in
theorem plays_walk (A0 : Option Addr) (c0 : Nat) (l0 : List Stp) (w : World)
    (h0 : RowOf Stp.c 4 w w.heap.size A0 l0) (n0 : l0.length ≤ 4611686018427387904) (i0 : ∀ s ∈ l0, I64 s.now) :
    Calls Try.prog 3 #[.slice A0 l0.length c0] w fun e w' => e = .returned (.bool true) ∧ Below w.heap.size w w' := by
  have H0 := Lib.hid h0
  have I0 := Lib.hid i0
  clear h0 i0
  go_enter Try.func3, Try.ntmps3
  go_wp2_with fail
  refine (shown_any _).mono ?_
  rintro e w1 ⟨rfl, F1⟩
  have O1 := Lib.hid (Ref.new2 F1)
  have hne := Lib.hid (show w1.heap.size ≠ w1.heap.size + 1 by omega)
  clear F1
  go_wp2
  go_loopw [6] (fun i wr => ∃ i' : Nat, i = .int .i64 i' ∧ PlaysRel w w1.heap.size (w1.heap.size + 1) i' wr) (fun i _ => l0.length - (intOf i).toNat)
  case atStart => exact ⟨0, rfl, _, _, O1.out.1, O1.out.2, link_z4, (fun e h => by simp at h), by simp, by omega⟩
  case round =>
    obtain ⟨j, rfl, s, es, hs, ht, hlk, hwf, hle, hj⟩ := hrel
    have OX := Lib.hid hs
    have RY := Lib.hid ht
    have LK := Lib.hid hlk
    have WF := Lib.hid hwf
    clear hs ht hlk hwf O1
    by_cases t2 : j < l0.length
    · by_cases t3 : j < 200
      · obtain ⟨ad, rfl, hb, c0, c1', c2', c3'⟩ := stp_later H0.out OX.out.fr.below0 t2
        have hnow := Lib.hid (I0.out _ (List.getElem_mem t2))
        generalize (l0[j]).kind = kind at *
        generalize (l0[j]).btn = btn at *
        generalize (l0[j]).down = dn at *
        generalize (l0[j]).now = now at *
        have OX1 := Lib.hid (OX.out.alloc (.cells #[.int .i64 kind, .int .i64 btn, .bool dn, .int .i64 now] 35))
        have RY1 := Lib.hid (RY.out.alloc (.cells #[.int .i64 kind, .int .i64 btn, .bool dn, .int .i64 now] 35))
        have BS1 := Lib.hid (Blk.new wr 35 #[.int .i64 kind, .int .i64 btn, .bool dn, .int .i64 now])
        have hns := Lib.hid (show wr.heap.size ≠ w1.heap.size by have := OX.out.blk.lt; omega)
        rcases kind_cases kind with rfl | rfl | rfl | rfl | rfl | rfl | ⟨q1, q2, q3, q4, q5, q6⟩
        · obtain ⟨bo, hbo⟩ : ∃ bo, okN btn = bo := ⟨_, rfl⟩
          have HBO := Lib.hid hbo
          clear hbo
          cases bo
          all_goals
            go_wp2_with fail
            (with_reducible refine (Set_own OX1.out btn dn now hnow.out _ (by rw [HBO.out])).mono ?_)
            rintro e w2 ⟨rfl, O2⟩
            have B2 := Lib.hid (BS1.out.fr O2.out.2 hns.out)
            have k1 := B2.out.cell 1
            have k2 := B2.out.cell 2
            have k3 := B2.out.cell 3
            have RY2 := Lib.hid (RY1.out.fr1 OX1.out.blk OX1.out.base O2.out.2)
            go_wp2_with fail
            (with_reducible refine (RSet_b RY2.out btn dn now (by omega) _ HBO.out).mono ?_)
            rintro e w3 ⟨rfl, R3⟩
            have B3 := Lib.hid (TS.blk R3.out.2 B2.out (by unfold TR; decide))
            have k1' := B3.out.cell 1
            have OXn := Lib.hid (TS.ownB O2.out.1 R3.out.2)
            have RYn := Lib.hid R3.out.1
            have LKn := Lib.hid (link_set LK.out btn dn now)
            have WFn := Lib.hid (wfe_set WF.out btn dn hnow.out)
            have hln := evs_len es btn dn now
            clear c0 c1' c2' c3' k1 k2 k3
            go_wp2_with fail
            obtain ⟨sn, hsn⟩ : ∃ sn, snOf btn (evsSet es btn dn now) = sn := ⟨_, rfl⟩
            have HSN := Lib.hid hsn
            clear hsn
            have hld := link_down LKn.out btn
            rw [HSN.out] at hld
            obtain ⟨q, d, t⟩ := sn
            (with_reducible refine (Since_at RYn.out btn ⟨q, d, t⟩ HSN.out (by omega)).mono ?_)
            rintro e w6 ⟨rfl, F6⟩
            have OX6 := Lib.hid (OXn.out.other0 F6.out)
            have RY6 := Lib.hid (RYn.out.fr0 F6.out)
            have B6 := Lib.hid (B3.out.fr F6.out (fun h => h))
            have k1'' := B6.out.cell 1
            have HLD := Lib.hid hld
            clear hld
            dsimp only at HLD
            have CD : Hid (∀ b, ((d && decide (0 ≤ btn)) && decide (btn < 4)) = b → Calls Try.prog 18 #[.pointer (some ⟨w1.heap.size, 0, none⟩), .int .i64 btn] w6 fun e w' => e = .returned (.bool b) ∧ w6 = w') := Lib.hid (fun b hb => Down_own OX6.out btn b (by rw [HLD.out]; exact hb))
            by_cases g0 : 0 ≤ btn
            · by_cases g1 : btn < 4
              · cases d
                · go_wp2_with fail
                  (with_reducible refine (CD.out false (by simp)).mono ?_)
                  rintro e w7 ⟨rfl, rfl⟩
                  go_wp2
                  go_roundw
                  case rel => exact ⟨j + 1, by go_num, _, _, OX6.out, RY6.out, LKn.out, WFn.out, by omega, by omega⟩
                  case measure => simp [intOf]; omega
                · go_wp2_with fail
                  (with_reducible refine (CD.out true (by simp [g0, g1])).mono ?_)
                  rintro e w7 ⟨rfl, rfl⟩
                  go_wp2
                  go_roundw
                  case rel => exact ⟨j + 1, by go_num, _, _, OX6.out, RY6.out, LKn.out, WFn.out, by omega, by omega⟩
                  case measure => simp [intOf]; omega
              · cases d
                all_goals
                  go_wp2_with fail
                  (with_reducible refine (CD.out false (by simp [g1])).mono ?_)
                  rintro e w7 ⟨rfl, rfl⟩
                  go_wp2
                  go_roundw
                  case rel => exact ⟨j + 1, by go_num, _, _, OX6.out, RY6.out, LKn.out, WFn.out, by omega, by omega⟩
                  case measure => simp [intOf]; omega
            · cases d
              all_goals
                go_wp2_with fail
                (with_reducible refine (CD.out false (by simp [show ¬ 0 ≤ btn by omega])).mono ?_)
                rintro e w7 ⟨rfl, rfl⟩
                go_wp2
                go_roundw
                case rel => exact ⟨j + 1, by go_num, _, _, OX6.out, RY6.out, LKn.out, WFn.out, by omega, by omega⟩
                case measure => simp [intOf]; omega
        · obtain ⟨bo, hbo⟩ : ∃ bo, okN btn = bo := ⟨_, rfl⟩
          have HBO := Lib.hid hbo
          clear hbo
          cases bo
          all_goals
            go_wp2_with fail
            (with_reducible refine (Set_own OX1.out btn dn now hnow.out _ (by rw [HBO.out])).mono ?_)
            rintro e w2 ⟨rfl, O2⟩
            have B2 := Lib.hid (BS1.out.fr O2.out.2 hns.out)
            have k1 := B2.out.cell 1
            have k2 := B2.out.cell 2
            have k3 := B2.out.cell 3
            have RY2 := Lib.hid (RY1.out.fr1 OX1.out.blk OX1.out.base O2.out.2)
            go_wp2_with fail
            (with_reducible refine (RSet_b RY2.out btn dn now (by omega) _ HBO.out).mono ?_)
            rintro e w3 ⟨rfl, R3⟩
            have B3 := Lib.hid (TS.blk R3.out.2 B2.out (by unfold TR; decide))
            have k1' := B3.out.cell 1
            have OXn := Lib.hid (TS.ownB O2.out.1 R3.out.2)
            have RYn := Lib.hid R3.out.1
            have LKn := Lib.hid (link_set LK.out btn dn now)
            have WFn := Lib.hid (wfe_set WF.out btn dn hnow.out)
            have hln := evs_len es btn dn now
            clear c0 c1' c2' c3' k1 k2 k3
            go_wp2_with fail
            obtain ⟨sn, hsn⟩ : ∃ sn, snOf btn (evsSet es btn dn now) = sn := ⟨_, rfl⟩
            have HSN := Lib.hid hsn
            clear hsn
            have hld := link_down LKn.out btn
            rw [HSN.out] at hld
            obtain ⟨q, d, t⟩ := sn
            (with_reducible refine (Since_at RYn.out btn ⟨q, d, t⟩ HSN.out (by omega)).mono ?_)
            rintro e w6 ⟨rfl, F6⟩
            have OX6 := Lib.hid (OXn.out.other0 F6.out)
            have RY6 := Lib.hid (RYn.out.fr0 F6.out)
            have B6 := Lib.hid (B3.out.fr F6.out (fun h => h))
            have k1'' := B6.out.cell 1
            have HLD := Lib.hid hld
            clear hld
            dsimp only at HLD
            have CD : Hid (∀ b, ((d && decide (0 ≤ btn)) && decide (btn < 4)) = b → Calls Try.prog 18 #[.pointer (some ⟨w1.heap.size, 0, none⟩), .int .i64 btn] w6 fun e w' => e = .returned (.bool b) ∧ w6 = w') := Lib.hid (fun b hb => Down_own OX6.out btn b (by rw [HLD.out]; exact hb))
            by_cases g0 : 0 ≤ btn
            · by_cases g1 : btn < 4
              · cases d
                · go_wp2_with fail
                  (with_reducible refine (CD.out false (by simp)).mono ?_)
                  rintro e w7 ⟨rfl, rfl⟩
                  go_wp2
                  go_roundw
                  case rel => exact ⟨j + 1, by go_num, _, _, OX6.out, RY6.out, LKn.out, WFn.out, by omega, by omega⟩
                  case measure => simp [intOf]; omega
                · go_wp2_with fail
                  (with_reducible refine (CD.out true (by simp [g0, g1])).mono ?_)
                  rintro e w7 ⟨rfl, rfl⟩
                  go_wp2
                  go_roundw
                  case rel => exact ⟨j + 1, by go_num, _, _, OX6.out, RY6.out, LKn.out, WFn.out, by omega, by omega⟩
                  case measure => simp [intOf]; omega
              · cases d
                all_goals
                  go_wp2_with fail
                  (with_reducible refine (CD.out false (by simp [g1])).mono ?_)
                  rintro e w7 ⟨rfl, rfl⟩
                  go_wp2
                  go_roundw
                  case rel => exact ⟨j + 1, by go_num, _, _, OX6.out, RY6.out, LKn.out, WFn.out, by omega, by omega⟩
                  case measure => simp [intOf]; omega
            · cases d
              all_goals
                go_wp2_with fail
                (with_reducible refine (CD.out false (by simp [show ¬ 0 ≤ btn by omega])).mono ?_)
                rintro e w7 ⟨rfl, rfl⟩
                go_wp2
                go_roundw
                case rel => exact ⟨j + 1, by go_num, _, _, OX6.out, RY6.out, LKn.out, WFn.out, by omega, by omega⟩
                case measure => simp [intOf]; omega
        · obtain ⟨bo, hbo⟩ : ∃ bo, okN btn = bo := ⟨_, rfl⟩
          have HBO := Lib.hid hbo
          clear hbo
          cases bo
          all_goals
            go_wp2_with fail
            (with_reducible refine (Set_own OX1.out btn dn now hnow.out _ (by rw [HBO.out])).mono ?_)
            rintro e w2 ⟨rfl, O2⟩
            have B2 := Lib.hid (BS1.out.fr O2.out.2 hns.out)
            have k1 := B2.out.cell 1
            have k2 := B2.out.cell 2
            have k3 := B2.out.cell 3
            have RY2 := Lib.hid (RY1.out.fr1 OX1.out.blk OX1.out.base O2.out.2)
            go_wp2_with fail
            (with_reducible refine (RSet_b RY2.out btn dn now (by omega) _ HBO.out).mono ?_)
            rintro e w3 ⟨rfl, R3⟩
            have B3 := Lib.hid (TS.blk R3.out.2 B2.out (by unfold TR; decide))
            have k1' := B3.out.cell 1
            have OXn := Lib.hid (TS.ownB O2.out.1 R3.out.2)
            have RYn := Lib.hid R3.out.1
            have LKn := Lib.hid (link_set LK.out btn dn now)
            have WFn := Lib.hid (wfe_set WF.out btn dn hnow.out)
            have hln := evs_len es btn dn now
            clear c0 c1' c2' c3' k1 k2 k3
            go_wp2_with fail
            obtain ⟨sn, hsn⟩ : ∃ sn, snOf btn (evsSet es btn dn now) = sn := ⟨_, rfl⟩
            have HSN := Lib.hid hsn
            clear hsn
            have hld := link_down LKn.out btn
            rw [HSN.out] at hld
            obtain ⟨q, d, t⟩ := sn
            (with_reducible refine (Since_at RYn.out btn ⟨q, d, t⟩ HSN.out (by omega)).mono ?_)
            rintro e w6 ⟨rfl, F6⟩
            have OX6 := Lib.hid (OXn.out.other0 F6.out)
            have RY6 := Lib.hid (RYn.out.fr0 F6.out)
            have B6 := Lib.hid (B3.out.fr F6.out (fun h => h))
            have k1'' := B6.out.cell 1
            have HLD := Lib.hid hld
            clear hld
            dsimp only at HLD
            have CD : Hid (∀ b, ((d && decide (0 ≤ btn)) && decide (btn < 4)) = b → Calls Try.prog 18 #[.pointer (some ⟨w1.heap.size, 0, none⟩), .int .i64 btn] w6 fun e w' => e = .returned (.bool b) ∧ w6 = w') := Lib.hid (fun b hb => Down_own OX6.out btn b (by rw [HLD.out]; exact hb))
            by_cases g0 : 0 ≤ btn
            · by_cases g1 : btn < 4
              · cases d
                · go_wp2_with fail
                  (with_reducible refine (CD.out false (by simp)).mono ?_)
                  rintro e w7 ⟨rfl, rfl⟩
                  go_wp2
                  go_roundw
                  case rel => exact ⟨j + 1, by go_num, _, _, OX6.out, RY6.out, LKn.out, WFn.out, by omega, by omega⟩
                  case measure => simp [intOf]; omega
                · go_wp2_with fail
                  (with_reducible refine (CD.out true (by simp [g0, g1])).mono ?_)
                  rintro e w7 ⟨rfl, rfl⟩
                  go_wp2
                  go_roundw
                  case rel => exact ⟨j + 1, by go_num, _, _, OX6.out, RY6.out, LKn.out, WFn.out, by omega, by omega⟩
                  case measure => simp [intOf]; omega
              · cases d
                all_goals
                  go_wp2_with fail
                  (with_reducible refine (CD.out false (by simp [g1])).mono ?_)
                  rintro e w7 ⟨rfl, rfl⟩
                  go_wp2
                  go_roundw
                  case rel => exact ⟨j + 1, by go_num, _, _, OX6.out, RY6.out, LKn.out, WFn.out, by omega, by omega⟩
                  case measure => simp [intOf]; omega
            · cases d
              all_goals
                go_wp2_with fail
                (with_reducible refine (CD.out false (by simp [show ¬ 0 ≤ btn by omega])).mono ?_)
                rintro e w7 ⟨rfl, rfl⟩
                go_wp2
                go_roundw
                case rel => exact ⟨j + 1, by go_num, _, _, OX6.out, RY6.out, LKn.out, WFn.out, by omega, by omega⟩
                case measure => simp [intOf]; omega
        · have hpl := Lib.hid (prs_len s now 4)
          have hlp := Lib.hid (link_prs LK.out now 4 (by omega))
          have hrl := rPrs_len es now 4
          go_wp2_with fail
          clear c0 c1' c2' c3'
          (with_reducible refine (Pressed_own OX1.out now hnow.out _ rfl _ rfl).mono ?_)
          rintro e w2 ⟨A2, d2, rfl, O2⟩
          have B2 := Lib.hid (BS1.out.fr O2.out.2.2 hns.out)
          have k3 := B2.out.cell 3
          have RY2 := Lib.hid (RY1.out.fr1 OX1.out.blk OX1.out.base O2.out.2.2)
          go_wp2_with fail
          (with_reducible refine (RPrs_b RY2.out now (by omega) WF.out hnow.out _ hlp.out.1).mono ?_)
          rintro e w3 ⟨A3, d3, rfl, R3⟩
          have B3 := Lib.hid (TS.blk R3.out.2.2 B2.out (by unfold TR; decide))
          have E3 := Lib.hid (TS.own R3.out.2.2 O2.out.2.1 not_TR_int)
          have OX3 := Lib.hid (TS.ownB O2.out.1 R3.out.2.2)
          clear k3
          go_wp2_with fail
          (with_reducible refine (same_b A2 A3 d2 d3 (prs s now 4) (prs s now 4) true (by simp) _ _ _ (Reads.of_own E3.out) (Reads.of_own R3.out.2.1) (by have := hpl.out; omega)).mono ?_)
          rintro e w4 ⟨rfl, H4⟩
          have IN0 : Hid (PlIn w w1.heap.size (w1.heap.size + 1) (tld s now 4) (rPrs es now 4).1 wr.heap.size #[.int .i64 4, .int .i64 btn, .bool dn, .int .i64 now] A2 d2 (prs s now 4).length w4) := Lib.hid ⟨OX3.out.other0 H4.out.1, R3.out.1.fr0 H4.out.1, B3.out.fr H4.out.1 (fun h => h), _, _, own_fr E3.out H4.out.1 (fun _ _ h => h), RY1.out.fr.size⟩
          obtain ⟨np, hnp⟩ : ∃ np, (prs s now 4).length = np := ⟨_, rfl⟩
          rw [hnp]
          have IN1 : Hid (PlIn w w1.heap.size (w1.heap.size + 1) (tld s now 4) (rPrs es now 4).1 wr.heap.size #[.int .i64 4, .int .i64 btn, .bool dn, .int .i64 now] A2 d2 np w4) := Lib.hid (by rw [← hnp]; exact IN0.out)
          have hnp4 : np ≤ 4 := by rw [← hnp]; exact hpl.out
          clear IN0 hnp O2 RY2 R3 B2 B3 E3 OX3 H4
          obtain ⟨wo, rfl⟩ : ∃ wo : World, wo = wr := ⟨_, rfl⟩
          go_wp2
          go_loopw [12] (fun k wr => ∃ k' : Nat, k' ≤ np ∧ k = .int .i64 k' ∧ PlIn w w1.heap.size (w1.heap.size + 1) (tld s now 4) (rPrs es now 4).1 wo.heap.size #[.int .i64 4, .int .i64 btn, .bool dn, .int .i64 now] A2 d2 np wr) (fun k _ => np - (intOf k).toNat)
          case atStart => exact ⟨0, by omega, rfl, IN1.out⟩
          case round =>
            obtain ⟨k, hk, rfl, hin⟩ := hrel
            have IN := Lib.hid hin
            clear hin IN1
            by_cases t4 : k < np
            · obtain ⟨gp, rfl, ⟨u0, hcell⟩, hfz, hset⟩ := plin_store IN.out t4
              have HS := Lib.hid (hset (.int .i64 9) rfl)
              clear hset
              go_wp2
              go_roundw
              case rel => exact ⟨k + 1, by omega, by go_num, HS.out⟩
              case measure => simp [intOf]; omega
            · obtain ⟨o1, o2, o3, _⟩ := IN.out
              have OXn := Lib.hid o1
              have RYn := Lib.hid o2
              have B3 := Lib.hid o3
              have k1' := B3.out.cell 1
              have LKn := Lib.hid hlp.out.2
              have WFn := Lib.hid (rPrs_wf WF.out now 4)
              obtain ⟨hln, _⟩ := hrl
              clear o1 o2 o3
              go_wp2_with fail
              obtain ⟨sn, hsn⟩ : ∃ sn, snOf btn (rPrs es now 4).1 = sn := ⟨_, rfl⟩
              have HSN := Lib.hid hsn
              clear hsn
              have hld := link_down LKn.out btn
              rw [HSN.out] at hld
              obtain ⟨q, d, t⟩ := sn
              (with_reducible refine (Since_at RYn.out btn ⟨q, d, t⟩ HSN.out (by omega)).mono ?_)
              rintro e w6 ⟨rfl, F6⟩
              have OX6 := Lib.hid (OXn.out.other0 F6.out)
              have RY6 := Lib.hid (RYn.out.fr0 F6.out)
              have B6 := Lib.hid (B3.out.fr F6.out (fun h => h))
              have k1'' := B6.out.cell 1
              have HLD := Lib.hid hld
              clear hld
              dsimp only at HLD
              have CD : Hid (∀ b, ((d && decide (0 ≤ btn)) && decide (btn < 4)) = b → Calls Try.prog 18 #[.pointer (some ⟨w1.heap.size, 0, none⟩), .int .i64 btn] w6 fun e w' => e = .returned (.bool b) ∧ w6 = w') := Lib.hid (fun b hb => Down_own OX6.out btn b (by rw [HLD.out]; exact hb))
              by_cases g0 : 0 ≤ btn
              · by_cases g1 : btn < 4
                · cases d
                  · go_wp2_with fail
                    (with_reducible refine (CD.out false (by simp)).mono ?_)
                    rintro e w7 ⟨rfl, rfl⟩
                    go_wp2
                    go_roundw
                    case rel => exact ⟨j + 1, by go_num, _, _, OX6.out, RY6.out, LKn.out, WFn.out, by omega, by omega⟩
                    case measure => simp [intOf]; omega
                  · go_wp2_with fail
                    (with_reducible refine (CD.out true (by simp [g0, g1])).mono ?_)
                    rintro e w7 ⟨rfl, rfl⟩
                    go_wp2
                    go_roundw
                    case rel => exact ⟨j + 1, by go_num, _, _, OX6.out, RY6.out, LKn.out, WFn.out, by omega, by omega⟩
                    case measure => simp [intOf]; omega
                · cases d
                  all_goals
                    go_wp2_with fail
                    (with_reducible refine (CD.out false (by simp [g1])).mono ?_)
                    rintro e w7 ⟨rfl, rfl⟩
                    go_wp2
                    go_roundw
                    case rel => exact ⟨j + 1, by go_num, _, _, OX6.out, RY6.out, LKn.out, WFn.out, by omega, by omega⟩
                    case measure => simp [intOf]; omega
              · cases d
                all_goals
                  go_wp2_with fail
                  (with_reducible refine (CD.out false (by simp [show ¬ 0 ≤ btn by omega])).mono ?_)
                  rintro e w7 ⟨rfl, rfl⟩
                  go_wp2
                  go_roundw
                  case rel => exact ⟨j + 1, by go_num, _, _, OX6.out, RY6.out, LKn.out, WFn.out, by omega, by omega⟩
                  case measure => simp [intOf]; omega
        · have hpl := Lib.hid (prs_len s now 4)
          have hlp := Lib.hid (link_prs LK.out now 4 (by omega))
          have hrl := rPrs_len es now 4
          go_wp2_with fail
          clear c0 c1' c2' c3'
          (with_reducible refine (Pressed_own OX1.out now hnow.out _ rfl _ rfl).mono ?_)
          rintro e w2 ⟨A2, d2, rfl, O2⟩
          have B2 := Lib.hid (BS1.out.fr O2.out.2.2 hns.out)
          have k3 := B2.out.cell 3
          have RY2 := Lib.hid (RY1.out.fr1 OX1.out.blk OX1.out.base O2.out.2.2)
          go_wp2_with fail
          (with_reducible refine (RPrs_b RY2.out now (by omega) WF.out hnow.out _ hlp.out.1).mono ?_)
          rintro e w3 ⟨A3, d3, rfl, R3⟩
          have B3 := Lib.hid (TS.blk R3.out.2.2 B2.out (by unfold TR; decide))
          have E3 := Lib.hid (TS.own R3.out.2.2 O2.out.2.1 not_TR_int)
          have OX3 := Lib.hid (TS.ownB O2.out.1 R3.out.2.2)
          clear k3
          go_wp2_with fail
          (with_reducible refine (same_b A2 A3 d2 d3 (prs s now 4) (prs s now 4) true (by simp) _ _ _ (Reads.of_own E3.out) (Reads.of_own R3.out.2.1) (by have := hpl.out; omega)).mono ?_)
          rintro e w4 ⟨rfl, H4⟩
          have IN0 : Hid (PlIn w w1.heap.size (w1.heap.size + 1) (tld s now 4) (rPrs es now 4).1 wr.heap.size #[.int .i64 5, .int .i64 btn, .bool dn, .int .i64 now] A2 d2 (prs s now 4).length w4) := Lib.hid ⟨OX3.out.other0 H4.out.1, R3.out.1.fr0 H4.out.1, B3.out.fr H4.out.1 (fun h => h), _, _, own_fr E3.out H4.out.1 (fun _ _ h => h), RY1.out.fr.size⟩
          obtain ⟨np, hnp⟩ : ∃ np, (prs s now 4).length = np := ⟨_, rfl⟩
          rw [hnp]
          have IN1 : Hid (PlIn w w1.heap.size (w1.heap.size + 1) (tld s now 4) (rPrs es now 4).1 wr.heap.size #[.int .i64 5, .int .i64 btn, .bool dn, .int .i64 now] A2 d2 np w4) := Lib.hid (by rw [← hnp]; exact IN0.out)
          have hnp4 : np ≤ 4 := by rw [← hnp]; exact hpl.out
          clear IN0 hnp O2 RY2 R3 B2 B3 E3 OX3 H4
          obtain ⟨wo, rfl⟩ : ∃ wo : World, wo = wr := ⟨_, rfl⟩
          go_wp2
          go_loopw [12] (fun k wr => ∃ k' : Nat, k' ≤ np ∧ k = .int .i64 k' ∧ PlIn w w1.heap.size (w1.heap.size + 1) (tld s now 4) (rPrs es now 4).1 wo.heap.size #[.int .i64 5, .int .i64 btn, .bool dn, .int .i64 now] A2 d2 np wr) (fun k _ => np - (intOf k).toNat)
          case atStart => exact ⟨0, by omega, rfl, IN1.out⟩
          case round =>
            obtain ⟨k, hk, rfl, hin⟩ := hrel
            have IN := Lib.hid hin
            clear hin IN1
            by_cases t4 : k < np
            · obtain ⟨gp, rfl, ⟨u0, hcell⟩, hfz, hset⟩ := plin_store IN.out t4
              have HS := Lib.hid (hset (.int .i64 9) rfl)
              clear hset
              go_wp2
              go_roundw
              case rel => exact ⟨k + 1, by omega, by go_num, HS.out⟩
              case measure => simp [intOf]; omega
            · obtain ⟨o1, o2, o3, _⟩ := IN.out
              have OXn := Lib.hid o1
              have RYn := Lib.hid o2
              have B3 := Lib.hid o3
              have k1' := B3.out.cell 1
              have LKn := Lib.hid hlp.out.2
              have WFn := Lib.hid (rPrs_wf WF.out now 4)
              obtain ⟨hln, _⟩ := hrl
              clear o1 o2 o3
              go_wp2_with fail
              obtain ⟨sn, hsn⟩ : ∃ sn, snOf btn (rPrs es now 4).1 = sn := ⟨_, rfl⟩
              have HSN := Lib.hid hsn
              clear hsn
              have hld := link_down LKn.out btn
              rw [HSN.out] at hld
              obtain ⟨q, d, t⟩ := sn
              (with_reducible refine (Since_at RYn.out btn ⟨q, d, t⟩ HSN.out (by omega)).mono ?_)
              rintro e w6 ⟨rfl, F6⟩
              have OX6 := Lib.hid (OXn.out.other0 F6.out)
              have RY6 := Lib.hid (RYn.out.fr0 F6.out)
              have B6 := Lib.hid (B3.out.fr F6.out (fun h => h))
              have k1'' := B6.out.cell 1
              have HLD := Lib.hid hld
              clear hld
              dsimp only at HLD
              have CD : Hid (∀ b, ((d && decide (0 ≤ btn)) && decide (btn < 4)) = b → Calls Try.prog 18 #[.pointer (some ⟨w1.heap.size, 0, none⟩), .int .i64 btn] w6 fun e w' => e = .returned (.bool b) ∧ w6 = w') := Lib.hid (fun b hb => Down_own OX6.out btn b (by rw [HLD.out]; exact hb))
              by_cases g0 : 0 ≤ btn
              · by_cases g1 : btn < 4
                · cases d
                  · go_wp2_with fail
                    (with_reducible refine (CD.out false (by simp)).mono ?_)
                    rintro e w7 ⟨rfl, rfl⟩
                    go_wp2
                    go_roundw
                    case rel => exact ⟨j + 1, by go_num, _, _, OX6.out, RY6.out, LKn.out, WFn.out, by omega, by omega⟩
                    case measure => simp [intOf]; omega
                  · go_wp2_with fail
                    (with_reducible refine (CD.out true (by simp [g0, g1])).mono ?_)
                    rintro e w7 ⟨rfl, rfl⟩
                    go_wp2
                    go_roundw
                    case rel => exact ⟨j + 1, by go_num, _, _, OX6.out, RY6.out, LKn.out, WFn.out, by omega, by omega⟩
                    case measure => simp [intOf]; omega
                · cases d
                  all_goals
                    go_wp2_with fail
                    (with_reducible refine (CD.out false (by simp [g1])).mono ?_)
                    rintro e w7 ⟨rfl, rfl⟩
                    go_wp2
                    go_roundw
                    case rel => exact ⟨j + 1, by go_num, _, _, OX6.out, RY6.out, LKn.out, WFn.out, by omega, by omega⟩
                    case measure => simp [intOf]; omega
              · cases d
                all_goals
                  go_wp2_with fail
                  (with_reducible refine (CD.out false (by simp [show ¬ 0 ≤ btn by omega])).mono ?_)
                  rintro e w7 ⟨rfl, rfl⟩
                  go_wp2
                  go_roundw
                  case rel => exact ⟨j + 1, by go_num, _, _, OX6.out, RY6.out, LKn.out, WFn.out, by omega, by omega⟩
                  case measure => simp [intOf]; omega
        · obtain ⟨r1, r2, ⟨Ar, cr, r3⟩, r4⟩ := RY1.out.clear
          clear r1 r2 r3 r4
          go_wp2_with fail
          clear c0 c1' c2' c3'
          (with_reducible refine (Reset_own OX1.out).mono ?_)
          rintro e w2 ⟨rfl, O2⟩
          have B2 := Lib.hid (BS1.out.fr O2.out.2 hns.out)
          have RY2 := Lib.hid (RY1.out.fr1 OX1.out.blk OX1.out.base O2.out.2)
          obtain ⟨r1, r2, ⟨Ar, cr, r3⟩, r4⟩ := RY2.out.clear
          have RYn := Lib.hid r1
          have OXn := Lib.hid (O2.out.1.other r2 (fun e => hne.out e) (fun j e => by have := RY2.out.base; subst e; exact this))
          have B3 := Lib.hid (B2.out.fr r2 (fun e => ref_ne RY1.out BS1.out (by decide) e))
          have k1' := B3.out.cell 1
          have LKn := Lib.hid link_z4
          have WFn : Hid (WfE []) := Lib.hid (fun e h => by simp at h)
          have hln : ([] : List Evt).length ≤ 0 := Nat.le_refl _
          clear r1 r2
          go_wp2_with fail
          obtain ⟨sn, hsn⟩ : ∃ sn, snOf btn ([] : List Evt) = sn := ⟨_, rfl⟩
          have HSN := Lib.hid hsn
          clear hsn
          have hld := link_down LKn.out btn
          rw [HSN.out] at hld
          obtain ⟨q, d, t⟩ := sn
          (with_reducible refine (Since_at RYn.out btn ⟨q, d, t⟩ HSN.out (by omega)).mono ?_)
          rintro e w6 ⟨rfl, F6⟩
          have OX6 := Lib.hid (OXn.out.other0 F6.out)
          have RY6 := Lib.hid (RYn.out.fr0 F6.out)
          have B6 := Lib.hid (B3.out.fr F6.out (fun h => h))
          have k1'' := B6.out.cell 1
          have HLD := Lib.hid hld
          clear hld
          dsimp only at HLD
          have CD : Hid (∀ b, ((d && decide (0 ≤ btn)) && decide (btn < 4)) = b → Calls Try.prog 18 #[.pointer (some ⟨w1.heap.size, 0, none⟩), .int .i64 btn] w6 fun e w' => e = .returned (.bool b) ∧ w6 = w') := Lib.hid (fun b hb => Down_own OX6.out btn b (by rw [HLD.out]; exact hb))
          by_cases g0 : 0 ≤ btn
          · by_cases g1 : btn < 4
            · cases d
              · go_wp2_with fail
                (with_reducible refine (CD.out false (by simp)).mono ?_)
                rintro e w7 ⟨rfl, rfl⟩
                go_wp2
                go_roundw
                case rel => exact ⟨j + 1, by go_num, _, _, OX6.out, RY6.out, LKn.out, WFn.out, by omega, by omega⟩
                case measure => simp [intOf]; omega
              · go_wp2_with fail
                (with_reducible refine (CD.out true (by simp [g0, g1])).mono ?_)
                rintro e w7 ⟨rfl, rfl⟩
                go_wp2
                go_roundw
                case rel => exact ⟨j + 1, by go_num, _, _, OX6.out, RY6.out, LKn.out, WFn.out, by omega, by omega⟩
                case measure => simp [intOf]; omega
            · cases d
              all_goals
                go_wp2_with fail
                (with_reducible refine (CD.out false (by simp [g1])).mono ?_)
                rintro e w7 ⟨rfl, rfl⟩
                go_wp2
                go_roundw
                case rel => exact ⟨j + 1, by go_num, _, _, OX6.out, RY6.out, LKn.out, WFn.out, by omega, by omega⟩
                case measure => simp [intOf]; omega
          · cases d
            all_goals
              go_wp2_with fail
              (with_reducible refine (CD.out false (by simp [show ¬ 0 ≤ btn by omega])).mono ?_)
              rintro e w7 ⟨rfl, rfl⟩
              go_wp2
              go_roundw
              case rel => exact ⟨j + 1, by go_num, _, _, OX6.out, RY6.out, LKn.out, WFn.out, by omega, by omega⟩
              case measure => simp [intOf]; omega
        · have OXn := OX1
          have RYn := RY1
          have B3 := BS1
          have LKn := LK
          have WFn := WF
          have hln : es.length ≤ es.length := Nat.le_refl _
          go_wp2_with fail
          obtain ⟨sn, hsn⟩ : ∃ sn, snOf btn es = sn := ⟨_, rfl⟩
          have HSN := Lib.hid hsn
          clear hsn
          have hld := link_down LKn.out btn
          rw [HSN.out] at hld
          obtain ⟨q, d, t⟩ := sn
          (with_reducible refine (Since_at RYn.out btn ⟨q, d, t⟩ HSN.out (by omega)).mono ?_)
          rintro e w6 ⟨rfl, F6⟩
          have OX6 := Lib.hid (OXn.out.other0 F6.out)
          have RY6 := Lib.hid (RYn.out.fr0 F6.out)
          have B6 := Lib.hid (B3.out.fr F6.out (fun h => h))
          have k1'' := B6.out.cell 1
          have HLD := Lib.hid hld
          clear hld
          dsimp only at HLD
          have CD : Hid (∀ b, ((d && decide (0 ≤ btn)) && decide (btn < 4)) = b → Calls Try.prog 18 #[.pointer (some ⟨w1.heap.size, 0, none⟩), .int .i64 btn] w6 fun e w' => e = .returned (.bool b) ∧ w6 = w') := Lib.hid (fun b hb => Down_own OX6.out btn b (by rw [HLD.out]; exact hb))
          by_cases g0 : 0 ≤ btn
          · by_cases g1 : btn < 4
            · cases d
              · go_wp2_with fail
                (with_reducible refine (CD.out false (by simp)).mono ?_)
                rintro e w7 ⟨rfl, rfl⟩
                go_wp2
                go_roundw
                case rel => exact ⟨j + 1, by go_num, _, _, OX6.out, RY6.out, LKn.out, WFn.out, by omega, by omega⟩
                case measure => simp [intOf]; omega
              · go_wp2_with fail
                (with_reducible refine (CD.out true (by simp [g0, g1])).mono ?_)
                rintro e w7 ⟨rfl, rfl⟩
                go_wp2
                go_roundw
                case rel => exact ⟨j + 1, by go_num, _, _, OX6.out, RY6.out, LKn.out, WFn.out, by omega, by omega⟩
                case measure => simp [intOf]; omega
            · cases d
              all_goals
                go_wp2_with fail
                (with_reducible refine (CD.out false (by simp [g1])).mono ?_)
                rintro e w7 ⟨rfl, rfl⟩
                go_wp2
                go_roundw
                case rel => exact ⟨j + 1, by go_num, _, _, OX6.out, RY6.out, LKn.out, WFn.out, by omega, by omega⟩
                case measure => simp [intOf]; omega
          · cases d
            all_goals
              go_wp2_with fail
              (with_reducible refine (CD.out false (by simp [show ¬ 0 ≤ btn by omega])).mono ?_)
              rintro e w7 ⟨rfl, rfl⟩
              go_wp2
              go_roundw
              case rel => exact ⟨j + 1, by go_num, _, _, OX6.out, RY6.out, LKn.out, WFn.out, by omega, by omega⟩
              case measure => simp [intOf]; omega
      · go_wp2
        go_ret
        exact ⟨rfl, OX.out.fr.below0⟩
    · go_wp2
      go_ret
      exact ⟨rfl, OX.out.fr.below0⟩
end Go.Proofs.Ytccehjcfphimgaa
