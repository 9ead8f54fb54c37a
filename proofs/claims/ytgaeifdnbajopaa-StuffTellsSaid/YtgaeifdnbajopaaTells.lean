/- The walk of StuffTells. -/
import Derived.Test.YtgaeifdnbajopaaRef3
import Derived.Deep.QuietTactic
namespace Go.Proofs.Ytgaeifdnbajopaa.K
open Go.RowKit Go.Proofs.YtgaeifdnbajopaaW.PrintWords Go.Proofs.YtgaeifdnbajopaaW.PrintLast Go.Proofs.YtgaeifdnbajopaaW.PrintMore
attribute [local go_sem] min2_min min_two
set_option linter.unusedVariables false
set_option linter.unusedSimpArgs false
/-- A row of the call's own: one byte of it, and the row behind a store there. -/
theorem own_put {base : Nat} {e : TypeId} {w : World} {A : Option Addr} {n c : Nat} {xs : List Value} {i : Nat} (h : w.ownsRow base e 1 (.slice A n c) n xs) (hi : i < n) :
    ∃ g x, A = some ⟨g, 0, none⟩ ∧ base ≤ g ∧ g < w.heap.size ∧ w.cell? ⟨g, i, none⟩ = some x ∧ w.frozen? ⟨g, i, none⟩ = false ∧ ∀ u, (w.setCell ⟨g, i, none⟩ u).ownsRow base e 1 (.slice (some ⟨g, 0, none⟩) n c) n (xs.set i u) := by
  obtain ⟨g, cap, hv, hb, hlt⟩ := h.form (by omega)
  have hA : A = some ⟨g, 0, none⟩ := by injection hv
  subst hA
  have hl : i < xs.length := by have := h.1; omega
  exact ⟨g, xs[i], rfl, hb, hlt, (h.cellAt i (by omega)).trans (List.getElem?_eq_getElem hl), h.frozenAt i, fun u => (h.stored i u).1⟩

set_option maxHeartbeats 4000000 in
set_option maxRecDepth 10000 in
theorem tells_walk (A : Option Addr) (c : Nat) (zs : List Int) (hc : zs.length ≤ c) (w : World) (h0 : RowOf c8 1 w w.heap.size A zs) (b0 : ∀ x ∈ zs, 0 ≤ x ∧ x < 256) :
    Calls Try.prog 3 #[.slice A zs.length c] w fun e w' => e = .returned (.bool true) ∧ Below w.heap.size w w' := by
  obtain ⟨n, hn, hn1, hn2⟩ := min_nat zs.length 3000
  have hcut := fun W => cut8 A zs.length c n hn1 hc W
  obtain ⟨l, hl⟩ : ∃ l, l = zs.take n := ⟨_, rfl⟩
  have hln : n = l.length := by rw [hl, List.length_take]; omega
  subst hln
  have HR := Lib.hid (hl ▸ h0.take_ l.length : RowOf c8 1 w w.heap.size A l)
  have hb0 : ∀ x ∈ l, (0 : Int) ≤ x ∧ x < 256 := fun x hx => b0 x (by rw [hl] at hx; exact List.mem_of_mem_take hx)
  have HI : Hid (InB l) := Lib.hid hb0
  obtain ⟨z, f, hzf⟩ : ∃ z f, unst false l [] = (z, f) := ⟨_, _, rfl⟩
  have HU := Lib.hid hzf
  have HZL := unst_len l z f hzf hb0
  have hzl : z.length ≤ 3000 := by omega
  clear h0 b0 hl hc hb0 hzf HZL
  have hmin : min (zs.length : Int) 3000 = (l.length : Int) := hn
  have hll := stf_len l
  clear hn
  go_enter Try.func3, Try.ntmps3
  go_wp2_with fail
  refine (shown3 _).mono ?_
  rintro e w1 ⟨rfl, H1⟩
  have HR1 := Lib.hid (HR.out.now H1.out)
  go_wp2_with (at_builtin; refine appR (c := c8) rfl _ _ _ rfl 5 (.int .u8 0) 1 1 Try.underlying22 info_u8 rfl (by omega) (by omega) (fun _ => rfl) (fun y u hu => by simp at hu; subst hu; rfl) w1.heap.size w1.heap.size _ [] l _ _ rfl rfl (RowOf.below HR1.out ((Below.refl _ w1).alloc (Nat.le_refl _) _)) (World.ownsRow_lit w1 #[] 0 (Nat.le_refl _) (by decide) rfl) (by simp) (by simp; omega) ?_; intro v2 w2 h3 h4 h5; have F1 := Lib.hid (lit_step h4); have G1 : Hid (w2.ownsRow w1.heap.size 5 1 v2 l.length (l.flatMap c8)) := Lib.hid h3; clear h3 h4 h5; obtain ⟨A2, c2, rfl, hc2⟩ := own_form G1.out; have hs2 := str_row (c := c2) (by omega) (row_own (c := c8) (size := 1) (fun _ => rfl) G1.out))
  have BR2 := Lib.hid (row_own (c := c8) (size := 1) (fun _ => rfl) G1.out)
  have H2 := Lib.hid (H1.out.trans (F1.out.mono H1.out.size))
  clear hmin hcut HR1 H1 hs2
  (with_reducible refine (StuffC (l := l) (by omega) _ BR2.out).mono ?_)
  rintro e w3 ⟨A3, c3, rfl, hc3, OX3, HX3, HB3⟩
  have BR3 := Lib.hid (BR2.out.now HB3.out)
  go_wp2_with fail
  (with_reducible refine (UnstuffC (l := l) (by omega) HU.out _ BR3.out).mono ?_)
  rintro e w4 ⟨A4, c4, rfl, hc4, OY4, HY4, HB4⟩
  have OX4 : Hid (w4.ownsRow w2.heap.size 5 1 (.slice A3 (stf l).length c3) (stf l).length (nums .u8 (stf l))) := Lib.hid (own_fr OX3.out (Fr.of_below HB4.out) (fun _ _ h => h))
  have HX4 := Lib.hid (HX3.out.now HB4.out)
  have HB24 := Lib.hid (HB3.out.trans (HB4.out.mono HB3.out.size))
  have hx4 : ∀ g, (Value.slice A3 (stf l).length c3).ownBlock = some g → g < w3.heap.size := fun g hg => (OX3.out.lt g hg).2
  have HX := Lib.hid hx4
  clear HX3 OX3 HB4 BR3 hx4
  go_wp2_with fail
  (with_reducible refine (RUnstuffC l z f HI.out (by omega) HU.out _).mono ?_)
  rintro e w5 ⟨rfl, hb5⟩
  have HB5 := Lib.hid hb5
  have OX5 := Lib.hid (own_fr OX4.out (Fr.of_below HB5.out) (fun _ _ h => h))
  have OY5 := Lib.hid (own_fr OY4.out (Fr.of_below HB5.out) (fun _ _ h => h))
  have HX5 := Lib.hid (HX4.out.now HB5.out)
  have HY5 := Lib.hid (HY4.out.now HB5.out)
  have HB25 := Lib.hid (HB24.out.trans (HB5.out.mono HB24.out.size))
  clear hb5 HB5 OX4 OY4 HX4 HY4 HB24
  have s1 := fun n => str_row (c := c3) (by omega) (HX5.out.drewN n)
  have s2 := fun n => str_row (c := c4) (by omega) (HY5.out.drewN n)
  go_wp2_with fail
  go_quiet ((go_at_call 14; refine Calls.quiet_of ((RStuffC l HI.out (by omega) _).mono fun _ _ h => ⟨h.1, h.2.out⟩)))
  have OX6 := Lib.hid (pw_own_drewN OX5.out nq)
  have OY6 := Lib.hid (pw_own_drewN OY5.out nq)
  have H6 := Lib.hid (pw_below_drewN HB25.out nq)
  clear s1 s2 OX5 OY5 HX5 HY5 HB25
  go_wp2
  go_loopw [10] (fun i wr => ∃ (k : Nat) (xs : List Value), i = .int .i64 k ∧ k ≤ (stf l).length ∧ wr.ownsRow w2.heap.size 5 1 (.slice A3 (stf l).length c3) (stf l).length xs ∧ wr.ownsRow w3.heap.size 5 1 (.slice A4 z.length c4) z.length (nums .u8 z) ∧ Below w2.heap.size w2 wr) (fun i _ => (stf l).length - (intOf i).toNat)
  case atStart => exact ⟨0, _, rfl, by omega, OX6.out, OY6.out, H6.out⟩
  case round =>
    clear OX6 OY6 H6
    obtain ⟨k, xs, rfl, hk, hox, hoy, hb⟩ := hrel
    have OY := Lib.hid hoy
    have HB := Lib.hid hb
    by_cases hlt : k < (stf l).length
    · obtain ⟨g, x, rfl, hg, hg2, hcell, hfz, hset⟩ := own_put hox hlt
      have HS := Lib.hid hset
      have hgb := Lib.hid hg
      have hg3 := Lib.hid (HX.out g rfl)
      clear hox hoy hb hset hg hg2
      go_wp2
      go_roundw
      case rel => exact ⟨k + 1, _, by go_num, by omega, HS.out _, own_setCell OY.out (fun e => by have h1 := (OY.out.lt g e.symm).1; have h2 := hg3.out; omega) _, HB.out.setCell hgb.out _⟩
      case measure => simp [intOf]; omega
    · obtain rfl : k = (stf l).length := by omega
      clear hox hoy hb hlt hk
      go_wp2
      go_loopw [11] (fun i wr' => ∃ (k : Nat) (ys : List Value), i = .int .i64 k ∧ k ≤ z.length ∧ wr'.ownsRow w3.heap.size 5 1 (.slice A4 z.length c4) z.length ys ∧ Below w2.heap.size w2 wr') (fun i _ => z.length - (intOf i).toNat)
      case atStart => exact ⟨0, _, rfl, by omega, OY.out, HB.out⟩
      case round =>
        clear OY HB
        obtain ⟨k, ys, rfl, hk, hoy, hb⟩ := hrel
        have HB := Lib.hid hb
        by_cases hlt : k < z.length
        · obtain ⟨g, x, rfl, hg, hg2, hcell, hfz, hset⟩ := own_put hoy hlt
          have HS := Lib.hid hset
          have hgb := Lib.hid (Nat.le_trans HB3.out.size hg)
          clear hoy hb hset hg hg2
          go_wp2
          go_roundw
          case rel => exact ⟨k + 1, _, by go_num, by omega, HS.out _, HB.out.setCell hgb.out _⟩
          case measure => simp [intOf]; omega
        · obtain rfl : k = z.length := by omega
          have s3 := str_row (c := c2) (by omega) (RowOf.below BR2.out HB.out)
          clear hoy hb hlt hk
          go_wp2
          go_ret
          exact ⟨rfl, H2.out.trans (HB.out.mono H2.out.size)⟩
end Go.Proofs.Ytgaeifdnbajopaa.K
