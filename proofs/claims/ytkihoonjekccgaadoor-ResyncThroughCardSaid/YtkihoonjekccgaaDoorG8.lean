/- What must come in any case: layer 5's shown. -/
import Derived.Test.YtkihoonjekccgaaDoorG7
namespace Go.Proofs.YtkihoonjekccgaaDoor.K
open Go.RowKit
set_option linter.unusedVariables false
set_option linter.unusedSimpArgs false
attribute [local go_sem] min2_min min_two
abbrev La5 : List Int := [126, 1, 3, 2, 0, 0, 78, 225, 126]
abbrev Lb5 : List Int := [126, 2, 2, 0, 0, 1, 120, 13, 125, 93, 126]
theorem encA5 : encL ⟨1, 3, 2, 0, 0, []⟩ = La5 := of_decide_eq_true (by kernel_rfl)
theorem encB5 : encL ⟨2, 2, 0, 0, 0, [120]⟩ = Lb5 := of_decide_eq_true (by kernel_rfl)
abbrev noise5 : List Int := [110, 111, 105, 115, 101]
theorem feed_n5 : feedD noise5 d0 = (⟨d0.n, noise5, false⟩, []) := by kernel_rfl
theorem feed_a5 : feedD La5 ⟨d0.n, noise5, false⟩ = (⟨[0, 0, 1, 0, 0, 0, 0, 0, 0, 0, 0, 0], [], false⟩, [⟨1, 3, 2, 0, 0, []⟩]) := by kernel_rfl
theorem feed_b5 : feedD (Lb5.drop 1) ⟨[0, 0, 1, 0, 0, 0, 0, 0, 0, 0, 0, 0], [], false⟩ = (⟨[0, 0, 1, 0, 0, 0, 0, 0, 0, 0, 0, 0], [], false⟩, [⟨2, 2, 0, 0, 0, [120]⟩]) := by kernel_rfl
set_option maxHeartbeats 1000000 in
set_option maxRecDepth 10000 in
theorem shown5_walk {w : World} (hT : Turns w) : Calls Tryd.prog 9 #[] w fun e w' => e = .returned (.bool true) ∧ Hid (Below w.heap.size w w') := by
  have HTB : Hid (∀ w' : World, Below w.heap.size w w' → Turns w') := Lib.hid (fun w' b => hT.below b hT.lt)
  have HOKa : Hid ((⟨1, 3, 2, 0, 0, []⟩ : Fp).ok) := Lib.hid ⟨by simp, by simp, by simp, by simp, by simp, inB_of (by decide)⟩
  have HOKb : Hid ((⟨2, 2, 0, 0, 0, [120]⟩ : Fp).ok) := Lib.hid ⟨by simp, by simp, by simp, by simp, by simp, inB_of (by decide)⟩
  have HT := Lib.hid hT
  clear hT
  go_enter Tryd.func9, Tryd.ntmps9
  go_wp2_with fail
  refine Calls.mono (EncodeE (L := La5) (n := 9) HOKa.out (by decide) encA5 rfl rfl w HT.out row_none (fun ad e => by cases e)) ?_
  rintro e w1 ⟨A1, c1, rfl, M1, D1⟩
  have hs1 := D1.out.size
  have HL1 := Lib.hid (made_lt M1.out)
  have kc := kconv w1
  go_wp2_with fail
  obtain ⟨W1, hW1⟩ : ∃ W1, w1.alloc (.cells #[.int .u8 120] 5 (1, 2)) = W1 := ⟨_, rfl⟩
  have HB1 : Hid (Below w1.heap.size w1 W1) := Lib.hid (hW1 ▸ (Below.refl _ w1).alloc (Nat.le_refl _) _)
  have HR1 : Hid (RowOf c8 1 W1 W1.heap.size (some ⟨w1.heap.size, 0, none⟩) [120]) := Lib.hid (hW1 ▸ row_lit (l := [120]) (heap_alloc_new w1 _) (by simp))
  have B1 := Lib.hid (D1.out.trans (HB1.out.mono hs1))
  have hsW : W1.heap.size = w1.heap.size + 1 := by rw [← hW1]; simp
  have M1' := Lib.hid (M1.out.below HB1.out (Nat.le_refl _))
  rw [hW1]
  clear hW1 M1 kc
  refine Calls.mono (EncodeE (L := Lb5) (n := 11) HOKb.out (by decide) encB5 rfl rfl W1 (HTB.out _ B1.out) HR1.out (fun ad e => by obtain rfl := Option.some.inj e; show w1.heap.size < _; omega)) ?_
  rintro e w2 ⟨A2, c2, rfl, M2, D2⟩
  have hs2 := D2.out.size
  obtain ⟨g2, rfl, _, hg2⟩ := M2.out.at0 (by decide)
  have hc2 : 11 ≤ c2 := M2.out.2.2
  have hcm2 := made_cap M2.out
  have B2 := Lib.hid (B1.out.trans (D2.out.mono B1.out.size))
  have M1 := Lib.hid (M1'.out.below D2.out (Nat.le_refl _))
  clear M1' HR1 HB1 D1
  have kc1 := kconv1 w2 (.cells Tryd.zeroCells30 30)
  go_wp2_with fail
  obtain ⟨W2, hW2⟩ : ∃ W2, (w2.alloc (.cells Tryd.zeroCells30 30)).alloc (.cells #[.int .u8 110, .int .u8 111, .int .u8 105, .int .u8 115, .int .u8 101] 5 (5, 6)) = W2 := ⟨_, rfl⟩
  have HB2 : Hid (Below w2.heap.size w2 W2) := Lib.hid (hW2 ▸ ((Below.refl _ w2).alloc (Nat.le_refl _) _).alloc (by simp) _)
  have HR2 : Hid (RowOf c8 1 W2 W2.heap.size (some ⟨w2.heap.size + 1, 0, none⟩) noise5) := Lib.hid (hW2 ▸ row_lit (l := noise5) (heap_new_at (by simp)) (by simp))
  have HG2 : Hid (DecB W2 w2.heap.size d0) := Lib.hid (hW2 ▸ (dec_zero w2).below ((Below.refl _ _).alloc (Nat.le_refl _) _) (by simp))
  have B3 := Lib.hid (B2.out.trans (HB2.out.mono B2.out.size))
  have hsW2 : W2.heap.size = w2.heap.size + 2 := by rw [← hW2]; simp
  have M1' := Lib.hid (M1.out.below HB2.out (Nat.le_refl _))
  have M2' := Lib.hid (M2.out.below HB2.out (Nat.le_refl _))
  rw [hW2]
  clear hW2 M1 M2 kc1 B1 B2 HB2 D2
  refine Calls.mono (FeedE (w := W2) (K := 0) rfl feed_n5 rfl HG2.out d0_ok (by decide) (HTB.out _ B3.out) (inB_of (by decide)) (by decide) HR2.out (fun ad e => by obtain rfl := Option.some.inj e; simp; omega)) ?_
  rintro e w3 ⟨A3, c3, xs3, rfl, O3, X3, G3, F3⟩
  have B4 := Lib.hid (fr1_below B3.out F3.out (by omega) (Nat.le_refl _))
  have hs3 := F3.out.size
  clear HR2 HG2 B3
  have R1 := Lib.hid ((row_fr M1'.out.2.1 F3.out (fun ad e => by have := HL1.out ad e; omega)).more_ hs3)
  have R2 := Lib.hid ((row_fr M2'.out.2.1 F3.out (fun ad e => by obtain rfl := Option.some.inj e; simp only; omega)).more_ hs3)
  clear M1' M2' F3 X3 O3
  go_wp2_with fail
  refine Calls.mono (heldE (n := 5) G3.out rfl) ?_
  rintro e w' ⟨rfl, rfl⟩
  go_wp2_with fail
  refine Calls.mono (FeedE (w := w3) (K := 1) rfl feed_a5 rfl G3.out ⟨rfl, by simp [d0], by decide, inB_of (by decide), by decide⟩ (by decide) (HTB.out _ B4.out) (inB_of (by decide)) (by decide) R1.out (fun ad e => by have := HL1.out ad e; omega)) ?_
  rintro e w4 ⟨A4, c4, xs4, rfl, O4, X4, G4, F4⟩
  have B5 := Lib.hid (fr1_below B4.out F4.out (by omega) (Nat.le_refl _))
  have hs4 := F4.out.size
  have R2' := Lib.hid ((row_fr R2.out F4.out (fun ad e => by obtain rfl := Option.some.inj e; simp only; omega)).more_ hs4)
  have hl1 : ∀ W, (Instr.slice 32 (.slice (some ⟨g2, 0, none⟩) 11 c2) (some (.int .i64 1)) none none).run Tryd.prog W = .ok (.slice (some ⟨g2, 1, none⟩) 10 (c2 - 1)) W := fun W => bcut_lo_lit g2 11 c2 1 (by omega) (by omega) (by omega) hcm2 W
  clear R1 R2 G3 B4 F4
  go_wp2_with fail
  clear hl1
  refine Calls.mono (FeedE (w := w4) (K := 2) rfl feed_b5 rfl G4.out ⟨rfl, by simp <;> omega, by decide, inB_of (by decide), by decide⟩ (by decide) (HTB.out _ B5.out) (inB_of (by decide)) (by decide) (R2'.out.cut_lit (c := c2) 1 (by simp; omega) (by omega)) (fun ad e => by obtain rfl := Option.some.inj e; simp only; omega)) ?_
  rintro e w5 ⟨A5, c5, xs5, rfl, O5, X5, G5, F5⟩
  have hs5 := F5.out.size
  have O4' := Lib.hid (O4.out.fr F5.out (fun j hj _ e => by omega))
  have B6 := Lib.hid (fr1_below B5.out F5.out (by omega) (Nat.le_refl _))
  clear O4 R2' G4 F5 B5
  go_wp2_with fail
  refine Calls.mono (errC G5.out) ?_
  rintro e w6 ⟨rfl, D6⟩
  obtain ⟨gb4, A6, c6, rfl, hb4, hl4, i0, i1, i2, i3, i4, i5, M6⟩ := out_one (O4'.out.fr (Fr.of_below D6.out) (fun _ _ _ h => h)) X4.out
  obtain ⟨gb5, A7, c7, rfl, hb5, hl5, j0, j1, j2, j3, j4, j5, M7⟩ := out_one (O5.out.fr (Fr.of_below D6.out) (fun _ _ _ h => h)) X5.out
  have G6 := Lib.hid (G5.out.fr (Fr.of_below D6.out) (fun h => h))
  simp only at i2 j5
  have s7 : (convert 32 9 (.slice A7 1 c7)).run Tryd.prog (w6.alloc (.cells #[.int .i64 0, .int .i64 0, .int .i64 1, .int .i64 0, .int .i64 0, .int .i64 0, .int .i64 0, .int .i64 0, .int .i64 0, .int .i64 0, .int .i64 0, .int .i64 0] 25)) = .ok (.string ⟨#[120]⟩) _ := str_row (l := [120]) (M7.2.1.now ((Below.refl _ w6).alloc (Nat.le_refl _) _))
  have G6' : Hid (DecB (w6.alloc (.cells #[.int .i64 0, .int .i64 0, .int .i64 1, .int .i64 0, .int .i64 0, .int .i64 0, .int .i64 0, .int .i64 0, .int .i64 0, .int .i64 0, .int .i64 0, .int .i64 0] 25)) w2.heap.size _) := Lib.hid (G6.out.fr ((Fr.refl (fun _ => False) w6).alloc _) (fun h => h))
  have B7 := Lib.hid ((B6.out.trans (D6.out.mono B6.out.size)).alloc (B6.out.trans (D6.out.mono B6.out.size)).size (.cells #[.int .i64 0, .int .i64 0, .int .i64 1, .int .i64 0, .int .i64 0, .int .i64 0, .int .i64 0, .int .i64 0, .int .i64 0, .int .i64 0, .int .i64 0, .int .i64 0] 25))
  clear M6 M7 O5 O4' X4 X5 i0 i1 i3 i4 i5 j0 j1 j2 j3 j4 D6 G5 G6
  go_wp2_with fail
  refine Calls.mono (heldE (n := 0) G6'.out rfl) ?_
  rintro e w' ⟨rfl, rfl⟩
  go_wp2
  go_ret
  exact ⟨rfl, B7⟩
end Go.Proofs.YtkihoonjekccgaaDoor.K
