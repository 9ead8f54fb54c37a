/- Orders: what is shown in any case. -/
import Derived.Test.YtigknfkkegccgaaDoorOBa
import Derived.Test.YtigknfkkegccgaaDoorO5
import Derived.Test.YtigknfkkegccgaaDoorSh1
namespace Go.Proofs.YtigknfkkegccgaaDoor.K
open Go.RowKit
set_option linter.unusedVariables false
set_option linter.unusedSimpArgs false
attribute [local go_sem ↓] Go.wp_at_zero Go.wp_at_succ
theorem BytesE {A : Option Addr} {c n : Nat} {id : Int} {ls : List Ln} {L : List Int} {w : World} (hL : bytesO id ls = L) (hn : L.length = n) (hr : RowOf cL 3 w w.heap.size A ls) (hid : 0 ≤ id ∧ id < 4294967296) {k : Nat} (hk : ls.length = k) (hc : k ≤ c) (ho : ∀ l ∈ ls, l.ok) (hz : rightO ls = 0) :
    Calls Tryd.prog 12 #[.agg #[.int .u32 id, .slice A k c]] w fun e w' => ∃ A' c', e = .returned (.tuple #[.slice A' n c', .int .i64 0]) ∧ Hid (Made w.heap.size A' c' L w') ∧ Hid (Below w.heap.size w w') := by
  subst hL hn hk
  exact BytesC hr (Nat.le_refl _) hid hc ho hz
theorem ParseE {A : Option Addr} {c n k : Nat} {id e0 : Int} {ls : List Ln} {b : List Int} {w : World} (hp : parseO b = (e0, id, ls)) (hk : ls.length = k) (hn : b.length = n) (hr : RowOf c8 1 w w.heap.size A b) (hi : InB b) (hl : n ≤ 1000) :
    Calls Tryd.prog 15 #[.slice A n c] w fun e w' => ∃ A' c', e = .returned (.tuple #[.agg #[.int .u32 id, .slice A' k c'], .int .i64 e0]) ∧ Hid (MadeL w.heap.size A' c' ls w') ∧ Hid (Below w.heap.size w w') := by
  subst hk hn
  have := ParseC (c := c) hr hi hl
  rw [hp] at this
  exact this
theorem row_blk1 {w : World} {g B : Nat} {l : Ln} (h : Blk w g 51 (lvs l)) (hg : g < B) : RowOf cL 3 w B (some ⟨g, 0, none⟩) [l] := by
  intro i y hy
  have hi : i = 0 := by
    have := (List.getElem?_eq_some_iff.1 hy).1
    simpa using this
  subst hi
  simp at hy; subst hy
  refine ⟨_, rfl, hg, fun j u hu => ?_⟩
  rw [add_plain, h.cell]
  simpa using hu
theorem own_lit1 {W : World} {k : Nat} (hk : W.heap.size = k) (n : Int) : (W.alloc (.cells #[.int .u8 n] 5)).ownsRow k 5 1 (.slice (some ⟨k, 0, none⟩) 1 1) [n].length ([n].flatMap c8) := by
  subst hk
  exact World.ownsRow_lit W #[.int .u8 n] 1 (Nat.le_refl _) (by decide) rfl
abbrev L14 : List Int := [0, 0, 1, 2, 1, 0, 1, 0, 2, 39, 15]
theorem ok14 {q : Int} (h0 : 0 ≤ q) (h1 : q ≤ 100000) : ∀ l ∈ [(⟨1, 2, q⟩ : Ln)], l.ok := by
  intro l hl
  rw [List.mem_singleton] at hl
  subst hl
  exact ⟨⟨by simp only; omega, by simp only; omega⟩, ⟨by simp only; omega, by simp only; omega⟩, ⟨by simp only; omega, by simp only; omega⟩⟩
theorem bytes14 : bytesO 258 [⟨1, 2, 9999⟩] = L14 := by decide
theorem parse14 : parseO L14 = (0, 258, [⟨1, 2, 9999⟩]) := by decide
theorem parse14b : parseO (0 :: L14) = (2, 0, []) := by decide
set_option maxHeartbeats 8000000 in
set_option maxRecDepth 20000 in
theorem shown14_walk {w : World} : Calls Tryd.prog 9 #[] w fun e w' => e = .returned (.bool true) ∧ Hid (Below w.heap.size w w') := by
  go_enter Tryd.func9, Tryd.ntmps9
  go_wp2_with fail
  obtain ⟨W0, hW0⟩ : ∃ W0, W0 = (w.alloc (.cells #[.int .u16 1, .int .u16 2, .int .i64 9999] 51)).alloc (.cells #[.int .u32 258, .slice (some ⟨w.heap.size, 0, none⟩) 1 1] 25) := ⟨_, rfl⟩
  have hs0 : W0.heap.size = w.heap.size + 2 := by rw [hW0]; simp
  have B0 : Hid (Below w.heap.size w W0) := Lib.hid (by rw [hW0]; exact ((Below.refl _ w).alloc (Nat.le_refl _) _).alloc (by simp) _)
  have hL0 : Blk W0 w.heap.size 51 (lvs ⟨1, 2, 9999⟩) := by rw [hW0]; exact (Blk.new w _ _).alloc _
  have HR0 : Hid (RowOf cL 3 W0 W0.heap.size (some ⟨w.heap.size, 0, none⟩) [⟨1, 2, 9999⟩]) := Lib.hid (row_blk1 hL0 (by omega))
  have HK0 : Hid (Blk W0 (w.heap.size + 1) 25 #[.int .u32 258, .slice (some ⟨w.heap.size, 0, none⟩) 1 1]) := Lib.hid (by rw [hW0]; exact Blk.new_at (by simp))
  rw [← hW0]
  clear hW0 hL0
  refine Calls.mono (BytesE bytes14 (n := 11) rfl HR0.out (by decide) (k := 1) rfl (Nat.le_refl _) (ok14 (by decide) (by decide)) (by decide)) ?_
  rintro e w1 ⟨A1, c1, rfl, M1, D1⟩
  have B1 := Lib.hid (B0.out.trans (D1.out.mono B0.out.size))
  have R1 := Lib.hid M1.out.2.1
  have K1 := Lib.hid (HK0.out.below D1.out HK0.out.lt)
  have Q1 := Lib.hid (HR0.out.now D1.out)
  have hs1 := D1.out.size
  clear M1 D1 HK0 HR0
  go_wp2_with fail
  refine Calls.mono (ParseE parse14 (k := 1) rfl (n := 11) rfl R1.out (inB_of (by decide)) (by omega)) ?_
  rintro e w2 ⟨A2, c2, rfl, M2, D2⟩
  obtain ⟨W2, hW2⟩ : ∃ W2, W2 = w2.alloc (.cells #[.int .u32 258, .slice A2 1 c2] 25) := ⟨_, rfl⟩
  have hs2 := D2.out.size
  have E2 : Below w1.heap.size w1 W2 := by rw [hW2]; exact D2.out.alloc hs2 _
  have KX : Hid (Blk W2 w2.heap.size 25 #[.int .u32 258, .slice A2 1 c2]) := Lib.hid (by rw [hW2]; exact Blk.new _ _ _)
  have QX : Hid (RowOf cL 3 W2 W2.heap.size A2 [⟨1, 2, 9999⟩]) := Lib.hid (M2.out.2.1.now (by rw [hW2]; exact (Below.refl _ _).alloc (Nat.le_refl _) _))
  have B2 := Lib.hid (B1.out.trans (E2.mono B1.out.size))
  have R2 := Lib.hid (R1.out.now E2)
  have K2 := Lib.hid (K1.out.below E2 K1.out.lt)
  have Q2 := Lib.hid (Q1.out.now E2)
  have hs2' : W2.heap.size = w2.heap.size + 1 := by rw [hW2]; simp
  have hs2l : (w2.alloc (.cells #[.int .u32 258, .slice A2 1 c2] 25)).heap.size = w2.heap.size + 1 := by simp
  clear M2 D2 E2 R1 K1 Q1
  subst hW2
  have HO3 := Lib.hid (own_lit1 hs2l 0)
  have HR3 := Lib.hid (R2.out.below ((Below.refl _ _).alloc (Nat.le_refl _) (.cells #[.int .u8 0] 5)))
  clear hs2l
  go_wp2_with (at_builtin; go_loud (refine appR (c := c8) rfl _ _ _ rfl 5 (.int .u8 0) 1 1 Tryd.underlying26 info_u8 rfl (by omega) (by omega) (fun _ => rfl) (fun y u hu => by simp at hu; subst hu; rfl) (w2.heap.size + 1) _ _ [0] L14 _ _ rfl rfl HR3.out HO3.out (by simp) (by decide) ?_; intro v3 w3 h3 h4 h5; have F3 : Hid (Below (w2.heap.size + 1) (w2.alloc (.cells #[.int .u32 258, .slice A2 1 c2] 25)) w3) := Lib.hid ((((Fr.refl (fun _ => False) _).alloc _).trans h4 (fun j hj e => by have := Option.some.inj e; simp at this; simp at hj; omega)).below0.mono (by simp)); obtain ⟨A3, c3, rfl, hm3⟩ := made_of (B := w2.heap.size + 1) (v := v3) (l := 0 :: L14) (by rw [nums_flat]; exact h3); have M3 := Lib.hid hm3; clear h3 h4 h5 hm3))
  have hB2 := hs2'
  have HA1 : Hid (w.heap.size + 2 ≤ w2.heap.size) := Lib.hid (by omega)
  generalize w2.alloc (.cells #[.int .u32 258, .slice A2 1 c2] 25) = W2 at *
  generalize w2.heap.size = px at *
  clear HO3 HR3 hs2 hs1 hs0 B0 B1 w2 w1
  have D3 : Hid (Below W2.heap.size W2 w3) := Lib.hid (hB2 ▸ F3.out)
  clear F3 hs2'
  refine Calls.mono (ParseE parse14b (k := 0) rfl (n := 12) rfl M3.out.2.1 (inB_of (by decide)) (by omega)) ?_
  rintro e w4 ⟨A4, c4, rfl, M4, D4⟩
  have D4' := Lib.hid (((D3.out.trans (D4.out.mono D3.out.size)).alloc (Nat.le_trans D3.out.size D4.out.size) (.cells #[.int .u32 0, .slice A4 0 c4] 25)).alloc (by have := Nat.le_trans D3.out.size D4.out.size; simp; omega) (.cells #[.int .u16 1, .int .u16 2, .int .i64 10000] 51))
  have HR4 : Hid (RowOf cL 3 ((w4.alloc (.cells #[.int .u32 0, .slice A4 0 c4] 25)).alloc (.cells #[.int .u16 1, .int .u16 2, .int .i64 10000] 51)) (w4.heap.size + 2) (some ⟨w4.heap.size + 1, 0, none⟩) [⟨1, 2, 10000⟩]) := Lib.hid (row_blk1 (Blk.new_at (by simp)) (by omega))
  have hs4 : (((w4.alloc (.cells #[.int .u32 0, .slice A4 0 c4] 25)).alloc (.cells #[.int .u16 1, .int .u16 2, .int .i64 10000] 51))).heap.size = w4.heap.size + 2 := by simp
  clear M3 M4 D3 D4
  go_wp2_with fail
  generalize (w4.alloc (.cells #[.int .u32 0, .slice A4 0 c4] 25)).alloc (.cells #[.int .u16 1, .int .u16 2, .int .i64 10000] 51) = W5 at *
  have q1 : w4.heap.size + 2 ≤ W5.heap.size := by omega
  have q2 : rightO [⟨1, 2, 10000⟩] ≠ 0 := by decide
  have q3 : ∀ l ∈ [(⟨1, 2, 10000⟩ : Ln)], l.ok := ok14 (by decide) (by decide)
  have q5 : rightO [⟨1, 2, 10000⟩] = 10 := by decide
  have q4 := BytesNo (c := 1) (id := 1) HR4.out q1 (by simp) (Nat.le_refl _) q3 q2
  rw [q5] at q4
  clear q1 q2 q3 q5
  refine Calls.mono q4 ?_
  rintro e w6 ⟨rfl, D6⟩
  clear q4
  have D6' := Lib.hid (D4'.out.trans (D6.out.mono D4'.out.size))
  clear D4' D6 HR4 hs4
  go_wp2_with fail
  have qq1 := NewBookC w6
  refine Calls.mono qq1 ?_
  rintro e w7 ⟨b, g, rfl, HB7, HF7⟩
  clear qq1
  have D7 := Lib.hid (D6'.out.trans (HF7.out.below0.mono D6'.out.size))
  have hB0 := D6'.out.size
  have K7 := K2.out.below D7.out K2.out.lt
  have k0 := K7.cell 0
  have k1 := K7.cell 1
  have HQ : Hid (∀ w', Below W2.heap.size W2 w' → RowOf cL 3 w' w'.heap.size (some ⟨w.heap.size, 0, none⟩) [⟨1, 2, 9999⟩]) := Lib.hid (fun w' h => Q2.out.now h)
  generalize w6.heap.size = B0 at *
  clear HF7 K7 D6' w6
  go_wp2_with fail
  have qq2 := AddC (c := 1) (id := 258) HB7.out (by decide) (HQ.out _ D7.out) (Nat.le_refl _) (ok14 (by decide) (by decide)) (by decide) (by simp) (by decide) (by decide)
  refine Calls.mono qq2 ?_
  rintro e w8 ⟨rfl, A8, c8', v8, HM8, HB8, HF8, _⟩
  clear qq2
  have D8 : Hid (Below W2.heap.size W2 w8) := Lib.hid (D7.out.trans (HF8.out.below (fun j _ e => by
    have := HB7.out.low
    rcases e with e | e | e
    · omega
    · omega
    · simp [Value.ownBlock] at e) D7.out.size))
  have K8 := K2.out.below D8.out K2.out.lt
  have k0 := K8.cell 0
  have k1 := K8.cell 1
  clear K8 HB7 HF8
  go_wp2_with fail
  have qq3 := AddTwice (c := 1) (id := 258) (ls := [⟨1, 2, 9999⟩]) HB8.out (by decide) (HQ.out _ D8.out) (Nat.le_refl _) (by simp) (Nat.le_refl _) (ok14 (by decide) (by decide)) (by decide) (by simp)
  refine Calls.mono qq3 ?_
  rintro e w9 ⟨rfl, D9⟩
  clear qq3
  have HB9 := Lib.hid (HB8.out.fr (Fr.of_below D9.out) (fun _ _ _ h => h))
  have D9' := Lib.hid (D8.out.trans (D9.out.mono D8.out.size))
  clear D8 HB8 D9
  go_wp2_with fail
  have qq4 := GetC (k := 0) (id := 258) HB9.out (by simp) (o := ⟨258, A8, c8', [⟨1, 2, 9999⟩]⟩) rfl rfl (by simp)
  refine Calls.mono qq4 ?_
  rintro e w10 ⟨A10, c10, rfl, HM10, D10⟩
  clear qq4
  have HB10 := Lib.hid ((HB9.out.fr (Fr.of_below D10.out) (fun _ _ _ h => h)).fr ((Fr.refl (fun _ => False) w10).alloc (.cells #[.int .u32 258, .slice A10 1 c10] 25)) (fun _ _ _ h => h))
  have D10' := Lib.hid ((D9'.out.trans (D10.out.mono D9'.out.size)).alloc (Nat.le_trans D9'.out.size D10.out.size) (.cells #[.int .u32 258, .slice A10 1 c10] 25))
  have KY : Hid (Blk (w10.alloc (.cells #[.int .u32 258, .slice A10 1 c10] 25)) w10.heap.size 25 #[.int .u32 258, .slice A10 1 c10]) := Lib.hid (Blk.new _ _ _)
  have HVY : Hid (∀ j, v8.ownBlock = some j → j < w10.heap.size) := Lib.hid (fun j e => ((HB9.out.fr (Fr.of_below D10.out) (fun _ _ _ h => h)).row.lt j e).2)
  clear HB9 D9' D10
  go_wp2_with fail
  generalize w10.alloc (.cells #[.int .u32 258, .slice A10 1 c10] 25) = W10 at *
  generalize w10.heap.size = py at *
  have qq5 := CancelE (CloseC (k := 0) (id := 258) HB10.out (by simp) rfl)
  refine Calls.mono qq5 ?_
  rintro e w11 ⟨rfl, v11, hv11, HB11, HF11⟩
  clear qq5
  have hb11 : Bk B0 b g v11 [] [258] w11 := HB11.out
  have HB11' := Lib.hid hb11
  have D11 : Hid (Below W2.heap.size W2 w11) := Lib.hid (D10'.out.trans (HF11.out.below (fun j _ e => by
    have := HB10.out.low
    rcases e with e | e
    · omega
    · have := (HB10.out.row.lt j e).1; omega) D10'.out.size))
  have KY11 := Lib.hid (KY.out.fr HF11.out (fun e => by
    rcases e with e | e
    · exact Blk.ne_ KY.out HB10.out.blk (by decide) e
    · have := HVY.out _ e; omega))
  clear hb11 HB11 HF11 HB10 D10' KY HVY
  go_wp2_with fail
  have qq6 := CloseNo (id := 258) HB11'.out (by decide) rfl
  refine Calls.mono qq6 ?_
  rintro e w12 ⟨rfl, D12⟩
  clear qq6
  have HB12 := Lib.hid (HB11'.out.fr (Fr.of_below D12.out) (fun _ _ _ h => h))
  have D12' := Lib.hid (D11.out.trans (D12.out.mono D11.out.size))
  have KY12 := Lib.hid (KY11.out.below D12.out KY11.out.lt)
  have K12 := K2.out.below D12'.out K2.out.lt
  have k0 := K12.cell 0
  have k1 := K12.cell 1
  clear HB11' D11 D12 KY11 K12
  go_wp2_with fail
  have qq7 := AddTwice (c := 1) (id := 258) (ls := [⟨1, 2, 9999⟩]) HB12.out (by decide) (HQ.out _ D12'.out) (Nat.le_refl _) (by simp) (Nat.le_refl _) (ok14 (by decide) (by decide)) (by decide) (by simp)
  refine Calls.mono qq7 ?_
  rintro e w13 ⟨rfl, D13⟩
  clear qq7
  have HB13 := Lib.hid (HB12.out.fr (Fr.of_below D13.out) (fun _ _ _ h => h))
  have D13' := Lib.hid (D12'.out.trans (D13.out.mono D12'.out.size))
  have y0 := (KY12.out.below D13.out KY12.out.lt).cell 0
  have x0 := (KX.out.below D13'.out KX.out.lt).cell 0
  have x1 := (KX.out.below D13'.out KX.out.lt).cell 1
  obtain ⟨ad, rfl, _, z0, z1, z2⟩ := (QX.out.now D13'.out).ln (k := 0) (by decide)
  have s1 : (convert 26 9 (.slice A1 11 c1)).run Tryd.prog w13 = .ok (.string ⟨#[0, 0, 1, 2, 1, 0, 1, 0, 2, 39, 15]⟩) w13 := str_row (l := L14) (R2.out.now D13'.out)
  have z2' : w13.cell? ⟨ad.block, ad.off + 2, none⟩ = some (.int .i64 9999) := by simpa [Addr.add] using z2
  clear HB12 D12' D13 KY12 k0 k1 z0 z1 z2
  go_wp2_with fail
  have qq8 := OpenC HB13.out (by decide)
  refine Calls.mono qq8 ?_
  rintro e w14 ⟨v14, rfl, HO14, D14⟩
  clear qq8
  obtain ⟨A14, c14, rfl, _⟩ := own_form HO14.out
  go_wp2
  go_ret
  exact ⟨rfl, Lib.hid (B2.out.trans ((D13'.out.trans (D14.out.mono D13'.out.size)).mono (by have := HA1.out; omega)))⟩
end Go.Proofs.YtigknfkkegccgaaDoor.K
