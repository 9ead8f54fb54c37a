/- The walk of FrameTwo. -/
import Derived.Test.YtfcbbcimblpbnaaDoorFOf
import Derived.Deep.DrawnRows
import Derived.Deep.RegionHeld3
namespace Go.Proofs.YtfcbbcimblpbnaaDoor.K
open Go.RowKit
set_option linter.unusedVariables false
set_option linter.unusedSimpArgs false
attribute [local go_sem ↓] Go.wp_at_zero Go.wp_at_succ
/-- Where flags stand. -/
def flA : Nat → List Int → List Int
  | _, [] => []
  | k, c :: l => if c = 126 then (k : Int) :: flA (k + 1) l else flA (k + 1) l
theorem flA_app : ∀ (a b : List Int) (k : Nat), flA k (a ++ b) = flA k a ++ flA (k + a.length) b := by
  intro a
  induction a with
  | nil => intro b k; simp [flA]
  | cons c a ih =>
    intro b k
    simp only [List.cons_append, flA, List.length_cons]
    rw [ih b (k + 1), show k + 1 + a.length = k + (a.length + 1) by omega]
    split <;> simp
theorem flA_none : ∀ (a : List Int) (k : Nat), (∀ x ∈ a, x ≠ 126) → flA k a = [] := by
  intro a
  induction a with
  | nil => intro k _; rfl
  | cons c a ih => intro k h; simp only [flA]; rw [if_neg (h c (by simp)), ih (k + 1) (fun x hx => h x (by simp [hx]))]
theorem flA_take (l : List Int) (k : Nat) (h : k < l.length) : flA 0 (l.take (k + 1)) = flA 0 (l.take k) ++ (if l.getD k 0 = 126 then [(k : Int)] else []) := by
  rw [List.take_succ_eq_append_getElem h, flA_app, List.length_take, Nat.min_eq_left (Nat.le_of_lt h), Nat.zero_add, List.getD_eq_getElem?_getD, List.getElem?_eq_getElem h]
  simp only [flA, Option.getD_some]
theorem stf_no (l : List Int) : ∀ x ∈ stf l, x ≠ 126 := fun x hx => by
  obtain ⟨y, _, hy⟩ := List.mem_flatMap.1 hx
  unfold stf1 at hy
  split at hy
  · simp at hy; rcases hy with rfl | rfl <;> decide
  · split at hy
    · simp at hy; rcases hy with rfl | rfl <;> decide
    · simp at hy; subst hy; assumption
theorem flA_enc (f : Fp) (k : Nat) : flA k (encL f) = [(k : Int), ((k + (stf (innerL f)).length + 1 : Nat) : Int)] := by
  unfold encL
  simp only [List.cons_append, List.nil_append, flA, if_true]
  rw [flA_app, flA_none _ _ (stf_no _)]
  simp only [List.nil_append, flA, if_true]
  rw [show k + 1 + (stf (innerL f)).length = k + (stf (innerL f)).length + 1 by omega]
theorem flA_len : ∀ (l : List Int) (k : Nat), (flA k l).length ≤ l.length := by
  intro l
  induction l with
  | nil => intro k; simp [flA]
  | cons c l ih =>
    intro k
    have := ih (k + 1)
    simp only [flA]
    split <;> simp <;> omega
theorem info_int : (Tryd.prog.info? 3).map (fun i => (i.zero, i.size, i.bytes)) = some (some (.int .i64 0), 1, 8) := by kernel_rfl
theorem four_of {w : World} {B : Nat} {v : Value} {a b c d : Int} (h : w.ownsRow B 3 1 v 4 (nums .i64 [a, b, c, d])) :
    ∃ g cap, v = .slice (some ⟨g, 0, none⟩) 4 cap ∧ B ≤ g ∧ g < w.heap.size ∧ w.cell? ⟨g, 0, none⟩ = some (.int .i64 a) ∧ w.cell? ⟨g, 1, none⟩ = some (.int .i64 b) ∧ w.cell? ⟨g, 2, none⟩ = some (.int .i64 c) ∧ w.cell? ⟨g, 3, none⟩ = some (.int .i64 d) := by
  obtain ⟨g, cap, rfl, hb, hlt⟩ := h.form (by omega)
  exact ⟨g, cap, rfl, hb, hlt, h.cellAt 0 (by omega), h.cellAt 1 (by omega), h.cellAt 2 (by omega), h.cellAt 3 (by omega)⟩
theorem flA_two (f g : Fp) {N1 N2 : Nat} (h1 : (stf (innerL f)).length = N1) (h2 : (stf (innerL g)).length = N2) : flA 0 (encL f ++ encL g) = [0, (N1 : Int) + 1, (N1 : Int) + 2, (N1 : Int) + (N2 : Int) + 3] := by
  rw [flA_app, flA_enc, flA_enc, encL_len, h1, h2]
  simp only [List.cons_append, List.nil_append, List.cons.injEq, and_true]
  refine ⟨rfl, by omega, by omega, by omega⟩
theorem two_take {X Y Lx Ly : List Int} (hx : Lx = [126] ++ (X ++ [126])) (hy : Ly = [126] ++ (Y ++ [126])) : ((Lx ++ Ly).take (X.length + 1)).drop 1 = X ∧ ((Lx ++ Ly).take (X.length + Y.length + 3)).drop (X.length + 3) = Y := by
  subst hx hy
  constructor
  · simp
  · have e : ([126] ++ (X ++ [126]) ++ ([126] ++ (Y ++ [126])) : List Int) = ([126] ++ (X ++ [126]) ++ [126]) ++ (Y ++ [126]) := by simp
    have hl : ([126] ++ (X ++ [126]) ++ [126] : List Int).length = X.length + 3 := by simp
    rw [e, show X.length + Y.length + 3 = ([126] ++ (X ++ [126]) ++ [126] : List Int).length + Y.length by rw [hl]; omega, List.take_length_add_append, ← hl, List.drop_left]
    simp
theorem dec_nil : decL [] = (⟨0, 0, 0, 0, 0, []⟩, 2) := rfl
theorem set6_cell {w : World} {g gf i : Nat} {f : Fp} {A : Option Addr} {n c : Nat} {v : Value} (hn : f.B.length = n) (h : w.cell? ⟨gf, i, none⟩ = some v) (hl : gf < w.heap.size) (hne : g ≠ gf) : ((((((w.setCell ⟨g, 0, none⟩ (.int .u8 f.addr)).setCell ⟨g, 1, none⟩ (.int .u8 f.kind)).setCell ⟨g, 2, none⟩ (.int .u8 f.ses)).setCell ⟨g, 3, none⟩ (.int .u8 f.seq)).setCell ⟨g, 4, none⟩ (.int .u8 f.ack)).setCell ⟨g, 5, none⟩ (.slice A n c)).cell? ⟨gf, i, none⟩ = some v := by
  subst hn
  exact ((st6_fr w g f A c).cell (p := ⟨gf, i, none⟩) hl (fun e => hne e.symm)).trans h
set_option maxHeartbeats 4000000 in
set_option maxRecDepth 10000 in
theorem ftwo_walk (f f' : Fp) (hf : f.ok) (hf' : f'.ok) (A A' : Option Addr) (c c' : Nat) (hc : f.B.length ≤ c) (hc' : f'.B.length ≤ c') (w : World) (hT : Turns w) (hR : RowOf c8 1 w w.heap.size A f.B) (hR' : RowOf c8 1 w w.heap.size A' f'.B) :
    Calls Tryd.prog 8 #[.agg #[.int .u8 f.addr, .int .u8 f.kind, .int .u8 f.ses, .int .u8 f.seq, .int .u8 f.ack, .slice A f.B.length c], .agg #[.int .u8 f'.addr, .int .u8 f'.kind, .int .u8 f'.ses, .int .u8 f'.seq, .int .u8 f'.ack, .slice A' f'.B.length c']] w fun e w' => e = .returned (.bool true) ∧ Below w.heap.size w w' := by
  have HTB : Hid (∀ w' : World, Below w.heap.size w w' → Turns w') := Lib.hid (fun w' b => hT.below b hT.lt)
  obtain ⟨l, hl⟩ : ∃ l, f.B.take 50 = l := ⟨_, rfl⟩
  obtain ⟨l', hl'⟩ : ∃ l, f'.B.take 50 = l := ⟨_, rfl⟩
  have HL := Lib.hid hl
  have HL' := Lib.hid hl'
  have HR := Lib.hid hR
  have HR' := Lib.hid hR'
  have HOK : Hid ((⟨f.addr, f.kind, f.ses, f.seq, f.ack, l⟩ : Fp).ok) := Lib.hid (hl ▸ ok_few hf)
  have HOK' : Hid ((⟨f'.addr, f'.kind, f'.ses, f'.seq, f'.ack, l'⟩ : Fp).ok) := Lib.hid (hl' ▸ ok_few hf')
  obtain ⟨W0, hW0⟩ : ∃ W0, W0 = (w.alloc (.cells #[.int .u8 f.addr, .int .u8 f.kind, .int .u8 f.ses, .int .u8 f.seq, .int .u8 f.ack, .slice A f.B.length c] 24)).alloc (.cells #[.int .u8 f'.addr, .int .u8 f'.kind, .int .u8 f'.ses, .int .u8 f'.seq, .int .u8 f'.ack, .slice A' f'.B.length c'] 24) := ⟨_, rfl⟩
  have HB0 : Hid (Below w.heap.size w W0) := Lib.hid (hW0 ▸ ((Below.refl _ w).alloc (Nat.le_refl _) _).alloc (by simp) _)
  have HK0 : Hid (Blk W0 w.heap.size 24 (fvs f A c)) := Lib.hid (hW0 ▸ (Blk.new w _ _).alloc _)
  have HJ0 : Hid (Blk W0 (w.heap.size + 1) 24 (fvs f' A' c')) := Lib.hid (hW0 ▸ Blk.new_at (by simp))
  have HW0 := Lib.hid hW0.symm
  clear hl hf hR hl' hf' hR' hW0
  go_enter Tryd.func8, Tryd.ntmps8
  go_wp2_with fail
  rw [HW0.out]
  refine (shown4_walk (HTB.out _ HB0.out)).mono ?_
  rintro e w1 ⟨rfl, H1⟩
  have hk1 := HK0.out.fr (Fr.of_below H1.out) (fun h => h)
  have HK1 := Lib.hid hk1
  have HJ1 := Lib.hid (HJ0.out.fr (Fr.of_below H1.out) (fun h => h))
  have B1 := Lib.hid (HB0.out.trans (H1.out.mono HB0.out.size))
  obtain ⟨k0, k1, k2, k3, k4, k5⟩ := fvs_cells hk1
  have HRN := Lib.hid (HR.out.now B1.out)
  have hw1 := HJ1.out.lt
  clear HK0 HB0 H1 hk1 HW0 HJ0
  go_wp2_with fail
  refine Calls.mono (few4L f A c l HL.out w1 hc HRN.out) ?_
  rintro e w2 ⟨A2, c2, rfl, M2, D2⟩
  have hk2 := HK1.out.fr (Fr.of_below D2.out) (fun h => h)
  obtain ⟨m0, m1, m2, m3, m4, m5⟩ := fvs_cells hk2
  have mf0 := hk2.frozen 0
  have mf1 := hk2.frozen 1
  have mf2 := hk2.frozen 2
  have mf3 := hk2.frozen 3
  have mf4 := hk2.frozen 4
  have mf5 := hk2.frozen 5
  have hj2 := HJ1.out.fr (Fr.of_below D2.out) (fun h => h)
  have FS := Lib.hid (st6_fr w2 w.heap.size ⟨f.addr, f.kind, f.ses, f.seq, f.ack, l⟩ A2 c2)
  have HK2 := Lib.hid (st6_blk (f := ⟨f.addr, f.kind, f.ses, f.seq, f.ack, l⟩) (A := A2) (c := c2) hk2)
  have hj2' := hj2.fr FS.out (by omega)
  obtain ⟨n0, n1, n2, n3, n4, n5⟩ := fvs_cells hj2'
  have HJ2 := Lib.hid hj2'
  have hs2 := D2.out.size
  have M2' : Hid (Made w1.heap.size A2 c2 l (st6 w2 w.heap.size ⟨f.addr, f.kind, f.ses, f.seq, f.ack, l⟩ A2 c2)) := Lib.hid (M2.out.fr FS.out (fun j e => by have := (M2.out.1.lt j e).1; omega))
  have B2' : Hid (Below w.heap.size w (st6 w2 w.heap.size ⟨f.addr, f.kind, f.ses, f.seq, f.ack, l⟩ A2 c2)) := Lib.hid (below_fr (B1.out.trans (D2.out.mono B1.out.size)) FS.out (B1.out.trans (D2.out.mono B1.out.size)).size (fun j e => by omega))
  clear k0 k1 k2 k3 k4 k5 HRN hk2 FS D2 HK1 M2 hj2 hj2' HJ1 B1
  go_wp2_with fail
  clear m0 m1 m2 m3 m4 m5 mf0 mf1 mf2 mf3 mf4 mf5 n0 n1 n2 n3 n4 n5
  obtain ⟨W2, hW2⟩ : ∃ W2, st6 w2 w.heap.size ⟨f.addr, f.kind, f.ses, f.seq, f.ack, l⟩ A2 c2 = W2 := ⟨_, rfl⟩
  have hW2' : ((((((w2.setCell ⟨w.heap.size, 0, none⟩ (.int .u8 f.addr)).setCell ⟨w.heap.size, 1, none⟩ (.int .u8 f.kind)).setCell ⟨w.heap.size, 2, none⟩ (.int .u8 f.ses)).setCell ⟨w.heap.size, 3, none⟩ (.int .u8 f.seq)).setCell ⟨w.heap.size, 4, none⟩ (.int .u8 f.ack)).setCell ⟨w.heap.size, 5, none⟩ (.slice A2 l.length c2)) = W2 := hW2
  rw [hW2]  at HK2 HJ2 M2' B2'
  rw [hW2']
  clear hW2 hW2'
  have hwJ := HJ2.out.lt
  have HRN := Lib.hid (HR'.out.now B2'.out)
  refine Calls.mono (few4L f' A' c' l' HL'.out W2 hc' HRN.out) ?_
  rintro e w3 ⟨A3, c3, rfl, M3, D3⟩
  have hk3 := HJ2.out.fr (Fr.of_below D3.out) (fun h => h)
  obtain ⟨m0, m1, m2, m3, m4, m5⟩ := fvs_cells hk3
  have mf0 := hk3.frozen 0
  have mf1 := hk3.frozen 1
  have mf2 := hk3.frozen 2
  have mf3 := hk3.frozen 3
  have mf4 := hk3.frozen 4
  have mf5 := hk3.frozen 5
  have hK3 := HK2.out.fr (Fr.of_below D3.out) (fun h => h)
  have FS := Lib.hid (st6_fr w3 (w.heap.size + 1) ⟨f'.addr, f'.kind, f'.ses, f'.seq, f'.ack, l'⟩ A3 c3)
  have HJ3 := Lib.hid (st6_blk (f := ⟨f'.addr, f'.kind, f'.ses, f'.seq, f'.ack, l'⟩) (A := A3) (c := c3) hk3)
  have hK3' := hK3.fr FS.out (by omega)
  obtain ⟨n0, n1, n2, n3, n4, n5⟩ := fvs_cells hK3'
  simp only at n0 n1 n2 n3 n4 n5
  have HK3 := Lib.hid hK3'
  have hs3 := D3.out.size
  have M3' : Hid (Made W2.heap.size A3 c3 l' (st6 w3 (w.heap.size + 1) ⟨f'.addr, f'.kind, f'.ses, f'.seq, f'.ack, l'⟩ A3 c3)) := Lib.hid (M3.out.fr FS.out (fun j e => by have := (M3.out.1.lt j e).1; omega))
  have M2'' : Hid (Made w1.heap.size A2 c2 l (st6 w3 (w.heap.size + 1) ⟨f'.addr, f'.kind, f'.ses, f'.seq, f'.ack, l'⟩ A3 c3)) := Lib.hid ((M2'.out.below D3.out (Nat.le_refl _)).fr FS.out (fun j e => by have := (M2'.out.1.lt j e).1; omega))
  have B3 : Hid (Below w.heap.size w (st6 w3 (w.heap.size + 1) ⟨f'.addr, f'.kind, f'.ses, f'.seq, f'.ack, l'⟩ A3 c3)) := Lib.hid (below_fr (B2'.out.trans (D3.out.mono B2'.out.size)) FS.out (B2'.out.trans (D3.out.mono B2'.out.size)).size (fun j e => by omega))
  clear hk3 FS D3 hK3 hK3' HRN HK2 HJ2 M2' M3
  go_wp2_with fail
  clear m0 m1 m2 m3 m4 m5 mf0 mf1 mf2 mf3 mf4 mf5 n0 n1 n2 n3 n4 n5
  obtain ⟨W3, hW3⟩ : ∃ W3, st6 w3 (w.heap.size + 1) ⟨f'.addr, f'.kind, f'.ses, f'.seq, f'.ack, l'⟩ A3 c3 = W3 := ⟨_, rfl⟩
  have hW3' : ((((((w3.setCell ⟨w.heap.size + 1, 0, none⟩ (.int .u8 f'.addr)).setCell ⟨w.heap.size + 1, 1, none⟩ (.int .u8 f'.kind)).setCell ⟨w.heap.size + 1, 2, none⟩ (.int .u8 f'.ses)).setCell ⟨w.heap.size + 1, 3, none⟩ (.int .u8 f'.seq)).setCell ⟨w.heap.size + 1, 4, none⟩ (.int .u8 f'.ack)).setCell ⟨w.heap.size + 1, 5, none⟩ (.slice A3 l'.length c3)) = W3 := hW3
  rw [hW3]  at HK3 HJ3 M3' M2'' B3
  rw [hW3']
  clear hW3 hW3'
  have hw3 := HJ3.out.lt
  cases hr : rightF ⟨f.addr, f.kind, f.ses, f.seq, f.ack, l⟩ with
  | false =>
    refine Calls.mono (EncodeN hr rfl W3) ?_
    rintro e w4 ⟨rfl, D4⟩
    obtain ⟨n0, n1, n2, n3, n4, n5⟩ := fvs_cells (HJ3.out.fr (Fr.of_below D4.out) (fun h => h))
    simp only at n0 n1 n2 n3 n4 n5
    have B4 := Lib.hid (B3.out.trans (D4.out.mono B3.out.size))
    have M4 := Lib.hid (M3'.out.below D4.out (Nat.le_refl _))
    obtain ⟨L, e, hL⟩ : ∃ L e, encA ⟨f'.addr, f'.kind, f'.ses, f'.seq, f'.ack, l'⟩ = (L, e) := ⟨_, _, rfl⟩
    have HE := Lib.hid hL
    clear hr D4 hL
    go_wp2_with fail
    refine Calls.mono (EncodeAny HOK'.out HE.out rfl rfl w4 (HTB.out _ B4.out) M4.out.2.1 (fun ad e => (made_lt M4.out ad e).2)) ?_
    rintro ee w5 ⟨A5, c5, rfl, M5, D5⟩
    clear n0 n1 n2 n3 n4 n5
    go_wp2
    go_ret
    exact ⟨rfl, B4.out.trans (D5.out.mono B4.out.size)⟩
  | true =>
    obtain ⟨Lx, hLx⟩ : ∃ L, encL ⟨f.addr, f.kind, f.ses, f.seq, f.ack, l⟩ = L := ⟨_, rfl⟩
    have HRx := Lib.hid hr
    have HLx := Lib.hid hLx
    refine Calls.mono (EncodeE HOK.out hr hLx rfl rfl W3 (HTB.out _ B3.out) M2''.out.2.1 (fun ad e => (made_lt M2''.out ad e).2)) ?_
    rintro e w4 ⟨A4, c4, rfl, M4, D4⟩
    obtain ⟨n0, n1, n2, n3, n4, n5⟩ := fvs_cells (HJ3.out.fr (Fr.of_below D4.out) (fun h => h))
    simp only at n0 n1 n2 n3 n4 n5
    have B4 := Lib.hid (B3.out.trans (D4.out.mono B3.out.size))
    have N4 := Lib.hid (M3'.out.below D4.out (Nat.le_refl _))
    have E4 := Lib.hid D4.out
    clear hr hLx D4
    go_wp2_with fail
    cases hr : rightF ⟨f'.addr, f'.kind, f'.ses, f'.seq, f'.ack, l'⟩ with
    | false =>
      refine Calls.mono (EncodeN hr rfl w4) ?_
      rintro ee w5 ⟨rfl, D5⟩
      clear n0 n1 n2 n3 n4 n5 hr
      go_wp2
      go_ret
      exact ⟨rfl, B4.out.trans (D5.out.mono B4.out.size)⟩
    | true =>
      obtain ⟨Ly, hLy⟩ : ∃ L, encL ⟨f'.addr, f'.kind, f'.ses, f'.seq, f'.ack, l'⟩ = L := ⟨_, rfl⟩
      have HRy := Lib.hid hr
      have HLy := Lib.hid hLy
      refine Calls.mono (EncodeE HOK'.out hr hLy rfl rfl w4 (HTB.out _ B4.out) N4.out.2.1 (fun ad e => (made_lt N4.out ad e).2)) ?_
      rintro ee w5 ⟨A5, c5, rfl, M5, D5⟩
      have B5 := Lib.hid (B4.out.trans (D5.out.mono B4.out.size))
      have R4 := Lib.hid (M4.out.2.1.now D5.out)
      have R5 := Lib.hid M5.out.2.1
      have E5 := Lib.hid (E4.out.trans (D5.out.mono E4.out.size))
      have hx64 : Lx.length ≤ 64 := by rw [← HLx.out]; exact encL_le HRx.out
      have hy64 : Ly.length ≤ 64 := by rw [← HLy.out]; exact encL_le HRy.out
      obtain ⟨L, hL⟩ : ∃ L, L = Lx ++ Ly := ⟨_, rfl⟩
      have HLL := Lib.hid hL
      have HlL : Hid (L.length = Lx.length + Ly.length) := Lib.hid (by rw [hL, List.length_append])
      have hL128 : L.length ≤ 128 := by rw [HlL.out]; omega
      clear n0 n1 n2 n3 n4 n5 hr hLy D5 M5 N4 M4 E4 hL
      go_wp2_with (first | (at_builtin; refine appR (c := c8) rfl _ _ _ rfl 5 (.int .u8 0) 1 1 Tryd.underlying22 info_u8 rfl (by omega) (by omega) (fun _ => rfl) (fun y u hu => by simp at hu; subst hu; rfl) w5.heap.size w5.heap.size _ [] Lx A4 c4 rfl rfl (RowOf.below R4.out ((Below.refl _ w5).alloc (Nat.le_refl _) _)) (World.ownsRow_lit w5 #[] 0 (Nat.le_refl _) (by decide) rfl) (by simp) (by simp only [List.length_nil]; omega) ?_; intro v6 w6 h3 h4 h5; have F6 : Hid (Fr0 w5 w6) := Lib.hid (lit_fr h4 (fun k hk => Nat.le_of_eq (Option.some.inj hk))); have O6 : Hid (w6.ownsRow w5.heap.size 5 1 v6 Lx.length (Lx.flatMap c8)) := Lib.hid h3; have R6 := Lib.hid (R5.out.below F6.out.below0); have hs6 := F6.out.size; clear h3 h4 h5) | (at_builtin; refine appR (c := c8) rfl _ _ _ rfl 5 (.int .u8 0) 1 1 Tryd.underlying22 info_u8 rfl (by omega) (by omega) (fun _ => rfl) (fun y u hu => by simp at hu; subst hu; rfl) w5.heap.size w5.heap.size v6 Lx Ly A5 c5 rfl rfl R6.out O6.out hs6 (by omega) ?_; intro v8 w8 h3 h4 h5; have F8 : Hid (Fr0 w5 w8) := Lib.hid (F6.out.trans h4 (fun j hj e => by have := (O6.out.lt j e).1; omega)); obtain ⟨A8, c8', rfl, hm8⟩ := made_of (B := w5.heap.size) (v := v8) (l := L) (by rw [nums_flat, HLL.out]; exact h3); have M8 := Lib.hid hm8; clear h3 h4 h5 hm8))
      have B8 := Lib.hid (fr0_below B5.out F8.out (Nat.le_refl _))
      have E8 := Lib.hid (E5.out.trans (F8.out.below0.mono E5.out.size))
      have HLI : Hid (InB L) := Lib.hid (fun x hx => by
        rw [HLL.out] at hx
        rcases List.mem_append.1 hx with hx | hx
        · exact encL_inB HOK.out HRx.out x (by rw [HLx.out]; exact hx)
        · exact encL_inB HOK'.out HRy.out x (by rw [HLy.out]; exact hx))
      clear F6 O6 R6 R4 R5 F8 B5 E5
      go_loopw [11, 12] (fun v i wr => ∃ (k : Nat), i = .int .i64 k ∧ k ≤ L.length ∧ wr.ownsRow w8.heap.size 3 1 v (flA 0 (L.take k)).length (nums .i64 (flA 0 (L.take k))) ∧ Below w8.heap.size w8 wr) (fun _ i _ => L.length - (intOf i).toNat)
      case atStart => exact ⟨0, rfl, by omega, own_nil _ _ _ _, Below.refl _ _⟩
      case round =>
        obtain ⟨k, rfl, hk, hown, hb⟩ := hrel
        have HO := Lib.hid hown
        have HB := Lib.hid hb
        have hsz := hb.size
        clear hown hb
        by_cases hgo : k < L.length
        · have HFT := Lib.hid (flA_take L k hgo)
          have hfl := flA_len (L.take k) 0
          rw [List.length_take] at hfl
          obtain ⟨ad, rfl, _, hcell⟩ := (M8.out.2.1.now HB.out).num hgo
          generalize L.getD k 0 = x at *
          by_cases h126 : x = 126
          · subst h126
            rw [if_pos rfl] at HFT
            generalize flA 0 (L.take k) = fl at *
            go_wp2_with (at_builtin; (refine app1 rfl _ _ _ rfl 3 (.int .i64 0) 1 8 Tryd.underlying41 info_int rfl (by omega) (by omega) w8.heap.size u11 fl.length (nums .i64 fl) [.int .i64 k] rfl rfl rfl (fun u hu => by obtain rfl := List.mem_singleton.1 hu; rfl) HO.out hsz (by omega) ?_; intro v3 w9 h3 h4 h5; have HO3 : Hid (w9.ownsRow w8.heap.size 3 1 v3 (flA 0 (L.take (k + 1))).length (nums .i64 (flA 0 (L.take (k + 1))))) := Lib.hid (by rw [HFT.out, List.length_append, nums_snoc]; exact h3); have HB3 : Hid (Below w8.heap.size w8 w9) := Lib.hid (below_fr HB.out h4 hsz (fun j e => (HO.out.lt j e).1)); clear h3 h4 h5))
            go_roundw
            case rel => exact ⟨k + 1, by go_num, by omega, HO3.out, HB3.out⟩
            case measure => simp [intOf]; omega
          · rw [if_neg h126, List.append_nil] at HFT
            have hx2 : (x == 126) = false := by simpa using h126
            clear h126
            go_wp2
            go_roundw
            case rel => exact ⟨k + 1, by go_num, by omega, by rw [HFT.out]; exact HO.out, HB.out⟩
            case measure => simp [intOf]; omega
        · obtain rfl : k = L.length := by omega
          rw [List.take_length] at HO
          obtain ⟨X, hX⟩ : ∃ X, stf (innerL ⟨f.addr, f.kind, f.ses, f.seq, f.ack, l⟩) = X := ⟨_, rfl⟩
          obtain ⟨Y, hY⟩ : ∃ X, stf (innerL ⟨f'.addr, f'.kind, f'.ses, f'.seq, f'.ack, l'⟩) = X := ⟨_, rfl⟩
          obtain ⟨N1, hN1⟩ : ∃ N, X.length = N := ⟨_, rfl⟩
          obtain ⟨N2, hN2⟩ : ∃ N, Y.length = N := ⟨_, rfl⟩
          have hfl := flA_two ⟨f.addr, f.kind, f.ses, f.seq, f.ack, l⟩ ⟨f'.addr, f'.kind, f'.ses, f'.seq, f'.ack, l'⟩ (N1 := N1) (N2 := N2) (by rw [hX]; exact hN1) (by rw [hY]; exact hN2)
          rw [HLx.out, HLy.out, ← HLL.out] at hfl
          have hxe : Lx = [126] ++ (X ++ [126]) := by rw [← HLx.out, ← hX]; rfl
          have hye : Ly = [126] ++ (Y ++ [126]) := by rw [← HLy.out, ← hY]; rfl
          have htk := two_take hxe hye
          rw [← HLL.out, hN1, hN2] at htk
          have hd1 : decL X = (⟨f.addr, f.kind, f.ses, f.seq, f.ack, l⟩, 0) := by rw [← hX]; exact dec_enc HOK.out HRx.out
          have hd2 : decL Y = (⟨f'.addr, f'.kind, f'.ses, f'.seq, f'.ack, l'⟩, 0) := by rw [← hY]; exact dec_enc HOK'.out HRy.out
          have hxl : Lx.length = N1 + 2 := by rw [hxe]; simp; omega
          have hyl : Ly.length = N2 + 2 := by rw [hye]; simp; omega
          rw [hfl] at HO
          obtain ⟨gf, cf, rfl, hgf, hgl, q0, q1, q2, q3⟩ := four_of HO.out
          obtain ⟨M, hM⟩ : ∃ M, L.length = M := ⟨_, rfl⟩
          have HM := Lib.hid hM
          have HT1 := Lib.hid htk.1
          have HT2 := Lib.hid htk.2
          have HD1 := Lib.hid hd1
          have HD2 := Lib.hid hd2
          have HN1 := Lib.hid hN1
          have HN2 := Lib.hid hN2
          have hlL := HlL.out
          rw [hM] at hlL hL128 ⊢
          have hMv : M = N1 + N2 + 4 := by omega
          have hm3 : (M : Int) - 1 = (N1 : Int) + (N2 : Int) + 3 := by omega
          obtain ⟨g8, rfl, hg80, hg81⟩ := M8.out.at0 (by rw [hM]; omega)
          have hc8 : M ≤ c8' := by have := M8.out.2.2; rwa [hM] at this
          have hN164 : N1 ≤ 64 := by omega
          have hN264 : N2 ≤ 64 := by omega
          have hne1 : ((N1 : Int) + 2 != (N1 : Int) + 1 + 1) = false := by simp; omega
          have t1 : ∀ W, (Instr.slice 22 (.slice (some ⟨g8, 0, none⟩) M c8') (some (.int .i64 1)) (some (.int .i64 ((N1 : Int) + 1))) none).run Tryd.prog W = .ok (.slice (some ⟨g8, 1, none⟩) N1 (c8' - 1)) W := fun W => by
            have := bcut_lh_lit g8 M c8' 1 (N1 + 1) (by omega) (by omega) (by omega) W
            simpa using this
          have t2 : ∀ W, (Instr.slice 22 (.slice (some ⟨g8, 0, none⟩) M c8') (some (.int .i64 ((N1 : Int) + 2 + 1))) (some (.int .i64 ((N1 : Int) + (N2 : Int) + 3))) none).run Tryd.prog W = .ok (.slice (some ⟨g8, N1 + 3, none⟩) N2 (c8' - (N1 + 3))) W := fun W => by
            have := bcut_lh_lit g8 M c8' (N1 + 3) (N1 + N2 + 3) (by omega) (by omega) (by omega) W
            rw [show N1 + N2 + 3 - (N1 + 3) = N2 by omega, show ((N1 + 3 : Nat) : Int) = (N1 : Int) + 2 + 1 by omega, show ((N1 + N2 + 3 : Nat) : Int) = (N1 : Int) + (N2 : Int) + 3 by omega] at this
            exact this
          have t3 : ∀ W, (Instr.slice 22 (.slice (some ⟨g8, 0, none⟩) M c8') (some (.int .i64 ((N1 : Int) + 1 + 1))) (some (.int .i64 ((N1 : Int) + 2))) none).run Tryd.prog W = .ok (.slice (some ⟨g8, N1 + 2, none⟩) 0 (c8' - (N1 + 2))) W := fun W => by
            have := bcut_lh_lit g8 M c8' (N1 + 2) (N1 + 2) (by omega) (by omega) (by omega) W
            rw [Nat.sub_self] at this
            have e1 : ((N1 + 2 : Nat) : Int) = (N1 : Int) + 2 := by omega
            rw [e1] at this
            rw [show (N1 : Int) + 1 + 1 = (N1 : Int) + 2 by omega]
            exact this
          have t2' : ∀ W, (Instr.slice 22 (.slice (some ⟨g8, 0, none⟩) M c8') (some (.int .i64 ((N1 : Int) + 3))) (some (.int .i64 ((N1 : Int) + (N2 : Int) + 3))) none).run Tryd.prog W = .ok (.slice (some ⟨g8, N1 + 3, none⟩) N2 (c8' - (N1 + 3))) W := fun W => by
            have := t2 W
            rwa [show (N1 : Int) + 2 + 1 = (N1 : Int) + 3 by omega] at this
          have i21 : (N1 : Int) + 2 + 1 = (N1 : Int) + 3 := by omega
          have i11 : (N1 : Int) + 1 + 1 = (N1 : Int) + 2 := by omega
          have w21 : IntKind.i64.wrap ((N1 : Int) + 2 + 1) = (N1 : Int) + 3 := by rw [IntKind.wrap_i64]; omega
          have w11 : IntKind.i64.wrap ((N1 : Int) + 1 + 1) = (N1 : Int) + 2 := by rw [IntKind.wrap_i64]; omega
          have t3' : ∀ W, (Instr.slice 22 (.slice (some ⟨g8, 0, none⟩) M c8') (some (.int .i64 ((N1 : Int) + 2))) (some (.int .i64 ((N1 : Int) + 2))) none).run Tryd.prog W = .ok (.slice (some ⟨g8, N1 + 2, none⟩) 0 (c8' - (N1 + 2))) W := fun W => by
            have := t3 W
            rwa [show (N1 : Int) + 1 + 1 = (N1 : Int) + 2 by omega] at this
          have E9 := Lib.hid (E8.out.trans (HB.out.mono E8.out.size))
          have B9 := Lib.hid (B8.out.trans (HB.out.mono B8.out.size))
          have RL := Lib.hid (M8.out.2.1.now HB.out)
          clear hX hY hN1 hN2 hfl hxe hye htk hd1 hd2 hxl hyl hM HO M8 E8 B8 HB hlL hx64 hy64 hMv
          go_wp2_with fail
          go_quiet (fail)
          have EV : Hid (Below W3.heap.size W3 (wr.drewN nq)) := Lib.hid ⟨E9.out.os, E9.out.tape, E9.out.output, E9.out.size, E9.out.block⟩
          have BV : Hid (Below w.heap.size w (wr.drewN nq)) := Lib.hid ⟨B9.out.os, B9.out.tape, B9.out.output, B9.out.size, B9.out.block⟩
          have RV : Hid (RowOf c8 1 (wr.drewN nq) (wr.drewN nq).heap.size (some ⟨g8, 0, none⟩) L) := Lib.hid (RL.out.drewN_ nq)
          have p0 : (wr.drewN nq).cell? ⟨gf, 0, none⟩ = some (.int .i64 0) := q0
          have p1 : (wr.drewN nq).cell? ⟨gf, 1, none⟩ = some (.int .i64 ((N1 : Int) + 1)) := q1
          have p2 : (wr.drewN nq).cell? ⟨gf, 2, none⟩ = some (.int .i64 ((N1 : Int) + 2)) := q2
          have p3 : (wr.drewN nq).cell? ⟨gf, 3, none⟩ = some (.int .i64 ((N1 : Int) + (N2 : Int) + 3)) := q3
          have hglV : gf < (wr.drewN nq).heap.size := hgl
          clear q0 q1 q2 q3 E9 B9 RL hne1
          generalize wr.drewN nq = V at *
          go_wp2_with fail
          clear t1
          have RX : Hid (RowOf c8 1 V V.heap.size (some ⟨g8, 1, none⟩) X) := Lib.hid (HT1.out ▸ ((RV.out.take_ (N1 + 1)).cut_lit (c := c8') 1 (by rw [List.length_take, HM.out]; omega) (by omega)))
          have HXI : Hid (InB X) := Lib.hid (fun x hx => HLI.out x (List.mem_of_mem_take (List.mem_of_mem_drop (by rw [HT1.out]; exact hx))))
          have HYI : Hid (InB Y) := Lib.hid (fun x hx => HLI.out x (List.mem_of_mem_take (List.mem_of_mem_drop (by rw [HT2.out]; exact hx))))
          have hl50 : l.length ≤ 50 := by rw [← HL.out, List.length_take]; omega
          have hl50' : l'.length ≤ 50 := by rw [← HL'.out, List.length_take]; omega
          refine Calls.mono (DecodeE HD1.out rfl HN1.out (by omega) HXI.out V (HTB.out _ BV.out) RX.out) ?_
          rintro ee v5 ⟨A6, c6, rfl, M6, D6⟩
          have hs6 := D6.out.size
          obtain ⟨W5, hW5⟩ : ∃ W5, v5.alloc (.cells #[.int .u8 f.addr, .int .u8 f.kind, .int .u8 f.ses, .int .u8 f.seq, .int .u8 f.ack, .slice A6 l.length c6] 24) = W5 := ⟨_, rfl⟩
          have D6' : Hid (Below V.heap.size V W5) := Lib.hid (hW5 ▸ D6.out.alloc hs6 _)
          have KA : Hid (Blk W5 v5.heap.size 24 (fvs ⟨f.addr, f.kind, f.ses, f.seq, f.ack, l⟩ A6 c6)) := Lib.hid (hW5 ▸ Blk.new v5 _ _)
          have MA : Hid (Made V.heap.size A6 c6 l W5) := Lib.hid (hW5 ▸ M6.out.fr ((Fr.refl (fun _ => False) v5).alloc _) (fun _ _ h => h))
          have ga : V.heap.size ≤ v5.heap.size := hs6
          have HW5 := Lib.hid hW5
          clear hW5 M6 D6 RX
          go_wp2_with fail
          rw [HW5.out]
          clear HW5
          have BW5 := Lib.hid (BV.out.trans (D6'.out.mono BV.out.size))
          have EW5 := Lib.hid (EV.out.trans (D6'.out.mono EV.out.size))
          have RW5 := Lib.hid (RV.out.now D6'.out)
          have u1 : W5.drew.cell? ⟨gf, 1, none⟩ = some (.int .i64 ((N1 : Int) + 1)) := (D6'.out.cell (p := ⟨gf, 1, none⟩) hglV).trans p1
          have u2 : W5.drew.cell? ⟨gf, 2, none⟩ = some (.int .i64 ((N1 : Int) + 2)) := (D6'.out.cell (p := ⟨gf, 2, none⟩) hglV).trans p2
          have u3 : W5.drew.cell? ⟨gf, 3, none⟩ = some (.int .i64 ((N1 : Int) + (N2 : Int) + 3)) := (D6'.out.cell (p := ⟨gf, 3, none⟩) hglV).trans p3
          have hg5 : gf < W5.heap.size := Nat.lt_of_lt_of_le hglV D6'.out.size
          have RY5 : Hid (RowOf c8 1 W5 W5.heap.size (some ⟨g8, N1 + 3, none⟩) Y) := Lib.hid (HT2.out ▸ ((RW5.out.take_ (N1 + N2 + 3)).cut_lit (c := c8') (N1 + 3) (by rw [List.length_take, HM.out]; omega) (by omega)))
          have RYd : Hid (RowOf c8 1 W5.drew W5.drew.heap.size (some ⟨g8, N1 + 3, none⟩) Y) := Lib.hid RY5.out
          have b5 : Below W5.heap.size W5 (W5.alloc (.cells #[.int .u8 0, .int .u8 0, .int .u8 0, .int .u8 0, .int .u8 0, .slice none 0 0] 24)).drew := ((Below.refl _ W5).alloc (Nat.le_refl _) _).drew
          have z1 := (b5.cell (p := ⟨gf, 1, none⟩) hg5).trans u1
          have z2 := (b5.cell (p := ⟨gf, 2, none⟩) hg5).trans u2
          have z3 := (b5.cell (p := ⟨gf, 3, none⟩) hg5).trans u3
          have nn := World.new_ne W5.drew _ u2
          have hga := Nat.lt_of_lt_of_le hg5 b5.size
          have hne5 : W5.heap.size ≠ gf := by omega
          have b5d : Below W5.heap.size W5 W5.drew := (Below.refl _ W5).drew
          have HTd := Lib.hid (HTB.out _ (BW5.out.trans (b5d.mono BW5.out.size)))
          have HTa := Lib.hid (HTB.out _ (BW5.out.trans (b5.mono BW5.out.size)))
          have RYa := Lib.hid (RY5.out.now ((Below.refl W5.heap.size W5).alloc (Nat.le_refl _) (.cells #[.int .u8 0, .int .u8 0, .int .u8 0, .int .u8 0, .int .u8 0, .slice none 0 0] 24)).drew)
          have Hb5 := Lib.hid b5
          have k1 : Hid True := Lib.hid trivial
          clear p0 p1 p2 p3 b5 b5d D6'
          have y1 : IntKind.i64.wrap ((N1 : Int) + 3) = (N1 : Int) + 3 := by rw [IntKind.wrap_i64]; omega
          have y2 : (0 : Int) ≤ (N1 : Int) + 3 := by omega
          have y3 : (N1 : Int) + 3 ≤ (N1 : Int) + (N2 : Int) + 3 := by omega
          have y4 : (N1 : Int) + (N2 : Int) + 3 ≤ (c8' : Int) := by omega
          have y5 : (N1 : Int) + (N2 : Int) + 3 ≤ (M : Int) := by omega
          have y6 : (0 : Int) ≤ (N1 : Int) + (N2 : Int) + 3 := by omega
          go_region_held3 (fun w' => w'.cell? ⟨gf, 2, none⟩ = some (.int .i64 ((N1 : Int) + 2)) ∧ w'.cell? ⟨gf, 3, none⟩ = some (.int .i64 ((N1 : Int) + (N2 : Int) + 3))) (go_keep) (first
            | (go_at_call 14; refine Calls.mono (DecodeE HD2.out rfl HN2.out (by omega) HYI.out W5.drew HTd.out RYd.out) ?_; rintro ee w6 ⟨A7, c7, rfl, M7, D7⟩; have x2 : w6.cell? ⟨gf, 2, none⟩ = some (.int .i64 ((N1 : Int) + 2)) := (D7.out.cell (p := ⟨gf, 2, none⟩) hg5).trans u2; have x3 : w6.cell? ⟨gf, 3, none⟩ = some (.int .i64 ((N1 : Int) + (N2 : Int) + 3)) := (D7.out.cell (p := ⟨gf, 3, none⟩) hg5).trans u3; have zz2 := World.new_ne w6 _ x2; have zz3 := World.new_ne w6 _ x3; have ka := k1)
            | (go_at_call 14; refine Calls.mono (DecodeE HD2.out rfl HN2.out (by omega) HYI.out (W5.alloc (.cells #[.int .u8 0, .int .u8 0, .int .u8 0, .int .u8 0, .int .u8 0, .slice none 0 0] 24)).drew HTa.out RYa.out) ?_; rintro ee w6 ⟨A7, c7, rfl, M7, D7⟩; have hwa := D7.out.size; have zk := (show Blk (W5.alloc (.cells #[.int .u8 0, .int .u8 0, .int .u8 0, .int .u8 0, .int .u8 0, .slice none 0 0] 24)).drew W5.heap.size 24 (fvs ⟨0, 0, 0, 0, 0, []⟩ none 0) from Blk.new W5 24 _).fr (Fr.of_below D7.out) (fun h => h); obtain ⟨m0, m1, m2, m3, m4, m5⟩ := fvs_cells zk; simp only at m0 m1 m2 m3 m4 m5; have mf0 := zk.frozen 0; have mf1 := zk.frozen 1; have mf2 := zk.frozen 2; have mf3 := zk.frozen 3; have mf4 := zk.frozen 4; have mf5 := zk.frozen 5; have x2 : w6.cell? ⟨gf, 2, none⟩ = some (.int .i64 ((N1 : Int) + 2)) := (D7.out.cell (p := ⟨gf, 2, none⟩) hga).trans z2; have x3 : w6.cell? ⟨gf, 3, none⟩ = some (.int .i64 ((N1 : Int) + (N2 : Int) + 3)) := (D7.out.cell (p := ⟨gf, 3, none⟩) hga).trans z3; have x2' := set6_cell (g := W5.heap.size) (f := ⟨f'.addr, f'.kind, f'.ses, f'.seq, f'.ack, l'⟩) (A := A7) (c := c7) rfl x2 (Nat.lt_of_lt_of_le hga hwa) hne5; have x3' := set6_cell (g := W5.heap.size) (f := ⟨f'.addr, f'.kind, f'.ses, f'.seq, f'.ack, l'⟩) (A := A7) (c := c7) rfl x3 (Nat.lt_of_lt_of_le hga hwa) hne5; simp only at x2' x3'))
          all_goals first
            | (obtain ⟨Z, hZ⟩ : ∃ Z, w6.alloc (.cells #[.int .u8 f'.addr, .int .u8 f'.kind, .int .u8 f'.ses, .int .u8 f'.seq, .int .u8 f'.ack, .slice A7 l'.length c7] 24) = Z := ⟨_, rfl⟩
               have D7' : Below W5.heap.size W5 w6 := ⟨D7.out.os, D7.out.tape, D7.out.output, D7.out.size, D7.out.block⟩
               have DZ : Hid (Below W5.heap.size W5 Z) := Lib.hid (hZ ▸ D7'.alloc D7'.size _)
               have KB : Hid (Blk Z w6.heap.size 24 (fvs ⟨f'.addr, f'.kind, f'.ses, f'.seq, f'.ack, l'⟩ A7 c7)) := Lib.hid (hZ ▸ Blk.new w6 _ _)
               have MB : Hid (Made W5.heap.size A7 c7 l' Z) := Lib.hid (hZ ▸ M7.out.fr ((Fr.refl (fun _ => False) w6).alloc _) (fun _ _ h => h))
               rw [hZ]
               obtain ⟨gb, hgb⟩ : ∃ gb, w6.heap.size = gb := ⟨_, rfl⟩
               rw [hgb] at KB ⊢
               clear D7' D7 M7 hZ x2 x3)
            | (obtain ⟨Z, hZ⟩ : ∃ Z, ((((((w6.setCell ⟨W5.heap.size, 0, none⟩ (.int .u8 f'.addr)).setCell ⟨W5.heap.size, 1, none⟩ (.int .u8 f'.kind)).setCell ⟨W5.heap.size, 2, none⟩ (.int .u8 f'.ses)).setCell ⟨W5.heap.size, 3, none⟩ (.int .u8 f'.seq)).setCell ⟨W5.heap.size, 4, none⟩ (.int .u8 f'.ack)).setCell ⟨W5.heap.size, 5, none⟩ (.slice A7 l'.length c7)) = Z := ⟨_, rfl⟩
               have hZ' : st6 w6 W5.heap.size ⟨f'.addr, f'.kind, f'.ses, f'.seq, f'.ack, l'⟩ A7 c7 = Z := hZ
               have D7' : Below W5.heap.size W5 w6 := Hb5.out.trans (D7.out.mono Hb5.out.size)
               have FS := st6_fr w6 W5.heap.size ⟨f'.addr, f'.kind, f'.ses, f'.seq, f'.ack, l'⟩ A7 c7
               have DZ : Hid (Below W5.heap.size W5 Z) := Lib.hid (hZ' ▸ below_fr D7' FS D7'.size (fun j e => by omega))
               have KB : Hid (Blk Z W5.heap.size 24 (fvs ⟨f'.addr, f'.kind, f'.ses, f'.seq, f'.ack, l'⟩ A7 c7)) := Lib.hid (hZ' ▸ st6_blk zk)
               have MB : Hid (Made W5.heap.size A7 c7 l' Z) := Lib.hid (hZ' ▸ (M7.out.low Hb5.out.size).fr FS (fun j e => by have := (M7.out.1.lt j e).1; simp at this; omega))
               rw [hZ]
               obtain ⟨gb, hgb⟩ : ∃ gb, W5.heap.size = gb := ⟨_, rfl⟩
               rw [hgb] at KB ⊢
               clear D7' D7 M7 hZ hZ' FS zk x2 x3 x2' x3' m0 m1 m2 m3 m4 m5 mf0 mf1 mf2 mf3 mf4 mf5)
          all_goals (
            clear hgb
            go_wp2_with fail
            have hgz : gf < Z.heap.size := Nat.lt_of_lt_of_le hg5 DZ.out.size
            have v1 : Z.drew.cell? ⟨gf, 1, none⟩ = some (.int .i64 ((N1 : Int) + 1)) := (DZ.out.cell (p := ⟨gf, 1, none⟩) hg5).trans u1
            have v2 : Z.drew.cell? ⟨gf, 2, none⟩ = some (.int .i64 ((N1 : Int) + 2)) := (DZ.out.cell (p := ⟨gf, 2, none⟩) hg5).trans u2
            have b6 : Below Z.heap.size Z (Z.alloc (.cells #[.int .u8 0, .int .u8 0, .int .u8 0, .int .u8 0, .int .u8 0, .slice none 0 0] 24)).drew := ((Below.refl _ Z).alloc (Nat.le_refl _) _).drew
            have b6d : Below Z.heap.size Z Z.drew := (Below.refl _ Z).drew
            have z1' := (b6.cell (p := ⟨gf, 1, none⟩) hgz).trans v1
            have z2' := (b6.cell (p := ⟨gf, 2, none⟩) hgz).trans v2
            have BZ := Lib.hid (BW5.out.trans (DZ.out.mono BW5.out.size))
            have HZd := Lib.hid (HTB.out _ (BZ.out.trans (b6d.mono BZ.out.size)))
            have HZa := Lib.hid (HTB.out _ (BZ.out.trans (b6.mono BZ.out.size)))
            have hgza := Nat.lt_of_lt_of_le hgz b6.size
            have hnez : Z.heap.size ≠ gf := by omega
            have Hb6 := Lib.hid b6
            have q1 : IntKind.i64.wrap ((N1 : Int) + 2) = (N1 : Int) + 2 := by rw [IntKind.wrap_i64]; omega
            have q2 : (0 : Int) ≤ (N1 : Int) + 2 := by omega
            have q4 : (N1 : Int) + 2 ≤ (c8' : Int) := by omega
            have q5 : (N1 : Int) + 2 ≤ (M : Int) := by omega
            clear b6 b6d
            go_region_held3 (fun w' => w'.cell? ⟨gf, 1, none⟩ = some (.int .i64 ((N1 : Int) + 1)) ∧ w'.cell? ⟨gf, 2, none⟩ = some (.int .i64 ((N1 : Int) + 2))) (go_keep) (first
              | (go_at_call 14; refine Calls.mono (DecodeE (l := []) (m := []) (n := 0) (nb := 0) dec_nil rfl rfl (by decide) (fun x hx => by simp at hx) Z.drew HZd.out (fun i x h => by simp at h)) ?_; rintro ee w9 ⟨A9, c9, rfl, M9, D9⟩; have x1 : w9.cell? ⟨gf, 1, none⟩ = some (.int .i64 ((N1 : Int) + 1)) := (D9.out.cell (p := ⟨gf, 1, none⟩) hgz).trans v1; have x2 : w9.cell? ⟨gf, 2, none⟩ = some (.int .i64 ((N1 : Int) + 2)) := (D9.out.cell (p := ⟨gf, 2, none⟩) hgz).trans v2; have zz1 := World.new_ne w9 _ x1)
              | (go_at_call 14; refine Calls.mono (DecodeE (l := []) (m := []) (n := 0) (nb := 0) dec_nil rfl rfl (by decide) (fun x hx => by simp at hx) (Z.alloc (.cells #[.int .u8 0, .int .u8 0, .int .u8 0, .int .u8 0, .int .u8 0, .slice none 0 0] 24)).drew HZa.out (fun i x h => by simp at h)) ?_; rintro ee w9 ⟨A9, c9, rfl, M9, D9⟩; have hwz := D9.out.size; have zk := (show Blk (Z.alloc (.cells #[.int .u8 0, .int .u8 0, .int .u8 0, .int .u8 0, .int .u8 0, .slice none 0 0] 24)).drew Z.heap.size 24 (fvs ⟨0, 0, 0, 0, 0, []⟩ none 0) from Blk.new Z 24 _).fr (Fr.of_below D9.out) (fun h => h); obtain ⟨m0, m1, m2, m3, m4, m5⟩ := fvs_cells zk; simp only at m0 m1 m2 m3 m4 m5; have mf0 := zk.frozen 0; have mf1 := zk.frozen 1; have mf2 := zk.frozen 2; have mf3 := zk.frozen 3; have mf4 := zk.frozen 4; have mf5 := zk.frozen 5; have x1 : w9.cell? ⟨gf, 1, none⟩ = some (.int .i64 ((N1 : Int) + 1)) := (D9.out.cell (p := ⟨gf, 1, none⟩) hgza).trans z1'; have x2 : w9.cell? ⟨gf, 2, none⟩ = some (.int .i64 ((N1 : Int) + 2)) := (D9.out.cell (p := ⟨gf, 2, none⟩) hgza).trans z2'; have x1' := set6_cell (g := Z.heap.size) (f := ⟨0, 0, 0, 0, 0, []⟩) (A := A9) (n := 0) (c := c9) rfl x1 (Nat.lt_of_lt_of_le hgza hwz) hnez; have x2' := set6_cell (g := Z.heap.size) (f := ⟨0, 0, 0, 0, 0, []⟩) (A := A9) (n := 0) (c := c9) rfl x2 (Nat.lt_of_lt_of_le hgza hwz) hnez; simp only at x1' x2'))
            all_goals first
              | (obtain ⟨V9, hV9⟩ : ∃ V9, w9.alloc (.cells #[.int .u8 0, .int .u8 0, .int .u8 0, .int .u8 0, .int .u8 0, .slice A9 0 c9] 24) = V9 := ⟨_, rfl⟩
                 have D9' : Below Z.heap.size Z w9 := ⟨D9.out.os, D9.out.tape, D9.out.output, D9.out.size, D9.out.block⟩
                 have DV : Hid (Below Z.heap.size Z V9) := Lib.hid (hV9 ▸ D9'.alloc D9'.size _)
                 rw [hV9]
                 clear D9' D9 M9 hV9 x1 x2)
              | (obtain ⟨V9, hV9⟩ : ∃ V9, ((((((w9.setCell ⟨Z.heap.size, 0, none⟩ (.int .u8 0)).setCell ⟨Z.heap.size, 1, none⟩ (.int .u8 0)).setCell ⟨Z.heap.size, 2, none⟩ (.int .u8 0)).setCell ⟨Z.heap.size, 3, none⟩ (.int .u8 0)).setCell ⟨Z.heap.size, 4, none⟩ (.int .u8 0)).setCell ⟨Z.heap.size, 5, none⟩ (.slice A9 0 c9)) = V9 := ⟨_, rfl⟩
                 have hV9' : st6 w9 Z.heap.size ⟨0, 0, 0, 0, 0, []⟩ A9 c9 = V9 := hV9
                 have D9' : Below Z.heap.size Z w9 := Hb6.out.trans (D9.out.mono Hb6.out.size)
                 have FS := st6_fr w9 Z.heap.size ⟨0, 0, 0, 0, 0, []⟩ A9 c9
                 have DV : Hid (Below Z.heap.size Z V9) := Lib.hid (hV9' ▸ below_fr D9' FS D9'.size (fun j e => by omega))
                 rw [hV9]
                 clear D9' D9 M9 hV9 hV9' FS zk x1 x2 x1' x2' m0 m1 m2 m3 m4 m5 mf0 mf1 mf2 mf3 mf4 mf5)
            all_goals (
              have BZV := Lib.hid (BZ.out.trans (DV.out.mono BZ.out.size))
              have E5V := Lib.hid (DZ.out.trans (DV.out.mono DZ.out.size))
              have E3V := Lib.hid (EW5.out.trans (E5V.out.mono EW5.out.size))
              have sNew : Hid (∀ w', Below V9.heap.size V9 w' → (Below V9.heap.size V9 w' ∧ (w'.cell? ⟨w.heap.size, 0, none⟩ = some (.int .u8 f.addr) ∧ w'.cell? ⟨w.heap.size, 1, none⟩ = some (.int .u8 f.kind) ∧ w'.cell? ⟨w.heap.size, 2, none⟩ = some (.int .u8 f.ses) ∧ w'.cell? ⟨w.heap.size, 3, none⟩ = some (.int .u8 f.seq) ∧ w'.cell? ⟨w.heap.size, 4, none⟩ = some (.int .u8 f.ack) ∧ w'.cell? ⟨w.heap.size, 5, none⟩ = some (.slice A2 l.length c2)) ∧ (w'.cell? ⟨w.heap.size + 1, 0, none⟩ = some (.int .u8 f'.addr) ∧ w'.cell? ⟨w.heap.size + 1, 1, none⟩ = some (.int .u8 f'.kind) ∧ w'.cell? ⟨w.heap.size + 1, 2, none⟩ = some (.int .u8 f'.ses) ∧ w'.cell? ⟨w.heap.size + 1, 3, none⟩ = some (.int .u8 f'.seq) ∧ w'.cell? ⟨w.heap.size + 1, 4, none⟩ = some (.int .u8 f'.ack) ∧ w'.cell? ⟨w.heap.size + 1, 5, none⟩ = some (.slice A3 l'.length c3)) ∧ (w'.cell? ⟨v5.heap.size, 0, none⟩ = some (.int .u8 f.addr) ∧ w'.cell? ⟨v5.heap.size, 1, none⟩ = some (.int .u8 f.kind) ∧ w'.cell? ⟨v5.heap.size, 2, none⟩ = some (.int .u8 f.ses) ∧ w'.cell? ⟨v5.heap.size, 3, none⟩ = some (.int .u8 f.seq) ∧ w'.cell? ⟨v5.heap.size, 4, none⟩ = some (.int .u8 f.ack) ∧ w'.cell? ⟨v5.heap.size, 5, none⟩ = some (.slice A6 l.length c6)) ∧ (w'.cell? ⟨gb, 0, none⟩ = some (.int .u8 f'.addr) ∧ w'.cell? ⟨gb, 1, none⟩ = some (.int .u8 f'.kind) ∧ w'.cell? ⟨gb, 2, none⟩ = some (.int .u8 f'.ses) ∧ w'.cell? ⟨gb, 3, none⟩ = some (.int .u8 f'.seq) ∧ w'.cell? ⟨gb, 4, none⟩ = some (.int .u8 f'.ack) ∧ w'.cell? ⟨gb, 5, none⟩ = some (.slice A7 l'.length c7)))) := Lib.hid (fun w' b => ⟨b, fvs_cells (HK3.out.fr (Fr.of_below (E3V.out.trans (b.mono E3V.out.size))) (fun h => h)), fvs_cells (HJ3.out.fr (Fr.of_below (E3V.out.trans (b.mono E3V.out.size))) (fun h => h)), fvs_cells (KA.out.fr (Fr.of_below (E5V.out.trans (b.mono E5V.out.size))) (fun h => h)), fvs_cells (KB.out.fr (Fr.of_below (DV.out.trans (b.mono DV.out.size))) (fun h => h))⟩)
              have r1 : Hid (∀ w', Below V9.heap.size V9 w' → RowOf c8 1 w' w'.heap.size A2 l) := Lib.hid (fun w' b => M2''.out.2.1.now (E3V.out.trans (b.mono E3V.out.size)))
              have r2 : Hid (∀ w', Below V9.heap.size V9 w' → RowOf c8 1 w' w'.heap.size A3 l') := Lib.hid (fun w' b => M3'.out.2.1.now (E3V.out.trans (b.mono E3V.out.size)))
              have r3 : Hid (∀ w', Below V9.heap.size V9 w' → RowOf c8 1 w' w'.heap.size A6 l) := Lib.hid (fun w' b => MA.out.2.1.now (E5V.out.trans (b.mono E5V.out.size)))
              have r4 : Hid (∀ w', Below V9.heap.size V9 w' → RowOf c8 1 w' w'.heap.size A7 l') := Lib.hid (fun w' b => MB.out.2.1.now (DV.out.trans (b.mono DV.out.size)))
              have e1 := eqlF f.addr f.kind f.ses f.seq f.ack (strOfNums l)
              have e2 := eqlF f'.addr f'.kind f'.ses f'.seq f'.ack (strOfNums l')
              have bb : Hid (Below V9.heap.size V9 V9.drew) := Lib.hid (Below.refl _ V9).drew
              clear v1 v2 z1' z2' hgz hgza hnez q1 q2 q4 q5 t2 t2' t3 t3' i21 i11 w21 w11 y1 y2 y3 y4 y5 y6 hga hne5 hg5 u1 u2 u3 z1 z2 z3
              go_wp2_with fail
              go_region_held3 (fun w' => Below V9.heap.size V9 w' ∧ (w'.cell? ⟨w.heap.size, 0, none⟩ = some (.int .u8 f.addr) ∧ w'.cell? ⟨w.heap.size, 1, none⟩ = some (.int .u8 f.kind) ∧ w'.cell? ⟨w.heap.size, 2, none⟩ = some (.int .u8 f.ses) ∧ w'.cell? ⟨w.heap.size, 3, none⟩ = some (.int .u8 f.seq) ∧ w'.cell? ⟨w.heap.size, 4, none⟩ = some (.int .u8 f.ack) ∧ w'.cell? ⟨w.heap.size, 5, none⟩ = some (.slice A2 l.length c2)) ∧ (w'.cell? ⟨w.heap.size + 1, 0, none⟩ = some (.int .u8 f'.addr) ∧ w'.cell? ⟨w.heap.size + 1, 1, none⟩ = some (.int .u8 f'.kind) ∧ w'.cell? ⟨w.heap.size + 1, 2, none⟩ = some (.int .u8 f'.ses) ∧ w'.cell? ⟨w.heap.size + 1, 3, none⟩ = some (.int .u8 f'.seq) ∧ w'.cell? ⟨w.heap.size + 1, 4, none⟩ = some (.int .u8 f'.ack) ∧ w'.cell? ⟨w.heap.size + 1, 5, none⟩ = some (.slice A3 l'.length c3)) ∧ (w'.cell? ⟨v5.heap.size, 0, none⟩ = some (.int .u8 f.addr) ∧ w'.cell? ⟨v5.heap.size, 1, none⟩ = some (.int .u8 f.kind) ∧ w'.cell? ⟨v5.heap.size, 2, none⟩ = some (.int .u8 f.ses) ∧ w'.cell? ⟨v5.heap.size, 3, none⟩ = some (.int .u8 f.seq) ∧ w'.cell? ⟨v5.heap.size, 4, none⟩ = some (.int .u8 f.ack) ∧ w'.cell? ⟨v5.heap.size, 5, none⟩ = some (.slice A6 l.length c6)) ∧ (w'.cell? ⟨gb, 0, none⟩ = some (.int .u8 f'.addr) ∧ w'.cell? ⟨gb, 1, none⟩ = some (.int .u8 f'.kind) ∧ w'.cell? ⟨gb, 2, none⟩ = some (.int .u8 f'.ses) ∧ w'.cell? ⟨gb, 3, none⟩ = some (.int .u8 f'.seq) ∧ w'.cell? ⟨gb, 4, none⟩ = some (.int .u8 f'.ack) ∧ w'.cell? ⟨gb, 5, none⟩ = some (.slice A7 l'.length c7))) (exact sNew.out _ bb.out) ((go_at_call 18; refine Calls.mono (OfC rfl _ (by first | exact r1.out _ (And.left (by assumption)) | exact r2.out _ (And.left (by assumption)) | exact r3.out _ (And.left (by assumption)) | exact r4.out _ (And.left (by assumption)))) ?_; rintro ee wq ⟨rfl, D⟩; have bo : Below V9.heap.size V9 _ := And.left (by assumption); have bb : Hid (Below V9.heap.size V9 wq) := Lib.hid (bo.trans (D.out.mono bo.size)); clear bo D))
              go_wp2
              go_ret
              exact ⟨rfl, BZV.out.trans (bb.out.mono BZV.out.size)⟩))
end Go.Proofs.YtfcbbcimblpbnaaDoor.K
