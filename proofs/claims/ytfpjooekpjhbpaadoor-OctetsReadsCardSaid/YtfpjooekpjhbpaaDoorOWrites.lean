/- The walk of OctetsWrites. -/
import Derived.Test.YtfpjooekpjhbpaaDoorOJoins
import Derived.Lib.Builder
namespace Go.Proofs.YtfpjooekpjhbpaaDoor.K
open Go.RowKit
set_option linter.unusedVariables false
set_option linter.unusedSimpArgs false
attribute [local go_sem ↓] Go.wp_at_zero Go.wp_at_succ
/-- A put, as it comes in: its kind, its number, its parts. -/
structure Pt where
  kind : Int
  n : Int
  P : Option Addr
  pc : Nat
  qs : List Part
abbrev Pt.c : Pt → List Value := fun p => [.int .i64 p.kind, .int .u32 p.n, .slice p.P p.qs.length p.pc]
theorem be_mod (n : Int) (k : Nat) : be (n % 256 ^ k) k = be n k := by
  have h := be_add (n / 256 ^ k) (n % 256 ^ k) k k (Nat.le_refl _)
  rw [show n / 256 ^ k * 256 ^ k + n % 256 ^ k = n by have := Int.emod_add_mul_ediv n (256 ^ k); rw [Int.mul_comm] at this; omega] at h
  exact h.symm
/-- A row that can be written, whatever it holds. -/
def Rw (B : Nat) (A : Option Addr) (n c : Nat) (w : World) : Prop := ∃ xs, w.ownsRow B 5 1 (.slice A n c) n xs
theorem Rw.set_ {B n c : Nat} {A : Option Addr} {w : World} (h : Rw B A n c w) (g i : Nat) (u : Value) : Rw B A n c (w.setCell ⟨g, i, none⟩ u) := by
  obtain ⟨xs, h1, h2⟩ := h
  rcases h2 with ⟨hv, h0⟩ | ⟨g', cap, cur, hv, hb, hh, hnc, hcm, hcs, htk⟩
  · exact ⟨xs, h1, .inl ⟨hv, h0⟩⟩
  · by_cases hg : g' = g
    · subst hg
      have hh' : Blk w g' 5 cur := hh
      exact ⟨(cur.setIfInBounds i u).toList.take (n * 1), by rw [List.length_take, Array.length_toList, Array.size_setIfInBounds, hcs]; omega, .inr ⟨g', cap, cur.setIfInBounds i u, hv, hb, hh'.set_ i u, hnc, hcm, by rw [Array.size_setIfInBounds]; exact hcs, rfl⟩⟩
    · have hh' : Blk w g' 5 cur := hh
      exact ⟨xs, h1, .inr ⟨g', cap, cur, hv, hb, hh'.far (by simpa using hg) _, hnc, hcm, hcs, htk⟩⟩
theorem Rw.put {B n c i : Nat} {A : Option Addr} {w : World} (h : Rw B A n c w) (hi : i < n) : ∃ g x, A = some ⟨g, 0, none⟩ ∧ B ≤ g ∧ g < w.heap.size ∧ w.cell? ⟨g, i, none⟩ = some x ∧ w.frozen? ⟨g, i, none⟩ = false := by
  obtain ⟨xs, h⟩ := h
  obtain ⟨g, x, h1, h2, h3, h4, h5, _⟩ := own_put h hi
  exact ⟨g, x, h1, h2, h3, h4, h5⟩
theorem add_field (ad : Addr) (m j : Nat) (hj : 0 < j) : ad.add (m + j) = ⟨(ad.add m).block, (ad.add m).off + j, none⟩ := by
  unfold Addr.add
  by_cases hm : m = 0
  · subst hm
    rw [if_neg (by omega), if_pos rfl]
    simp
  · rw [if_neg (by omega), if_neg hm]
    simp [Nat.add_assoc]
theorem info_Writer : ∃ j, Tryd.prog.info? 36 = some j := Option.isSome_iff_exists.1 (by kernel_rfl)
theorem ptr_same (W : World) (b : Nat) : (binOp .neq 28 (.pointer (some ⟨b, 0, none⟩)) (.pointer (some ⟨b, 0, none⟩))).run Tryd.prog W = .ok (.bool false) W := by
  obtain ⟨j, hj⟩ := info_Writer
  exact Lib.run_neq_ptr_same W _ Tryd.underlying28 hj
theorem pt_at {w : World} {B : Nat} {A : Option Addr} {l : List Pt} (h : RowOf Pt.c 3 w B A l) {i : Nat} (hi : i < l.length) :
    ∃ ad, A = some ad ∧ ad.block < B ∧ w.cell? (ad.add (i * 3)) = some (.int .i64 (l[i]).kind) ∧ w.cell? ⟨(ad.add (i * 3)).block, (ad.add (i * 3)).off + 1, none⟩ = some (.int .u32 (l[i]).n) ∧
      w.cell? ⟨(ad.add (i * 3)).block, (ad.add (i * 3)).off + 2, none⟩ = some (.slice (l[i]).P (l[i]).qs.length (l[i]).pc) := by
  obtain ⟨ad, rfl, hb, hc⟩ := h i (l[i]) (List.getElem?_eq_getElem hi)
  have k1 := hc 1 _ rfl
  have k2 := hc 2 _ rfl
  rw [add_field ad (i * 3) _ (by omega)] at k1 k2
  exact ⟨ad, rfl, hb, hc 0 _ rfl, k1, k2⟩
theorem In2.more {B B' : Nat} {P : Option Addr} {qs : List Part} {w : World} (h : In2 B P qs w) (hB : B ≤ B') : In2 B' P qs w := ⟨h.row.more_ hB, fun p hp => ⟨((h.each p hp).1).more_ hB, (h.each p hp).2⟩⟩
/-- Parts of the call's own, from B on and below U, that may be written. -/
structure WO (B U : Nat) (Q : Option Addr) (qc : Nat) (ps : List Part) (w : World) : Prop where
  row : w.ownsRow B 26 1 (.slice Q ps.length qc) ps.length (ps.flatMap cP)
  each : ∀ p ∈ ps, Rw B p.1 p.2.2.length p.2.1 w ∧ ∀ ad, p.1 = some ad → ad.block < U
theorem Own5.wo {B Z qc U : Nat} {Q : Option Addr} {ps : List Part} {w : World} (h : Own5 B (.slice Q Z qc) ps w) (hZ : ps.length = Z) (hU : ∀ p ∈ ps, ∀ ad, p.1 = some ad → ad.block < U) : WO B U Q qc ps w := by
  subst hZ
  exact ⟨h.row, fun p hp => ⟨⟨_, (h.each p hp).1.1⟩, hU p hp⟩⟩
theorem WO.put {B U qc i : Nat} {Q : Option Addr} {ps : List Part} {p : Part} {w : World} (h : WO B U Q qc ps w) (hp : p ∈ ps) (hi : i < p.2.2.length) : ∃ g x, p.1 = some ⟨g, 0, none⟩ ∧ B ≤ g ∧ g < U ∧ w.cell? ⟨g, i, none⟩ = some x ∧ w.frozen? ⟨g, i, none⟩ = false ∧ ∀ u, WO B U Q qc ps (w.setCell ⟨g, i, none⟩ u) := by
  obtain ⟨h1, h2⟩ := h.each p hp
  obtain ⟨g, x, e, hg, hlt, hc, hf⟩ := h1.put hi
  refine ⟨g, x, e, hg, h2 _ e, hc, hf, fun u => ⟨?_, fun q hq => ⟨((h.each q hq).1).set_ g i u, (h.each q hq).2⟩⟩⟩
  obtain ⟨xs, hx⟩ := h1
  have hne : (Value.slice Q ps.length qc).ownBlock ≠ some g := fun e2 => own_ne h.row hx (by decide) g e2 (by rw [e]; rfl)
  exact own_fr h.row ((Fr.refl (fun j => j = g) w).setCell (p := ⟨g, i, none⟩) (fun _ => rfl) u) (fun j e2 e3 => by subst e3; exact hne e2)
/-- What the loop of OctetsWrites holds. -/
structure WI (w : World) (b : Nat) (k : Nat) (v : Value) (acc : List Int) (wr : World) : Prop where
  hw : Wrt b v acc wr
  hv : ∀ j, v.ownBlock = some j → w.heap.size ≤ j
  hb : Below w.heap.size w wr
  len : acc.length ≤ 250 * k
set_option maxHeartbeats 8000000 in
set_option maxRecDepth 10000 in
theorem owrites_walk (A : Option Addr) (c : Nat) (l : List Pt) (w : World) (h0 : RowOf Pt.c 3 w w.heap.size A l) (hl : l.length ≤ 140737488351232) (hp : ∀ p ∈ l, 0 ≤ p.n ∧ p.n < 4294967296 ∧ In2 w.heap.size p.P p.qs w ∧ p.qs.length ≤ 9223372036854775807) :
    Calls Tryd.prog 4 #[.slice A l.length c] w fun e w' => e = .returned (.bool true) ∧ Below w.heap.size w w' := by
  have H0 := Lib.hid h0
  have HP := Lib.hid hp
  clear h0 hp
  go_enter Tryd.func4, Tryd.ntmps4
  go_wp2_with fail
  refine (shown1_walk _).mono ?_
  rintro e w1 ⟨rfl, H1⟩
  have hs1 := H1.out.size
  obtain ⟨b, hb⟩ : ∃ b, b = w1.heap.size := ⟨_, rfl⟩
  have HBE := Lib.hid hb
  have hwb : w.heap.size ≤ b := by omega
  have HST : Hid (WI w b 0 (.slice none 0 0) [] (nw w1)) := Lib.hid ⟨hb ▸ wrt_new w1, base_nil _, H1.out.alloc hs1 _, by simp⟩
  clear hb
  go_wp2
  rw [← HBE.out]
  go_loopw [5, 6] (fun s i wr => ∃ (k : Nat) (v : Value) (acc : List Int), i = .int .i64 k ∧ s = .string (strOfNums acc) ∧ k ≤ l.length ∧ k ≤ 40 ∧ WI w b k v acc wr) (fun _ i _ => l.length - (intOf i).toNat)
  case atStart => exact ⟨0, _, [], rfl, by rw [str_nil]; rfl, by omega, by omega, HST.out⟩
  case round =>
    obtain ⟨k, v, acc, rfl, rfl, hk, hk40, hwi⟩ := hrel
    have HWI := Lib.hid hwi
    clear hwi
    by_cases hgo : k < l.length ∧ k < 40
    · obtain ⟨hlt, h40⟩ := hgo
      have hbs : b < wr.heap.size := HWI.out.hw.lt
      have hacc := HWI.out.len
      have hHW := HWI.out.hw
      have HW0 := Lib.hid hHW
      have HV0 := Lib.hid HWI.out.hv
      have HVL := Lib.hid hHW.ltv
      have HB0 := Lib.hid HWI.out.hb
      obtain ⟨hp0, hp1, hp2, hp3⟩ := HP.out l[k] (List.getElem_mem hlt)
      obtain ⟨ad, rfl, hbd, q0, q1, q2⟩ := pt_at (H0.out.below HB0.out) hlt
      have HI2 := Lib.hid (hp2.below HB0.out)
      clear hp2 HWI hHW
      generalize l[k] = q at *
      obtain ⟨kind, n, P, pc, qs⟩ := q
      simp only at hp0 hp1 hp3 q0 q1 q2 HI2
      have hws := HB0.out.size
      rcases (by omega : kind = 1 ∨ kind = 2 ∨ kind = 3 ∨ kind = 4 ∨ (kind ≠ 1 ∧ kind ≠ 2 ∧ kind ≠ 3 ∧ kind ≠ 4)) with rfl | rfl | rfl | rfl | ⟨n1, n2, n3, n4⟩
      · have h40i : (k : Int) < 40 := by omega

        go_wp2_with fail
        refine (WU8_own (n := n % 256) (HW0.out.alloc _) (by omega) (by omega) (by omega)).mono ?_
        rintro e w2 ⟨rfl, v2, H2, F2⟩
        have hbm : be (n % 256) 1 = be n 1 := be_mod n 1
        rw [hbm] at H2
        have c1 : w2.cell? ⟨wr.heap.size, 1, none⟩ = some (.int .u32 n) := ((Blk.new wr 43 _).fr F2.out.fr (fun e => by
          rcases e with e | e
          · omega
          · have := HVL.out _ e; omega)).cell 1
        have HB2 := Lib.hid (wfr_below (HB0.out.alloc hws _) F2.out hwb HV0.out (Nat.le_refl _))
        have HV : Hid (∀ j, v2.ownBlock = some j → w.heap.size ≤ j) := Lib.hid (wfr_base F2.out HV0.out (by simp; omega))
        clear hbm
        go_wp2_with fail
        refine (TextC n 1 _ hp0 hp1 (by omega)).mono ?_
        rintro e wt ⟨rfl, HT⟩
        have HB := Lib.hid (HB2.out.trans (HT.out.mono HB2.out.size))
        have HW := Lib.hid (H2.out.fr (Fr.of_below HT.out) (fun h => h) (fun _ _ h => h))
        have happ := str_append acc (be n 1)
        have hss : (strOfNums acc).size + (strOfNums (be n 1)).size ≤ 9223372036854775807 := by rw [str_size, str_size, be_length]; omega
        have HLEN : Hid ((acc ++ be n 1).length ≤ 250 * (k + 1)) := Lib.hid (by rw [List.length_append, be_length]; omega)
        generalize acc ++ be n 1 = acc2 at *
        clear H2 HB2 c1 F2
        have hlen2 := HLEN.out
        go_wp2_with fail
        refine (WDoneC HW.out (by omega)).mono ?_
        rintro e w5 ⟨A5, c5, rfl, H5, F5⟩
        have s1 := str_row (c := c5) H5.out.2.1
        have HW5 := Lib.hid (HW.out.fr F5.out (fun h => h) (fun _ _ h => h))
        have HB5 := Lib.hid (fr0_below HB.out F5.out (Nat.le_refl _))
        have HO5 := Lib.hid H5.out.1
        have HVT := Lib.hid HW.out.ltv
        have hbt := HW.out.lt
        have hst := F5.out.size
        have hwt9 := HB.out.size
        generalize wt.heap.size = T at *
        clear H5
        have hpn := ptr_same w5 b
        go_wp2
        clear s1 hpn
        go_loopw [14] (fun i wz => ∃ (m : Nat) (xs : List Value), i = .int .i64 m ∧ m ≤ acc2.length ∧ wz.ownsRow T 5 1 (.slice A5 acc2.length c5) acc2.length xs ∧ Fr (fun j => T ≤ j) w5 wz) (fun i _ => acc2.length - (intOf i).toNat)
        case atStart => exact ⟨0, _, rfl, by omega, HO5.out, Fr.refl _ _⟩
        case round =>
          obtain ⟨m, xs, rfl, hm, hx, hf⟩ := hrel
          by_cases hmo : m < acc2.length
          · obtain ⟨g, x, rfl, hbg, hlg, hcx, hfx, hst2⟩ := own_put hx hmo
            have HF := Lib.hid hf
            have HST2 := Lib.hid hst2
            clear hf hst2 hx
            go_wp2
            go_roundw
            case rel => exact ⟨m + 1, _, by go_num, by omega, HST2.out _, HF.out.setCell (p := ⟨g, m, none⟩) (fun _ => hbg) _⟩
            case measure => simp [intOf]; omega
          · have HF := Lib.hid hf
            clear hf hx
            go_wp2
            go_roundw
            case rel => exact ⟨k + 1, v2, acc2, by go_num, rfl, by omega, by omega, HW5.out.fr HF.out (by omega) (fun j e => by have := HVT.out j e; omega), HV.out, below_fr HB5.out HF.out (by omega) (fun j e => by omega), by omega⟩
            case measure => simp [intOf]; omega
      · have h40i : (k : Int) < 40 := by omega

        go_wp2_with fail
        refine (WU16_own (n := n % 65536) (HW0.out.alloc _) (by omega) (by omega) (by omega)).mono ?_
        rintro e w2 ⟨rfl, v2, H2, F2⟩
        have hbm : be (n % 65536) 2 = be n 2 := be_mod n 2
        rw [hbm] at H2
        have c1 : w2.cell? ⟨wr.heap.size, 1, none⟩ = some (.int .u32 n) := ((Blk.new wr 43 _).fr F2.out.fr (fun e => by
          rcases e with e | e
          · omega
          · have := HVL.out _ e; omega)).cell 1
        have HB2 := Lib.hid (wfr_below (HB0.out.alloc hws _) F2.out hwb HV0.out (Nat.le_refl _))
        have HV : Hid (∀ j, v2.ownBlock = some j → w.heap.size ≤ j) := Lib.hid (wfr_base F2.out HV0.out (by simp; omega))
        clear hbm
        go_wp2_with fail
        refine (TextC n 2 _ hp0 hp1 (by omega)).mono ?_
        rintro e wt ⟨rfl, HT⟩
        have HB := Lib.hid (HB2.out.trans (HT.out.mono HB2.out.size))
        have HW := Lib.hid (H2.out.fr (Fr.of_below HT.out) (fun h => h) (fun _ _ h => h))
        have happ := str_append acc (be n 2)
        have hss : (strOfNums acc).size + (strOfNums (be n 2)).size ≤ 9223372036854775807 := by rw [str_size, str_size, be_length]; omega
        have HLEN : Hid ((acc ++ be n 2).length ≤ 250 * (k + 1)) := Lib.hid (by rw [List.length_append, be_length]; omega)
        generalize acc ++ be n 2 = acc2 at *
        clear H2 HB2 c1 F2
        have hlen2 := HLEN.out
        go_wp2_with fail
        refine (WDoneC HW.out (by omega)).mono ?_
        rintro e w5 ⟨A5, c5, rfl, H5, F5⟩
        have s1 := str_row (c := c5) H5.out.2.1
        have HW5 := Lib.hid (HW.out.fr F5.out (fun h => h) (fun _ _ h => h))
        have HB5 := Lib.hid (fr0_below HB.out F5.out (Nat.le_refl _))
        have HO5 := Lib.hid H5.out.1
        have HVT := Lib.hid HW.out.ltv
        have hbt := HW.out.lt
        have hst := F5.out.size
        have hwt9 := HB.out.size
        generalize wt.heap.size = T at *
        clear H5
        have hpn := ptr_same w5 b
        go_wp2
        clear s1 hpn
        go_loopw [14] (fun i wz => ∃ (m : Nat) (xs : List Value), i = .int .i64 m ∧ m ≤ acc2.length ∧ wz.ownsRow T 5 1 (.slice A5 acc2.length c5) acc2.length xs ∧ Fr (fun j => T ≤ j) w5 wz) (fun i _ => acc2.length - (intOf i).toNat)
        case atStart => exact ⟨0, _, rfl, by omega, HO5.out, Fr.refl _ _⟩
        case round =>
          obtain ⟨m, xs, rfl, hm, hx, hf⟩ := hrel
          by_cases hmo : m < acc2.length
          · obtain ⟨g, x, rfl, hbg, hlg, hcx, hfx, hst2⟩ := own_put hx hmo
            have HF := Lib.hid hf
            have HST2 := Lib.hid hst2
            clear hf hst2 hx
            go_wp2
            go_roundw
            case rel => exact ⟨m + 1, _, by go_num, by omega, HST2.out _, HF.out.setCell (p := ⟨g, m, none⟩) (fun _ => hbg) _⟩
            case measure => simp [intOf]; omega
          · have HF := Lib.hid hf
            clear hf hx
            go_wp2
            go_roundw
            case rel => exact ⟨k + 1, v2, acc2, by go_num, rfl, by omega, by omega, HW5.out.fr HF.out (by omega) (fun j e => by have := HVT.out j e; omega), HV.out, below_fr HB5.out HF.out (by omega) (fun j e => by omega), by omega⟩
            case measure => simp [intOf]; omega
      · have h40i : (k : Int) < 40 := by omega

        go_wp2_with fail
        refine (WU32_own (n := n) (HW0.out.alloc _) (by omega) (by omega) (by omega)).mono ?_
        rintro e w2 ⟨rfl, v2, H2, F2⟩
        have hbm : be (n) 4 = be n 4 := rfl
        rw [hbm] at H2
        have c1 : w2.cell? ⟨wr.heap.size, 1, none⟩ = some (.int .u32 n) := ((Blk.new wr 43 _).fr F2.out.fr (fun e => by
          rcases e with e | e
          · omega
          · have := HVL.out _ e; omega)).cell 1
        have HB2 := Lib.hid (wfr_below (HB0.out.alloc hws _) F2.out hwb HV0.out (Nat.le_refl _))
        have HV : Hid (∀ j, v2.ownBlock = some j → w.heap.size ≤ j) := Lib.hid (wfr_base F2.out HV0.out (by simp; omega))
        clear hbm
        go_wp2_with fail
        refine (TextC n 4 _ hp0 hp1 (by omega)).mono ?_
        rintro e wt ⟨rfl, HT⟩
        have HB := Lib.hid (HB2.out.trans (HT.out.mono HB2.out.size))
        have HW := Lib.hid (H2.out.fr (Fr.of_below HT.out) (fun h => h) (fun _ _ h => h))
        have happ := str_append acc (be n 4)
        have hss : (strOfNums acc).size + (strOfNums (be n 4)).size ≤ 9223372036854775807 := by rw [str_size, str_size, be_length]; omega
        have HLEN : Hid ((acc ++ be n 4).length ≤ 250 * (k + 1)) := Lib.hid (by rw [List.length_append, be_length]; omega)
        generalize acc ++ be n 4 = acc2 at *
        clear H2 HB2 c1 F2
        have hlen2 := HLEN.out
        go_wp2_with fail
        refine (WDoneC HW.out (by omega)).mono ?_
        rintro e w5 ⟨A5, c5, rfl, H5, F5⟩
        have s1 := str_row (c := c5) H5.out.2.1
        have HW5 := Lib.hid (HW.out.fr F5.out (fun h => h) (fun _ _ h => h))
        have HB5 := Lib.hid (fr0_below HB.out F5.out (Nat.le_refl _))
        have HO5 := Lib.hid H5.out.1
        have HVT := Lib.hid HW.out.ltv
        have hbt := HW.out.lt
        have hst := F5.out.size
        have hwt9 := HB.out.size
        generalize wt.heap.size = T at *
        clear H5
        have hpn := ptr_same w5 b
        go_wp2
        clear s1 hpn
        go_loopw [14] (fun i wz => ∃ (m : Nat) (xs : List Value), i = .int .i64 m ∧ m ≤ acc2.length ∧ wz.ownsRow T 5 1 (.slice A5 acc2.length c5) acc2.length xs ∧ Fr (fun j => T ≤ j) w5 wz) (fun i _ => acc2.length - (intOf i).toNat)
        case atStart => exact ⟨0, _, rfl, by omega, HO5.out, Fr.refl _ _⟩
        case round =>
          obtain ⟨m, xs, rfl, hm, hx, hf⟩ := hrel
          by_cases hmo : m < acc2.length
          · obtain ⟨g, x, rfl, hbg, hlg, hcx, hfx, hst2⟩ := own_put hx hmo
            have HF := Lib.hid hf
            have HST2 := Lib.hid hst2
            clear hf hst2 hx
            go_wp2
            go_roundw
            case rel => exact ⟨m + 1, _, by go_num, by omega, HST2.out _, HF.out.setCell (p := ⟨g, m, none⟩) (fun _ => hbg) _⟩
            case measure => simp [intOf]; omega
          · have HF := Lib.hid hf
            clear hf hx
            go_wp2
            go_roundw
            case rel => exact ⟨k + 1, v2, acc2, by go_num, rfl, by omega, by omega, HW5.out.fr HF.out (by omega) (fun j e => by have := HVT.out j e; omega), HV.out, below_fr HB5.out HF.out (by omega) (fun j e => by omega), by omega⟩
            case measure => simp [intOf]; omega
      · have h40i : (k : Int) < 40 := by omega
        go_wp2_with fail
        obtain ⟨W0, hW0⟩ : ∃ W0, W0 = wr.alloc (Obj.cells #[Value.int IntKind.i64 4, Value.int IntKind.u32 n, Value.slice P qs.length pc] 43) := ⟨_, rfl⟩
        have hsW : W0.heap.size = wr.heap.size + 1 := by rw [hW0]; simp
        have HWa : Hid (Wrt b v acc W0) := Lib.hid (hW0 ▸ HW0.out.alloc _)
        have HBa : Hid (Below w.heap.size w W0) := Lib.hid (hW0 ▸ HB0.out.alloc hws _)
        have HIa : Hid (In2 W0.heap.size P qs W0) := Lib.hid ((HI2.out.below (hW0 ▸ (Below.refl w.heap.size wr).alloc hws _)).more (by omega))
        rw [← hW0]
        clear hW0
        have HSW := Lib.hid hsW
        have hlo : wr.heap.size ≤ W0.heap.size := by omega
        clear hsW
        refine (parts1_walk HIa.out hp3).mono ?_
        rintro e w4 ⟨vv, ps, rfl, HO4, _, HB4⟩
        obtain ⟨Q, qc, rfl, hqc, hps⟩ := HO4.out.ps
        have HPS := Lib.hid hps
        have hs4 := HB4.out.size
        have hpl : ps.length ≤ 5 := HO4.out.few
        have hfl : (flat ps).length ≤ 250 := by have := flat_le (n := 50) (fun p hp => ((HO4.out.each p hp).2.1)); omega
        have HWb := Lib.hid (HWa.out.fr (Fr.of_below HB4.out) (fun h => h) (fun _ _ h => h))
        have HBb := Lib.hid (HBa.out.trans (HB4.out.mono HBa.out.size))
        have hs4w := HBb.out.size
        clear hps
        go_wp2_with fail
        refine (PsBytes rfl HWb.out HPS.out (Nat.le_refl _) (by omega) (fun j e => by have := HVL.out j e; omega) (by omega) (by omega)).mono ?_
        rintro e w5 ⟨rfl, v5, H5, F5⟩
        have HO5 := Lib.hid ((HO4.out.fr F5.out.fr (fun j hB hlt e => by
          rcases e with e | e
          · omega
          · have := HVL.out _ e; omega)).wo rfl (fun p hp ad e => ((HPS.out.each p hp).2 ad e).2))
        have HV : Hid (∀ j, v5.ownBlock = some j → w.heap.size ≤ j) := Lib.hid (wfr_base F5.out HV0.out hs4w)
        have HVs : Hid (∀ j, v5.ownBlock = some j → ¬ (W0.heap.size ≤ j ∧ j < w4.heap.size)) := Lib.hid (fun j e h => by
          rcases F5.out.row j e with h2 | h2
          · have := HVL.out _ h2; omega
          · omega)
        have HB5 := Lib.hid (wfr_below HBb.out F5.out hwb HV0.out (Nat.le_refl _))
        have happ := str_append acc (flat ps)
        have hss : (strOfNums acc).size + (strOfNums (flat ps)).size ≤ 9223372036854775807 := by rw [str_size, str_size]; omega
        have HLEN : Hid ((acc ++ flat ps).length ≤ 250 * (k + 1)) := Lib.hid (by rw [List.length_append]; omega)
        have hWB : w.heap.size ≤ W0.heap.size := HBa.out.size
        have hs5 : w4.heap.size ≤ w5.heap.size := F5.out.fr.size
        have hbW : b < W0.heap.size := by omega
        generalize acc ++ flat ps = acc2 at *
        clear HIa HWa HBa HPS HWb HO4 HB4 F5 HSW hlo hs4w HBb hfl
        generalize w4.heap.size = U at *
        generalize W0.heap.size = B at *
        go_wp2
        clear happ hss
        go_loopw [11, 12] (fun i _ wz => ∃ m : Nat, i = .int .i64 m ∧ m ≤ ps.length ∧ WO B U Q qc ps wz ∧ Fr (fun j => B ≤ j ∧ j < U) w5 wz) (fun i _ _ => ps.length - (intOf i).toNat)
        case atStart => exact ⟨0, rfl, by omega, HO5.out, Fr.refl _ _⟩
        case round =>
          obtain ⟨m, rfl, hm, hwo, hf⟩ := hrel
          by_cases hmo : m < ps.length
          · obtain ⟨ad2, rfl, _, hcell⟩ := (row_own (c := cP) (fun _ => rfl) hwo.row).one (g := fun p => .slice p.1 p.2.2.length p.2.1) (fun _ => rfl) hmo
            have HMem := Lib.hid (List.getElem_mem hmo)
            have HWO := Lib.hid hwo
            have HF := Lib.hid hf
            obtain ⟨q, hq⟩ : ∃ q, q = ps[m] := ⟨_, rfl⟩
            have HQ := Lib.hid hq.symm
            rw [← hq] at HMem
            rw [← hq] at hcell
            clear hwo hf hq
            obtain ⟨qA, qcp, ql⟩ := q
            simp only at hcell
            obtain ⟨wo, hwo⟩ : ∃ wo : World, wo = wr := ⟨_, rfl⟩
            rw [← hwo] at HWO HF hcell ⊢
            clear hwo
            have hqlen : ql.length ≤ 9223372036854775807 := by
              obtain ⟨⟨xs, h1, h2⟩, _⟩ := HWO.out.each _ HMem.out
              rcases h2 with ⟨hv, h0⟩ | ⟨g, cap, cur, hv, _, _, hnc, hcm, _⟩
              · simp only at h0; omega
              · unfold maxLen at hcm; simp only at hnc; omega
            go_wp2
            clear hcell
            go_loopw [12] (fun i wy => ∃ j : Nat, i = .int .i64 j ∧ j ≤ ql.length ∧ WO B U (some ad2) qc ps wy ∧ Fr (fun j => B ≤ j ∧ j < U) w5 wy) (fun i _ => ql.length - (intOf i).toNat)
            case atStart => exact ⟨0, rfl, by omega, HWO.out, HF.out⟩
            case round =>
              obtain ⟨j, rfl, hj, hwo, hf⟩ := hrel
              obtain ⟨ad3, e3, _, hcell⟩ := (row_own (c := cP) (fun _ => rfl) hwo.row).one (g := fun p => .slice p.1 p.2.2.length p.2.1) (fun _ => rfl) hmo
              injection e3 with e3
              subst e3
              rw [HQ.out] at hcell
              simp only at hcell
              have HF2 := Lib.hid hf
              by_cases hjo : j < ql.length
              · obtain ⟨g, x, e, hg, hgU, hcx, hfx, hput⟩ := hwo.put HMem.out hjo
                have e : qA = some ⟨g, 0, none⟩ := e
                subst e
                have HPut := Lib.hid hput
                clear hput hwo hf
                go_wp2
                go_roundw
                case rel => exact ⟨j + 1, by go_num, by omega, HPut.out _, HF2.out.setCell (p := ⟨g, j, none⟩) (fun _ => ⟨hg, hgU⟩) _⟩
                case measure => simp [intOf]; omega
              · have HWO2 := Lib.hid hwo
                clear hwo hf
                go_wp2
                go_roundw
                case rel => exact ⟨m + 1, by go_num, by omega, HWO2.out, HF2.out⟩
                case measure => simp [intOf]; omega
          · obtain ⟨wt, hwt⟩ : ∃ wt : World, wt = wr := ⟨_, rfl⟩
            rw [← hwt] at hf ⊢
            have HW : Hid (Wrt b v5 acc2 wt) := Lib.hid (H5.out.fr hf (by omega) (fun j e => HVs.out j e))
            have HB : Hid (Below w.heap.size w wt) := Lib.hid (below_fr HB5.out hf (by omega) (fun j e => by omega))
            clear hf hwt hwo HB5 H5 HO5
            have hlen2 := HLEN.out
            go_wp2_with fail
            refine (WDoneC HW.out (by omega)).mono ?_
            rintro e w6 ⟨A5, c5, rfl, H6, F6⟩
            have s1 := str_row (c := c5) H6.out.2.1
            have HW5 := Lib.hid (HW.out.fr F6.out (fun h => h) (fun _ _ h => h))
            have HB6 := Lib.hid (fr0_below HB.out F6.out (Nat.le_refl _))
            have HO6 := Lib.hid H6.out.1
            have HVT := Lib.hid HW.out.ltv
            have hbt := HW.out.lt
            have hst := F6.out.size
            have hwt9 := HB.out.size
            generalize wt.heap.size = T at *
            clear H6
            have hpn := ptr_same w6 b
            go_wp2
            clear s1 hpn
            go_loopw [14] (fun i wz => ∃ (m : Nat) (xs : List Value), i = .int .i64 m ∧ m ≤ acc2.length ∧ wz.ownsRow T 5 1 (.slice A5 acc2.length c5) acc2.length xs ∧ Fr (fun j => T ≤ j) w6 wz) (fun i _ => acc2.length - (intOf i).toNat)
            case atStart => exact ⟨0, _, rfl, by omega, HO6.out, Fr.refl _ _⟩
            case round =>
              obtain ⟨m, xs, rfl, hm, hx, hf⟩ := hrel
              by_cases hmo : m < acc2.length
              · obtain ⟨g, x, rfl, hbg, hlg, hcx, hfx, hst2⟩ := own_put hx hmo
                have HF := Lib.hid hf
                have HST2 := Lib.hid hst2
                clear hf hst2 hx
                go_wp2
                go_roundw
                case rel => exact ⟨m + 1, _, by go_num, by omega, HST2.out _, HF.out.setCell (p := ⟨g, m, none⟩) (fun _ => hbg) _⟩
                case measure => simp [intOf]; omega
              · have HF := Lib.hid hf
                clear hf hx
                go_wp2
                go_roundw
                case rel => exact ⟨k + 1, v5, acc2, by go_num, rfl, by omega, by omega, HW5.out.fr HF.out (by omega) (fun j e => by have := HVT.out j e; omega), HV.out, below_fr HB6.out HF.out (by omega) (fun j e => by omega), by omega⟩
                case measure => simp [intOf]; omega
      · have h40i : (k : Int) < 40 := by omega
        have k1 : (kind == 1) = false := by simp [n1]
        have k2 : (kind == 2) = false := by simp [n2]
        have k3 : (kind == 3) = false := by simp [n3]
        have k4 : (kind == 4) = false := by simp [n4]
        go_wp2_with fail
        obtain ⟨wt, hwt⟩ : ∃ wt, wt = wr.alloc (Obj.cells #[Value.int IntKind.i64 kind, Value.int IntKind.u32 n, Value.slice P qs.length pc] 43) := ⟨_, rfl⟩
        have HW : Hid (Wrt b v acc wt) := Lib.hid (hwt ▸ HW0.out.alloc _)
        have HB : Hid (Below w.heap.size w wt) := Lib.hid (hwt ▸ HB0.out.alloc hws _)
        have HV := HV0
        have HLEN : Hid (acc.length ≤ 250 * (k + 1)) := Lib.hid (by omega)
        rw [← hwt]
        clear hwt k1 k2 k3 k4
        have hlen2 := HLEN.out
        go_wp2_with fail
        refine (WDoneC HW.out (by omega)).mono ?_
        rintro e w5 ⟨A5, c5, rfl, H5, F5⟩
        have s1 := str_row (c := c5) H5.out.2.1
        have HW5 := Lib.hid (HW.out.fr F5.out (fun h => h) (fun _ _ h => h))
        have HB5 := Lib.hid (fr0_below HB.out F5.out (Nat.le_refl _))
        have HO5 := Lib.hid H5.out.1
        have HVT := Lib.hid HW.out.ltv
        have hbt := HW.out.lt
        have hst := F5.out.size
        have hwt9 := HB.out.size
        generalize wt.heap.size = T at *
        clear H5
        have hpn := ptr_same w5 b
        go_wp2
        clear s1 hpn
        go_loopw [14] (fun i wz => ∃ (m : Nat) (xs : List Value), i = .int .i64 m ∧ m ≤ acc.length ∧ wz.ownsRow T 5 1 (.slice A5 acc.length c5) acc.length xs ∧ Fr (fun j => T ≤ j) w5 wz) (fun i _ => acc.length - (intOf i).toNat)
        case atStart => exact ⟨0, _, rfl, by omega, HO5.out, Fr.refl _ _⟩
        case round =>
          obtain ⟨m, xs, rfl, hm, hx, hf⟩ := hrel
          by_cases hmo : m < acc.length
          · obtain ⟨g, x, rfl, hbg, hlg, hcx, hfx, hst2⟩ := own_put hx hmo
            have HF := Lib.hid hf
            have HST2 := Lib.hid hst2
            clear hf hst2 hx
            go_wp2
            go_roundw
            case rel => exact ⟨m + 1, _, by go_num, by omega, HST2.out _, HF.out.setCell (p := ⟨g, m, none⟩) (fun _ => hbg) _⟩
            case measure => simp [intOf]; omega
          · have HF := Lib.hid hf
            clear hf hx
            go_wp2
            go_roundw
            case rel => exact ⟨k + 1, v, acc, by go_num, rfl, by omega, by omega, HW5.out.fr HF.out (by omega) (fun j e => by have := HVT.out j e; omega), HV.out, below_fr HB5.out HF.out (by omega) (fun j e => by omega), by omega⟩
            case measure => simp [intOf]; omega
    · have h40i : k < l.length → ¬ (k : Int) < 40 := by omega
      rcases (by omega : (¬ k < l.length) ∨ (k < l.length ∧ ¬ k < 40)) with hlt | ⟨hlt, h40⟩
      all_goals
        have hacc := HWI.out.len
        have h40j : (k : Int) < 40 ∨ ¬ (k : Int) < 40 := by omega
        clear h40i h40j
        have hw := HWI.out.hw
        have HW := Lib.hid hw
        have HBz := Lib.hid HWI.out.hb
        clear hw
      · go_wp2_with fail
        refine (WDoneC HW.out (by omega)).mono ?_
        rintro e w5 ⟨A5, c5, rfl, H5, F5⟩
        have s1 := str_row (c := c5) H5.out.2.1
        go_wp2
        go_ret
        exact ⟨rfl, fr0_below HBz.out F5.out (Nat.le_refl _)⟩
      · have h40i : ¬ (k : Int) < 40 := by omega
        go_wp2_with fail
        refine (WDoneC HW.out (by omega)).mono ?_
        rintro e w5 ⟨A5, c5, rfl, H5, F5⟩
        have s1 := str_row (c := c5) H5.out.2.1
        go_wp2
        go_ret
        exact ⟨rfl, fr0_below HBz.out F5.out (Nat.le_refl _)⟩
end Go.Proofs.YtfpjooekpjhbpaaDoor.K
