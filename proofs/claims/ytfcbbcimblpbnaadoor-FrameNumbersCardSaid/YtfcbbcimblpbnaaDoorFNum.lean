/- The walk of FrameNumbers. -/
import Derived.Test.YtfcbbcimblpbnaaDoorF6
import Derived.Laws.MakeOwn
namespace Go.Proofs.YtfcbbcimblpbnaaDoor.K
open Go.RowKit
set_option linter.unusedVariables false
set_option linter.unusedSimpArgs false
attribute [local go_sem] min2_min min_two
theorem RightY {A : Option Addr} {c nb : Nat} {a k s q x : Int} {m : List Int} (hr : rightF ⟨a, k, s, q, x, m⟩ = true) (hn : m.length = nb) (w : World) :
    Calls Tryd.prog 16 #[.agg #[.int .u8 a, .int .u8 k, .int .u8 s, .int .u8 q, .int .u8 x, .slice A nb c]] w fun e w' => e = .returned (.int .i64 0) ∧ Hid (Below w.heap.size w w') := by
  subst hn
  have := RightFC ⟨a, k, s, q, x, m⟩ A c w
  rw [hr] at this
  exact this
theorem RightN {A : Option Addr} {c nb : Nat} {a k s q x : Int} {m : List Int} (hr : rightF ⟨a, k, s, q, x, m⟩ = false) (hn : m.length = nb) (w : World) :
    Calls Tryd.prog 16 #[.agg #[.int .u8 a, .int .u8 k, .int .u8 s, .int .u8 q, .int .u8 x, .slice A nb c]] w fun e w' => e = .returned (.int .i64 1) ∧ Hid (Below w.heap.size w w') := by
  subst hn
  have := RightFC ⟨a, k, s, q, x, m⟩ A c w
  rw [hr] at this
  exact this
/-- What is known where a frame is encoded. -/
structure NumS (w1 : World) (F : Fp) (g : Nat) (A : Option Addr) (c nb : Nat) (W : World) : Prop where
  ok : F.ok
  len : F.B.length = nb
  bel : Below w1.heap.size w1 W
  blk : Blk W g 24 (fvs F A c)
  row : RowOf c8 1 W W.heap.size A F.B
  lt : ∀ ad, A = some ad → ad.block < W.heap.size
theorem okL {a k s q x : Int} (h1 : 0 ≤ a ∧ a < 256) (h2 : 0 ≤ k ∧ k < 256) (h3 : 0 ≤ s ∧ s < 256) (h4 : 0 ≤ q ∧ q < 256) (h5 : 0 ≤ x ∧ x < 256) : (⟨a, k, s, q, x, [1, 2]⟩ : Fp).ok := ⟨h1, h2, h3, h4, h5, fun y hy => by simp at hy; rcases hy with rfl | rfl <;> decide⟩
/-- The frame of the law, as it lies. -/
theorem num_lit (w1 : World) {a k s q x : Int} (h : (⟨a, k, s, q, x, [1, 2]⟩ : Fp).ok) : NumS w1 ⟨a, k, s, q, x, [1, 2]⟩ (w1.heap.size + 1) (some ⟨w1.heap.size, 0, none⟩) 2 2 ((w1.alloc (.cells #[.int .u8 1, .int .u8 2] 5)).alloc (.cells #[.int .u8 a, .int .u8 k, .int .u8 s, .int .u8 q, .int .u8 x, .slice (some ⟨w1.heap.size, 0, none⟩) 2 2] 24)) :=
  ⟨h, rfl, ((Below.refl _ w1).alloc (Nat.le_refl _) _).alloc (by simp) _, Blk.new_at (by simp), row_blk (l := [1, 2]) ((Blk.new w1 _ _).alloc _) (by simp; omega), fun ad e => by obtain rfl := Option.some.inj e; simp; omega⟩
theorem zeros_blk (w : World) (n : Nat) : Blk (w.alloc (.cells (madeCells #[.int .u8 0] n) 5)) w.heap.size 5 (nums .u8 (List.replicate n 0)).toArray := by
  have : madeCells #[.int .u8 0] n = (nums .u8 (List.replicate n 0)).toArray := by
    apply Array.ext'
    apply List.ext_getElem
    · simp [madeCells, nums]
    · intro i h1 h2
      simp [madeCells, nums, Nat.mod_one]
  rw [this]; exact Blk.new w _ _
theorem num_zeros (w1 : World) (nn : Nat) (h : nn < 256) : NumS w1 ⟨5, 2, 9, 1, 0, List.replicate nn 0⟩ (w1.heap.size + 1) (some ⟨w1.heap.size + 1 + 1, 0, none⟩) nn nn (((w1.alloc (.cells #[.int .u8 1, .int .u8 2] 5)).alloc (.cells #[.int .u8 5, .int .u8 2, .int .u8 9, .int .u8 1, .int .u8 0, .slice (some ⟨w1.heap.size + 1 + 1, 0, none⟩) nn nn] 24)).alloc (.cells (madeCells #[.int .u8 0] nn) 5)) := by
  refine ⟨⟨by simp, by simp, by simp, by simp, by simp, fun x hx => by obtain ⟨_, rfl⟩ := List.mem_replicate.1 hx; decide⟩, by simp, (((Below.refl _ w1).alloc (Nat.le_refl _) _).alloc (by simp) _).alloc (by simp <;> omega) _, ?_, ?_, fun ad e => by obtain rfl := Option.some.inj e; simp⟩
  · have := (Blk.new_at (t := 24) (cs := #[.int .u8 5, .int .u8 2, .int .u8 9, .int .u8 1, .int .u8 0, .slice (some ⟨w1.heap.size + 1 + 1, 0, none⟩) nn nn]) (show w1.heap.size + 1 = (w1.alloc (.cells #[.int .u8 1, .int .u8 2] 5)).heap.size by simp)).alloc (.cells (madeCells #[.int .u8 0] nn) 5)
    unfold fvs
    simpa using this
  · have := zeros_blk ((w1.alloc (.cells #[.int .u8 1, .int .u8 2] 5)).alloc (.cells #[.int .u8 5, .int .u8 2, .int .u8 9, .int .u8 1, .int .u8 0, .slice (some ⟨w1.heap.size + 1 + 1, 0, none⟩) nn nn] 24)) nn
    simp only [World.size_alloc] at this
    exact row_blk this (by simp)
set_option maxHeartbeats 8000000 in
set_option maxRecDepth 10000 in
theorem fnum_walk (a0 n : Int) (hn : 0 ≤ n ∧ n < 256) (w : World) (hT : Turns w) :
    Calls Tryd.prog 5 #[.int .i64 a0, .int .u8 n] w fun e w' => e = .returned (.bool true) ∧ Below w.heap.size w w' := by
  have HTB : Hid (∀ w' : World, Below w.heap.size w w' → Turns w') := Lib.hid (fun w' b => hT.below b hT.lt)
  obtain ⟨n0, n1⟩ := hn
  obtain ⟨mk, hmk, hbits⟩ := and_mask a0 65535 (by omega)
  have hbits : bits .and .i64 a0 65535 = (mk : Int) := hbits
  obtain ⟨p, hp⟩ : ∃ p : Nat, p = mk % 6 := ⟨_, rfl⟩
  have hp6 : p = 0 ∨ p = 1 ∨ p = 2 ∨ p = 3 ∨ p = 4 ∨ p = 5 := by omega
  have hmod : (mk : Int) % 6 = (p : Int) := by rw [hp]; simp
  clear hp hmk
  rcases hp6 with rfl | rfl | rfl | rfl | rfl | rfl
  · rcases (by omega : n < 1 ∨ (1 ≤ n ∧ 31 < n) ∨ (1 ≤ n ∧ n ≤ 31)) with h | ⟨h, h'⟩ | ⟨h, h'⟩
    · go_enter Tryd.func5, Tryd.ntmps5
      go_wp2_with fail
      refine (shown4_walk hT).mono ?_
      rintro e w1 ⟨rfl, H1⟩
      go_wp2_with fail
      have HS : Hid (NumS w1 ⟨n, 2, 9, 1, 0, [1, 2]⟩ (w1.heap.size + 1) (some ⟨w1.heap.size, 0, none⟩) 2 2 ((w1.alloc (.cells #[.int .u8 1, .int .u8 2] 5)).alloc (.cells #[.int .u8 n, .int .u8 2, .int .u8 9, .int .u8 1, .int .u8 0, .slice (some ⟨w1.heap.size, 0, none⟩) 2 2] 24))) := Lib.hid (num_lit w1 (okL ⟨by omega, by omega⟩ ⟨by omega, by omega⟩ ⟨by omega, by omega⟩ ⟨by omega, by omega⟩ ⟨by omega, by omega⟩))
      have hr : rightF ⟨n, 2, 9, 1, 0, [1, 2]⟩ = false := decide_eq_false (fun hh => by have := hh.1; have := hh.2.1; have := hh.2.2.1; have := hh.2.2.2.1; have := hh.2.2.2.2.1; have := hh.2.2.2.2.2.1; simp only at *; omega)
      have HRT := Lib.hid hr
      generalize (w1.alloc (.cells #[.int .u8 1, .int .u8 2] 5)).alloc (.cells #[.int .u8 n, .int .u8 2, .int .u8 9, .int .u8 1, .int .u8 0, .slice (some ⟨w1.heap.size, 0, none⟩) 2 2] 24) = W at *
      have BW := Lib.hid (H1.out.trans (HS.out.bel.mono H1.out.size))
      refine Calls.mono (EncodeN hr HS.out.len W) ?_
      rintro e w3 ⟨rfl, D3⟩
      obtain ⟨k0, k1, k2, k3, k4, k5⟩ := fvs_cells (HS.out.blk.fr (Fr.of_below D3.out) (fun h => h))
      simp only [HS.out.len] at k0 k1 k2 k3 k4 k5
      have B3 := Lib.hid (BW.out.trans (D3.out.mono BW.out.size))
      clear hr D3
      go_wp2_with fail
      refine Calls.mono (RightN HRT.out HS.out.len w3) ?_
      rintro e w6 ⟨rfl, D6⟩
      go_wp2
      go_ret
      exact ⟨rfl, B3.out.trans (D6.out.mono B3.out.size)⟩
    · have hdn : decide (n ≤ 31) = false := decide_eq_false (by omega)
      go_enter Tryd.func5, Tryd.ntmps5
      go_wp2_with fail
      refine (shown4_walk hT).mono ?_
      rintro e w1 ⟨rfl, H1⟩
      go_wp2_with fail
      have HS : Hid (NumS w1 ⟨n, 2, 9, 1, 0, [1, 2]⟩ (w1.heap.size + 1) (some ⟨w1.heap.size, 0, none⟩) 2 2 ((w1.alloc (.cells #[.int .u8 1, .int .u8 2] 5)).alloc (.cells #[.int .u8 n, .int .u8 2, .int .u8 9, .int .u8 1, .int .u8 0, .slice (some ⟨w1.heap.size, 0, none⟩) 2 2] 24))) := Lib.hid (num_lit w1 (okL ⟨by omega, by omega⟩ ⟨by omega, by omega⟩ ⟨by omega, by omega⟩ ⟨by omega, by omega⟩ ⟨by omega, by omega⟩))
      have hr : rightF ⟨n, 2, 9, 1, 0, [1, 2]⟩ = false := decide_eq_false (fun hh => by have := hh.1; have := hh.2.1; have := hh.2.2.1; have := hh.2.2.2.1; have := hh.2.2.2.2.1; have := hh.2.2.2.2.2.1; simp only at *; omega)
      have HRT := Lib.hid hr
      generalize (w1.alloc (.cells #[.int .u8 1, .int .u8 2] 5)).alloc (.cells #[.int .u8 n, .int .u8 2, .int .u8 9, .int .u8 1, .int .u8 0, .slice (some ⟨w1.heap.size, 0, none⟩) 2 2] 24) = W at *
      have BW := Lib.hid (H1.out.trans (HS.out.bel.mono H1.out.size))
      refine Calls.mono (EncodeN hr HS.out.len W) ?_
      rintro e w3 ⟨rfl, D3⟩
      obtain ⟨k0, k1, k2, k3, k4, k5⟩ := fvs_cells (HS.out.blk.fr (Fr.of_below D3.out) (fun h => h))
      simp only [HS.out.len] at k0 k1 k2 k3 k4 k5
      have B3 := Lib.hid (BW.out.trans (D3.out.mono BW.out.size))
      clear hr D3
      go_wp2_with fail
      refine Calls.mono (RightN HRT.out HS.out.len w3) ?_
      rintro e w6 ⟨rfl, D6⟩
      go_wp2
      go_ret
      exact ⟨rfl, B3.out.trans (D6.out.mono B3.out.size)⟩
    · go_enter Tryd.func5, Tryd.ntmps5
      go_wp2_with fail
      refine (shown4_walk hT).mono ?_
      rintro e w1 ⟨rfl, H1⟩
      go_wp2_with fail
      have HS : Hid (NumS w1 ⟨n, 2, 9, 1, 0, [1, 2]⟩ (w1.heap.size + 1) (some ⟨w1.heap.size, 0, none⟩) 2 2 ((w1.alloc (.cells #[.int .u8 1, .int .u8 2] 5)).alloc (.cells #[.int .u8 n, .int .u8 2, .int .u8 9, .int .u8 1, .int .u8 0, .slice (some ⟨w1.heap.size, 0, none⟩) 2 2] 24))) := Lib.hid (num_lit w1 (okL ⟨by omega, by omega⟩ ⟨by omega, by omega⟩ ⟨by omega, by omega⟩ ⟨by omega, by omega⟩ ⟨by omega, by omega⟩))
      have hr : rightF ⟨n, 2, 9, 1, 0, [1, 2]⟩ = true := decide_eq_true (by refine ⟨?_, ?_, ?_, ?_, ?_, ?_, ?_⟩ <;> simp only <;> (first | omega | decide))
      generalize (w1.alloc (.cells #[.int .u8 1, .int .u8 2] 5)).alloc (.cells #[.int .u8 n, .int .u8 2, .int .u8 9, .int .u8 1, .int .u8 0, .slice (some ⟨w1.heap.size, 0, none⟩) 2 2] 24) = W at *
      obtain ⟨L, hL⟩ : ∃ L, encL ⟨n, 2, 9, 1, 0, [1, 2]⟩ = L := ⟨_, rfl⟩
      obtain ⟨X, hX⟩ : ∃ X, stf (innerL ⟨n, 2, 9, 1, 0, [1, 2]⟩) = X := ⟨_, rfl⟩
      have hge := encL_ge ⟨n, 2, 9, 1, 0, [1, 2]⟩
      have hle := encL_le hr
      have hin := encL_in ⟨n, 2, 9, 1, 0, [1, 2]⟩
      have hel := encL_len ⟨n, 2, 9, 1, 0, [1, 2]⟩
      have hde := dec_enc HS.out.ok hr
      have hLI := encL_inB HS.out.ok hr
      rw [hL] at hge hle hin hel hLI
      rw [hX] at hin hel hde
      obtain ⟨Q, hQ⟩ : ∃ Q, X.length = Q := ⟨_, rfl⟩
      obtain ⟨M1, hM1⟩ : ∃ M1, M1 = Q + 1 := ⟨_, rfl⟩
      obtain ⟨M, hM⟩ : ∃ M, L.length = M := ⟨_, rfl⟩
      rw [hM] at hge hle hin hel
      rw [hQ] at hel
      have hMM : M - 1 = M1 := by omega
      rw [hMM] at hin
      have HIN := Lib.hid hin
      have HM := Lib.hid hM
      have HQ := Lib.hid hQ
      have HDE := Lib.hid hde
      have HLI := Lib.hid hLI
      have HRT := Lib.hid hr
      have hM9 : (9 : Int) ≤ (M : Int) := by omega
      have hM64 : M ≤ 64 := by omega
      have hQ64 : Q ≤ 64 := by omega
      have hM165 : M1 ≤ 65 := by omega
      have HXI : Hid (InB X) := Lib.hid (fun x hx => HLI.out x (List.mem_of_mem_take (i := M1) (List.mem_of_mem_drop (i := 1) (by rw [HIN.out]; exact hx))))
      have BW := Lib.hid (H1.out.trans (HS.out.bel.mono H1.out.size))
      refine Calls.mono (EncodeE HS.out.ok hr hL HS.out.len hM W (HTB.out _ BW.out) HS.out.row HS.out.lt) ?_
      rintro e w3 ⟨A3, c3, rfl, M3, D3⟩
      obtain ⟨g, rfl, hg0, hg1⟩ := M3.out.at0 (by rw [hM]; omega)
      have hc3 : M ≤ c3 := by have := M3.out.2.2; rwa [hM] at this
      have R3 := Lib.hid M3.out.2.1
      have B3 := Lib.hid (BW.out.trans (D3.out.mono BW.out.size))
      have hm1 : (M : Int) - 1 = (M1 : Int) := by omega
      have hlh : ∀ W, (Instr.slice 22 (.slice (some ⟨g, 0, none⟩) M c3) (some (.int .i64 1)) (some (.int .i64 M1)) none).run Tryd.prog W = .ok (.slice (some ⟨g, 1, none⟩) Q (c3 - 1)) W := fun W => by
        have := bcut_lh_lit g M c3 1 M1 (by omega) (by omega) (by omega) W
        rwa [show M1 - 1 = Q by omega] at this
      have RX : Hid (RowOf c8 1 w3 w3.heap.size (some ⟨g, 1, none⟩) X) := Lib.hid (HIN.out ▸ ((R3.out.take_ M1).cut_lit (c := c3) 1 (by rw [List.length_take, HM.out]; omega) (by omega)))
      clear hL hX hge hle hin hel hde hLI hQ hM hMM hM1 hr M3
      go_wp2_with fail
      refine Calls.mono (DecodeE HDE.out HS.out.len HQ.out (by omega) HXI.out w3 (HTB.out _ B3.out) RX.out) ?_
      rintro e w4 ⟨A4, c4, rfl, M4, D4⟩
      have hs4 := D4.out.size
      have Dw4 := Lib.hid (D3.out.trans (D4.out.mono D3.out.size))
      have hb4 := HS.out.blk.fr (Fr.of_below Dw4.out) (fun h => h)
      have hz := hb4.lt
      obtain ⟨k0, k1, k2, k3, k4, k5⟩ := fvs_cells hb4
      simp only [HS.out.len] at k0 k1 k2 k3 k4 k5
      have D5 : Hid (Below W.heap.size W (w4.alloc (.cells #[.int .u8 n, .int .u8 2, .int .u8 9, .int .u8 1, .int .u8 0, .slice A4 2 c4] 24))) := Lib.hid (Dw4.out.alloc Dw4.out.size _)
      have Y5 : Hid (Blk (w4.alloc (.cells #[.int .u8 n, .int .u8 2, .int .u8 9, .int .u8 1, .int .u8 0, .slice A4 2 c4] 24)) w4.heap.size 24 #[.int .u8 n, .int .u8 2, .int .u8 9, .int .u8 1, .int .u8 0, .slice A4 2 c4]) := Lib.hid (Blk.new w4 _ _)
      have M5 := Lib.hid (M4.out.fr ((Fr.refl (fun _ => False) w4).alloc (.cells #[.int .u8 n, .int .u8 2, .int .u8 9, .int .u8 1, .int .u8 0, .slice A4 2 c4] 24)) (fun _ _ h => h))
      clear hlh hm1 hb4 M4 D4 D3
      go_wp2_with fail
      clear k0 k1 k2 k3 k4 k5 Dw4
      generalize w4.heap.size = yb at *
      generalize w4.alloc (.cells #[.int .u8 n, .int .u8 2, .int .u8 9, .int .u8 1, .int .u8 0, .slice A4 2 c4] 24) = w5 at *
      refine Calls.mono (RightY HRT.out HS.out.len w5) ?_
      rintro e w6 ⟨rfl, D6⟩
      have hf6 := Fr.of_below D6.out
      have D7 := Lib.hid (D5.out.trans (D6.out.mono D5.out.size))
      have hb6 := HS.out.blk.fr (Fr.of_below D7.out) (fun h => h)
      obtain ⟨k0, k1, k2, k3, k4, k5⟩ := fvs_cells hb6
      simp only [HS.out.len] at k0 k1 k2 k3 k4 k5
      have y6 := Y5.out.fr hf6 (fun h => h)
      have j0 : w6.cell? ⟨yb, 0, none⟩ = some (.int .u8 n) := y6.cell 0
      have j1 : w6.cell? ⟨yb, 1, none⟩ = some (.int .u8 2) := y6.cell 1
      have j2 : w6.cell? ⟨yb, 2, none⟩ = some (.int .u8 9) := y6.cell 2
      have j3 : w6.cell? ⟨yb, 3, none⟩ = some (.int .u8 1) := y6.cell 3
      have j4 : w6.cell? ⟨yb, 4, none⟩ = some (.int .u8 0) := y6.cell 4
      have j5 : w6.cell? ⟨yb, 5, none⟩ = some (.slice A4 2 c4) := y6.cell 5
      have s1 : (convert 22 9 (.slice A4 2 c4)).run Tryd.prog w6 = .ok (.string (strOfNums [1, 2])) w6 := str_n HS.out.len (M5.out.fr hf6 (fun _ _ h => h)).2.1
      have s2 : (convert 22 9 (.slice (some ⟨w1.heap.size, 0, none⟩) 2 2)).run Tryd.prog w6 = .ok (.string (strOfNums [1, 2])) w6 := str_n HS.out.len (HS.out.row.now D7.out)
      have B7 := BW.out.trans (D7.out.mono BW.out.size)
      clear y6 hb6 hf6 D6 D7 D5
      go_wp2
      go_ret
      exact ⟨rfl, B7⟩
  · rcases (by omega : n < 1 ∨ (1 ≤ n ∧ 5 < n) ∨ (1 ≤ n ∧ n ≤ 5)) with h | ⟨h, h'⟩ | ⟨h, h'⟩
    · go_enter Tryd.func5, Tryd.ntmps5
      go_wp2_with fail
      refine (shown4_walk hT).mono ?_
      rintro e w1 ⟨rfl, H1⟩
      go_wp2_with fail
      have HS : Hid (NumS w1 ⟨5, n, 9, 1, 0, [1, 2]⟩ (w1.heap.size + 1) (some ⟨w1.heap.size, 0, none⟩) 2 2 ((w1.alloc (.cells #[.int .u8 1, .int .u8 2] 5)).alloc (.cells #[.int .u8 5, .int .u8 n, .int .u8 9, .int .u8 1, .int .u8 0, .slice (some ⟨w1.heap.size, 0, none⟩) 2 2] 24))) := Lib.hid (num_lit w1 (okL ⟨by omega, by omega⟩ ⟨by omega, by omega⟩ ⟨by omega, by omega⟩ ⟨by omega, by omega⟩ ⟨by omega, by omega⟩))
      have hr : rightF ⟨5, n, 9, 1, 0, [1, 2]⟩ = false := decide_eq_false (fun hh => by have := hh.1; have := hh.2.1; have := hh.2.2.1; have := hh.2.2.2.1; have := hh.2.2.2.2.1; have := hh.2.2.2.2.2.1; simp only at *; omega)
      have HRT := Lib.hid hr
      generalize (w1.alloc (.cells #[.int .u8 1, .int .u8 2] 5)).alloc (.cells #[.int .u8 5, .int .u8 n, .int .u8 9, .int .u8 1, .int .u8 0, .slice (some ⟨w1.heap.size, 0, none⟩) 2 2] 24) = W at *
      have BW := Lib.hid (H1.out.trans (HS.out.bel.mono H1.out.size))
      refine Calls.mono (EncodeN hr HS.out.len W) ?_
      rintro e w3 ⟨rfl, D3⟩
      obtain ⟨k0, k1, k2, k3, k4, k5⟩ := fvs_cells (HS.out.blk.fr (Fr.of_below D3.out) (fun h => h))
      simp only [HS.out.len] at k0 k1 k2 k3 k4 k5
      have B3 := Lib.hid (BW.out.trans (D3.out.mono BW.out.size))
      clear hr D3
      go_wp2_with fail
      refine Calls.mono (RightN HRT.out HS.out.len w3) ?_
      rintro e w6 ⟨rfl, D6⟩
      go_wp2
      go_ret
      exact ⟨rfl, B3.out.trans (D6.out.mono B3.out.size)⟩
    · have hdn : decide (n ≤ 5) = false := decide_eq_false (by omega)
      go_enter Tryd.func5, Tryd.ntmps5
      go_wp2_with fail
      refine (shown4_walk hT).mono ?_
      rintro e w1 ⟨rfl, H1⟩
      go_wp2_with fail
      have HS : Hid (NumS w1 ⟨5, n, 9, 1, 0, [1, 2]⟩ (w1.heap.size + 1) (some ⟨w1.heap.size, 0, none⟩) 2 2 ((w1.alloc (.cells #[.int .u8 1, .int .u8 2] 5)).alloc (.cells #[.int .u8 5, .int .u8 n, .int .u8 9, .int .u8 1, .int .u8 0, .slice (some ⟨w1.heap.size, 0, none⟩) 2 2] 24))) := Lib.hid (num_lit w1 (okL ⟨by omega, by omega⟩ ⟨by omega, by omega⟩ ⟨by omega, by omega⟩ ⟨by omega, by omega⟩ ⟨by omega, by omega⟩))
      have hr : rightF ⟨5, n, 9, 1, 0, [1, 2]⟩ = false := decide_eq_false (fun hh => by have := hh.1; have := hh.2.1; have := hh.2.2.1; have := hh.2.2.2.1; have := hh.2.2.2.2.1; have := hh.2.2.2.2.2.1; simp only at *; omega)
      have HRT := Lib.hid hr
      generalize (w1.alloc (.cells #[.int .u8 1, .int .u8 2] 5)).alloc (.cells #[.int .u8 5, .int .u8 n, .int .u8 9, .int .u8 1, .int .u8 0, .slice (some ⟨w1.heap.size, 0, none⟩) 2 2] 24) = W at *
      have BW := Lib.hid (H1.out.trans (HS.out.bel.mono H1.out.size))
      refine Calls.mono (EncodeN hr HS.out.len W) ?_
      rintro e w3 ⟨rfl, D3⟩
      obtain ⟨k0, k1, k2, k3, k4, k5⟩ := fvs_cells (HS.out.blk.fr (Fr.of_below D3.out) (fun h => h))
      simp only [HS.out.len] at k0 k1 k2 k3 k4 k5
      have B3 := Lib.hid (BW.out.trans (D3.out.mono BW.out.size))
      clear hr D3
      go_wp2_with fail
      refine Calls.mono (RightN HRT.out HS.out.len w3) ?_
      rintro e w6 ⟨rfl, D6⟩
      go_wp2
      go_ret
      exact ⟨rfl, B3.out.trans (D6.out.mono B3.out.size)⟩
    · go_enter Tryd.func5, Tryd.ntmps5
      go_wp2_with fail
      refine (shown4_walk hT).mono ?_
      rintro e w1 ⟨rfl, H1⟩
      go_wp2_with fail
      have HS : Hid (NumS w1 ⟨5, n, 9, 1, 0, [1, 2]⟩ (w1.heap.size + 1) (some ⟨w1.heap.size, 0, none⟩) 2 2 ((w1.alloc (.cells #[.int .u8 1, .int .u8 2] 5)).alloc (.cells #[.int .u8 5, .int .u8 n, .int .u8 9, .int .u8 1, .int .u8 0, .slice (some ⟨w1.heap.size, 0, none⟩) 2 2] 24))) := Lib.hid (num_lit w1 (okL ⟨by omega, by omega⟩ ⟨by omega, by omega⟩ ⟨by omega, by omega⟩ ⟨by omega, by omega⟩ ⟨by omega, by omega⟩))
      have hr : rightF ⟨5, n, 9, 1, 0, [1, 2]⟩ = true := decide_eq_true (by refine ⟨?_, ?_, ?_, ?_, ?_, ?_, ?_⟩ <;> simp only <;> (first | omega | decide))
      generalize (w1.alloc (.cells #[.int .u8 1, .int .u8 2] 5)).alloc (.cells #[.int .u8 5, .int .u8 n, .int .u8 9, .int .u8 1, .int .u8 0, .slice (some ⟨w1.heap.size, 0, none⟩) 2 2] 24) = W at *
      obtain ⟨L, hL⟩ : ∃ L, encL ⟨5, n, 9, 1, 0, [1, 2]⟩ = L := ⟨_, rfl⟩
      obtain ⟨X, hX⟩ : ∃ X, stf (innerL ⟨5, n, 9, 1, 0, [1, 2]⟩) = X := ⟨_, rfl⟩
      have hge := encL_ge ⟨5, n, 9, 1, 0, [1, 2]⟩
      have hle := encL_le hr
      have hin := encL_in ⟨5, n, 9, 1, 0, [1, 2]⟩
      have hel := encL_len ⟨5, n, 9, 1, 0, [1, 2]⟩
      have hde := dec_enc HS.out.ok hr
      have hLI := encL_inB HS.out.ok hr
      rw [hL] at hge hle hin hel hLI
      rw [hX] at hin hel hde
      obtain ⟨Q, hQ⟩ : ∃ Q, X.length = Q := ⟨_, rfl⟩
      obtain ⟨M1, hM1⟩ : ∃ M1, M1 = Q + 1 := ⟨_, rfl⟩
      obtain ⟨M, hM⟩ : ∃ M, L.length = M := ⟨_, rfl⟩
      rw [hM] at hge hle hin hel
      rw [hQ] at hel
      have hMM : M - 1 = M1 := by omega
      rw [hMM] at hin
      have HIN := Lib.hid hin
      have HM := Lib.hid hM
      have HQ := Lib.hid hQ
      have HDE := Lib.hid hde
      have HLI := Lib.hid hLI
      have HRT := Lib.hid hr
      have hM9 : (9 : Int) ≤ (M : Int) := by omega
      have hM64 : M ≤ 64 := by omega
      have hQ64 : Q ≤ 64 := by omega
      have hM165 : M1 ≤ 65 := by omega
      have HXI : Hid (InB X) := Lib.hid (fun x hx => HLI.out x (List.mem_of_mem_take (i := M1) (List.mem_of_mem_drop (i := 1) (by rw [HIN.out]; exact hx))))
      have BW := Lib.hid (H1.out.trans (HS.out.bel.mono H1.out.size))
      refine Calls.mono (EncodeE HS.out.ok hr hL HS.out.len hM W (HTB.out _ BW.out) HS.out.row HS.out.lt) ?_
      rintro e w3 ⟨A3, c3, rfl, M3, D3⟩
      obtain ⟨g, rfl, hg0, hg1⟩ := M3.out.at0 (by rw [hM]; omega)
      have hc3 : M ≤ c3 := by have := M3.out.2.2; rwa [hM] at this
      have R3 := Lib.hid M3.out.2.1
      have B3 := Lib.hid (BW.out.trans (D3.out.mono BW.out.size))
      have hm1 : (M : Int) - 1 = (M1 : Int) := by omega
      have hlh : ∀ W, (Instr.slice 22 (.slice (some ⟨g, 0, none⟩) M c3) (some (.int .i64 1)) (some (.int .i64 M1)) none).run Tryd.prog W = .ok (.slice (some ⟨g, 1, none⟩) Q (c3 - 1)) W := fun W => by
        have := bcut_lh_lit g M c3 1 M1 (by omega) (by omega) (by omega) W
        rwa [show M1 - 1 = Q by omega] at this
      have RX : Hid (RowOf c8 1 w3 w3.heap.size (some ⟨g, 1, none⟩) X) := Lib.hid (HIN.out ▸ ((R3.out.take_ M1).cut_lit (c := c3) 1 (by rw [List.length_take, HM.out]; omega) (by omega)))
      clear hL hX hge hle hin hel hde hLI hQ hM hMM hM1 hr M3
      go_wp2_with fail
      refine Calls.mono (DecodeE HDE.out HS.out.len HQ.out (by omega) HXI.out w3 (HTB.out _ B3.out) RX.out) ?_
      rintro e w4 ⟨A4, c4, rfl, M4, D4⟩
      have hs4 := D4.out.size
      have Dw4 := Lib.hid (D3.out.trans (D4.out.mono D3.out.size))
      have hb4 := HS.out.blk.fr (Fr.of_below Dw4.out) (fun h => h)
      have hz := hb4.lt
      obtain ⟨k0, k1, k2, k3, k4, k5⟩ := fvs_cells hb4
      simp only [HS.out.len] at k0 k1 k2 k3 k4 k5
      have D5 : Hid (Below W.heap.size W (w4.alloc (.cells #[.int .u8 5, .int .u8 n, .int .u8 9, .int .u8 1, .int .u8 0, .slice A4 2 c4] 24))) := Lib.hid (Dw4.out.alloc Dw4.out.size _)
      have Y5 : Hid (Blk (w4.alloc (.cells #[.int .u8 5, .int .u8 n, .int .u8 9, .int .u8 1, .int .u8 0, .slice A4 2 c4] 24)) w4.heap.size 24 #[.int .u8 5, .int .u8 n, .int .u8 9, .int .u8 1, .int .u8 0, .slice A4 2 c4]) := Lib.hid (Blk.new w4 _ _)
      have M5 := Lib.hid (M4.out.fr ((Fr.refl (fun _ => False) w4).alloc (.cells #[.int .u8 5, .int .u8 n, .int .u8 9, .int .u8 1, .int .u8 0, .slice A4 2 c4] 24)) (fun _ _ h => h))
      clear hlh hm1 hb4 M4 D4 D3
      go_wp2_with fail
      clear k0 k1 k2 k3 k4 k5 Dw4
      generalize w4.heap.size = yb at *
      generalize w4.alloc (.cells #[.int .u8 5, .int .u8 n, .int .u8 9, .int .u8 1, .int .u8 0, .slice A4 2 c4] 24) = w5 at *
      refine Calls.mono (RightY HRT.out HS.out.len w5) ?_
      rintro e w6 ⟨rfl, D6⟩
      have hf6 := Fr.of_below D6.out
      have D7 := Lib.hid (D5.out.trans (D6.out.mono D5.out.size))
      have hb6 := HS.out.blk.fr (Fr.of_below D7.out) (fun h => h)
      obtain ⟨k0, k1, k2, k3, k4, k5⟩ := fvs_cells hb6
      simp only [HS.out.len] at k0 k1 k2 k3 k4 k5
      have y6 := Y5.out.fr hf6 (fun h => h)
      have j0 : w6.cell? ⟨yb, 0, none⟩ = some (.int .u8 5) := y6.cell 0
      have j1 : w6.cell? ⟨yb, 1, none⟩ = some (.int .u8 n) := y6.cell 1
      have j2 : w6.cell? ⟨yb, 2, none⟩ = some (.int .u8 9) := y6.cell 2
      have j3 : w6.cell? ⟨yb, 3, none⟩ = some (.int .u8 1) := y6.cell 3
      have j4 : w6.cell? ⟨yb, 4, none⟩ = some (.int .u8 0) := y6.cell 4
      have j5 : w6.cell? ⟨yb, 5, none⟩ = some (.slice A4 2 c4) := y6.cell 5
      have s1 : (convert 22 9 (.slice A4 2 c4)).run Tryd.prog w6 = .ok (.string (strOfNums [1, 2])) w6 := str_n HS.out.len (M5.out.fr hf6 (fun _ _ h => h)).2.1
      have s2 : (convert 22 9 (.slice (some ⟨w1.heap.size, 0, none⟩) 2 2)).run Tryd.prog w6 = .ok (.string (strOfNums [1, 2])) w6 := str_n HS.out.len (HS.out.row.now D7.out)
      have B7 := BW.out.trans (D7.out.mono BW.out.size)
      clear y6 hb6 hf6 D6 D7 D5
      go_wp2
      go_ret
      exact ⟨rfl, B7⟩
  · go_enter Tryd.func5, Tryd.ntmps5
    go_wp2_with fail
    refine (shown4_walk hT).mono ?_
    rintro e w1 ⟨rfl, H1⟩
    go_wp2_with fail
    have HS : Hid (NumS w1 ⟨5, 2, n, 1, 0, [1, 2]⟩ (w1.heap.size + 1) (some ⟨w1.heap.size, 0, none⟩) 2 2 ((w1.alloc (.cells #[.int .u8 1, .int .u8 2] 5)).alloc (.cells #[.int .u8 5, .int .u8 2, .int .u8 n, .int .u8 1, .int .u8 0, .slice (some ⟨w1.heap.size, 0, none⟩) 2 2] 24))) := Lib.hid (num_lit w1 (okL ⟨by omega, by omega⟩ ⟨by omega, by omega⟩ ⟨by omega, by omega⟩ ⟨by omega, by omega⟩ ⟨by omega, by omega⟩))
    have hr : rightF ⟨5, 2, n, 1, 0, [1, 2]⟩ = true := decide_eq_true (by refine ⟨?_, ?_, ?_, ?_, ?_, ?_, ?_⟩ <;> simp only <;> (first | omega | decide))
    generalize (w1.alloc (.cells #[.int .u8 1, .int .u8 2] 5)).alloc (.cells #[.int .u8 5, .int .u8 2, .int .u8 n, .int .u8 1, .int .u8 0, .slice (some ⟨w1.heap.size, 0, none⟩) 2 2] 24) = W at *
    obtain ⟨L, hL⟩ : ∃ L, encL ⟨5, 2, n, 1, 0, [1, 2]⟩ = L := ⟨_, rfl⟩
    obtain ⟨X, hX⟩ : ∃ X, stf (innerL ⟨5, 2, n, 1, 0, [1, 2]⟩) = X := ⟨_, rfl⟩
    have hge := encL_ge ⟨5, 2, n, 1, 0, [1, 2]⟩
    have hle := encL_le hr
    have hin := encL_in ⟨5, 2, n, 1, 0, [1, 2]⟩
    have hel := encL_len ⟨5, 2, n, 1, 0, [1, 2]⟩
    have hde := dec_enc HS.out.ok hr
    have hLI := encL_inB HS.out.ok hr
    rw [hL] at hge hle hin hel hLI
    rw [hX] at hin hel hde
    obtain ⟨Q, hQ⟩ : ∃ Q, X.length = Q := ⟨_, rfl⟩
    obtain ⟨M1, hM1⟩ : ∃ M1, M1 = Q + 1 := ⟨_, rfl⟩
    obtain ⟨M, hM⟩ : ∃ M, L.length = M := ⟨_, rfl⟩
    rw [hM] at hge hle hin hel
    rw [hQ] at hel
    have hMM : M - 1 = M1 := by omega
    rw [hMM] at hin
    have HIN := Lib.hid hin
    have HM := Lib.hid hM
    have HQ := Lib.hid hQ
    have HDE := Lib.hid hde
    have HLI := Lib.hid hLI
    have HRT := Lib.hid hr
    have hM9 : (9 : Int) ≤ (M : Int) := by omega
    have hM64 : M ≤ 64 := by omega
    have hQ64 : Q ≤ 64 := by omega
    have hM165 : M1 ≤ 65 := by omega
    have HXI : Hid (InB X) := Lib.hid (fun x hx => HLI.out x (List.mem_of_mem_take (i := M1) (List.mem_of_mem_drop (i := 1) (by rw [HIN.out]; exact hx))))
    have BW := Lib.hid (H1.out.trans (HS.out.bel.mono H1.out.size))
    refine Calls.mono (EncodeE HS.out.ok hr hL HS.out.len hM W (HTB.out _ BW.out) HS.out.row HS.out.lt) ?_
    rintro e w3 ⟨A3, c3, rfl, M3, D3⟩
    obtain ⟨g, rfl, hg0, hg1⟩ := M3.out.at0 (by rw [hM]; omega)
    have hc3 : M ≤ c3 := by have := M3.out.2.2; rwa [hM] at this
    have R3 := Lib.hid M3.out.2.1
    have B3 := Lib.hid (BW.out.trans (D3.out.mono BW.out.size))
    have hm1 : (M : Int) - 1 = (M1 : Int) := by omega
    have hlh : ∀ W, (Instr.slice 22 (.slice (some ⟨g, 0, none⟩) M c3) (some (.int .i64 1)) (some (.int .i64 M1)) none).run Tryd.prog W = .ok (.slice (some ⟨g, 1, none⟩) Q (c3 - 1)) W := fun W => by
      have := bcut_lh_lit g M c3 1 M1 (by omega) (by omega) (by omega) W
      rwa [show M1 - 1 = Q by omega] at this
    have RX : Hid (RowOf c8 1 w3 w3.heap.size (some ⟨g, 1, none⟩) X) := Lib.hid (HIN.out ▸ ((R3.out.take_ M1).cut_lit (c := c3) 1 (by rw [List.length_take, HM.out]; omega) (by omega)))
    clear hL hX hge hle hin hel hde hLI hQ hM hMM hM1 hr M3
    go_wp2_with fail
    refine Calls.mono (DecodeE HDE.out HS.out.len HQ.out (by omega) HXI.out w3 (HTB.out _ B3.out) RX.out) ?_
    rintro e w4 ⟨A4, c4, rfl, M4, D4⟩
    have hs4 := D4.out.size
    have Dw4 := Lib.hid (D3.out.trans (D4.out.mono D3.out.size))
    have hb4 := HS.out.blk.fr (Fr.of_below Dw4.out) (fun h => h)
    have hz := hb4.lt
    obtain ⟨k0, k1, k2, k3, k4, k5⟩ := fvs_cells hb4
    simp only [HS.out.len] at k0 k1 k2 k3 k4 k5
    have D5 : Hid (Below W.heap.size W (w4.alloc (.cells #[.int .u8 5, .int .u8 2, .int .u8 n, .int .u8 1, .int .u8 0, .slice A4 2 c4] 24))) := Lib.hid (Dw4.out.alloc Dw4.out.size _)
    have Y5 : Hid (Blk (w4.alloc (.cells #[.int .u8 5, .int .u8 2, .int .u8 n, .int .u8 1, .int .u8 0, .slice A4 2 c4] 24)) w4.heap.size 24 #[.int .u8 5, .int .u8 2, .int .u8 n, .int .u8 1, .int .u8 0, .slice A4 2 c4]) := Lib.hid (Blk.new w4 _ _)
    have M5 := Lib.hid (M4.out.fr ((Fr.refl (fun _ => False) w4).alloc (.cells #[.int .u8 5, .int .u8 2, .int .u8 n, .int .u8 1, .int .u8 0, .slice A4 2 c4] 24)) (fun _ _ h => h))
    clear hlh hm1 hb4 M4 D4 D3
    go_wp2_with fail
    clear k0 k1 k2 k3 k4 k5 Dw4
    generalize w4.heap.size = yb at *
    generalize w4.alloc (.cells #[.int .u8 5, .int .u8 2, .int .u8 n, .int .u8 1, .int .u8 0, .slice A4 2 c4] 24) = w5 at *
    refine Calls.mono (RightY HRT.out HS.out.len w5) ?_
    rintro e w6 ⟨rfl, D6⟩
    have hf6 := Fr.of_below D6.out
    have D7 := Lib.hid (D5.out.trans (D6.out.mono D5.out.size))
    have hb6 := HS.out.blk.fr (Fr.of_below D7.out) (fun h => h)
    obtain ⟨k0, k1, k2, k3, k4, k5⟩ := fvs_cells hb6
    simp only [HS.out.len] at k0 k1 k2 k3 k4 k5
    have y6 := Y5.out.fr hf6 (fun h => h)
    have j0 : w6.cell? ⟨yb, 0, none⟩ = some (.int .u8 5) := y6.cell 0
    have j1 : w6.cell? ⟨yb, 1, none⟩ = some (.int .u8 2) := y6.cell 1
    have j2 : w6.cell? ⟨yb, 2, none⟩ = some (.int .u8 n) := y6.cell 2
    have j3 : w6.cell? ⟨yb, 3, none⟩ = some (.int .u8 1) := y6.cell 3
    have j4 : w6.cell? ⟨yb, 4, none⟩ = some (.int .u8 0) := y6.cell 4
    have j5 : w6.cell? ⟨yb, 5, none⟩ = some (.slice A4 2 c4) := y6.cell 5
    have s1 : (convert 22 9 (.slice A4 2 c4)).run Tryd.prog w6 = .ok (.string (strOfNums [1, 2])) w6 := str_n HS.out.len (M5.out.fr hf6 (fun _ _ h => h)).2.1
    have s2 : (convert 22 9 (.slice (some ⟨w1.heap.size, 0, none⟩) 2 2)).run Tryd.prog w6 = .ok (.string (strOfNums [1, 2])) w6 := str_n HS.out.len (HS.out.row.now D7.out)
    have B7 := BW.out.trans (D7.out.mono BW.out.size)
    clear y6 hb6 hf6 D6 D7 D5
    go_wp2
    go_ret
    exact ⟨rfl, B7⟩
  · rcases (by omega : n < 2 ∨ 2 ≤ n) with h | h
    · go_enter Tryd.func5, Tryd.ntmps5
      go_wp2_with fail
      refine (shown4_walk hT).mono ?_
      rintro e w1 ⟨rfl, H1⟩
      go_wp2_with fail
      have HS : Hid (NumS w1 ⟨5, 2, 9, n, 0, [1, 2]⟩ (w1.heap.size + 1) (some ⟨w1.heap.size, 0, none⟩) 2 2 ((w1.alloc (.cells #[.int .u8 1, .int .u8 2] 5)).alloc (.cells #[.int .u8 5, .int .u8 2, .int .u8 9, .int .u8 n, .int .u8 0, .slice (some ⟨w1.heap.size, 0, none⟩) 2 2] 24))) := Lib.hid (num_lit w1 (okL ⟨by omega, by omega⟩ ⟨by omega, by omega⟩ ⟨by omega, by omega⟩ ⟨by omega, by omega⟩ ⟨by omega, by omega⟩))
      have hr : rightF ⟨5, 2, 9, n, 0, [1, 2]⟩ = true := decide_eq_true (by refine ⟨?_, ?_, ?_, ?_, ?_, ?_, ?_⟩ <;> simp only <;> (first | omega | decide))
      generalize (w1.alloc (.cells #[.int .u8 1, .int .u8 2] 5)).alloc (.cells #[.int .u8 5, .int .u8 2, .int .u8 9, .int .u8 n, .int .u8 0, .slice (some ⟨w1.heap.size, 0, none⟩) 2 2] 24) = W at *
      obtain ⟨L, hL⟩ : ∃ L, encL ⟨5, 2, 9, n, 0, [1, 2]⟩ = L := ⟨_, rfl⟩
      obtain ⟨X, hX⟩ : ∃ X, stf (innerL ⟨5, 2, 9, n, 0, [1, 2]⟩) = X := ⟨_, rfl⟩
      have hge := encL_ge ⟨5, 2, 9, n, 0, [1, 2]⟩
      have hle := encL_le hr
      have hin := encL_in ⟨5, 2, 9, n, 0, [1, 2]⟩
      have hel := encL_len ⟨5, 2, 9, n, 0, [1, 2]⟩
      have hde := dec_enc HS.out.ok hr
      have hLI := encL_inB HS.out.ok hr
      rw [hL] at hge hle hin hel hLI
      rw [hX] at hin hel hde
      obtain ⟨Q, hQ⟩ : ∃ Q, X.length = Q := ⟨_, rfl⟩
      obtain ⟨M1, hM1⟩ : ∃ M1, M1 = Q + 1 := ⟨_, rfl⟩
      obtain ⟨M, hM⟩ : ∃ M, L.length = M := ⟨_, rfl⟩
      rw [hM] at hge hle hin hel
      rw [hQ] at hel
      have hMM : M - 1 = M1 := by omega
      rw [hMM] at hin
      have HIN := Lib.hid hin
      have HM := Lib.hid hM
      have HQ := Lib.hid hQ
      have HDE := Lib.hid hde
      have HLI := Lib.hid hLI
      have HRT := Lib.hid hr
      have hM9 : (9 : Int) ≤ (M : Int) := by omega
      have hM64 : M ≤ 64 := by omega
      have hQ64 : Q ≤ 64 := by omega
      have hM165 : M1 ≤ 65 := by omega
      have HXI : Hid (InB X) := Lib.hid (fun x hx => HLI.out x (List.mem_of_mem_take (i := M1) (List.mem_of_mem_drop (i := 1) (by rw [HIN.out]; exact hx))))
      have BW := Lib.hid (H1.out.trans (HS.out.bel.mono H1.out.size))
      refine Calls.mono (EncodeE HS.out.ok hr hL HS.out.len hM W (HTB.out _ BW.out) HS.out.row HS.out.lt) ?_
      rintro e w3 ⟨A3, c3, rfl, M3, D3⟩
      obtain ⟨g, rfl, hg0, hg1⟩ := M3.out.at0 (by rw [hM]; omega)
      have hc3 : M ≤ c3 := by have := M3.out.2.2; rwa [hM] at this
      have R3 := Lib.hid M3.out.2.1
      have B3 := Lib.hid (BW.out.trans (D3.out.mono BW.out.size))
      have hm1 : (M : Int) - 1 = (M1 : Int) := by omega
      have hlh : ∀ W, (Instr.slice 22 (.slice (some ⟨g, 0, none⟩) M c3) (some (.int .i64 1)) (some (.int .i64 M1)) none).run Tryd.prog W = .ok (.slice (some ⟨g, 1, none⟩) Q (c3 - 1)) W := fun W => by
        have := bcut_lh_lit g M c3 1 M1 (by omega) (by omega) (by omega) W
        rwa [show M1 - 1 = Q by omega] at this
      have RX : Hid (RowOf c8 1 w3 w3.heap.size (some ⟨g, 1, none⟩) X) := Lib.hid (HIN.out ▸ ((R3.out.take_ M1).cut_lit (c := c3) 1 (by rw [List.length_take, HM.out]; omega) (by omega)))
      clear hL hX hge hle hin hel hde hLI hQ hM hMM hM1 hr M3
      go_wp2_with fail
      refine Calls.mono (DecodeE HDE.out HS.out.len HQ.out (by omega) HXI.out w3 (HTB.out _ B3.out) RX.out) ?_
      rintro e w4 ⟨A4, c4, rfl, M4, D4⟩
      have hs4 := D4.out.size
      have Dw4 := Lib.hid (D3.out.trans (D4.out.mono D3.out.size))
      have hb4 := HS.out.blk.fr (Fr.of_below Dw4.out) (fun h => h)
      have hz := hb4.lt
      obtain ⟨k0, k1, k2, k3, k4, k5⟩ := fvs_cells hb4
      simp only [HS.out.len] at k0 k1 k2 k3 k4 k5
      have D5 : Hid (Below W.heap.size W (w4.alloc (.cells #[.int .u8 5, .int .u8 2, .int .u8 9, .int .u8 n, .int .u8 0, .slice A4 2 c4] 24))) := Lib.hid (Dw4.out.alloc Dw4.out.size _)
      have Y5 : Hid (Blk (w4.alloc (.cells #[.int .u8 5, .int .u8 2, .int .u8 9, .int .u8 n, .int .u8 0, .slice A4 2 c4] 24)) w4.heap.size 24 #[.int .u8 5, .int .u8 2, .int .u8 9, .int .u8 n, .int .u8 0, .slice A4 2 c4]) := Lib.hid (Blk.new w4 _ _)
      have M5 := Lib.hid (M4.out.fr ((Fr.refl (fun _ => False) w4).alloc (.cells #[.int .u8 5, .int .u8 2, .int .u8 9, .int .u8 n, .int .u8 0, .slice A4 2 c4] 24)) (fun _ _ h => h))
      clear hlh hm1 hb4 M4 D4 D3
      go_wp2_with fail
      clear k0 k1 k2 k3 k4 k5 Dw4
      generalize w4.heap.size = yb at *
      generalize w4.alloc (.cells #[.int .u8 5, .int .u8 2, .int .u8 9, .int .u8 n, .int .u8 0, .slice A4 2 c4] 24) = w5 at *
      refine Calls.mono (RightY HRT.out HS.out.len w5) ?_
      rintro e w6 ⟨rfl, D6⟩
      have hf6 := Fr.of_below D6.out
      have D7 := Lib.hid (D5.out.trans (D6.out.mono D5.out.size))
      have hb6 := HS.out.blk.fr (Fr.of_below D7.out) (fun h => h)
      obtain ⟨k0, k1, k2, k3, k4, k5⟩ := fvs_cells hb6
      simp only [HS.out.len] at k0 k1 k2 k3 k4 k5
      have y6 := Y5.out.fr hf6 (fun h => h)
      have j0 : w6.cell? ⟨yb, 0, none⟩ = some (.int .u8 5) := y6.cell 0
      have j1 : w6.cell? ⟨yb, 1, none⟩ = some (.int .u8 2) := y6.cell 1
      have j2 : w6.cell? ⟨yb, 2, none⟩ = some (.int .u8 9) := y6.cell 2
      have j3 : w6.cell? ⟨yb, 3, none⟩ = some (.int .u8 n) := y6.cell 3
      have j4 : w6.cell? ⟨yb, 4, none⟩ = some (.int .u8 0) := y6.cell 4
      have j5 : w6.cell? ⟨yb, 5, none⟩ = some (.slice A4 2 c4) := y6.cell 5
      have s1 : (convert 22 9 (.slice A4 2 c4)).run Tryd.prog w6 = .ok (.string (strOfNums [1, 2])) w6 := str_n HS.out.len (M5.out.fr hf6 (fun _ _ h => h)).2.1
      have s2 : (convert 22 9 (.slice (some ⟨w1.heap.size, 0, none⟩) 2 2)).run Tryd.prog w6 = .ok (.string (strOfNums [1, 2])) w6 := str_n HS.out.len (HS.out.row.now D7.out)
      have B7 := BW.out.trans (D7.out.mono BW.out.size)
      clear y6 hb6 hf6 D6 D7 D5
      go_wp2
      go_ret
      exact ⟨rfl, B7⟩
    · have hdn : decide (n < 2) = false := decide_eq_false (by omega)
      go_enter Tryd.func5, Tryd.ntmps5
      go_wp2_with fail
      refine (shown4_walk hT).mono ?_
      rintro e w1 ⟨rfl, H1⟩
      go_wp2_with fail
      have HS : Hid (NumS w1 ⟨5, 2, 9, n, 0, [1, 2]⟩ (w1.heap.size + 1) (some ⟨w1.heap.size, 0, none⟩) 2 2 ((w1.alloc (.cells #[.int .u8 1, .int .u8 2] 5)).alloc (.cells #[.int .u8 5, .int .u8 2, .int .u8 9, .int .u8 n, .int .u8 0, .slice (some ⟨w1.heap.size, 0, none⟩) 2 2] 24))) := Lib.hid (num_lit w1 (okL ⟨by omega, by omega⟩ ⟨by omega, by omega⟩ ⟨by omega, by omega⟩ ⟨by omega, by omega⟩ ⟨by omega, by omega⟩))
      have hr : rightF ⟨5, 2, 9, n, 0, [1, 2]⟩ = false := decide_eq_false (fun hh => by have := hh.1; have := hh.2.1; have := hh.2.2.1; have := hh.2.2.2.1; have := hh.2.2.2.2.1; have := hh.2.2.2.2.2.1; simp only at *; omega)
      have HRT := Lib.hid hr
      generalize (w1.alloc (.cells #[.int .u8 1, .int .u8 2] 5)).alloc (.cells #[.int .u8 5, .int .u8 2, .int .u8 9, .int .u8 n, .int .u8 0, .slice (some ⟨w1.heap.size, 0, none⟩) 2 2] 24) = W at *
      have BW := Lib.hid (H1.out.trans (HS.out.bel.mono H1.out.size))
      refine Calls.mono (EncodeN hr HS.out.len W) ?_
      rintro e w3 ⟨rfl, D3⟩
      obtain ⟨k0, k1, k2, k3, k4, k5⟩ := fvs_cells (HS.out.blk.fr (Fr.of_below D3.out) (fun h => h))
      simp only [HS.out.len] at k0 k1 k2 k3 k4 k5
      have B3 := Lib.hid (BW.out.trans (D3.out.mono BW.out.size))
      clear hr D3
      go_wp2_with fail
      refine Calls.mono (RightN HRT.out HS.out.len w3) ?_
      rintro e w6 ⟨rfl, D6⟩
      go_wp2
      go_ret
      exact ⟨rfl, B3.out.trans (D6.out.mono B3.out.size)⟩
  · rcases (by omega : n < 2 ∨ 2 ≤ n) with h | h
    · go_enter Tryd.func5, Tryd.ntmps5
      go_wp2_with fail
      refine (shown4_walk hT).mono ?_
      rintro e w1 ⟨rfl, H1⟩
      go_wp2_with fail
      have HS : Hid (NumS w1 ⟨5, 2, 9, 1, n, [1, 2]⟩ (w1.heap.size + 1) (some ⟨w1.heap.size, 0, none⟩) 2 2 ((w1.alloc (.cells #[.int .u8 1, .int .u8 2] 5)).alloc (.cells #[.int .u8 5, .int .u8 2, .int .u8 9, .int .u8 1, .int .u8 n, .slice (some ⟨w1.heap.size, 0, none⟩) 2 2] 24))) := Lib.hid (num_lit w1 (okL ⟨by omega, by omega⟩ ⟨by omega, by omega⟩ ⟨by omega, by omega⟩ ⟨by omega, by omega⟩ ⟨by omega, by omega⟩))
      have hr : rightF ⟨5, 2, 9, 1, n, [1, 2]⟩ = true := decide_eq_true (by refine ⟨?_, ?_, ?_, ?_, ?_, ?_, ?_⟩ <;> simp only <;> (first | omega | decide))
      generalize (w1.alloc (.cells #[.int .u8 1, .int .u8 2] 5)).alloc (.cells #[.int .u8 5, .int .u8 2, .int .u8 9, .int .u8 1, .int .u8 n, .slice (some ⟨w1.heap.size, 0, none⟩) 2 2] 24) = W at *
      obtain ⟨L, hL⟩ : ∃ L, encL ⟨5, 2, 9, 1, n, [1, 2]⟩ = L := ⟨_, rfl⟩
      obtain ⟨X, hX⟩ : ∃ X, stf (innerL ⟨5, 2, 9, 1, n, [1, 2]⟩) = X := ⟨_, rfl⟩
      have hge := encL_ge ⟨5, 2, 9, 1, n, [1, 2]⟩
      have hle := encL_le hr
      have hin := encL_in ⟨5, 2, 9, 1, n, [1, 2]⟩
      have hel := encL_len ⟨5, 2, 9, 1, n, [1, 2]⟩
      have hde := dec_enc HS.out.ok hr
      have hLI := encL_inB HS.out.ok hr
      rw [hL] at hge hle hin hel hLI
      rw [hX] at hin hel hde
      obtain ⟨Q, hQ⟩ : ∃ Q, X.length = Q := ⟨_, rfl⟩
      obtain ⟨M1, hM1⟩ : ∃ M1, M1 = Q + 1 := ⟨_, rfl⟩
      obtain ⟨M, hM⟩ : ∃ M, L.length = M := ⟨_, rfl⟩
      rw [hM] at hge hle hin hel
      rw [hQ] at hel
      have hMM : M - 1 = M1 := by omega
      rw [hMM] at hin
      have HIN := Lib.hid hin
      have HM := Lib.hid hM
      have HQ := Lib.hid hQ
      have HDE := Lib.hid hde
      have HLI := Lib.hid hLI
      have HRT := Lib.hid hr
      have hM9 : (9 : Int) ≤ (M : Int) := by omega
      have hM64 : M ≤ 64 := by omega
      have hQ64 : Q ≤ 64 := by omega
      have hM165 : M1 ≤ 65 := by omega
      have HXI : Hid (InB X) := Lib.hid (fun x hx => HLI.out x (List.mem_of_mem_take (i := M1) (List.mem_of_mem_drop (i := 1) (by rw [HIN.out]; exact hx))))
      have BW := Lib.hid (H1.out.trans (HS.out.bel.mono H1.out.size))
      refine Calls.mono (EncodeE HS.out.ok hr hL HS.out.len hM W (HTB.out _ BW.out) HS.out.row HS.out.lt) ?_
      rintro e w3 ⟨A3, c3, rfl, M3, D3⟩
      obtain ⟨g, rfl, hg0, hg1⟩ := M3.out.at0 (by rw [hM]; omega)
      have hc3 : M ≤ c3 := by have := M3.out.2.2; rwa [hM] at this
      have R3 := Lib.hid M3.out.2.1
      have B3 := Lib.hid (BW.out.trans (D3.out.mono BW.out.size))
      have hm1 : (M : Int) - 1 = (M1 : Int) := by omega
      have hlh : ∀ W, (Instr.slice 22 (.slice (some ⟨g, 0, none⟩) M c3) (some (.int .i64 1)) (some (.int .i64 M1)) none).run Tryd.prog W = .ok (.slice (some ⟨g, 1, none⟩) Q (c3 - 1)) W := fun W => by
        have := bcut_lh_lit g M c3 1 M1 (by omega) (by omega) (by omega) W
        rwa [show M1 - 1 = Q by omega] at this
      have RX : Hid (RowOf c8 1 w3 w3.heap.size (some ⟨g, 1, none⟩) X) := Lib.hid (HIN.out ▸ ((R3.out.take_ M1).cut_lit (c := c3) 1 (by rw [List.length_take, HM.out]; omega) (by omega)))
      clear hL hX hge hle hin hel hde hLI hQ hM hMM hM1 hr M3
      go_wp2_with fail
      refine Calls.mono (DecodeE HDE.out HS.out.len HQ.out (by omega) HXI.out w3 (HTB.out _ B3.out) RX.out) ?_
      rintro e w4 ⟨A4, c4, rfl, M4, D4⟩
      have hs4 := D4.out.size
      have Dw4 := Lib.hid (D3.out.trans (D4.out.mono D3.out.size))
      have hb4 := HS.out.blk.fr (Fr.of_below Dw4.out) (fun h => h)
      have hz := hb4.lt
      obtain ⟨k0, k1, k2, k3, k4, k5⟩ := fvs_cells hb4
      simp only [HS.out.len] at k0 k1 k2 k3 k4 k5
      have D5 : Hid (Below W.heap.size W (w4.alloc (.cells #[.int .u8 5, .int .u8 2, .int .u8 9, .int .u8 1, .int .u8 n, .slice A4 2 c4] 24))) := Lib.hid (Dw4.out.alloc Dw4.out.size _)
      have Y5 : Hid (Blk (w4.alloc (.cells #[.int .u8 5, .int .u8 2, .int .u8 9, .int .u8 1, .int .u8 n, .slice A4 2 c4] 24)) w4.heap.size 24 #[.int .u8 5, .int .u8 2, .int .u8 9, .int .u8 1, .int .u8 n, .slice A4 2 c4]) := Lib.hid (Blk.new w4 _ _)
      have M5 := Lib.hid (M4.out.fr ((Fr.refl (fun _ => False) w4).alloc (.cells #[.int .u8 5, .int .u8 2, .int .u8 9, .int .u8 1, .int .u8 n, .slice A4 2 c4] 24)) (fun _ _ h => h))
      clear hlh hm1 hb4 M4 D4 D3
      go_wp2_with fail
      clear k0 k1 k2 k3 k4 k5 Dw4
      generalize w4.heap.size = yb at *
      generalize w4.alloc (.cells #[.int .u8 5, .int .u8 2, .int .u8 9, .int .u8 1, .int .u8 n, .slice A4 2 c4] 24) = w5 at *
      refine Calls.mono (RightY HRT.out HS.out.len w5) ?_
      rintro e w6 ⟨rfl, D6⟩
      have hf6 := Fr.of_below D6.out
      have D7 := Lib.hid (D5.out.trans (D6.out.mono D5.out.size))
      have hb6 := HS.out.blk.fr (Fr.of_below D7.out) (fun h => h)
      obtain ⟨k0, k1, k2, k3, k4, k5⟩ := fvs_cells hb6
      simp only [HS.out.len] at k0 k1 k2 k3 k4 k5
      have y6 := Y5.out.fr hf6 (fun h => h)
      have j0 : w6.cell? ⟨yb, 0, none⟩ = some (.int .u8 5) := y6.cell 0
      have j1 : w6.cell? ⟨yb, 1, none⟩ = some (.int .u8 2) := y6.cell 1
      have j2 : w6.cell? ⟨yb, 2, none⟩ = some (.int .u8 9) := y6.cell 2
      have j3 : w6.cell? ⟨yb, 3, none⟩ = some (.int .u8 1) := y6.cell 3
      have j4 : w6.cell? ⟨yb, 4, none⟩ = some (.int .u8 n) := y6.cell 4
      have j5 : w6.cell? ⟨yb, 5, none⟩ = some (.slice A4 2 c4) := y6.cell 5
      have s1 : (convert 22 9 (.slice A4 2 c4)).run Tryd.prog w6 = .ok (.string (strOfNums [1, 2])) w6 := str_n HS.out.len (M5.out.fr hf6 (fun _ _ h => h)).2.1
      have s2 : (convert 22 9 (.slice (some ⟨w1.heap.size, 0, none⟩) 2 2)).run Tryd.prog w6 = .ok (.string (strOfNums [1, 2])) w6 := str_n HS.out.len (HS.out.row.now D7.out)
      have B7 := BW.out.trans (D7.out.mono BW.out.size)
      clear y6 hb6 hf6 D6 D7 D5
      go_wp2
      go_ret
      exact ⟨rfl, B7⟩
    · have hdn : decide (n < 2) = false := decide_eq_false (by omega)
      go_enter Tryd.func5, Tryd.ntmps5
      go_wp2_with fail
      refine (shown4_walk hT).mono ?_
      rintro e w1 ⟨rfl, H1⟩
      go_wp2_with fail
      have HS : Hid (NumS w1 ⟨5, 2, 9, 1, n, [1, 2]⟩ (w1.heap.size + 1) (some ⟨w1.heap.size, 0, none⟩) 2 2 ((w1.alloc (.cells #[.int .u8 1, .int .u8 2] 5)).alloc (.cells #[.int .u8 5, .int .u8 2, .int .u8 9, .int .u8 1, .int .u8 n, .slice (some ⟨w1.heap.size, 0, none⟩) 2 2] 24))) := Lib.hid (num_lit w1 (okL ⟨by omega, by omega⟩ ⟨by omega, by omega⟩ ⟨by omega, by omega⟩ ⟨by omega, by omega⟩ ⟨by omega, by omega⟩))
      have hr : rightF ⟨5, 2, 9, 1, n, [1, 2]⟩ = false := decide_eq_false (fun hh => by have := hh.1; have := hh.2.1; have := hh.2.2.1; have := hh.2.2.2.1; have := hh.2.2.2.2.1; have := hh.2.2.2.2.2.1; simp only at *; omega)
      have HRT := Lib.hid hr
      generalize (w1.alloc (.cells #[.int .u8 1, .int .u8 2] 5)).alloc (.cells #[.int .u8 5, .int .u8 2, .int .u8 9, .int .u8 1, .int .u8 n, .slice (some ⟨w1.heap.size, 0, none⟩) 2 2] 24) = W at *
      have BW := Lib.hid (H1.out.trans (HS.out.bel.mono H1.out.size))
      refine Calls.mono (EncodeN hr HS.out.len W) ?_
      rintro e w3 ⟨rfl, D3⟩
      obtain ⟨k0, k1, k2, k3, k4, k5⟩ := fvs_cells (HS.out.blk.fr (Fr.of_below D3.out) (fun h => h))
      simp only [HS.out.len] at k0 k1 k2 k3 k4 k5
      have B3 := Lib.hid (BW.out.trans (D3.out.mono BW.out.size))
      clear hr D3
      go_wp2_with fail
      refine Calls.mono (RightN HRT.out HS.out.len w3) ?_
      rintro e w6 ⟨rfl, D6⟩
      go_wp2
      go_ret
      exact ⟨rfl, B3.out.trans (D6.out.mono B3.out.size)⟩
  · obtain ⟨nn, rfl⟩ : ∃ nn : Nat, n = (nn : Int) := ⟨n.toNat, by omega⟩
    have hmkk : ∀ W, (Instr.makeSlice 22 (.int .u8 nn) (.int .u8 nn)).run Tryd.prog W = .ok (.slice (some ⟨W.heap.size, 0, none⟩) nn nn) (W.alloc (.cells (madeCells #[.int .u8 0] nn) 5)) := fun W => by
      obtain ⟨i0, hi, hz0, hz1, hz2⟩ := info_parts info_u8
      have := run_make (P := Tryd.prog) W 22 5 i0 (.int .u8 0) Tryd.underlying22 hi hz0 .u8 .u8 nn nn (by omega) (by omega) (by rw [hz2]; omega) (by omega)
      rw [hz1] at this
      simpa [Value.cells] using this
    rcases (by omega : (nn : Int) ≤ 24 ∨ 24 < (nn : Int)) with h | h
    · go_enter Tryd.func5, Tryd.ntmps5
      go_wp2_with fail
      refine (shown4_walk hT).mono ?_
      rintro e w1 ⟨rfl, H1⟩
      go_wp2_with fail
      have HS : Hid (NumS w1 ⟨5, 2, 9, 1, 0, List.replicate nn 0⟩ (w1.heap.size + 1) (some ⟨w1.heap.size + 1 + 1, 0, none⟩) nn nn (((w1.alloc (.cells #[.int .u8 1, .int .u8 2] 5)).alloc (.cells #[.int .u8 5, .int .u8 2, .int .u8 9, .int .u8 1, .int .u8 0, .slice (some ⟨w1.heap.size + 1 + 1, 0, none⟩) nn nn] 24)).alloc (.cells (madeCells #[.int .u8 0] nn) 5))) := Lib.hid (num_zeros w1 nn (by omega))
      have hr : rightF ⟨5, 2, 9, 1, 0, List.replicate nn 0⟩ = true := decide_eq_true (by refine ⟨?_, ?_, ?_, ?_, ?_, ?_, ?_⟩ <;> simp only [List.length_replicate] <;> (first | omega | decide))
      generalize ((w1.alloc (.cells #[.int .u8 1, .int .u8 2] 5)).alloc (.cells #[.int .u8 5, .int .u8 2, .int .u8 9, .int .u8 1, .int .u8 0, .slice (some ⟨w1.heap.size + 1 + 1, 0, none⟩) nn nn] 24)).alloc (.cells (madeCells #[.int .u8 0] nn) 5) = W at *
      obtain ⟨L, hL⟩ : ∃ L, encL ⟨5, 2, 9, 1, 0, List.replicate nn 0⟩ = L := ⟨_, rfl⟩
      obtain ⟨X, hX⟩ : ∃ X, stf (innerL ⟨5, 2, 9, 1, 0, List.replicate nn 0⟩) = X := ⟨_, rfl⟩
      have hge := encL_ge ⟨5, 2, 9, 1, 0, List.replicate nn 0⟩
      have hle := encL_le hr
      have hin := encL_in ⟨5, 2, 9, 1, 0, List.replicate nn 0⟩
      have hel := encL_len ⟨5, 2, 9, 1, 0, List.replicate nn 0⟩
      have hde := dec_enc HS.out.ok hr
      have hLI := encL_inB HS.out.ok hr
      rw [hL] at hge hle hin hel hLI
      rw [hX] at hin hel hde
      obtain ⟨Q, hQ⟩ : ∃ Q, X.length = Q := ⟨_, rfl⟩
      obtain ⟨M1, hM1⟩ : ∃ M1, M1 = Q + 1 := ⟨_, rfl⟩
      obtain ⟨M, hM⟩ : ∃ M, L.length = M := ⟨_, rfl⟩
      rw [hM] at hge hle hin hel
      rw [hQ] at hel
      have hMM : M - 1 = M1 := by omega
      rw [hMM] at hin
      have HIN := Lib.hid hin
      have HM := Lib.hid hM
      have HQ := Lib.hid hQ
      have HDE := Lib.hid hde
      have HLI := Lib.hid hLI
      have HRT := Lib.hid hr
      have hM9 : (9 : Int) ≤ (M : Int) := by omega
      have hM64 : M ≤ 64 := by omega
      have hQ64 : Q ≤ 64 := by omega
      have hM165 : M1 ≤ 65 := by omega
      have HXI : Hid (InB X) := Lib.hid (fun x hx => HLI.out x (List.mem_of_mem_take (i := M1) (List.mem_of_mem_drop (i := 1) (by rw [HIN.out]; exact hx))))
      have BW := Lib.hid (H1.out.trans (HS.out.bel.mono H1.out.size))
      refine Calls.mono (EncodeE HS.out.ok hr hL HS.out.len hM W (HTB.out _ BW.out) HS.out.row HS.out.lt) ?_
      rintro e w3 ⟨A3, c3, rfl, M3, D3⟩
      obtain ⟨g, rfl, hg0, hg1⟩ := M3.out.at0 (by rw [hM]; omega)
      have hc3 : M ≤ c3 := by have := M3.out.2.2; rwa [hM] at this
      have R3 := Lib.hid M3.out.2.1
      have B3 := Lib.hid (BW.out.trans (D3.out.mono BW.out.size))
      have hm1 : (M : Int) - 1 = (M1 : Int) := by omega
      have hlh : ∀ W, (Instr.slice 22 (.slice (some ⟨g, 0, none⟩) M c3) (some (.int .i64 1)) (some (.int .i64 M1)) none).run Tryd.prog W = .ok (.slice (some ⟨g, 1, none⟩) Q (c3 - 1)) W := fun W => by
        have := bcut_lh_lit g M c3 1 M1 (by omega) (by omega) (by omega) W
        rwa [show M1 - 1 = Q by omega] at this
      have RX : Hid (RowOf c8 1 w3 w3.heap.size (some ⟨g, 1, none⟩) X) := Lib.hid (HIN.out ▸ ((R3.out.take_ M1).cut_lit (c := c3) 1 (by rw [List.length_take, HM.out]; omega) (by omega)))
      clear hL hX hge hle hin hel hde hLI hQ hM hMM hM1 hr M3
      go_wp2_with fail
      refine Calls.mono (DecodeE HDE.out HS.out.len HQ.out (by omega) HXI.out w3 (HTB.out _ B3.out) RX.out) ?_
      rintro e w4 ⟨A4, c4, rfl, M4, D4⟩
      have hs4 := D4.out.size
      have Dw4 := Lib.hid (D3.out.trans (D4.out.mono D3.out.size))
      have hb4 := HS.out.blk.fr (Fr.of_below Dw4.out) (fun h => h)
      have hz := hb4.lt
      obtain ⟨k0, k1, k2, k3, k4, k5⟩ := fvs_cells hb4
      simp only [HS.out.len] at k0 k1 k2 k3 k4 k5
      have D5 : Hid (Below W.heap.size W (w4.alloc (.cells #[.int .u8 5, .int .u8 2, .int .u8 9, .int .u8 1, .int .u8 0, .slice A4 nn c4] 24))) := Lib.hid (Dw4.out.alloc Dw4.out.size _)
      have Y5 : Hid (Blk (w4.alloc (.cells #[.int .u8 5, .int .u8 2, .int .u8 9, .int .u8 1, .int .u8 0, .slice A4 nn c4] 24)) w4.heap.size 24 #[.int .u8 5, .int .u8 2, .int .u8 9, .int .u8 1, .int .u8 0, .slice A4 nn c4]) := Lib.hid (Blk.new w4 _ _)
      have M5 := Lib.hid (M4.out.fr ((Fr.refl (fun _ => False) w4).alloc (.cells #[.int .u8 5, .int .u8 2, .int .u8 9, .int .u8 1, .int .u8 0, .slice A4 nn c4] 24)) (fun _ _ h => h))
      clear hlh hm1 hb4 M4 D4 D3
      go_wp2_with fail
      clear k0 k1 k2 k3 k4 k5 Dw4
      generalize w4.heap.size = yb at *
      generalize w4.alloc (.cells #[.int .u8 5, .int .u8 2, .int .u8 9, .int .u8 1, .int .u8 0, .slice A4 nn c4] 24) = w5 at *
      refine Calls.mono (RightY HRT.out HS.out.len w5) ?_
      rintro e w6 ⟨rfl, D6⟩
      have hf6 := Fr.of_below D6.out
      have D7 := Lib.hid (D5.out.trans (D6.out.mono D5.out.size))
      have hb6 := HS.out.blk.fr (Fr.of_below D7.out) (fun h => h)
      obtain ⟨k0, k1, k2, k3, k4, k5⟩ := fvs_cells hb6
      simp only [HS.out.len] at k0 k1 k2 k3 k4 k5
      have y6 := Y5.out.fr hf6 (fun h => h)
      have j0 : w6.cell? ⟨yb, 0, none⟩ = some (.int .u8 5) := y6.cell 0
      have j1 : w6.cell? ⟨yb, 1, none⟩ = some (.int .u8 2) := y6.cell 1
      have j2 : w6.cell? ⟨yb, 2, none⟩ = some (.int .u8 9) := y6.cell 2
      have j3 : w6.cell? ⟨yb, 3, none⟩ = some (.int .u8 1) := y6.cell 3
      have j4 : w6.cell? ⟨yb, 4, none⟩ = some (.int .u8 0) := y6.cell 4
      have j5 : w6.cell? ⟨yb, 5, none⟩ = some (.slice A4 nn c4) := y6.cell 5
      have s1 : (convert 22 9 (.slice A4 nn c4)).run Tryd.prog w6 = .ok (.string (strOfNums (List.replicate nn 0))) w6 := str_n HS.out.len (M5.out.fr hf6 (fun _ _ h => h)).2.1
      have s2 : (convert 22 9 (.slice (some ⟨w1.heap.size + 1 + 1, 0, none⟩) nn nn)).run Tryd.prog w6 = .ok (.string (strOfNums (List.replicate nn 0))) w6 := str_n HS.out.len (HS.out.row.now D7.out)
      have B7 := BW.out.trans (D7.out.mono BW.out.size)
      clear y6 hb6 hf6 D6 D7 D5
      go_wp2
      go_ret
      exact ⟨rfl, B7⟩
    · have hdn : decide ((nn : Int) ≤ 24) = false := decide_eq_false (by omega)
      go_enter Tryd.func5, Tryd.ntmps5
      go_wp2_with fail
      refine (shown4_walk hT).mono ?_
      rintro e w1 ⟨rfl, H1⟩
      go_wp2_with fail
      have HS : Hid (NumS w1 ⟨5, 2, 9, 1, 0, List.replicate nn 0⟩ (w1.heap.size + 1) (some ⟨w1.heap.size + 1 + 1, 0, none⟩) nn nn (((w1.alloc (.cells #[.int .u8 1, .int .u8 2] 5)).alloc (.cells #[.int .u8 5, .int .u8 2, .int .u8 9, .int .u8 1, .int .u8 0, .slice (some ⟨w1.heap.size + 1 + 1, 0, none⟩) nn nn] 24)).alloc (.cells (madeCells #[.int .u8 0] nn) 5))) := Lib.hid (num_zeros w1 nn (by omega))
      have hr : rightF ⟨5, 2, 9, 1, 0, List.replicate nn 0⟩ = false := decide_eq_false (fun hh => by have := hh.2.2.2.2.2.2; simp only [List.length_replicate] at this; omega)
      have HRT := Lib.hid hr
      generalize ((w1.alloc (.cells #[.int .u8 1, .int .u8 2] 5)).alloc (.cells #[.int .u8 5, .int .u8 2, .int .u8 9, .int .u8 1, .int .u8 0, .slice (some ⟨w1.heap.size + 1 + 1, 0, none⟩) nn nn] 24)).alloc (.cells (madeCells #[.int .u8 0] nn) 5) = W at *
      have BW := Lib.hid (H1.out.trans (HS.out.bel.mono H1.out.size))
      refine Calls.mono (EncodeN hr HS.out.len W) ?_
      rintro e w3 ⟨rfl, D3⟩
      obtain ⟨k0, k1, k2, k3, k4, k5⟩ := fvs_cells (HS.out.blk.fr (Fr.of_below D3.out) (fun h => h))
      simp only [HS.out.len] at k0 k1 k2 k3 k4 k5
      have B3 := Lib.hid (BW.out.trans (D3.out.mono BW.out.size))
      clear hr D3
      go_wp2_with fail
      refine Calls.mono (RightN HRT.out HS.out.len w3) ?_
      rintro e w6 ⟨rfl, D6⟩
      go_wp2
      go_ret
      exact ⟨rfl, B3.out.trans (D6.out.mono B3.out.size)⟩
end Go.Proofs.YtfcbbcimblpbnaaDoor.K
