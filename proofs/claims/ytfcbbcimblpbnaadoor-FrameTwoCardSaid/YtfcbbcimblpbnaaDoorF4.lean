/- What the laws about frames share. -/
import Derived.Test.YtfcbbcimblpbnaaDoorF3
import Derived.WalkSpells
import Derived.Deep.QuietTactic
import Derived.BigQuiet
namespace Go.Proofs.YtfcbbcimblpbnaaDoor.K
open Go.RowKit
set_option linter.unusedVariables false
set_option linter.unusedSimpArgs false
attribute [local go_sem] min2_min min_two
/-- x[lo:hi]. -/
theorem bcut_lh (A : Option Addr) (n c lo hi : Nat) (h1 : lo ≤ hi) (h2 : hi ≤ c) (W : World) : (Instr.slice 22 (.slice A n c) (some (.int .i64 lo)) (some (.int .i64 hi)) none).run Tryd.prog W = .ok (.slice (if c = lo then A else A.map (·.add lo)) (hi - lo) (c - lo)) W := by
  obtain ⟨i, hi0, hi1⟩ := bytes_info
  have hel : Tryd.prog.elem 22 = 5 := by simp [Program.elem, Tryd.underlying22]
  have hu : Tryd.prog.underlying 22 = some (.slice (Tryd.prog.elem 22)) := by rw [hel]; exact Tryd.underlying22
  rw [run_slice_lh W 22 A n c hu .i64 .i64 lo hi (by omega) (by omega) (by omega), hel]
  by_cases hcn : c = lo
  · subst hcn
    cases A <;> simp [sizeOf, typeInfo, hi0, hi1, sliced, Result.andThen]
  · cases A <;> simp [sizeOf, typeInfo, hi0, hi1, sliced, Result.andThen, hcn]
theorem bcut_lh_lit (g n c lo hi : Nat) (h1 : lo ≤ hi) (h2 : hi ≤ c) (h3 : lo < c) (W : World) : (Instr.slice 22 (.slice (some ⟨g, 0, none⟩) n c) (some (.int .i64 lo)) (some (.int .i64 hi)) none).run Tryd.prog W = .ok (.slice (some ⟨g, lo, none⟩) (hi - lo) (c - lo)) W := by
  rw [bcut_lh _ n c lo hi h1 h2 W, if_neg (by omega)]
  simp [add_plain]
theorem bcut_lo_lit (g n c lo : Nat) (h1 : lo ≤ n) (h2 : n ≤ c) (h3 : lo < c) (hcm : c ≤ 9223372036854775807) (W : World) : (Instr.slice 22 (.slice (some ⟨g, 0, none⟩) n c) (some (.int .i64 lo)) none none).run Tryd.prog W = .ok (.slice (some ⟨g, lo, none⟩) (n - lo) (c - lo)) W := by
  rw [bcut_lo _ n c lo h1 h2 hcm W, if_neg (by omega)]
  simp [add_plain]
/-- A row of the call's own that is not empty: where it lies. -/
theorem Made.at0 {B c : Nat} {A : Option Addr} {l : List Int} {w : World} (h : Made B A c l w) (h0 : 0 < l.length) : ∃ g, A = some ⟨g, 0, none⟩ ∧ B ≤ g ∧ g < w.heap.size := by
  obtain ⟨g, cap, hv, hb, hlt⟩ := h.1.form h0
  have hA : A = some ⟨g, 0, none⟩ := by injection hv
  exact ⟨g, hA, hb, hlt⟩
theorem RowOf.cut_lit {w : World} {B g c : Nat} {l : List Int} (h : RowOf c8 1 w B (some ⟨g, 0, none⟩) l) (lo : Nat) (hc : l.length ≤ c) (h3 : lo < c) : RowOf c8 1 w B (some ⟨g, lo, none⟩) (l.drop lo) := by
  have := h.drop_ (cap := c) lo hc
  rw [if_neg (by omega)] at this
  simpa [add_plain] using this
/-- Decode, the frame as numbers. -/
theorem DecodeE {A : Option Addr} {c n nb : Nat} {l m : List Int} {a k s q x e : Int} (hd : decL l = (⟨a, k, s, q, x, m⟩, e)) (hm : m.length = nb) (hn : l.length = n) (hl : n ≤ 60000000000000) (hi : InB l) (w : World) (hT : Turns w) (h : RowOf c8 1 w w.heap.size A l) :
    Calls Tryd.prog 14 #[.slice A n c] w fun ee w' => ∃ A' c', ee = .returned (.tuple #[.agg #[.int .u8 a, .int .u8 k, .int .u8 s, .int .u8 q, .int .u8 x, .slice A' nb c'], .int .i64 e]) ∧ Hid (Made w.heap.size A' c' m w') ∧ Hid (Below w.heap.size w w') := by
  subst hm
  refine (DecodeC hn hl hi w hT h).mono ?_
  rintro ee w' ⟨A', c', h1, h2, h3⟩
  rw [hd] at h1 h2
  exact ⟨A', c', h1, h2, h3⟩
theorem EncodeE {A : Option Addr} {c n nb : Nat} {a k s q x : Int} {m L : List Int} (hf : (⟨a, k, s, q, x, m⟩ : Fp).ok) (hr : rightF ⟨a, k, s, q, x, m⟩ = true) (hL : encL ⟨a, k, s, q, x, m⟩ = L) (hn : m.length = nb) (hln : L.length = n) (w : World) (hT : Turns w) (hB : RowOf c8 1 w w.heap.size A m) (ha : ∀ ad, A = some ad → ad.block < w.heap.size) :
    Calls Tryd.prog 10 #[.agg #[.int .u8 a, .int .u8 k, .int .u8 s, .int .u8 q, .int .u8 x, .slice A nb c]] w fun e w' => ∃ A' c', e = .returned (.tuple #[.slice A' n c', .int .i64 0]) ∧ Hid (Made w.heap.size A' c' L w') ∧ Hid (Below w.heap.size w w') := by
  subst hL hn hln
  exact EncodeC ⟨a, k, s, q, x, m⟩ hf hr A c w hT hB ha
theorem EncodeN {A : Option Addr} {c nb : Nat} {a k s q x : Int} {m : List Int} (hr : rightF ⟨a, k, s, q, x, m⟩ = false) (hn : m.length = nb) (w : World) :
    Calls Tryd.prog 10 #[.agg #[.int .u8 a, .int .u8 k, .int .u8 s, .int .u8 q, .int .u8 x, .slice A nb c]] w fun e w' => e = .returned (.tuple #[.slice none 0 0, .int .i64 1]) ∧ Hid (Below w.heap.size w w') := by
  subst hn
  exact EncodeNo ⟨a, k, s, q, x, m⟩ hr A c w
theorem below_set {w w1 : World} (h : Below w.heap.size w w1) (g i : Nat) (v : Value) : Fr1 g w (w1.setCell ⟨g, i, none⟩ v) := ((Fr.of_below h).mono (S' := fun k => k = g) (fun _ _ h => h.elim)).setCell (fun _ => rfl) _
abbrev L13 : List Int := [126, 1, 2, 125, 94, 3, 2, 125, 93, 5, 203, 221, 126]
theorem encL13 : encL ⟨1, 2, 126, 1, 1, [125, 5]⟩ = L13 := of_decide_eq_true (by kernel_rfl)
theorem dec11 : decL [1, 2, 125, 94, 3, 2, 125, 93, 5, 203, 221] = (⟨1, 2, 126, 1, 1, [125, 5]⟩, 0) := by kernel_rfl
theorem dec12 : decL [1, 2, 125, 94, 3, 2, 125, 93, 5, 203, 221, 126] = (⟨0, 0, 0, 0, 0, []⟩, 3) := by kernel_rfl
theorem dec0 : decL [] = (⟨0, 0, 0, 0, 0, []⟩, 2) := by kernel_rfl
set_option maxHeartbeats 800000 in
set_option maxRecDepth 10000 in
theorem shown4_walk {w : World} (hT : Turns w) : Calls Tryd.prog 9 #[] w fun e w' => e = .returned (.bool true) ∧ Hid (Below w.heap.size w w') := by
  have HTB : Hid (∀ w' : World, Below w.heap.size w w' → Turns w') := Lib.hid (fun w' b => hT.below b hT.lt)
  have HOK : Hid ((⟨1, 2, 126, 1, 1, [125, 5]⟩ : Fp).ok) := Lib.hid ⟨by simp, by simp, by simp, by simp, by simp, inB_of (by decide)⟩
  go_enter Tryd.func9, Tryd.ntmps9
  go_wp2_with fail
  obtain ⟨W0, hW0⟩ : ∃ W0, W0 = (w.alloc (.cells #[.int .u8 125, .int .u8 5] 5)).alloc (.cells #[.int .u8 1, .int .u8 2, .int .u8 126, .int .u8 1, .int .u8 1, .slice (some ⟨w.heap.size, 0, none⟩) 2 2] 24) := ⟨_, rfl⟩
  have hs0 : W0.heap.size = w.heap.size + 2 := by rw [hW0]; simp
  have B0 : Hid (Below w.heap.size w W0) := Lib.hid (by rw [hW0]; exact ((Below.refl _ w).alloc (Nat.le_refl _) _).alloc (by simp) _)
  have HR0 : Hid (RowOf c8 1 W0 W0.heap.size (some ⟨w.heap.size, 0, none⟩) [125, 5]) := Lib.hid (row_blk (l := [125, 5]) (by rw [hW0]; exact (Blk.new w _ _).alloc _) (by omega))
  have HK0 : Hid (Blk W0 (w.heap.size + 1) 24 (fvs ⟨1, 2, 126, 1, 1, [125, 5]⟩ (some ⟨w.heap.size, 0, none⟩) 2)) := Lib.hid (by rw [hW0]; exact Blk.new_at (by simp))
  rw [← hW0]
  clear hW0
  refine Calls.mono (EncodeE (L := L13) (n := 13) HOK.out (by decide) encL13 rfl rfl W0 (HTB.out _ B0.out) HR0.out (fun ad e => by obtain rfl := Option.some.inj e; show w.heap.size < _; omega)) ?_
  rintro e w1 ⟨A1, c1, rfl, M1, D1⟩
  obtain ⟨g, rfl, hg0, hg1⟩ := M1.out.at0 (by decide)
  have hc1 : 13 ≤ c1 := M1.out.2.2
  have hcm1 := made_cap M1.out
  have hlh : ∀ W, (Instr.slice 22 (.slice (some ⟨g, 0, none⟩) 13 c1) (some (.int .i64 1)) (some (.int .i64 12)) none).run Tryd.prog W = .ok (.slice (some ⟨g, 1, none⟩) 11 (c1 - 1)) W := fun W => bcut_lh_lit g 13 c1 1 12 (by omega) (by omega) (by omega) W
  have hl1 : ∀ W, (Instr.slice 22 (.slice (some ⟨g, 0, none⟩) 13 c1) (some (.int .i64 1)) none none).run Tryd.prog W = .ok (.slice (some ⟨g, 1, none⟩) 12 (c1 - 1)) W := fun W => bcut_lo_lit g 13 c1 1 (by omega) (by omega) (by omega) hcm1 W
  have hh1 : ∀ W, (Instr.slice 22 (.slice (some ⟨g, 0, none⟩) 13 c1) none (some (.int .i64 11)) none).run Tryd.prog W = .ok (.slice (some ⟨g, 0, none⟩) 11 c1) W := fun W => bcut_hi _ 13 c1 11 (by omega) W
  have hh2 : ∀ W, (Instr.slice 22 (.slice (some ⟨g, 0, none⟩) 13 c1) (some (.int .i64 10)) (some (.int .i64 11)) none).run Tryd.prog W = .ok (.slice (some ⟨g, 10, none⟩) 1 (c1 - 10)) W := fun W => bcut_lh_lit g 13 c1 10 11 (by omega) (by omega) (by omega) W
  have R1 := Lib.hid M1.out.2.1
  have B1 := Lib.hid (B0.out.trans (D1.out.mono B0.out.size))
  have HK1 := Lib.hid (HK0.out.fr (Fr.of_below D1.out) (fun h => h))
  have hs1 := D1.out.size
  clear M1 D1 HK0
  go_wp2_with fail
  have R1a : Hid (RowOf c8 1 w1 w1.heap.size (some ⟨g, 1, none⟩) [1, 2, 125, 94, 3, 2, 125, 93, 5, 203, 221]) := Lib.hid ((R1.out.take_ 12).cut_lit (c := c1) 1 (by simp; omega) (by omega))
  refine Calls.mono (DecodeE dec11 rfl rfl (by decide) (inB_of (by decide)) w1 (HTB.out _ B1.out) R1a.out) ?_
  rintro e w2 ⟨A2, c2, rfl, M2, D2⟩
  have hs2 := D2.out.size
  have B2 := Lib.hid ((B1.out.trans (D2.out.mono B1.out.size)).alloc (B1.out.trans (D2.out.mono B1.out.size)).size (.cells #[.int .u8 1, .int .u8 2, .int .u8 126, .int .u8 1, .int .u8 1, .slice A2 2 c2] 24))
  have HX2 : Hid (Blk (w2.alloc (.cells #[.int .u8 1, .int .u8 2, .int .u8 126, .int .u8 1, .int .u8 1, .slice A2 2 c2] 24)) w2.heap.size 24 (fvs ⟨1, 2, 126, 1, 1, [125, 5]⟩ A2 c2)) := Lib.hid (Blk.new w2 _ _)
  have D2' := Lib.hid (D2.out.alloc hs2 (.cells #[.int .u8 1, .int .u8 2, .int .u8 126, .int .u8 1, .int .u8 1, .slice A2 2 c2] 24))
  have RX2 := Lib.hid (M2.out.2.1.now ((Below.refl w2.heap.size w2).alloc (Nat.le_refl _) (.cells #[.int .u8 1, .int .u8 2, .int .u8 126, .int .u8 1, .int .u8 1, .slice A2 2 c2] 24)))
  have HXB : Hid (∀ ad, A2 = some ad → ad.block < (w2.alloc (.cells #[.int .u8 1, .int .u8 2, .int .u8 126, .int .u8 1, .int .u8 1, .slice A2 2 c2] 24)).heap.size ∧ ad.block ≠ w.heap.size + 1) := Lib.hid (fun ad e => by have := made_lt M2.out ad e; simp; omega)
  have hs2' : (w2.alloc (.cells #[.int .u8 1, .int .u8 2, .int .u8 126, .int .u8 1, .int .u8 1, .slice A2 2 c2] 24)).heap.size = w2.heap.size + 1 := by simp
  clear M2 D2 R1a
  go_wp2_with fail
  clear hlh hl1
  generalize w2.heap.size = x at *
  generalize w2.alloc (.cells #[.int .u8 1, .int .u8 2, .int .u8 126, .int .u8 1, .int .u8 1, .slice A2 2 c2] 24) = W2 at *
  have R2 := Lib.hid (R1.out.now D2'.out)
  refine Calls.mono (DecodeE dec12 rfl rfl (by decide) (inB_of (by decide)) W2 (HTB.out _ B2.out) (R2.out.cut_lit (c := c1) 1 (by simp; omega) (by omega))) ?_
  rintro e w3 ⟨A3, c3, rfl, M3, D3⟩
  have hs3 := D3.out.size
  obtain ⟨F3, hF3⟩ : ∃ F3, F3 = Obj.cells #[.int .u8 0, .int .u8 0, .int .u8 0, .int .u8 0, .int .u8 0, .slice A3 0 c3] 24 := ⟨_, rfl⟩
  have D3' := Lib.hid (D3.out.alloc hs3 F3)
  clear M3 D3
  go_wp2_with fail
  have D3'' : Hid (Below W2.heap.size W2 (w3.alloc (.cells #[.int .u8 0, .int .u8 0, .int .u8 0, .int .u8 0, .int .u8 0, .slice A3 0 c3] 24))) := Lib.hid (hF3 ▸ D3'.out)
  clear hF3 D3'
  generalize w3.alloc (.cells #[.int .u8 0, .int .u8 0, .int .u8 0, .int .u8 0, .int .u8 0, .slice A3 0 c3] 24) = W3 at *
  have B3 := Lib.hid (B2.out.trans (D3''.out.mono B2.out.size))
  refine Calls.mono (DecodeE (A := none) (c := 0) dec0 rfl rfl (by decide) (fun x h => by cases h) W3 (HTB.out _ B3.out) row_none) ?_
  rintro e w4 ⟨A4, c4, rfl, M4, D4⟩
  have hs4 := D4.out.size
  have D4' := Lib.hid (D4.out.alloc hs4 (.cells #[.int .u8 0, .int .u8 0, .int .u8 0, .int .u8 0, .int .u8 0, .slice A4 0 c4] 24))
  have HK4 := Lib.hid (((HK1.out.fr (Fr.of_below D2'.out) (fun h => h)).fr (Fr.of_below D3''.out) (fun h => h)).fr (Fr.of_below D4.out) (fun h => h))
  obtain ⟨k0, k1, k2, k3, k4, k5⟩ := fvs_cells HK4.out
  simp only at k0 k1 k2 k3 k4 k5
  have f0 := HK4.out.frozen 0
  have hlt4 := HK4.out.lt
  have F5x : Hid (Fr1 (w.heap.size + 1) W2 ((w4.setCell ⟨w.heap.size + 1, 0, none⟩ (.int .u8 32)).alloc (.cells #[.int .u8 0, .int .u8 0, .int .u8 0, .int .u8 0, .int .u8 0, .slice A4 0 c4] 24))) := Lib.hid ((below_set (D3''.out.trans (D4.out.mono D3''.out.size)) (w.heap.size + 1) 0 (.int .u8 32)).alloc _)
  have B5 : Hid (Below w.heap.size w ((w4.setCell ⟨w.heap.size + 1, 0, none⟩ (.int .u8 32)).alloc (.cells #[.int .u8 0, .int .u8 0, .int .u8 0, .int .u8 0, .int .u8 0, .slice A4 0 c4] 24))) := Lib.hid (((B3.out.trans (D4.out.mono B3.out.size)).setCell (by simp) _).alloc (by have := (B3.out.trans (D4.out.mono B3.out.size)).size; simpa [World.setCell] using this) _)
  have R2 := Lib.hid (R1.out.now D2'.out)
  have hgl : g < W2.heap.size := by have := D2'.out.size; omega
  clear D4 D4' HK4 D3'' D2'
  go_wp2_with fail
  clear k0 k1 k2 k3 k4 k5 f0
  generalize (w4.setCell ⟨w.heap.size + 1, 0, none⟩ (.int .u8 32)).alloc (.cells #[.int .u8 0, .int .u8 0, .int .u8 0, .int .u8 0, .int .u8 0, .slice A4 0 c4] 24) = W5 at *
  refine Calls.mono (EncodeN (a := 32) (k := 2) (s := 126) (q := 1) (x := 1) (m := [125, 5]) (by decide) rfl W5) ?_
  rintro e w6 ⟨rfl, D6⟩
  have hx := HX2.out.lt
  have hs5 := F5x.out.size
  have R5 := Lib.hid (row_fr R2.out F5x.out (fun ad e => by obtain rfl := Option.some.inj e; exact ⟨hgl, fun e => by simp at e; omega⟩))
  have R6 := Lib.hid (R5.out.below (D6.out.mono hs5))
  have X6 := Lib.hid ((HX2.out.fr F5x.out (by omega)).fr (Fr.of_below D6.out) (fun h => h))
  have hxb : ∀ ad, A2 = some ad → ad.block < W2.heap.size ∧ ad.block ≠ w.heap.size + 1 := HXB.out
  have Y6 := Lib.hid ((row_fr RX2.out F5x.out hxb).below (D6.out.mono hs5))
  have B6 := Lib.hid (B5.out.trans (D6.out.mono B5.out.size))
  obtain ⟨k0, k1, k2, k3, k4, k5⟩ := fvs_cells X6.out
  simp only at k0 k1 k2 k3 k4 k5
  have s1 : ∀ n, (convert 22 9 (.slice (some ⟨g, 0, none⟩) 11 c1)).run Tryd.prog (w6.drewN n) = .ok (.string ⟨#[126, 1, 2, 125, 94, 3, 2, 125, 93, 5, 203]⟩) (w6.drewN n) := fun n => str_row (l := [126, 1, 2, 125, 94, 3, 2, 125, 93, 5, 203]) ((R6.out.take_ 11).drewN_ n)
  have s2 : ∀ n, (convert 22 9 (.slice (some ⟨g, 10, none⟩) 1 (c1 - 10))).run Tryd.prog (w6.drewN n) = .ok (.string ⟨#[203]⟩) (w6.drewN n) := fun n => str_row (l := [203]) (((R6.out.take_ 11).cut_lit (c := c1) 10 (by simp; omega) (by omega)).drewN_ n)
  have s3 : ∀ n, (convert 22 9 (.slice A2 2 c2)).run Tryd.prog (w6.drewN n) = .ok (.string ⟨#[125, 5]⟩) (w6.drewN n) := fun n => str_row (l := [125, 5]) (Y6.out.drewN_ n)
  have happ : (⟨#[126, 1, 2, 125, 94, 3, 2, 125, 93, 5]⟩ : ByteArray) ++ ⟨#[203]⟩ = ⟨#[126, 1, 2, 125, 94, 3, 2, 125, 93, 5, 203]⟩ := by decide
  have kg : w6.cell? ⟨g, 12, none⟩ = some (.int .u8 126) := by
    obtain ⟨ad, e, _, hc⟩ := R6.out.num (i := 12) (by decide)
    obtain rfl := Option.some.inj e
    simpa [add_plain] using hc
  clear R5 X6 hxb D6
  go_wp2_with fail
  go_quiet (fail)
  go_wp2
  go_ret
  exact ⟨rfl, Lib.hid ⟨B6.out.os, B6.out.tape, B6.out.output, B6.out.size, B6.out.block⟩⟩
end Go.Proofs.YtfcbbcimblpbnaaDoor.K
