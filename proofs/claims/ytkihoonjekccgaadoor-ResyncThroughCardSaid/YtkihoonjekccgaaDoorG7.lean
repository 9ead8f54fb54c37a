/- Errors, Held; Feed as its users want it; the two frames that must come. -/
import Derived.Test.YtkihoonjekccgaaDoorG6
import Derived.WalkSpells
import Derived.Lib.SlBytesConst
namespace Go.Proofs.YtkihoonjekccgaaDoor.K
open Go.RowKit
set_option linter.unusedVariables false
set_option linter.unusedSimpArgs false
attribute [local go_sem] min2_min min_two
theorem heldC {w : World} {g : Nat} {s : Ds} (h : DecB w g s) : Calls Tryd.prog 14 #[.pointer (some ⟨g, 0, none⟩)] w fun e w' => e = .returned (.int .i64 (s.held.length : Int)) ∧ w = w' := by
  obtain ⟨k74, k75⟩ := h.cells
  clear h
  generalize (s.held.length : Int) = n at *
  go_enter Tryd.func14, Tryd.ntmps14
  go_wp2
  go_ret
  exact ⟨rfl, rfl⟩
theorem heldE {w : World} {g n : Nat} {s : Ds} (h : DecB w g s) (hn : s.held.length = n) : Calls Tryd.prog 14 #[.pointer (some ⟨g, 0, none⟩)] w fun e w' => e = .returned (.int .i64 (n : Int)) ∧ w = w' := by subst hn; exact heldC h
theorem twelve {l : List Int} (h : l.length = 12) : ∃ a0 a1 a2 a3 a4 a5 a6 a7 a8 a9 a10 a11, l = [a0, a1, a2, a3, a4, a5, a6, a7, a8, a9, a10, a11] := by
  match l, h with
  | [a0, a1, a2, a3, a4, a5, a6, a7, a8, a9, a10, a11], _ => exact ⟨_, _, _, _, _, _, _, _, _, _, _, _, rfl⟩
abbrev n12 (l : List Int) : Value := .agg (l.map (fun x => Value.int .i64 x)).toArray
theorem results_err {w : World} {g : Nat} {a0 a1 a2 a3 a4 a5 a6 a7 a8 a9 a10 a11 : Int} {tm : Array Value} (h : Blk w g 25 #[.int .i64 a0, .int .i64 a1, .int .i64 a2, .int .i64 a3, .int .i64 a4, .int .i64 a5, .int .i64 a6, .int .i64 a7, .int .i64 a8, .int .i64 a9, .int .i64 a10, .int .i64 a11]) (h2 : tm.getD 2 undef = .pointer (some ⟨g, 0, none⟩)) :
    (results Tryd.f13 tm).run Tryd.prog w = .ok (.agg #[.int .i64 a0, .int .i64 a1, .int .i64 a2, .int .i64 a3, .int .i64 a4, .int .i64 a5, .int .i64 a6, .int .i64 a7, .int .i64 a8, .int .i64 a9, .int .i64 a10, .int .i64 a11]) w := by
  have k0 : w.cell? ⟨g, 0, none⟩ = some (.int .i64 a0) := h.cell 0
  have k1 : w.cell? ⟨g, 1, none⟩ = some (.int .i64 a1) := h.cell 1
  have k2 : w.cell? ⟨g, 2, none⟩ = some (.int .i64 a2) := h.cell 2
  have k3 : w.cell? ⟨g, 3, none⟩ = some (.int .i64 a3) := h.cell 3
  have k4 : w.cell? ⟨g, 4, none⟩ = some (.int .i64 a4) := h.cell 4
  have k5 : w.cell? ⟨g, 5, none⟩ = some (.int .i64 a5) := h.cell 5
  have k6 : w.cell? ⟨g, 6, none⟩ = some (.int .i64 a6) := h.cell 6
  have k7 : w.cell? ⟨g, 7, none⟩ = some (.int .i64 a7) := h.cell 7
  have k8 : w.cell? ⟨g, 8, none⟩ = some (.int .i64 a8) := h.cell 8
  have k9 : w.cell? ⟨g, 9, none⟩ = some (.int .i64 a9) := h.cell 9
  have k10 : w.cell? ⟨g, 10, none⟩ = some (.int .i64 a10) := h.cell 10
  have k11 : w.cell? ⟨g, 11, none⟩ = some (.int .i64 a11) := h.cell 11
  clear h
  rw [Array.getD_eq_getD_getElem?] at h2
  simp [results, Tryd.results13, go_sem, h2, k0, k1, k2, k3, k4, k5, k6, k7, k8, k9, k10, k11]
set_option maxHeartbeats 1000000 in
set_option maxRecDepth 10000 in
theorem errC {w : World} {g : Nat} {l held : List Int} {over : Bool} (h : DecB w g ⟨l, held, over⟩) : Calls Tryd.prog 13 #[.pointer (some ⟨g, 0, none⟩)] w fun e w' => e = .returned (n12 l) ∧ Hid (Below w.heap.size w w') := by
  have hk : ∀ i < 12, w.cell? ⟨g, i, none⟩ = some (.int .i64 (l.getD i 0)) := fun i hi => by
    obtain ⟨⟨arr, h1, h2, h3⟩, h4, h5⟩ := h
    exact (h3.cell i).trans (dcs_n h4 hi)
  obtain ⟨a0, a1, a2, a3, a4, a5, a6, a7, a8, a9, a10, a11, rfl⟩ := twelve h.len
  have k0 : w.cell? ⟨g, 0, none⟩ = some (.int .i64 a0) := hk 0 (by decide)
  have k1 : w.cell? ⟨g, 1, none⟩ = some (.int .i64 a1) := hk 1 (by decide)
  have k2 : w.cell? ⟨g, 2, none⟩ = some (.int .i64 a2) := hk 2 (by decide)
  have k3 : w.cell? ⟨g, 3, none⟩ = some (.int .i64 a3) := hk 3 (by decide)
  have k4 : w.cell? ⟨g, 4, none⟩ = some (.int .i64 a4) := hk 4 (by decide)
  have k5 : w.cell? ⟨g, 5, none⟩ = some (.int .i64 a5) := hk 5 (by decide)
  have k6 : w.cell? ⟨g, 6, none⟩ = some (.int .i64 a6) := hk 6 (by decide)
  have k7 : w.cell? ⟨g, 7, none⟩ = some (.int .i64 a7) := hk 7 (by decide)
  have k8 : w.cell? ⟨g, 8, none⟩ = some (.int .i64 a8) := hk 8 (by decide)
  have k9 : w.cell? ⟨g, 9, none⟩ = some (.int .i64 a9) := hk 9 (by decide)
  have k10 : w.cell? ⟨g, 10, none⟩ = some (.int .i64 a10) := hk 10 (by decide)
  have k11 : w.cell? ⟨g, 11, none⟩ = some (.int .i64 a11) := hk 11 (by decide)
  have j0 := World.new_ne w _ k0
  have j1 := World.new_ne w _ k1
  have hg : g < w.heap.size := h.lt
  clear h hk j0 j1
  go_enter Tryd.func13, Tryd.ntmps13
  go_wp2
  refine bodyPost_ret (results_err (Blk.new_at (by simp)) rfl) rfl ⟨rfl, Lib.hid ((Below.refl _ w).alloc (Nat.le_refl _) _)⟩
theorem idx10 (b0 b1 b2 b3 b4 b5 b6 b7 b8 b9 b10 b11 : Int) (W : World) : (Instr.index 25 (n12 [b0, b1, b2, b3, b4, b5, b6, b7, b8, b9, b10, b11]) (.int .i64 10)).run Tryd.prog W = .ok (.int .i64 b10) W := by kernel_rfl
theorem dec_zero (w : World) : DecB (w.alloc (.cells Tryd.zeroCells30 30)) w.heap.size d0 := by
  have e : Tryd.zeroCells30 = dcs d0.n (List.replicate 62 0) 0 false := by kernel_rfl
  rw [e]
  exact dec_new w
theorem out_form {B : Nat} {v : Value} {xs : List Fx} {w : World} (h : OutF B v xs w) : ∃ A c, v = .slice A xs.length c ∧ xs.length ≤ c := own_form h.row
theorem FeedE {w : World} {g c n m : Nat} {s s' : Ds} {fs : List Fp} {A : Option Addr} {l : List Int} {K : Int} (hn : l.length = n) (hf : feedD l s = (s', fs)) (hm : fs.length = m) (h : DecB w g s) (hok : DsOk K s) (hK : 0 ≤ K ∧ K ≤ 3000000000000000000) (hT : Turns w) (hi : InB l) (hl : n ≤ 1000000000) (hR : RowOf c8 1 w w.heap.size A l) (ha : ∀ ad, A = some ad → ad.block < w.heap.size ∧ ad.block ≠ g) :
    Calls Tryd.prog 10 #[.pointer (some ⟨g, 0, none⟩), .slice A n c] w fun e w' => ∃ A' c' xs, e = .returned (.slice A' m c') ∧ Hid (OutF w.heap.size (.slice A' m c') xs w') ∧ Hid (xs.map (·.1) = fs) ∧ Hid (DecB w' g s') ∧ Hid (Fr1 g w w') := by
  subst hn hm
  refine (FeedC h hok ⟨hK.1, by omega⟩ hT hi (by omega) hR (fun ad e _ => ha ad e)).mono ?_
  rintro e w' ⟨v, xs, rfl, h1, h2, h3, h4⟩
  rw [hf] at h2 h3
  simp only at h2 h3
  obtain ⟨A', c', rfl, _⟩ := out_form h1.out
  have e : xs.length = fs.length := by rw [← h2.out, List.length_map]
  rw [e] at h1 ⊢
  exact ⟨A', c', xs, rfl, h1, h2, h3, h4⟩
theorem FeedB {w : World} {B g c n m : Nat} {s s' : Ds} {fs : List Fp} {A : Option Addr} {l : List Int} {K : Int} (hn : l.length = n) (hf : feedD l s = (s', fs)) (hm : fs.length = m) (h : DecB w g s) (hok : DsOk K s) (hK : 0 ≤ K ∧ K ≤ 3000000000000000000) (hT : Turns w) (hi : InB l) (hl : n ≤ 1000000) (hR : RowOf c8 1 w B A l) (hB : B ≤ g) :
    Calls Tryd.prog 10 #[.pointer (some ⟨g, 0, none⟩), .slice A n c] w fun e w' => ∃ A' c' xs, e = .returned (.slice A' m c') ∧ Hid (OutF w.heap.size (.slice A' m c') xs w') ∧ Hid (xs.map (·.1) = fs) ∧ Hid (DecB w' g s') ∧ Hid (Fr1 g w w') := by
  subst hn hm
  have hg := h.lt
  refine (FeedC h hok ⟨hK.1, by omega⟩ hT hi (by omega) (hR.more_ (by omega)) (fun ad e h0 => by
    obtain ⟨ad', e', hb, _⟩ := hR 0 (l[0]) (List.getElem?_eq_getElem h0)
    rw [e] at e'
    obtain rfl := Option.some.inj e'
    omega)).mono ?_
  rintro e w' ⟨v, xs, rfl, h1, h2, h3, h4⟩
  rw [hf] at h2 h3
  simp only at h2 h3
  obtain ⟨A', c', rfl, _⟩ := out_form h1.out
  have e : xs.length = fs.length := by rw [← h2.out, List.length_map]
  rw [e] at h1 ⊢
  exact ⟨A', c', xs, rfl, h1, h2, h3, h4⟩
/-- One frame that came out. -/
theorem out_one {B c : Nat} {A : Option Addr} {xs : List Fx} {f : Fp} {w : World} (h : OutF B (.slice A 1 c) xs w) (hx : xs.map (·.1) = [f]) :
    ∃ gb A1 c1, A = some ⟨gb, 0, none⟩ ∧ B ≤ gb ∧ gb < w.heap.size ∧ w.cell? ⟨gb, 0, none⟩ = some (.int .u8 f.addr) ∧ w.cell? ⟨gb, 1, none⟩ = some (.int .u8 f.kind) ∧ w.cell? ⟨gb, 2, none⟩ = some (.int .u8 f.ses) ∧ w.cell? ⟨gb, 3, none⟩ = some (.int .u8 f.seq) ∧ w.cell? ⟨gb, 4, none⟩ = some (.int .u8 f.ack) ∧ w.cell? ⟨gb, 5, none⟩ = some (.slice A1 f.B.length c1) ∧ Made B A1 c1 f.B w := by
  match xs, hx with
  | [(f', A1, c1)], hx =>
    simp at hx
    subst hx
    obtain ⟨gb, cap, hv, hb, hlt⟩ := h.row.form (by simp)
    have hA : A = some ⟨gb, 0, none⟩ := by injection hv
    subst hA
    have hc := h.row.cells (g := gb) rfl
    have hm := h.each _ (List.mem_singleton_self _)
    exact ⟨gb, A1, c1, rfl, hb, hlt, hc 0 _ rfl, hc 1 _ rfl, hc 2 _ rfl, hc 3 _ rfl, hc 4 _ rfl, hc 5 _ rfl, hm⟩
end Go.Proofs.YtkihoonjekccgaaDoor.K
