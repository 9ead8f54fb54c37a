/- What a flag ends. -/
import Derived.Test.YtkihoonjekccgaaDoorG4
import Derived.Deep.RegionHeld3
namespace Go.Proofs.YtkihoonjekccgaaDoor.K
open Go.RowKit
set_option linter.unusedVariables false
set_option linter.unusedSimpArgs false
attribute [local go_sem ↓] Go.wp_at_zero Go.wp_at_succ
theorem set6_cell' {w : World} {g gf i : Nat} {f : Fp} {A : Option Addr} {n c : Nat} {v : Value} (hn : f.B.length = n) (h : w.cell? ⟨gf, i, none⟩ = some v) (hl : gf < w.heap.size) (hne : g ≠ gf) : ((((((w.setCell ⟨g, 0, none⟩ (.int .u8 f.addr)).setCell ⟨g, 1, none⟩ (.int .u8 f.kind)).setCell ⟨g, 2, none⟩ (.int .u8 f.ses)).setCell ⟨g, 3, none⟩ (.int .u8 f.seq)).setCell ⟨g, 4, none⟩ (.int .u8 f.ack)).setCell ⟨g, 5, none⟩ (.slice A n c)).cell? ⟨gf, i, none⟩ = some v := by
  subst hn
  exact ((st6_fr w g f A c).cell (p := ⟨gf, i, none⟩) hl (fun e => hne e.symm)).trans h
theorem results_end {w : World} {g : Nat} {f : Fp} {A : Option Addr} {c : Nat} {ok : Bool} {tm : Array Value} (h : Blk w g 35 (fvs f A c)) (h2 : tm.getD 2 undef = .pointer (some ⟨g, 0, none⟩)) (h3 : tm.getD 3 undef = .bool ok) :
    (results Tryd.f20 tm).run Tryd.prog w = .ok (.tuple #[.agg #[.int .u8 f.addr, .int .u8 f.kind, .int .u8 f.ses, .int .u8 f.seq, .int .u8 f.ack, .slice A f.B.length c], .bool ok]) w := by
  obtain ⟨k0, k1, k2, k3, k4, k5⟩ := fvs_cells h
  rw [Array.getD_eq_getD_getElem?] at h2 h3
  simp [results, Tryd.results20, go_sem, h2, h3, k0, k1, k2, k3, k4, k5]
theorem countI {w : World} {g : Nat} {s : Ds} {e : Int} (he : ∃ k : Nat, e = (k : Int) ∧ k < 12) (h : DecB w g s) (hx : ∀ x ∈ s.n, 0 ≤ x ∧ x ≤ 4000000000000000000) :
    Calls Tryd.prog 31 #[.pointer (some ⟨g, 0, none⟩), .int .i64 e] w fun r w' => r = .returned (.tuple #[]) ∧ Hid (DecB w' g ⟨inc s.n e.toNat, s.held, s.over⟩) ∧ Hid (Fr1 g w w') := by
  obtain ⟨k, rfl, hk⟩ := he
  exact countC h hk hx
def EndPost (g : Nat) (s : Ds) (w : World) (e : Ending) (w' : World) : Prop :=
  ∃ (f : Fp) (A : Option Addr) (c : Nat) (ok : Bool), e = .returned (.tuple #[.agg #[.int .u8 f.addr, .int .u8 f.kind, .int .u8 f.ses, .int .u8 f.seq, .int .u8 f.ack, .slice A f.B.length c], .bool ok]) ∧
    Hid ((endD s).2 = if ok then [f] else []) ∧ Hid (Made w.heap.size A c f.B w') ∧ Hid (DecB w' g (endD s).1) ∧ Hid (Fr1 g w w')
theorem fr1_of {w Z : World} {g : Nat} (h : Below w.heap.size w Z) : Fr1 g w Z := (Fr.of_below h).mono (fun _ _ h => h.elim)
theorem end_fin {w Z : World} {g : Nat} {s : Ds} {f : Fp} {f0 : Fp} {A0 A : Option Addr} {c0 c : Nat} {ok : Bool} {tm : Array Value} (he : (endD s).2 = if ok then [f] else []) (hk : Blk Z w.heap.size 35 (fvs f0 A0 c0)) (hD : DecB Z g (endD s).1) (hF : Fr1 g w Z) (hM : Made (w.heap.size + 1) A c f.B Z) (hg : g < w.heap.size)
    (h2 : tm.getD 2 undef = .pointer (some ⟨w.heap.size, 0, none⟩)) (h3 : tm.getD 3 undef = .bool ok) : bodyPost Tryd.prog Tryd.f20 (EndPost g s w) .ret ⟨tm, []⟩ (st6 Z w.heap.size f A c) := by
  refine bodyPost_ret (results_end (st6_blk hk) h2 h3) rfl ?_
  have FS := st6_fr Z w.heap.size f A c
  exact ⟨f, A, c, ok, rfl, Lib.hid he, Lib.hid ((hM.fr FS (fun j e => by have := (hM.1.lt j e).1; omega)).low (by omega)), Lib.hid (hD.fr FS (by omega)), Lib.hid (hF.trans FS (fun j hj e => by omega))⟩
set_option maxHeartbeats 1000000 in
set_option maxRecDepth 10000 in
theorem endC {w : World} {g : Nat} {s : Ds} (h : DecB w g s) (hx : ∀ x ∈ s.n, 0 ≤ x ∧ x ≤ 4000000000000000000) (hi : InB s.held) (hT : Turns w) :
    Calls Tryd.prog 20 #[.pointer (some ⟨g, 0, none⟩)] w (EndPost g s w) := by
  have b0 : Below w.heap.size w (w.alloc (.cells (fvs fr0 none 0) 35)) := (Below.refl _ w).alloc (Nat.le_refl _) _
  have hg := h.lt
  have H0 := h.below b0 hg
  have hk0 : Blk (w.alloc (.cells (fvs fr0 none 0) 35)) w.heap.size 35 (fvs fr0 none 0) := Blk.new w _ _
  have HK0 := Lib.hid hk0
  obtain ⟨k74, k75⟩ := h.cells
  have n74 := World.new_ne w _ k74
  have f74 := h.frozen 74
  have f75 := h.frozen 75
  by_cases hh : s.held = []
  · have e : endD s = (⟨s.n, [], false⟩, []) := by unfold endD; rw [if_pos hh]
    have h0 : s.held.length = 0 := by rw [hh]; rfl
    rw [h0] at k74
    have HE := Lib.hid e
    have HS : Hid (DecB (((w.setCell ⟨g, 74, none⟩ (.int .i64 0)).setCell ⟨g, 75, none⟩ (.bool false)).alloc (.cells (fvs fr0 none 0) 35)) g ⟨s.n, [], false⟩) := Lib.hid ((h.shut false).below ((Below.refl _ _).alloc (Nat.le_refl _) _) (h.shut false).lt)
    have FS : Hid (Fr1 g w (((w.setCell ⟨g, 74, none⟩ (.int .i64 0)).setCell ⟨g, 75, none⟩ (.bool false)).alloc (.cells (fvs fr0 none 0) 35))) := Lib.hid ((((Fr.refl (fun k => k = g) w).setCell (fun _ => rfl) _).setCell (fun _ => rfl) _).alloc _)
    have HK : Hid (Blk (((w.setCell ⟨g, 74, none⟩ (.int .i64 0)).setCell ⟨g, 75, none⟩ (.bool false)).alloc (.cells (fvs fr0 none 0) 35)) w.heap.size 35 (fvs fr0 none 0)) := Lib.hid (Blk.new_at (by simp))
    clear h H0 hk0 HK0 e h0 hx b0 hi hh
    go_enter Tryd.func20, Tryd.ntmps20
    go_wp2
    refine bodyPost_ret (results_end HK.out rfl rfl) rfl ?_
    unfold EndPost
    rw [HE.out]
    exact ⟨fr0, none, 0, false, rfl, Lib.hid rfl, Lib.hid (made_nil _ _), HS, FS⟩
  · obtain ⟨⟨fa, fk, fs, fq, fx, fm⟩, er, hd⟩ : ∃ fd er, decL s.held = (fd, er) := ⟨_, _, rfl⟩
    have herr := dec_err s.held
    rw [hd] at herr
    obtain ⟨m, hm⟩ : ∃ m, s.held.length = m := ⟨_, rfl⟩
    have hpos : 0 < m := by rw [← hm]; exact List.length_pos_iff.2 hh
    have hle : m ≤ 62 := by rw [← hm]; exact h.held
    have HD := Lib.hid hd
    have HM := Lib.hid hm
    have HI := Lib.hid hi
    have HX := Lib.hid hx
    have HDW := Lib.hid h
    have HE : Hid (endD s = if er = 0 then (⟨s.n, [], false⟩, [⟨fa, fk, fs, fq, fx, fm⟩]) else (⟨inc s.n er.toNat, [], false⟩, [])) := Lib.hid (by unfold endD; rw [if_neg hh, hd])
    have HTa : Hid (Turns (w.alloc (.cells #[.int .u8 0, .int .u8 0, .int .u8 0, .int .u8 0, .int .u8 0, .slice none 0 0] 35)).drew) := Lib.hid (hT.below b0.drew hT.lt)
    have HRow : Hid (RowOf c8 1 (w.alloc (.cells #[.int .u8 0, .int .u8 0, .int .u8 0, .int .u8 0, .int .u8 0, .slice none 0 0] 35)).drew (w.alloc (.cells #[.int .u8 0, .int .u8 0, .int .u8 0, .int .u8 0, .int .u8 0, .slice none 0 0] 35)).drew.heap.size (some ⟨g, 12, none⟩) s.held) := Lib.hid (H0.drew.row)
    have d74 : (w.alloc (.cells #[.int .u8 0, .int .u8 0, .int .u8 0, .int .u8 0, .int .u8 0, .slice none 0 0] 35)).drew.cell? ⟨g, 74, none⟩ = some (.int .i64 (m : Int)) := by rw [← hm]; exact H0.cells.1
    have zk0 : Hid (Blk (w.alloc (.cells #[.int .u8 0, .int .u8 0, .int .u8 0, .int .u8 0, .int .u8 0, .slice none 0 0] 35)).drew w.heap.size 35 (fvs fr0 none 0)) := Lib.hid hk0
    have HB0 : Hid (Below w.heap.size w (w.alloc (.cells #[.int .u8 0, .int .u8 0, .int .u8 0, .int .u8 0, .int .u8 0, .slice none 0 0] 35)).drew) := Lib.hid b0.drew
    rw [hm] at k74
    have i1 : (0 : Int) < (m : Int) := by omega
    have i2 : (m : Int) ≤ 62 := by omega
    have i3 : (0 : Int) ≤ (m : Int) := by omega
    have hne : w.heap.size ≠ g := by omega
    have hu := Tryd.underlying28
    clear h hk0 HK0 H0 hd hm hi hx hh b0
    go_enter Tryd.func20, Tryd.ntmps20
    go_wp2_with fail
    go_region_held3 (fun w' => w'.cell? ⟨g, 74, none⟩ = some (.int .i64 (m : Int))) (go_keep) (first
      | (go_at_call 18; refine Calls.mono (DecodeE (n := m) HD.out rfl HM.out (by omega) HI.out (w.alloc (.cells #[.int .u8 0, .int .u8 0, .int .u8 0, .int .u8 0, .int .u8 0, .slice none 0 0] 35)).drew HTa.out HRow.out) ?_; rintro ee w6 ⟨A7, c7, rfl, M7, D7⟩; have hwa := D7.out.size; have zk := zk0.out.fr (Fr.of_below D7.out) (fun h => h); obtain ⟨m0, m1, m2, m3, m4, m5⟩ := fvs_cells zk; simp only at m0 m1 m2 m3 m4 m5; have mf0 := zk.frozen 0; have mf1 := zk.frozen 1; have mf2 := zk.frozen 2; have mf3 := zk.frozen 3; have mf4 := zk.frozen 4; have mf5 := zk.frozen 5; have x4 : w6.cell? ⟨g, 74, none⟩ = some (.int .i64 (m : Int)) := (D7.out.cell (p := ⟨g, 74, none⟩) (Nat.lt_of_lt_of_le hg HB0.out.size)).trans d74; have x4' := set6_cell' (g := w.heap.size) (f := ⟨fa, fk, fs, fq, fx, fm⟩) (A := A7) (c := c7) rfl x4 (Nat.lt_of_lt_of_le (Nat.lt_of_lt_of_le hg HB0.out.size) hwa) hne; simp only at x4'))
    obtain ⟨Z, hZ⟩ : ∃ Z, ((((((w6.setCell ⟨w.heap.size, 0, none⟩ (.int .u8 fa)).setCell ⟨w.heap.size, 1, none⟩ (.int .u8 fk)).setCell ⟨w.heap.size, 2, none⟩ (.int .u8 fs)).setCell ⟨w.heap.size, 3, none⟩ (.int .u8 fq)).setCell ⟨w.heap.size, 4, none⟩ (.int .u8 fx)).setCell ⟨w.heap.size, 5, none⟩ (.slice A7 fm.length c7)) = Z := ⟨_, rfl⟩
    have hZ' : st6 w6 w.heap.size ⟨fa, fk, fs, fq, fx, fm⟩ A7 c7 = Z := hZ
    have D7' : Below w.heap.size w w6 := HB0.out.trans (D7.out.mono HB0.out.size)
    have FS := st6_fr w6 w.heap.size ⟨fa, fk, fs, fq, fx, fm⟩ A7 c7
    have BZ : Hid (Below w.heap.size w Z) := Lib.hid (hZ' ▸ below_fr D7' FS D7'.size (fun j e => by omega))
    have KZ : Hid (Blk Z w.heap.size 35 (fvs ⟨fa, fk, fs, fq, fx, fm⟩ A7 c7)) := Lib.hid (hZ' ▸ st6_blk zk)
    have MZ : Hid (Made (w.heap.size + 1) A7 c7 fm Z) := Lib.hid (hZ' ▸ (M7.out.low (by simp)).fr FS (fun j e => by have := (M7.out.1.lt j e).1; simp at this; omega))
    have DZ : Hid (DecB Z g s) := Lib.hid (HDW.out.below BZ.out hg)
    have z74 : Z.cell? ⟨g, 74, none⟩ = some (.int .i64 (m : Int)) := by rw [← HM.out]; exact DZ.out.cells.1
    have z75 : Z.cell? ⟨g, 75, none⟩ = some (.bool s.over) := DZ.out.cells.2
    have g74 := DZ.out.frozen 74
    have g75 := DZ.out.frozen 75
    obtain ⟨q0, q1, q2, q3, q4, q5⟩ := fvs_cells KZ.out
    simp only at q0 q1 q2 q3 q4 q5
    have qf0 := KZ.out.frozen 0
    have qf1 := KZ.out.frozen 1
    have qf2 := KZ.out.frozen 2
    have qf3 := KZ.out.frozen 3
    have qf4 := KZ.out.frozen 4
    have qf5 := KZ.out.frozen 5
    rw [hZ]
    rename_i hq
    clear hq
    clear D7' D7 M7 hZ hZ' FS zk x4 x4' m0 m1 m2 m3 m4 m5 mf0 mf1 mf2 mf3 mf4 mf5 d74 k74 k75 f74 f75 hu
    by_cases he : er = 0
    · have HE0 := Lib.hid he
      have e1 : (er == 0) = true := by simp [he]
      have e2 : (er != 0) = false := by simp [he]
      clear herr he
      go_wp2
      refine end_fin (s := s) (f := ⟨fa, fk, fs, fq, fx, fm⟩) (A := A7) (c := c7) (ok := true) (by rw [HE.out, if_pos HE0.out]; rfl) ((KZ.out.far (p := ⟨g, 74, none⟩) (by omega) _).far (p := ⟨g, 75, none⟩) (by omega) _) ?_ ?_ ?_ hg rfl rfl
      · rw [HE.out, if_pos HE0.out]; exact DZ.out.shut false
      · exact (fr1_of BZ.out).trans (((Fr.refl (fun k => k = g) Z).setCell (fun _ => rfl) _).setCell (fun _ => rfl) _) (fun _ _ h => h)
      · exact MZ.out.fr (((Fr.refl (fun k => k = g) Z).setCell (fun _ => rfl) _).setCell (fun _ => rfl) _) (fun j e => by have := (MZ.out.1.lt j e).1; omega)
    · have HK : Hid (∃ k : Nat, er = (k : Int) ∧ k < 12) := Lib.hid ⟨er.toNat, by omega, by omega⟩
      have HE0 := Lib.hid he
      have e1 : (er == 0) = false := by simpa using he
      have e2 : (er != 0) = true := by simpa using he
      clear herr he
      go_wp2_with fail
      refine Calls.mono (countI HK.out DZ.out HX.out) ?_
      rintro r w' ⟨rfl, h1, h2⟩
      obtain ⟨p74, p75⟩ := h1.out.cells
      simp only at p74 p75
      rw [HM.out] at p74
      have r74 := h1.out.frozen 74
      have r75 := h1.out.frozen 75
      have KW := Lib.hid (KZ.out.fr h2.out hne)
      obtain ⟨t0, t1, t2, t3, t4, t5⟩ := fvs_cells KW.out
      simp only at t0 t1 t2 t3 t4 t5
      have tf0 := KW.out.frozen 0
      have tf1 := KW.out.frozen 1
      have tf2 := KW.out.frozen 2
      have tf3 := KW.out.frozen 3
      have tf4 := KW.out.frozen 4
      have tf5 := KW.out.frozen 5
      clear q0 q1 q2 q3 q4 q5 qf0 qf1 qf2 qf3 qf4 qf5 z74 z75 g74 g75
      go_wp2
      refine end_fin (s := s) (f := ⟨fa, fk, fs, fq, fx, fm⟩) (A := A7) (c := c7) (ok := false) (by rw [HE.out, if_neg HE0.out]; rfl) ((KW.out.far (p := ⟨g, 74, none⟩) (by omega) _).far (p := ⟨g, 75, none⟩) (by omega) _) ?_ ?_ ?_ hg rfl rfl
      · rw [HE.out, if_neg HE0.out]; exact h1.out.shut false
      · exact ((fr1_of BZ.out).trans h2.out (fun _ _ h => h)).trans (((Fr.refl (fun k => k = g) w').setCell (fun _ => rfl) _).setCell (fun _ => rfl) _) (fun _ _ h => h)
      · exact (MZ.out.fr h2.out (fun j e => by have := (MZ.out.1.lt j e).1; omega)).fr (((Fr.refl (fun k => k = g) w').setCell (fun _ => rfl) _).setCell (fun _ => rfl) _) (fun j e => by have := (MZ.out.1.lt j e).1; omega)
end Go.Proofs.YtkihoonjekccgaaDoor.K
