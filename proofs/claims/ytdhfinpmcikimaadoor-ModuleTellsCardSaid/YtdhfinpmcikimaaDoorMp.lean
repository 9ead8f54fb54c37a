/- The document's module: New, Reset, Press. -/
import Derived.Test.YtdhfinpmcikimaaDoorMo
namespace Go.Proofs.YtdhfinpmcikimaaDoor.K
open Go.RowKit
set_option linter.unusedVariables false
set_option linter.unusedSimpArgs false
abbrev rmv (r : Nat) (d : Dp) : Array Value := #[.pointer (some ⟨r, 0, none⟩), .bool d.lit, .bool d.latched, .int .u16 d.tok, .int .u16 d.qty, .int .u16 d.most]
structure RMo (B R r : Nat) (d : Dp) (st : Sl) (w : World) : Prop where
  blk : Blk w R 80 (rmv r d)
  sb : Blk w r 95 (rsv st)
  low : B ≤ R ∧ B ≤ r
section
variable {B R r : Nat} {d : Dp} {st : Sl} {w w' : World}
theorem RMo.ne (h : RMo B R r d st w) : R ≠ r := fun e => Blk.ne_ h.blk h.sb (by decide) e
theorem RMo.fr {S : Nat → Prop} (h : RMo B R r d st w) (k : Fr S w w') (h1 : ¬ S R) (h2 : ¬ S r) : RMo B R r d st w' := ⟨h.blk.fr k h1, h.sb.fr k h2, h.low⟩
theorem RMo.fr0 (h : RMo B R r d st w) (k : Fr0 w w') : RMo B R r d st w' := h.fr k (fun h => h) (fun h => h)
theorem RMo.slave {st' : Sl} (h : RMo B R r d st w) (k : Fr (fun j => j = r) w w') (hs : Blk w' r 95 (rsv st')) : RMo B R r d st' w' := ⟨h.blk.fr k h.ne, hs, h.low⟩
theorem RMo.cells (h : RMo B R r d st w) : w.cell? ⟨R, 0, none⟩ = some (.pointer (some ⟨r, 0, none⟩)) ∧ w.cell? ⟨R, 1, none⟩ = some (.bool d.lit) ∧ w.cell? ⟨R, 2, none⟩ = some (.bool d.latched) ∧ w.cell? ⟨R, 3, none⟩ = some (.int .u16 d.tok) ∧ w.cell? ⟨R, 4, none⟩ = some (.int .u16 d.qty) ∧ w.cell? ⟨R, 5, none⟩ = some (.int .u16 d.most) :=
  ⟨h.blk.cell 0, h.blk.cell 1, h.blk.cell 2, h.blk.cell 3, h.blk.cell 4, h.blk.cell 5⟩
theorem RMo.qty (h : RMo B R r d st w) (q : Int) : w.frozen? ⟨R, 4, none⟩ = false ∧ RMo B R r (qtyS d q) st (w.setCell ⟨R, 4, none⟩ (.int .u16 q)) ∧ Fr (fun j => j = R) w (w.setCell ⟨R, 4, none⟩ (.int .u16 q)) := by
  have hF : Fr (fun j => j = R) w (w.setCell ⟨R, 4, none⟩ (.int .u16 q)) := (Fr.refl (fun j => j = R) w).setCell (p := ⟨R, 4, none⟩) (fun _ => rfl) _
  exact ⟨h.blk.frozen 4, ⟨by have e := h.blk.set_ 4 (.int .u16 q); simp at e; exact e, h.sb.fr hF (fun e => h.ne e.symm), h.low⟩, hF⟩
theorem RMo.lat (h : RMo B R r d st w) (b : Bool) : w.frozen? ⟨R, 2, none⟩ = false ∧ RMo B R r ⟨d.lit, b, d.tok, d.qty, d.most⟩ st (w.setCell ⟨R, 2, none⟩ (.bool b)) ∧ Fr (fun j => j = R) w (w.setCell ⟨R, 2, none⟩ (.bool b)) := by
  have hF : Fr (fun j => j = R) w (w.setCell ⟨R, 2, none⟩ (.bool b)) := (Fr.refl (fun j => j = R) w).setCell (p := ⟨R, 2, none⟩) (fun _ => rfl) _
  exact ⟨h.blk.frozen 2, ⟨by simpa using h.blk.set_ 2 (.bool b), h.sb.fr hF (fun e => h.ne e.symm), h.low⟩, hF⟩
theorem RNewC11 (a : Int) (w : World) : Calls Tryd.prog 23 #[.int .u8 a] w fun e w' => ∃ R r, e = .returned (.pointer (some ⟨R, 0, none⟩)) ∧ Hid (RMo w.heap.size R r ⟨false, false, 0, 0, 0⟩ ⟨0, 0, 0, a, []⟩ w') ∧ Hid (Fr0 w w') := by
  go_enter Tryd.func23, Tryd.ntmps23
  go_wp2_with fail
  refine Calls.mono (RNewC08 a w) ?_
  rintro e w1 ⟨rfl, H1, F1⟩
  have HB : Hid (RMo w.heap.size w1.heap.size w.heap.size ⟨false, false, 0, 0, 0⟩ ⟨0, 0, 0, a, []⟩ (w1.alloc (.cells #[.pointer (some ⟨w.heap.size, 0, none⟩), .bool false, .bool false, .int .u16 0, .int .u16 0, .int .u16 0] 80))) :=
    Lib.hid ⟨Blk.new w1 _ _, H1.out.alloc _, F1.out.size, Nat.le_refl _⟩
  have HF : Hid (Fr0 w (w1.alloc (.cells #[.pointer (some ⟨w.heap.size, 0, none⟩), .bool false, .bool false, .int .u16 0, .int .u16 0, .int .u16 0] 80))) := Lib.hid (F1.out.alloc _)
  clear H1 F1
  go_wp2
  go_ret
  exact ⟨_, _, rfl, HB, HF⟩
def RPressPost (B R r : Nat) (d : Dp) (st : Sl) (b : Int) (w : World) (e : Ending) (w' : World) : Prop :=
  e = .returned (.tuple #[]) ∧ Hid (RMo B R r (stepP (d, st) b).1 (stepP (d, st) b).2 w') ∧ Hid (Fr (fun j => j = R ∨ j = r) w w')
set_option maxHeartbeats 1000000 in
theorem rpress_no (h : RMo B R r d st w) (b : Int) (hn : ¬ (d.lit = true ∧ d.latched = false)) : Calls Tryd.prog 30 #[.pointer (some ⟨R, 0, none⟩), .int .i64 b] w (RPressPost B R r d st b w) := by
  have H := Lib.hid h
  have HS : Hid (stepP (d, st) b = (d, st)) := Lib.hid (by unfold stepP; rw [if_neg hn])
  obtain ⟨_, c1, c2, _⟩ := h.cells
  clear h
  have hfin : Hid (RPressPost B R r d st b w (.returned (.tuple #[])) w) := Lib.hid (by
    unfold RPressPost
    rw [HS.out]
    exact ⟨rfl, H, Lib.hid (Fr.refl _ _)⟩)
  clear H HS
  cases hl : d.lit
  · rw [hl] at c1
    go_enter Tryd.func30, Tryd.ntmps30
    go_wp2
    go_end0
    exact hfin.out
  · have h2 : d.latched = true := by cases hq : d.latched <;> simp_all
    rw [hl] at c1
    rw [h2] at c2
    clear hn
    go_enter Tryd.func30, Tryd.ntmps30
    go_wp2
    go_end0
    exact hfin.out
set_option maxHeartbeats 1000000 in
theorem rpress_plus (h : RMo B R r d st w) (hd : DpOk d) (h1 : d.lit = true) (h2 : d.latched = false) : Calls Tryd.prog 30 #[.pointer (some ⟨R, 0, none⟩), .int .i64 1] w (RPressPost B R r d st 1 w) := by
  have H := Lib.hid h
  obtain ⟨_, c1, c2, _, c4, c5⟩ := h.cells
  rw [h1] at c1
  rw [h2] at c2
  obtain ⟨f4, hq, hF⟩ := h.qty (d.qty + 1)
  have HQ := Lib.hid hq
  have HF := Lib.hid hF
  have hw : d.qty < d.most → IntKind.u16.wrap (d.qty + 1) = d.qty + 1 := fun hlt => by
    have := hd.q.1; have := hd.m.2
    rw [IntKind.wrap_u16]; omega
  clear h hq hF
  by_cases hlt : d.qty < d.most
  · have HS : Hid (stepP (d, st) 1 = (qtyS d (d.qty + 1), st)) := Lib.hid (by unfold stepP pressS; rw [if_pos ⟨h1, h2⟩, if_pos rfl, if_pos hlt])
    have hw1 := hw hlt
    have HF2 := Lib.hid (HF.out.mono (S' := fun j => j = R ∨ j = r) (fun _ _ e => .inl e))
    clear hw h1 h2 hd HF
    go_enter Tryd.func30, Tryd.ntmps30
    go_wp2_with fail
    go_region
    go_wp2
    go_end0
    unfold RPressPost
    rw [HS.out]
    exact ⟨rfl, Lib.hid (HQ.out.fr0 ((Fr.refl (fun _ => False) _).drew)), Lib.hid HF2.out.drew⟩
  · have HS : Hid (stepP (d, st) 1 = (d, st)) := Lib.hid (by unfold stepP pressS; rw [if_pos ⟨h1, h2⟩, if_pos rfl, if_neg hlt])
    clear hw h1 h2 hd HF HQ
    go_enter Tryd.func30, Tryd.ntmps30
    go_wp2_with fail
    go_region
    go_wp2
    go_end0
    unfold RPressPost
    rw [HS.out]
    exact ⟨rfl, Lib.hid (H.out.fr0 ((Fr.refl (fun _ => False) _).drew)), Lib.hid (Fr.refl _ _).drew⟩
set_option maxHeartbeats 1000000 in
theorem rpress_minus (h : RMo B R r d st w) (hd : DpOk d) (h1 : d.lit = true) (h2 : d.latched = false) : Calls Tryd.prog 30 #[.pointer (some ⟨R, 0, none⟩), .int .i64 2] w (RPressPost B R r d st 2 w) := by
  have H := Lib.hid h
  obtain ⟨_, c1, c2, _, c4, _⟩ := h.cells
  rw [h1] at c1
  rw [h2] at c2
  obtain ⟨f4, hq, hF⟩ := h.qty (max d.qty 1 - 1)
  have HQ := Lib.hid hq
  have HF := Lib.hid hF
  have hm := hd.q
  have HS : Hid (stepP (d, st) 2 = (qtyS d (max d.qty 1 - 1), st)) := Lib.hid (by unfold stepP pressS; rw [if_pos ⟨h1, h2⟩, if_neg (by decide), if_pos rfl])
  clear h hq hF hd h1 h2
  by_cases hlt : 0 < d.qty
  · have e1 : max d.qty 1 - 1 = d.qty - 1 := by omega
    have hw1 : IntKind.u16.wrap (d.qty - 1) = d.qty - 1 := by rw [IntKind.wrap_u16]; omega
    rw [e1] at HQ HF HS
    clear e1 hm
    have HF2 := Lib.hid (HF.out.mono (S' := fun j => j = R ∨ j = r) (fun _ _ e => .inl e))
    go_enter Tryd.func30, Tryd.ntmps30
    go_wp2
    go_end0
    unfold RPressPost
    rw [HS.out]
    exact ⟨rfl, HQ, HF2⟩
  · have e1 : max d.qty 1 - 1 = d.qty := by omega
    rw [e1] at HS
    clear e1 hm HQ HF
    go_enter Tryd.func30, Tryd.ntmps30
    go_wp2
    go_end0
    unfold RPressPost
    rw [HS.out]
    exact ⟨rfl, H, Lib.hid (Fr.refl _ _)⟩
theorem ROfferE08 {r n : Nat} {st : Sl} {l : List Int} {w : World} (h : Blk w r 95 (rsv st)) (hl : l.length ≤ 1000) :
    Calls Tryd.prog 44 #[.pointer (some ⟨r, 0, none⟩), .string (strOfNums l)] w fun e w' => e = .returned (.int .i64 (offN st l)) ∧ Hid (Blk w' r 95 (rsv (offS st l))) ∧ Hid (Fr (fun j => j = r) w w') := ROfferC08 h hl
abbrev rS (R r : Nat) (d : Dp) (W : World) : Prop := W.cell? ⟨R, 0, none⟩ = some (.pointer (some ⟨r, 0, none⟩)) ∧ W.cell? ⟨R, 3, none⟩ = some (.int .u16 d.tok) ∧ W.cell? ⟨R, 4, none⟩ = some (.int .u16 d.qty)
theorem RMo.s (h : RMo B R r d st w) : w.cell? ⟨R, 0, none⟩ = some (.pointer (some ⟨r, 0, none⟩)) ∧ w.cell? ⟨R, 3, none⟩ = some (.int .u16 d.tok) ∧ w.cell? ⟨R, 4, none⟩ = some (.int .u16 d.qty) := ⟨h.blk.cell 0, h.blk.cell 3, h.blk.cell 4⟩
set_option maxHeartbeats 4000000 in
set_option maxRecDepth 20000 in
theorem rpress_lat0 (h : RMo B R r d st w) (hd : DpOk d) (h1 : d.lit = true) (h2 : d.latched = false) : Calls Tryd.prog 30 #[.pointer (some ⟨R, 0, none⟩), .int .i64 0] w (RPressPost B R r d st 0 w) := by
  have HM := Lib.hid h
  obtain ⟨_, c1, c2, _⟩ := h.cells
  rw [h1] at c1
  rw [h2] at c2
  have HS : Hid (stepP (d, st) 0 = latS d st 1) := Lib.hid (by unfold stepP pressS; rw [if_pos ⟨h1, h2⟩]; simp)
  have HE := Lib.hid (fun W => RTextC11 (k := 1) (t := d.tok) (q := d.qty) W ⟨by decide, by decide⟩ hd.t hd.q)
  have hs0 := h.s
  clear h hd h1 h2
  go_enter Tryd.func30, Tryd.ntmps30
  go_wp2_with fail
  go_region_held_law (fun W => W.cell? ⟨R, 0, none⟩ = some (.pointer (some ⟨r, 0, none⟩)) ∧ W.cell? ⟨R, 3, none⟩ = some (.int .u16 d.tok) ∧ W.cell? ⟨R, 4, none⟩ = some (.int .u16 d.qty)) (first | (with_reducible exact (HM.out.fr0 ((Fr.refl (fun _ => False) _).drew)).s) | (with_reducible exact hs3) | (with_reducible exact hs4) | (with_reducible exact hs5)) (first
    | (go_simp; go_at_call 14; refine Calls.mono (HE.out _) ?_; rintro e w3 ⟨rfl, F3⟩; have F3' := Lib.hid (Fr.undrew F3.out); have HM3 := Lib.hid (HM.out.fr0 F3'.out); have hs3 := HM3.out.s)
    | (go_simp; go_at_call 44; refine Calls.mono (ROfferC08 HM3.out.sb (by rw [bytesM_len]; omega)) ?_; rintro e w4 ⟨rfl, H4, F4⟩; have HM4 := Lib.hid (HM3.out.slave F4.out H4.out); have hs4 := HM4.out.s; obtain ⟨a1, hb, hF⟩ := HM4.out.lat (offN st (bytesM 1 d.tok d.qty) == 0); have a0 := HM4.out.blk.cell 2; have HM5 := Lib.hid hb; have hs5 := HM5.out.s; have HF5 := Lib.hid hF; clear hb hF))
  go_wp2
  go_end0
  refine ⟨rfl, Lib.hid ?_, Lib.hid (((F3'.out.mono (fun _ _ h => h.elim)).trans (F4.out.mono (fun _ _ e => .inr e)) (fun _ _ e => e)).trans (HF5.out.mono (fun _ _ e => .inl e)) (fun _ _ e => e))⟩
  rw [HS.out]
  have := HM5.out
  rw [show (offN st (bytesM 1 d.tok d.qty) == 0) = decide (offN st (bytesM 1 d.tok d.qty) = 0) by rw [Bool.eq_iff_iff]; simp] at this
  exact this
set_option maxHeartbeats 4000000 in
set_option maxRecDepth 20000 in
theorem rpress_lat3 (h : RMo B R r d st w) (hd : DpOk d) (h1 : d.lit = true) (h2 : d.latched = false) : Calls Tryd.prog 30 #[.pointer (some ⟨R, 0, none⟩), .int .i64 3] w (RPressPost B R r d st 3 w) := by
  have HM := Lib.hid h
  obtain ⟨_, c1, c2, _⟩ := h.cells
  rw [h1] at c1
  rw [h2] at c2
  have HS : Hid (stepP (d, st) 3 = latS d st 2) := Lib.hid (by unfold stepP pressS; rw [if_pos ⟨h1, h2⟩]; simp)
  have HE := Lib.hid (fun W => RTextC11 (k := 2) (t := d.tok) (q := d.qty) W ⟨by decide, by decide⟩ hd.t hd.q)
  have hs0 := h.s
  clear h hd h1 h2
  go_enter Tryd.func30, Tryd.ntmps30
  go_wp2_with fail
  go_region_held_law (fun W => W.cell? ⟨R, 0, none⟩ = some (.pointer (some ⟨r, 0, none⟩)) ∧ W.cell? ⟨R, 3, none⟩ = some (.int .u16 d.tok) ∧ W.cell? ⟨R, 4, none⟩ = some (.int .u16 d.qty)) (first | (with_reducible exact (HM.out.fr0 ((Fr.refl (fun _ => False) _).drew)).s) | (with_reducible exact hs3) | (with_reducible exact hs4) | (with_reducible exact hs5)) (first
    | (go_simp; go_at_call 14; refine Calls.mono (HE.out _) ?_; rintro e w3 ⟨rfl, F3⟩; have F3' := Lib.hid (Fr.undrew F3.out); have HM3 := Lib.hid (HM.out.fr0 F3'.out); have hs3 := HM3.out.s)
    | (go_simp; go_at_call 44; refine Calls.mono (ROfferC08 HM3.out.sb (by rw [bytesM_len]; omega)) ?_; rintro e w4 ⟨rfl, H4, F4⟩; have HM4 := Lib.hid (HM3.out.slave F4.out H4.out); have hs4 := HM4.out.s; obtain ⟨a1, hb, hF⟩ := HM4.out.lat (offN st (bytesM 2 d.tok d.qty) == 0); have a0 := HM4.out.blk.cell 2; have HM5 := Lib.hid hb; have hs5 := HM5.out.s; have HF5 := Lib.hid hF; clear hb hF))
  go_wp2
  go_end0
  refine ⟨rfl, Lib.hid ?_, Lib.hid (((F3'.out.mono (fun _ _ h => h.elim)).trans (F4.out.mono (fun _ _ e => .inr e)) (fun _ _ e => e)).trans (HF5.out.mono (fun _ _ e => .inl e)) (fun _ _ e => e))⟩
  rw [HS.out]
  have := HM5.out
  rw [show (offN st (bytesM 2 d.tok d.qty) == 0) = decide (offN st (bytesM 2 d.tok d.qty) = 0) by rw [Bool.eq_iff_iff]; simp] at this
  exact this
set_option maxHeartbeats 1000000 in
theorem rpress_other (h : RMo B R r d st w) {b : Int} (h0 : b ≠ 0) (h1 : b ≠ 1) (h2 : b ≠ 2) (h3 : b ≠ 3) : Calls Tryd.prog 30 #[.pointer (some ⟨R, 0, none⟩), .int .i64 b] w (RPressPost B R r d st b w) := by
  by_cases hn : d.lit = true ∧ d.latched = false
  · have H := Lib.hid h
    have HS : Hid (stepP (d, st) b = (d, st)) := Lib.hid (by unfold stepP pressS; rw [if_pos hn, if_neg h1, if_neg h2, if_neg h0, if_neg h3])
    obtain ⟨_, c1, c2, _⟩ := h.cells
    rw [hn.1] at c1
    rw [hn.2] at c2
    have b0 : (b == 0) = false := by simp [h0]
    have b1 : (b == 1) = false := by simp [h1]
    have b2 : (b == 2) = false := by simp [h2]
    have b3 : (b == 3) = false := by simp [h3]
    clear h hn h0 h1 h2 h3
    go_enter Tryd.func30, Tryd.ntmps30
    go_wp2
    go_end0
    unfold RPressPost
    rw [HS.out]
    exact ⟨rfl, H, Lib.hid (Fr.refl _ _)⟩
  · exact rpress_no h b hn
theorem RPressC11 (h : RMo B R r d st w) (hd : DpOk d) (b : Int) : Calls Tryd.prog 30 #[.pointer (some ⟨R, 0, none⟩), .int .i64 b] w (RPressPost B R r d st b w) := by
  by_cases hn : d.lit = true ∧ d.latched = false
  · by_cases h1 : b = 1
    · subst h1; exact rpress_plus h hd hn.1 hn.2
    · by_cases h2 : b = 2
      · subst h2; exact rpress_minus h hd hn.1 hn.2
      · by_cases h0 : b = 0
        · subst h0; exact rpress_lat0 h hd hn.1 hn.2
        · by_cases h3 : b = 3
          · subst h3; exact rpress_lat3 h hd hn.1 hn.2
          · exact rpress_other h h0 h1 h2 h3
  · exact rpress_no h b hn
end
end Go.Proofs.YtdhfinpmcikimaaDoor.K
