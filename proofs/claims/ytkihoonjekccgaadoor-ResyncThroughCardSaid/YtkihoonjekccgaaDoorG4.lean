/- What the decoder's small functions do. -/
import Derived.Test.YtkihoonjekccgaaDoorG3
import Derived.Test.YtkihoonjekccgaaDoorFOf
import Derived.WalkKit
import Derived.Outline
import Derived.BigQuiet
import Derived.Deep.QuietTactic
import Derived.Deep.DrawnRows
namespace Go.Proofs.YtkihoonjekccgaaDoor.K
open Go.RowKit
set_option linter.unusedVariables false
set_option linter.unusedSimpArgs false
attribute [local go_sem ↓] Go.wp_at_zero Go.wp_at_succ
theorem getD_bd {n : List Int} {K : Int} (h : ∀ x ∈ n, 0 ≤ x ∧ x ≤ K) (hK : 0 ≤ K) (e : Nat) : 0 ≤ n.getD e 0 ∧ n.getD e 0 ≤ K := by
  rw [List.getD_eq_getElem?_getD]
  rcases Nat.lt_or_ge e n.length with hl | hl
  · rw [List.getElem?_eq_getElem hl]; exact h _ (List.getElem_mem hl)
  · rw [List.getElem?_eq_none hl]; exact ⟨Int.le_refl _, hK⟩
section
variable {w : World} {g : Nat} {s : Ds}
theorem DecB.set_n {e : Nat} (h : DecB w g s) (he : e < 12) : DecB (w.setCell ⟨g, e, none⟩ (.int .i64 (s.n.getD e 0 + 1))) g ⟨inc s.n e, s.held, s.over⟩ := by
  obtain ⟨⟨arr, h1, h2, h3⟩, h4, h5⟩ := h
  have := h3.set_ e (.int .i64 (s.n.getD e 0 + 1))
  rw [dcs_set_n h4 he] at this
  exact ⟨⟨arr, h1, h2, this⟩, by rw [inc_len]; exact h4, h5⟩
theorem DecB.drew (h : DecB w g s) : DecB w.drew g s := ⟨h.blk, h.len, h.held⟩
theorem countC {e : Nat} (h : DecB w g s) (he : e < 12) (hx : ∀ x ∈ s.n, 0 ≤ x ∧ x ≤ 4000000000000000000) :
    Calls Tryd.prog 31 #[.pointer (some ⟨g, 0, none⟩), .int .i64 e] w fun r w' => r = .returned (.tuple #[]) ∧ Hid (DecB w' g ⟨inc s.n e, s.held, s.over⟩) ∧ Hid (Fr1 g w w') := by
  obtain ⟨⟨arr, h1, h2, h3⟩, h4, h5⟩ := id h
  have hc : w.cell? ⟨g, e, none⟩ = some (.int .i64 (s.n.getD e 0)) := (h3.cell e).trans (dcs_n h4 he)
  have hf : w.frozen? ⟨g, e, none⟩ = false := h3.frozen e
  have hb := getD_bd hx (by decide) e
  have H : Hid (DecB (w.setCell ⟨g, e, none⟩ (.int .i64 (s.n.getD e 0 + 1))).drew g ⟨inc s.n e, s.held, s.over⟩) := Lib.hid (DecB.set_n h he).drew
  have F : Hid (Fr1 g w (w.setCell ⟨g, e, none⟩ (.int .i64 (s.n.getD e 0 + 1))).drew) := Lib.hid ((Fr.refl (fun k => k = g) w).setCell (fun _ => rfl) _).drew
  clear h h3 h2 h1 h4 h5 hx
  generalize s.n.getD e 0 = x at *
  have hw : IntKind.i64.wrap (x + 1) = x + 1 := by rw [IntKind.wrap_i64]; omega
  have i1 : (0 : Int) ≤ (e : Int) := by omega
  have i2 : (e : Int) < 12 := by omega
  have hu := Tryd.underlying25
  go_enter Tryd.func31, Tryd.ntmps31
  go_wp2
  go_region
  go_end0
  exact ⟨rfl, H, F⟩
theorem DecB.shut (h : DecB w g s) (o : Bool) : DecB ((w.setCell ⟨g, 74, none⟩ (.int .i64 0)).setCell ⟨g, 75, none⟩ (.bool o)) g ⟨s.n, [], o⟩ := by
  obtain ⟨⟨arr, h1, h2, h3⟩, h4, h5⟩ := h
  have := (h3.set_ 74 (.int .i64 0)).set_ 75 (.bool o)
  rw [dcs_set_m h4 h1, dcs_set_o h4 h1] at this
  exact ⟨⟨arr, h1, rfl, this⟩, h4, Nat.zero_le _⟩
theorem DecB.put {c : Int} (h : DecB w g s) (hl : s.held.length < 62) (ho : s.over = false) : DecB ((w.setCell ⟨g, 12 + s.held.length, none⟩ (.int .u8 c)).setCell ⟨g, 74, none⟩ (.int .i64 ((s.held.length : Int) + 1))) g ⟨s.n, s.held ++ [c], false⟩ := by
  obtain ⟨⟨arr, h1, h2, h3⟩, h4, h5⟩ := h
  have := (h3.set_ (12 + s.held.length) (.int .u8 c)).set_ 74 (.int .i64 ((s.held.length : Int) + 1))
  rw [dcs_set_a h4 h1 hl, dcs_set_m h4 (by rw [List.length_set]; exact h1)] at this
  refine ⟨⟨arr.set s.held.length c, by rw [List.length_set]; exact h1, ?_, ?_⟩, h4, ?_⟩
  · simp only [List.length_append, List.length_singleton]
    rw [List.take_succ_eq_append_getElem (by rw [List.length_set]; omega), List.take_set_of_le (Nat.le_refl _), h2]
    simp
  · simp only [List.length_append, List.length_singleton, Int.natCast_add]
    rw [ho] at this
    exact this
  · simp only [List.length_append, List.length_singleton]; omega
theorem DecB.cells (h : DecB w g s) : w.cell? ⟨g, 74, none⟩ = some (.int .i64 (s.held.length : Int)) ∧ w.cell? ⟨g, 75, none⟩ = some (.bool s.over) := by
  obtain ⟨⟨arr, h1, h2, h3⟩, h4, h5⟩ := h
  exact ⟨(h3.cell 74).trans (dcs_m h4 h1), (h3.cell 75).trans (dcs_o h4 h1)⟩
theorem DecB.frozen (h : DecB w g s) (i : Nat) : w.frozen? ⟨g, i, none⟩ = false := by
  obtain ⟨⟨arr, h1, h2, h3⟩, h4, h5⟩ := h
  exact h3.frozen i
theorem DecB.spot (h : DecB w g s) {i : Nat} (hi : i < 62) : ∃ x, w.cell? ⟨g, 12 + i, none⟩ = some (.int .u8 x) := by
  obtain ⟨⟨arr, h1, h2, h3⟩, h4, h5⟩ := h
  exact ⟨_, (h3.cell (12 + i)).trans (dcs_a h4 h1 hi)⟩
theorem DecB.row (h : DecB w g s) : RowOf c8 1 w w.heap.size (some ⟨g, 12, none⟩) s.held := by
  have hg := h.lt
  obtain ⟨⟨arr, h1, h2, h3⟩, h4, h5⟩ := h
  intro i x hx
  refine ⟨⟨g, 12, none⟩, rfl, hg, fun j u hu => ?_⟩
  have hi : i < s.held.length := by
    rcases Nat.lt_or_ge i s.held.length with e | e
    · exact e
    · rw [List.getElem?_eq_none e] at hx; cases hx
  cases j with
  | succ j => simp [c8] at hu
  | zero =>
    simp [c8] at hu
    subst hu
    have e := h3.cell (12 + i)
    rw [dcs_a h4 h1 (by omega), List.getD_eq_getElem?_getD] at e
    have e2 : arr[i]? = some x := by rw [← hx, ← h2, List.getElem?_take_of_lt hi]
    rw [e2] at e
    cases i with
    | zero => simpa [Addr.add] using e
    | succ i => simpa [Addr.add] using e
theorem takeC {c : Int} (h : DecB w g s) (hx : ∀ x ∈ s.n, 0 ≤ x ∧ x ≤ 4000000000000000000) (ho : s.over = true → s.held = []) :
    Calls Tryd.prog 19 #[.pointer (some ⟨g, 0, none⟩), .int .u8 c] w fun r w' => r = .returned (.tuple #[]) ∧ Hid (DecB w' g (takeD c s)) ∧ Hid (Fr1 g w w') := by
  obtain ⟨k74, k75⟩ := h.cells
  have f74 := h.frozen 74
  have f75 := h.frozen 75
  have H := Lib.hid h
  have HX := Lib.hid hx
  by_cases hov : s.over = true
  · have e : takeD c s = s := by unfold takeD; rw [if_pos hov]
    rw [hov] at k75
    rw [e]
    clear h hx hov e
    go_enter Tryd.func19, Tryd.ntmps19
    go_wp2
    go_end0
    exact ⟨rfl, H, Lib.hid (Fr.refl _ _)⟩
  · have hov' : s.over = false := by simpa using hov
    rw [hov'] at k75
    by_cases h62 : s.held.length = 62
    · have e : takeD c s = ⟨inc s.n 10, [], true⟩ := by unfold takeD; rw [if_neg hov, if_pos h62]
      rw [h62] at k74
      rw [e]
      have HS := Lib.hid (h.shut true)
      clear h hx hov e h62
      go_enter Tryd.func19, Tryd.ntmps19
      go_wp2_with fail
      refine Calls.mono (countC (e := 10) HS.out (by decide) HX.out) ?_
      rintro r w' ⟨rfl, h1, h2⟩
      go_wp2
      go_end0
      exact ⟨rfl, h1, Lib.hid ((((Fr.refl (fun k => k = g) w).setCell (fun _ => rfl) _).setCell (fun _ => rfl) _).trans h2.out (fun _ _ h => h))⟩
    · have e : takeD c s = ⟨s.n, s.held ++ [c], false⟩ := by unfold takeD; rw [if_neg hov, if_neg h62]
      have hlt : s.held.length < 62 := by have := h.held; omega
      rw [e]
      obtain ⟨y, ky⟩ := h.spot hlt
      have fy := h.frozen (12 + s.held.length)
      have HS : Hid (DecB ((w.setCell ⟨g, 12 + s.held.length, none⟩ (.int .u8 c)).drew.setCell ⟨g, 74, none⟩ (.int .i64 ((s.held.length : Int) + 1))) g ⟨s.n, s.held ++ [c], false⟩) := Lib.hid (DecB.drew (DecB.put h hlt hov'))
      have hlen : Hid (s.held ++ [c] = s.held ++ [c]) := Lib.hid rfl
      generalize hh : s.held ++ [c] = z at *
      generalize hn : s.n = nn at *
      generalize hm : s.held.length = m at *
      clear h hx ho hov hov' e hlen hh hn hm
      have hw : IntKind.i64.wrap ((m : Int) + 1) = (m : Int) + 1 := by rw [IntKind.wrap_i64]; omega
      have i1 : (0 : Int) ≤ (m : Int) := by omega
      have i2 : (m : Int) < 62 := by omega
      have i3 : ((m : Int) == 62) = false := by simp; omega
      have hu := Tryd.underlying28
      go_enter Tryd.func19, Tryd.ntmps19
      go_wp2
      go_region
      go_wp2
      go_end0
      exact ⟨rfl, HS, Lib.hid (((Fr.refl (fun k => k = g) w).setCell (fun _ => rfl) _).drew.setCell (fun _ => rfl) _)⟩
end
end Go.Proofs.YtkihoonjekccgaaDoor.K
