/- A Reader: Read, Bytes, Left, Done, Rest. -/
import Derived.Test.YtdhfinpmcikimaaDoorWj
namespace Go.Proofs.YtdhfinpmcikimaaDoor.K
open Go.RowKit
set_option linter.unusedVariables false
set_option linter.unusedSimpArgs false
/-- The Reader at r: the bytes l are left; they lie in block G. -/
def Rd (r : Nat) (G : Option Nat) (l : List Int) (w : World) : Prop :=
  ∃ o c cells, Blk w r 133 #[.slice (G.map fun g => ⟨g, o, none⟩) l.length c] ∧ l.length ≤ c ∧ c ≤ 9223372036854775807 ∧ (∀ g, G = some g → Blk w g 5 cells ∧ ∀ i x, l[i]? = some x → cells[o + i]? = some (.int .u8 x)) ∧ (G = none → l = [])
section
variable {r : Nat} {G : Option Nat} {l : List Int} {w w' : World} {S : Nat → Prop}
theorem Rd.fr (h : Rd r G l w) (k : Fr S w w') (hr : ¬ S r) (hg : ∀ g, G = some g → ¬ S g) : Rd r G l w' := by
  obtain ⟨o, c, cells, hb, hl, hc, hG, h0⟩ := h
  exact ⟨o, c, cells, hb.fr k hr, hl, hc, fun g e => ⟨((hG g e).1).fr k (hg g e), (hG g e).2⟩, h0⟩
theorem Rd.fr0 (h : Rd r G l w) (k : Fr0 w w') : Rd r G l w' := h.fr k (fun h => h) (fun _ _ h => h)
theorem Rd.drew (h : Rd r G l w) : Rd r G l w.drew := h
theorem Rd.drewN (h : Rd r G l w) (n : Nat) : Rd r G l (w.drewN n) := h
theorem Rd.lt (h : Rd r G l w) : r < w.heap.size := by obtain ⟨o, c, cells, hb, _⟩ := h; exact hb.lt
theorem Rd.ltG (h : Rd r G l w) : ∀ g, G = some g → g < w.heap.size := fun g e => by obtain ⟨o, c, cells, hb, _, _, hG, _⟩ := h; exact (hG g e).1.lt
end
set_option maxHeartbeats 4000000 in
set_option maxRecDepth 10000 in
theorem ReadC {A : Option Addr} {c : Nat} {l : List Int} {w : World} (hl : l.length ≤ 140737488355328) (h : RowOf c8 1 w w.heap.size A l) :
    Calls Tryd.prog 48 #[.slice A l.length c] w fun e w' => ∃ r G, e = .returned (.pointer (some ⟨r, 0, none⟩)) ∧ w.heap.size ≤ r ∧ (∀ g, G = some g → w.heap.size ≤ g) ∧ Hid (Rd r G l w') ∧ Hid (Fr0 w w') := by
  have H := Lib.hid h
  clear h
  go_enter Tryd.func48, Tryd.ntmps48
  go_wp2_with fail
  (with_reducible refine (CloneC hl H.out).mono ?_)
  rintro e w1 ⟨A1, c1, rfl, H1, F1⟩
  go_wp2
  go_ret
  obtain ⟨hown, hrow, hc⟩ := H1.out
  have hs := F1.out.size
  rcases hown.2 with ⟨hv, h0⟩ | ⟨g, cap, cur, hv, hg, hblk, hnc, hcm, hcs, htk⟩
  · injection hv with h1 h2 h3
    subst h1
    obtain rfl : l = [] := List.eq_nil_of_length_eq_zero h0
    exact ⟨_, none, rfl, hs, fun g e => (by cases e), Lib.hid ⟨0, c1, #[], Blk.new w1 _ _, hc, by omega, fun g e => (by cases e), fun _ => rfl⟩, Lib.hid (F1.out.alloc _)⟩
  · injection hv with h1 h2 h3
    subst h1 h3
    unfold maxLen at hcm
    refine ⟨_, some g, rfl, hs, fun g' e => (by injection e with e; omega), Lib.hid ⟨0, c1, cur, Blk.new w1 _ _, hc, by omega, fun g' e => ?_, fun e => by cases e⟩, Lib.hid (F1.out.alloc _)⟩
    injection e with e
    subst e
    refine ⟨Blk.alloc hblk _, fun i x hx => ?_⟩
    have hi : i < l.length := (List.getElem?_eq_some_iff.1 hx).1
    have e1 : (nums .u8 l)[i]? = some (.int .u8 x) := by simp [nums, hx]
    rw [← htk, List.getElem?_take, if_pos (by omega)] at e1
    rw [Nat.zero_add, ← e1, Array.getElem?_toList]
theorem rd_cell {r : Nat} {G : Option Nat} {l : List Int} {w : World} (h : Rd r G l w) : ∃ A c, w.cell? ⟨r, 0, none⟩ = some (.slice A l.length c) ∧ l.length ≤ c ∧ c ≤ 9223372036854775807 := by
  obtain ⟨o, c, cells, hb, hl, hc, _⟩ := h
  exact ⟨_, c, hb.cell 0, hl, hc⟩
set_option maxRecDepth 10000 in
theorem LeftC {r : Nat} {G : Option Nat} {l : List Int} {w : World} (h : Rd r G l w) :
    Calls Tryd.prog 51 #[.pointer (some ⟨r, 0, none⟩)] w fun e w' => e = .returned (.int .i64 l.length) ∧ w' = w := by
  obtain ⟨A, c, c0, _, _⟩ := rd_cell h
  go_enter Tryd.func51, Tryd.ntmps51
  go_wp2
  go_ret
  exact ⟨rfl, rfl⟩
set_option maxRecDepth 10000 in
theorem RBytesNeg {r : Nat} {n : Int} {w : World} (hn : n < 0) :
    Calls Tryd.prog 63 #[.pointer (some ⟨r, 0, none⟩), .int .i64 n] w fun e w' => e = .returned (.tuple #[.slice none 0 0, .int .i64 1]) ∧ w' = w := by
  go_enter Tryd.func63, Tryd.ntmps63
  go_wp2
  go_ret2
  exact ⟨rfl, rfl⟩
set_option maxRecDepth 10000 in
theorem RBytesShort {r : Nat} {G : Option Nat} {l : List Int} {n : Int} {w : World} (h : Rd r G l w) (hn : (l.length : Int) < n) :
    Calls Tryd.prog 63 #[.pointer (some ⟨r, 0, none⟩), .int .i64 n] w fun e w' => e = .returned (.tuple #[.slice none 0 0, .int .i64 2]) ∧ w' = w := by
  obtain ⟨A, c, c0, _, _⟩ := rd_cell h
  have hn0 : ¬ n < 0 := by omega
  clear h
  go_enter Tryd.func63, Tryd.ntmps63
  go_wp2
  go_ret2
  exact ⟨rfl, rfl⟩
theorem splice_all {α : Type} (L cs : List α) (h : cs.length = L.length) : splice L 0 cs = cs := by simp [splice, h]
theorem cutd {G : Option Nat} {o l c n : Nat} (hn : n ≤ l) (hl : l ≤ c) (hc : c ≤ 9223372036854775807) : ∃ o' c', (∀ W, (Instr.slice 26 (.slice (G.map fun g => (⟨g, o, none⟩ : Addr)) l c) (some (.int .i64 n)) none none).run Tryd.prog W = .ok (.slice (G.map fun g => ⟨g, o', none⟩) (l - n) c') W) ∧ l - n ≤ c' ∧ c' ≤ c ∧ (0 < l - n → o' = o + n) := by
  obtain ⟨i0, hi, hz0, hz1, hz2⟩ := info_parts info_u8
  have hel : Tryd.prog.elem 26 = 5 := by simp [Program.elem, Tryd.underlying26]
  have hu : Tryd.prog.underlying 26 = some (.slice (Tryd.prog.elem 26)) := by rw [hel]; exact Tryd.underlying26
  refine ⟨if c = n then o else o + n, c - n, fun W => ?_, by omega, by omega, fun h => if_neg (by omega)⟩
  rw [run_slice_l W 26 _ l c hu .i64 n (by omega) (by omega), hel]
  by_cases hcn : c = n
  · subst hcn
    cases G <;> simp [sizeOf, typeInfo, hi, hz1, sliced, Result.andThen]
  · cases G <;> simp [sizeOf, typeInfo, hi, hz1, sliced, Result.andThen, hcn, add_plain]
set_option maxHeartbeats 4000000 in
set_option maxRecDepth 10000 in
theorem RBytesOk {r n : Nat} {G : Option Nat} {l : List Int} {w : World} (h : Rd r G l w) (hn : n ≤ l.length) (hlim : n ≤ 140737488355328) :
    Calls Tryd.prog 63 #[.pointer (some ⟨r, 0, none⟩), .int .i64 n] w fun e w' => e = .returned (.tuple #[.slice (some ⟨w.heap.size, 0, none⟩) n n, .int .i64 0]) ∧ Hid (Blk w' w.heap.size 5 (nums .u8 (l.take n)).toArray) ∧ Hid (Rd r G (l.drop n) w') ∧ Hid (Fr1 r w w') := by
  obtain ⟨o, c, cells, hb, hlc, hc, hG, h0⟩ := h
  obtain ⟨i0, hi, hz0, hz1, hz2⟩ := info_parts info_u8
  have hmk : ∀ W, (Instr.makeSlice 26 (.int .i64 n) (.int .i64 n)).run Tryd.prog W = .ok (.slice (some ⟨W.heap.size, 0, none⟩) n n) (W.alloc (.cells (madeCells #[.int .u8 0] n) 5)) := fun W => by
    have := run_make (P := Tryd.prog) W 26 5 i0 (.int .u8 0) Tryd.underlying26 hi hz0 .i64 .i64 n n (by omega) (by omega) (by rw [hz2]; omega) (by omega)
    rw [hz1] at this
    simpa [Value.cells] using this
  clear hi hz0 hz1 hz2
  obtain ⟨o', c', hcut, hc1, hc2, hc3⟩ := cutd (G := G) (o := o) hn hlc hc
  obtain ⟨A, hA⟩ : ∃ A, A = G.map fun g => (⟨g, o, none⟩ : Addr) := ⟨_, rfl⟩
  obtain ⟨A', hA'⟩ : ∃ A, A = G.map fun g => (⟨g, o', none⟩ : Addr) := ⟨_, rfl⟩
  rw [← hA, ← hA'] at hcut
  rw [← hA] at hb
  obtain ⟨cs, hcs⟩ : ∃ cs, cs = nums .u8 (l.take n) := ⟨_, rfl⟩
  have hml : cs.length = n := by rw [hcs, nums_length, List.length_take]; omega
  have hone : ∀ u ∈ cs, u.oneCell' = true := hcs ▸ one_nums _ _
  obtain ⟨cur, hcur⟩ : ∃ cur, cur = madeCells #[.int .u8 0] n := ⟨_, rfl⟩
  have hsz : cur.size = n := by rw [hcur]; simp [madeCells]
  rw [← hcur] at hmk
  have c0 : w.cell? ⟨r, 0, none⟩ = some (.slice A l.length c) := hb.cell 0
  have hb1 : Blk (w.alloc (.cells cur 5)) r 133 #[.slice A l.length c] := hb.alloc _
  have c1 : (w.alloc (.cells cur 5)).cell? ⟨r, 0, none⟩ = some (.slice A l.length c) := hb1.cell 0
  have hsrc : 0 < cs.length → ∃ ad, A = some ad ∧ ∀ j u, cs[j]? = some u → (w.alloc (.cells cur 5)).cell? (ad.add j) = some u := by
    intro hp
    cases hGe : G with
    | none => have := h0 hGe; subst this; simp at hn; omega
    | some g =>
      rw [hGe] at hA
      refine ⟨_, hA, fun j u hu => ?_⟩
      obtain ⟨k1, k2⟩ := hG g hGe
      have hj : j < n := by rw [← hml]; exact (List.getElem?_eq_some_iff.1 hu).1
      rw [hcs] at hu
      have hx : l[j]? = some l[j] := List.getElem?_eq_getElem (by omega)
      have := k2 j _ hx
      rw [add_plain, (k1.alloc _).cell, this, ← hu]
      simp [nums, List.getElem?_take, hj, hx]
  have HB := Lib.hid hb
  have HB1 := Lib.hid hb1
  have HS := Lib.hid hsrc
  have HG := Lib.hid hG
  have H0 := Lib.hid h0
  have HONE := Lib.hid hone
  have HML := Lib.hid hml
  have HCS := Lib.hid hcs
  have HA' := Lib.hid hA'
  have HC3 := Lib.hid hc3
  have hne : r ≠ w.heap.size := by have := hb.lt; omega
  rw [← hcs]
  clear hb hb1 hsrc hG h0 hone hml hcs hA hA' hcur hc3
  have hn0 : ¬ ((n : Int) < 0) := by omega
  have hn1 : ¬ ((n : Int) > (l.length : Int)) := by omega
  go_enter Tryd.func63, Tryd.ntmps63
  go_wp2_with ((refine copyF rfl (.tmp 20) (.tmp 24) 26 26 rfl 5 Tryd.underlying26 info1_u8 _ _ _ _ _ _ rfl rfl w.heap.size 0 cur 5 (Blk.new w _ _) cs ?c1 ?c2 ?c3 HONE.out ?_; (case c1 => rw [HML.out]; exact (Nat.min_eq_right hn).symm); (case c2 => exact fun h => ⟨rfl, HS.out h⟩); (case c3 => rw [HML.out, hsz]; omega); intro w4 G4 F4; have B4 := Lib.hid (HB1.out.fr F4.out hne); have d0 := B4.out.cell 0; have d1 := B4.out.frozen 0; clear c0 c1))
  go_ret2
  refine ⟨rfl, Lib.hid ?_, Lib.hid ⟨o', c', cells, ?_, by rw [List.length_drop]; exact hc1, by omega, fun g e => ⟨?_, fun i x hx => ?_⟩, fun e => by rw [H0.out e]; simp⟩, Lib.hid ?_⟩
  · have := G4.out
    rw [splice_all _ _ (by rw [HML.out, Array.length_toList, hsz])] at this
    exact this.far (Ne.symm hne) _
  · rw [← HA'.out, List.length_drop]
    simpa using B4.out.set_ 0 (.slice A' (l.length - n) c')
  · have k1 := ((HG.out g e).1).lt
    exact ((((HG.out g e).1).alloc _).fr F4.out (by omega)).far (by
      have := Blk.ne_ ((HG.out g e).1) HB.out (by decide)
      exact this) _
  · rw [List.getElem?_drop] at hx
    have hi : n + i < l.length := (List.getElem?_eq_some_iff.1 hx).1
    rw [HC3.out (by omega), Nat.add_assoc]
    exact (HG.out g e).2 _ _ hx
  · exact ((((Fr.refl (fun k => k = r) w).alloc _).trans F4.out (fun j hj e => by subst e; omega))).setCell (fun _ => rfl) _
end Go.Proofs.YtdhfinpmcikimaaDoor.K
