/- Orders: their bytes. -/
import Derived.Test.YtigknfkkegccgaaDoorO1
import Derived.Test.YtigknfkkegccgaaDoorSm
import Derived.Test.YtigknfkkegccgaaDoorSt
import Derived.Test.YtigknfkkegccgaaDoorSh1
namespace Go.Proofs.YtigknfkkegccgaaDoor.K
open Go.RowKit
set_option linter.unusedVariables false
set_option linter.unusedSimpArgs false
attribute [local go_sem ↓] Go.wp_at_zero Go.wp_at_succ
/-- Blocks that are known whole, and are neither Writers nor bytes. -/
abbrev Kept := List (Nat × TypeId × Array Value)
def Keeps (K : Kept) (w : World) : Prop := ∀ q ∈ K, q.2.1 ≠ 5 ∧ q.2.1 ≠ 71 ∧ Blk w q.1 q.2.1 q.2.2
/-- A Writer at b (made in world w1 just there) holds m, beside blocks that stay. -/
structure WS (K : Kept) (w1 : World) (b : Nat) (v : Value) (m : List Int) (wr : World) : Prop where
  hw : Wrt b v m wr
  base : ∀ j, v.ownBlock = some j → w1.heap.size ≤ j
  hb : Below w1.heap.size w1 wr
  hs : w1.heap.size ≤ b
  keep : Keeps K wr
theorem Keeps.fr {K : Kept} {w w' : World} {b : Nat} {v v' : Value} {m : List Int} (h : Keeps K w) (hw : Wrt b v m w) (k : WFr b v v' w w') : Keeps K w' := fun q hq => by
  obtain ⟨h1, h2, h3⟩ := h q hq
  refine ⟨h1, h2, h3.fr k.fr (fun e => ?_)⟩
  rcases e with e | e
  · obtain ⟨⟨lr, hb⟩, _⟩ := hw
    exact Blk.ne_ h3 hb h2 e
  · exact own_blk_ne hw.2.1 h3 (fun e => h1 e.symm) e
theorem Keeps.same {K : Kept} {w w' : World} (h : Keeps K w) (k : Same w w') : Keeps K w' := fun q hq => by
  obtain ⟨h1, h2, h3⟩ := h q hq
  exact ⟨h1, h2, by unfold Blk; rw [k.heap]; exact h3⟩
theorem WS.step {K : Kept} {w1 wr w' : World} {b : Nat} {v v' : Value} {m m' : List Int} (h : WS K w1 b v m wr) (H1 : Wrt b v' m' w') (H2 : WFr b v v' wr w') : WS K w1 b v' m' w' :=
  ⟨H1, wfr_base H2 h.base h.hb.size, wfr_below h.hb H2 h.hs h.base (Nat.le_refl _), h.hs, h.keep.fr h.hw H2⟩
theorem WS.same {K : Kept} {w1 wr w' : World} {b : Nat} {v : Value} {m : List Int} (h : WS K w1 b v m wr) (k : Same wr w') : WS K w1 b v m w' :=
  ⟨h.hw.fr k.fr0 (fun h => h) (fun _ _ h => h), h.base, (h.hb.trans (Below.refl _ _)).trans (k.below (Below.refl _ _)), h.hs, h.keep.same k⟩
theorem WS.tail {q : Nat × TypeId × Array Value} {K : Kept} {w1 wr : World} {b : Nat} {v : Value} {m : List Int} (h : WS (q :: K) w1 b v m wr) : WS K w1 b v m wr := ⟨h.hw, h.base, h.hb, h.hs, fun p hp => h.keep p (List.mem_cons_of_mem _ hp)⟩
section
variable {K : Kept} {w1 wr wq : World} {b : Nat} {v : Value} {m m' : List Int} {n : Int}
theorem WS.u8 (hs : Same wr wq) (h : WS K w1 b v m wr) (hn0 : 0 ≤ n) (hn1 : n < 256) (hm : m ++ be n 1 = m') (hlim : m.length + 4 ≤ 140737488355328) :
    Calls Tryd.prog 29 #[.pointer (some ⟨b, 0, none⟩), .int .u8 n] wq fun e w' => e = .returned (.pointer (some ⟨b, 0, none⟩)) ∧ ∃ v', Hid (WS K w1 b v' m' w') := by
  subst hm
  refine (WU8_own (h.same hs).hw hn0 hn1 hlim).mono ?_
  rintro e w' ⟨rfl, v', H1, H2⟩
  exact ⟨rfl, v', Lib.hid ((h.same hs).step H1.out H2.out)⟩
theorem WS.u16 (hs : Same wr wq) (h : WS K w1 b v m wr) (hn0 : 0 ≤ n) (hn1 : n < 65536) (hm : m ++ be n 2 = m') (hlim : m.length + 4 ≤ 140737488355328) :
    Calls Tryd.prog 30 #[.pointer (some ⟨b, 0, none⟩), .int .u16 n] wq fun e w' => e = .returned (.pointer (some ⟨b, 0, none⟩)) ∧ ∃ v', Hid (WS K w1 b v' m' w') := by
  subst hm
  refine (WU16_own (h.same hs).hw hn0 hn1 hlim).mono ?_
  rintro e w' ⟨rfl, v', H1, H2⟩
  exact ⟨rfl, v', Lib.hid ((h.same hs).step H1.out H2.out)⟩
theorem WS.u32 (hs : Same wr wq) (h : WS K w1 b v m wr) (hn0 : 0 ≤ n) (hn1 : n < 4294967296) (hm : m ++ be n 4 = m') (hlim : m.length + 4 ≤ 140737488355328) :
    Calls Tryd.prog 28 #[.pointer (some ⟨b, 0, none⟩), .int .u32 n] wq fun e w' => e = .returned (.pointer (some ⟨b, 0, none⟩)) ∧ ∃ v', Hid (WS K w1 b v' m' w') := by
  subst hm
  refine (WU32_own (h.same hs).hw hn0 hn1 hlim).mono ?_
  rintro e w' ⟨rfl, v', H1, H2⟩
  exact ⟨rfl, v', Lib.hid ((h.same hs).step H1.out H2.out)⟩
end
/-- A line's bytes, an order's. -/
def lineB (l : Ln) : List Int := be l.item 2 ++ be l.loc 2 ++ be l.qty 2
theorem lineB_len (l : Ln) : (lineB l).length = 6 := by simp [lineB, be_length]
def bytesO (id : Int) (ls : List Ln) : List Int := be id 4 ++ be ls.length 1 ++ ls.flatMap lineB
theorem linesB_len (ls : List Ln) : (ls.flatMap lineB).length = ls.length * 6 := by
  induction ls with
  | nil => rfl
  | cons l ls ih => rw [List.flatMap_cons, List.length_append, ih, lineB_len, List.length_cons]; omega
theorem bytesO_len (id : Int) (ls : List Ln) : (bytesO id ls).length = 5 + 6 * ls.length := by
  simp only [bytesO, List.length_append, be_length, linesB_len]; omega
theorem right_lines {ls : List Ln} (h : rightO ls = 0) : 1 ≤ ls.length ∧ ls.length ≤ 8 ∧ ∀ l ∈ ls, l.loc < 64 ∧ 1 ≤ l.qty ∧ l.qty ≤ 9999 := by
  unfold rightO at h
  split at h
  · omega
  split at h
  · omega
  refine ⟨by omega, by omega, ?_⟩
  have : ∀ (r a : List Ln), rightL a r = 0 → ∀ l ∈ r, l.loc < 64 ∧ 1 ≤ l.qty ∧ l.qty ≤ 9999 := by
    intro r
    induction r with
    | nil => intro a _ l hl; cases hl
    | cons x r ih =>
      intro a h l hl
      unfold rightL at h
      by_cases h0 : lineF a x = 0
      · rw [if_pos h0] at h
        rcases List.mem_cons.1 hl with rfl | hl
        · unfold lineF at h0
          split at h0
          · omega
          split at h0
          · omega
          omega
        · exact ih _ h l hl
      · rw [if_neg h0] at h; exact absurd h h0
  exact this ls [] h
theorem rightO_range (ls : List Ln) : rightO ls = 0 ∨ rightO ls = 1 ∨ rightO ls = 3 ∨ rightO ls = 5 ∨ rightO ls = 8 ∨ rightO ls = 10 := by
  unfold rightO
  split
  · omega
  split
  · omega
  have : ∀ (r a : List Ln), rightL a r = 0 ∨ rightL a r = 1 ∨ rightL a r = 8 ∨ rightL a r = 10 := by
    intro r
    induction r with
    | nil => intro a; exact .inl rfl
    | cons x r ih =>
      intro a
      unfold rightL
      split
      · exact ih _
      · exact lineF_range a x
  have := this ls []
  omega
set_option maxHeartbeats 2000000 in
set_option maxRecDepth 10000 in
theorem BytesNo {B c : Nat} {id : Int} {A : Option Addr} {ls : List Ln} {w : World} (hr : RowOf cL 3 w B A ls) (hB : B ≤ w.heap.size) (hl : ls.length ≤ 140737488355328) (hc : ls.length ≤ c) (ho : ∀ l ∈ ls, l.ok) (hn : rightO ls ≠ 0) :
    Calls Tryd.prog 12 #[.agg #[.int .u32 id, .slice A ls.length c]] w fun e w' => e = .returned (.tuple #[.slice none 0 0, .int .i64 (rightO ls)]) ∧ Hid (Below w.heap.size w w') := by
  have hbl : Below w.heap.size w (w.alloc (.cells #[.int .u32 id, .slice A ls.length c] 25)) := (Below.refl _ w).alloc (Nat.le_refl _) _
  have HBL := Lib.hid hbl
  have HC := Lib.hid (RightC (id := id) (c := c) (RowOf.below hr (hbl.mono hB)) (by have := hbl.size; omega) hl hc ho)
  have HRG := rightO_range ls
  generalize rightO ls = v at *
  clear hbl hr ho
  rcases (by omega : v = 1 ∨ v = 3 ∨ v = 5 ∨ v = 8 ∨ v = 10) with rfl | rfl | rfl | rfl | rfl
  all_goals
    clear HRG hn
    go_enter Tryd.func12, Tryd.ntmps12
    go_wp2_with fail
    refine Calls.mono HC.out ?_
    rintro e w1 ⟨rfl, F1⟩
    go_wp2
    go_ret2
    exact ⟨rfl, Lib.hid (HBL.out.trans (F1.out.mono HBL.out.size))⟩
theorem flat_take_line (ls : List Ln) (k : Nat) (h : k < ls.length) : (ls.take (k + 1)).flatMap lineB = (ls.take k).flatMap lineB ++ lineB ls[k] := by
  rw [List.take_succ_eq_append_getElem h, List.flatMap_append]; simp
set_option maxHeartbeats 4000000 in
set_option maxRecDepth 10000 in
theorem BytesC {B c : Nat} {id : Int} {A : Option Addr} {ls : List Ln} {w : World} (hr : RowOf cL 3 w B A ls) (hB : B ≤ w.heap.size) (hid : 0 ≤ id ∧ id < 4294967296) (hc : ls.length ≤ c) (ho : ∀ l ∈ ls, l.ok) (hn : rightO ls = 0) :
    Calls Tryd.prog 12 #[.agg #[.int .u32 id, .slice A ls.length c]] w fun e w' => ∃ A' c', e = .returned (.tuple #[.slice A' (bytesO id ls).length c', .int .i64 0]) ∧ Hid (Made w.heap.size A' c' (bytesO id ls) w') ∧ Hid (Below w.heap.size w w') := by
  obtain ⟨hl1, hl2, hlb⟩ := right_lines hn
  have hbl : Below w.heap.size w (w.alloc (.cells #[.int .u32 id, .slice A ls.length c] 25)) := (Below.refl _ w).alloc (Nat.le_refl _) _
  have HBL := Lib.hid hbl
  have HBK0 := Lib.hid (Blk.new w 25 #[.int .u32 id, .slice A ls.length c])
  have HR := Lib.hid hr
  have HO := Lib.hid ho
  have HLB := Lib.hid hlb
  have HC := Lib.hid (RightC (id := id) (c := c) (RowOf.below hr (hbl.mono hB)) (by have := hbl.size; omega) (by omega) hc ho)
  rw [hn] at HC
  obtain ⟨id0, id1⟩ := hid
  clear hbl hr ho hlb hn
  go_enter Tryd.func12, Tryd.ntmps12
  go_wp2_with fail
  refine Calls.mono HC.out ?_
  rintro e w1 ⟨rfl, F1⟩
  obtain ⟨W, hW⟩ : ∃ W, W = w1.alloc (.cells #[.slice none 0 0, .int .i64 0, .int .i8 0] 71) := ⟨_, rfl⟩
  have hws : WS [(w.heap.size, 25, #[.int .u32 id, .slice A ls.length c])] w1 w1.heap.size (.slice none 0 0) [] W := by
    rw [hW]
    refine ⟨wrt_new w1, base_nil _, (Below.refl _ _).alloc (Nat.le_refl _) _, Nat.le_refl _, fun q hq => ?_⟩
    rw [List.mem_singleton] at hq
    subst hq
    exact ⟨(by decide : (25 : Nat) ≠ 5), (by decide : (25 : Nat) ≠ 71), (HBK0.out.below F1.out (by simp)).alloc _⟩
  have HWS := Lib.hid hws
  have HWE := Lib.hid hW.symm
  clear hW hws
  have t0 : Hid True := Lib.hid trivial
  have hn8 : (ls.length : Int) ≤ 8 := by omega
  have hw8 : IntKind.u8.wrap (ls.length : Int) = (ls.length : Int) := by rw [IntKind.wrap_u8]; omega
  have hS : Hid (∀ {v m W'}, WS [(w.heap.size, 25, #[.int .u32 id, .slice A ls.length c])] w1 w1.heap.size v m W' → W'.cell? ⟨w.heap.size, 0, none⟩ = some (.int .u32 id) ∧ W'.cell? ⟨w.heap.size, 1, none⟩ = some (.slice A ls.length c)) := Lib.hid (fun h => ⟨((h.keep _ (List.mem_singleton.2 rfl)).2.2).cell 0, ((h.keep _ (List.mem_singleton.2 rfl)).2.2).cell 1⟩)
  go_wp2
  rw [HWE.out]
  clear HWE
  go_region_held (fun w' => w'.cell? ⟨w.heap.size, 0, none⟩ = some (.int .u32 id) ∧ w'.cell? ⟨w.heap.size, 1, none⟩ = some (.slice A ls.length c)) ((have h9 := hS.out HWS.out; exact h9)) (first
    | (go_at_call 28; have _t := t0; refine Calls.mono (WS.u32 (n := id) (m' := be id 4) (by exact ⟨rfl, rfl, rfl, rfl⟩) HWS.out id0 id1 (by simp) (by simp)) ?_; rintro e wq ⟨rfl, vq, HI2⟩; have t1 := t0; clear t0 HWS; have HWS := HI2; clear HI2)
    | (go_at_call 29; have _t := t1; refine Calls.mono (WS.u8 (n := (ls.length : Int)) (m' := be id 4 ++ be ls.length 1) (by exact ⟨rfl, rfl, rfl, rfl⟩) HWS.out (by omega) (by omega) rfl (by simp [be_length])) ?_; rintro e wq ⟨rfl, vq, HI2⟩; clear t1 HWS; have HWS := HI2; clear HI2))
  have hb1 := (hS.out HWS.out).2
  go_wp2
  go_loopw [27] (fun i wr => ∃ (k : Nat) (v : Value), i = .int .i64 k ∧ k ≤ ls.length ∧ WS [(w.heap.size, 25, #[.int .u32 id, .slice A ls.length c])] w1 w1.heap.size v (be id 4 ++ be ls.length 1 ++ (ls.take k).flatMap lineB) wr) (fun i _ => ls.length - (intOf i).toNat)
  case atStart => exact ⟨0, vq, rfl, by omega, by simpa using HWS.out⟩
  case round =>
    clear HWS hb1
    obtain ⟨k, v, rfl, hk, hws⟩ := hrel
    have HWS := Lib.hid hws
    clear hws
    by_cases hlt : k < ls.length
    · obtain ⟨ad, rfl, hb', c0, c1, c2⟩ := (RowOf.below (HR.out.below (HBL.out.mono hB)) ((F1.out.trans (HWS.out.hb.mono F1.out.size)).mono (Nat.le_trans hB (by simp)))).ln hlt
      have hft : be id 4 ++ be ls.length 1 ++ (ls.take (k + 1)).flatMap lineB = (be id 4 ++ be ls.length 1 ++ (ls.take k).flatMap lineB) ++ lineB ls[k] := by rw [flat_take_line ls k hlt, ← List.append_assoc]
      obtain ⟨⟨oi0, oi1⟩, ⟨ol0, ol1⟩, _⟩ := HO.out _ (List.getElem_mem hlt)
      obtain ⟨_, q0, q1⟩ := HLB.out _ (List.getElem_mem hlt)
      have HFT := Lib.hid hft
      have hpl : (be id 4 ++ be ls.length 1 ++ (ls.take k).flatMap lineB).length ≤ 100 := by rw [List.length_append, List.length_append, be_length, be_length, linesB_len, List.length_take]; omega
      clear hft hb'
      generalize be id 4 ++ be ls.length 1 ++ (ls.take k).flatMap lineB = pre at *
      generalize ls[k] = x at *
      obtain ⟨xi, xl, xq⟩ := x
      simp only at oi0 oi1 ol0 ol1 q0 q1
      have hwq : IntKind.u16.wrap xq = xq := by rw [IntKind.wrap_u16]; omega
      have hw2 : WS [(wr.heap.size, 51, lvs ⟨xi, xl, xq⟩), (w.heap.size, 25, #[.int .u32 id, .slice (some ad) ls.length c])] w1 w1.heap.size v pre (wr.alloc (.cells (lvs ⟨xi, xl, xq⟩) 51)) := by
        refine ⟨HWS.out.hw.alloc _, HWS.out.base, HWS.out.hb.alloc HWS.out.hb.size _, HWS.out.hs, fun q hq => ?_⟩
        rcases List.mem_cons.1 hq with rfl | hq
        · exact ⟨(by decide : (51 : Nat) ≠ 5), (by decide : (51 : Nat) ≠ 71), Blk.new _ _ _⟩
        · obtain ⟨g1, g2, g3⟩ := HWS.out.keep q hq
          exact ⟨g1, g2, g3.alloc _⟩
      have HW2 := Lib.hid hw2
      clear hw2 HWS
      have t0 : Hid True := Lib.hid trivial
      have hS2 : Hid (∀ {v m W'}, WS [(wr.heap.size, 51, lvs ⟨xi, xl, xq⟩), (w.heap.size, 25, #[.int .u32 id, .slice (some ad) ls.length c])] w1 w1.heap.size v m W' → W'.cell? ⟨wr.heap.size, 0, none⟩ = some (.int .u16 xi) ∧ W'.cell? ⟨wr.heap.size, 1, none⟩ = some (.int .u16 xl) ∧ W'.cell? ⟨wr.heap.size, 2, none⟩ = some (.int .i64 xq)) := Lib.hid (fun h => ⟨((h.keep _ List.mem_cons_self).2.2).cell 0, ((h.keep _ List.mem_cons_self).2.2).cell 1, ((h.keep _ List.mem_cons_self).2.2).cell 2⟩)
      go_wp2_with fail
      go_region_held (fun w' => w'.cell? ⟨wr.heap.size, 0, none⟩ = some (.int .u16 xi) ∧ w'.cell? ⟨wr.heap.size, 1, none⟩ = some (.int .u16 xl) ∧ w'.cell? ⟨wr.heap.size, 2, none⟩ = some (.int .i64 xq)) ((have h9 := hS2.out HW2.out; exact h9)) (first
        | (go_at_call 30; have _t := t0; refine Calls.mono (WS.u16 (n := xi) (m' := pre ++ be xi 2) (by exact ⟨rfl, rfl, rfl, rfl⟩) HW2.out oi0 oi1 rfl (by omega)) ?_; rintro e wq ⟨rfl, vq, HI2⟩; have t1 := t0; clear t0 HW2; have HW2 := HI2; clear HI2)
        | (go_at_call 30; have _t := t1; refine Calls.mono (WS.u16 (n := xl) (m' := pre ++ be xi 2 ++ be xl 2) (by exact ⟨rfl, rfl, rfl, rfl⟩) HW2.out ol0 ol1 rfl (by rw [List.length_append, be_length]; omega)) ?_; rintro e wq ⟨rfl, vq, HI2⟩; have t2 := t1; clear t1 HW2; have HW2 := HI2; clear HI2)
        | (go_at_call 30; have _t := t2; refine Calls.mono (WS.u16 (n := xq) (m' := pre ++ be xi 2 ++ be xl 2 ++ be xq 2) (by exact ⟨rfl, rfl, rfl, rfl⟩) HW2.out (by omega) (by omega) rfl (by rw [List.length_append, List.length_append, be_length, be_length]; omega)) ?_; rintro e wq ⟨rfl, vq, HI2⟩; clear t2 HW2; have HW2 := HI2; clear HI2))
      go_wp2
      go_roundw
      case rel => exact ⟨k + 1, _, by go_num, by omega, by rw [HFT.out]; have := HW2.out.tail; simp only [lineB, List.append_assoc] at this ⊢; exact this⟩
      case measure => simp [intOf]; omega
    · obtain rfl : k = ls.length := by omega
      rw [List.take_length] at HWS
      go_wp2_with fail
      refine Calls.mono (WDoneE (n := (bytesO id ls).length) (l := bytesO id ls) rfl HWS.out.hw (by rw [bytesO_len]; omega)) ?_
      rintro e w3 ⟨A3, c3, rfl, H3, F3⟩
      go_wp2
      go_ret2
      exact ⟨A3, c3, rfl, Lib.hid (H3.out.low (Nat.le_trans HBL.out.size (Nat.le_trans F1.out.size HWS.out.hb.size))), Lib.hid ((HBL.out.trans (F1.out.mono HBL.out.size)).trans (HWS.out.hb.mono (Nat.le_trans HBL.out.size F1.out.size) |>.trans (F3.out.below0.mono (Nat.le_trans HBL.out.size (Nat.le_trans F1.out.size HWS.out.hb.size)))))⟩
end Go.Proofs.YtigknfkkegccgaaDoor.K
