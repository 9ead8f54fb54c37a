/- Bits, Table of a row of parts that was just laid; what begins each law. -/
import Derived.Test.YtimlkmblfjoigaaDoorCv
import Derived.Deep.RegionHeld
import Derived.Deep.DrawnRows
namespace Go.Proofs.YtimlkmblfjoigaaDoor.K
open Go.RowKit
attribute [local go_sem ↓] Go.wp_at_zero Go.wp_at_succ
set_option linter.unusedVariables false
set_option linter.unusedSimpArgs false
abbrev pv : Part → Value := fun p => .slice p.1 p.2.2.length p.2.1
/-- The same memory, but for draws. -/
structure Same (w w1 : World) : Prop where
  heap : w1.heap = w.heap
  os : w1.os = w.os
  tape : w1.tape = w.tape
  output : w1.output = w.output
section
variable {w w1 w2 : World} {B : Nat}
theorem Same.refl (w : World) : Same w w := ⟨rfl, rfl, rfl, rfl⟩
theorem Same.cell (h : Same w w1) (p : Addr) : w1.cell? p = w.cell? p := by unfold World.cell?; rw [h.heap]
theorem Same.turns (h : Same w w1) (k : Turns w) : Turns w1 := fun i hi => (h.cell _).trans (k i hi)
theorem Same.row {α : Type} {c : α → List Value} {size : Nat} {A : Option Addr} {l : List α} (h : Same w w1) (k : RowOf c size w B A l) : RowOf c size w1 B A l := fun i x hx => by
  obtain ⟨ad, rfl, hb, hc⟩ := k i x hx
  exact ⟨ad, rfl, hb, fun j u hu => (h.cell _).trans (hc j u hu)⟩
theorem Same.size (h : Same w w1) : w1.heap.size = w.heap.size := by rw [h.heap]
theorem Same.below (h : Same w w1) (k : Below B w1 w2) : Below B w w2 := ⟨k.os.trans h.os, k.tape.trans h.tape, k.output.trans h.output, by rw [← h.size]; exact k.size, fun j hj => (k.block j hj).trans (by rw [h.heap])⟩
theorem Same.fr {S : Nat → Prop} (h : Same w w1) (k : Fr S w1 w2) : Fr S w w2 := ⟨k.os.trans h.os, k.tape.trans h.tape, k.output.trans h.output, by rw [← h.size]; exact k.size, fun j hj hn => (k.block j (by rw [h.size]; exact hj) hn).trans (by rw [h.heap])⟩
theorem Same.row0 {α : Type} {c : α → List Value} {size : Nat} {A : Option Addr} {l : List α} (h : Same w w1) (k : RowOf c size w w.heap.size A l) : RowOf c size w1 w1.heap.size A l := (h.row k).more_ (by rw [h.size]; exact Nat.le_refl _)
end
/-- Parts that may be summed in a world. -/
def Parts (w : World) (ps : List Part) : Prop := ∀ p ∈ ps, RowOf c8 1 w w.heap.size p.1 p.2.2 ∧ InB p.2.2 ∧ p.2.2.length ≤ 140737488355328
theorem Parts.nil (w : World) : Parts w [] := fun p hp => by cases hp
theorem Parts.cons {w : World} {A : Option Addr} {c : Nat} {l : List Int} {ps : List Part} (h : RowOf c8 1 w w.heap.size A l) (hi : InB l) (hl : l.length ≤ 140737488355328) (k : Parts w ps) : Parts w ((A, c, l) :: ps) := fun p hp => by
  rcases List.mem_cons.1 hp with rfl | hp
  · exact ⟨h, hi, hl⟩
  · exact k p hp
theorem Parts.below {w w1 : World} {ps : List Part} (h : Parts w ps) (k : Below w.heap.size w w1) : Parts w1 ps := fun p hp => ⟨(h p hp).1.now k, (h p hp).2⟩
theorem CTableL {g pc n : Nat} {ps : List Part} {x : Int} {w w1 : World} (hn : ps.length = n) (hg : g = w.heap.size) (hs : Same (w.alloc (.cells (ps.map pv).toArray 23)) w1) (hT : Turns w) (h : Parts w ps) (hl : ps.length ≤ 140737488355328) (hx : crcN (flat ps) = x) :
    Calls Tryd.prog 16 #[.slice (some ⟨g, 0, none⟩) n pc] w1 fun e w' => e = .returned (.int .u16 x) ∧ Hid (Below w.heap.size w w') := by
  subst hx hn
  refine (CTableC (pc := pc) (B := w.heap.size + 1) (ps := ps) (hs.turns (hT.fr0 ((Fr.refl (fun _ => False) w).alloc _))) hl (hs.row (row_vals (t := 23) (f := pv) (fun _ => rfl) (Blk.new_at hg) (by omega)))
    (fun p hp => ⟨(hs.row ((h p hp).1.below ((Below.refl w.heap.size w).alloc (Nat.le_refl _) _))).more_ (by omega), (h p hp).2⟩)).mono ?_
  rintro e w2 ⟨rfl, rfl⟩
  exact ⟨rfl, Lib.hid (((Below.refl w.heap.size w).alloc (Nat.le_refl _) _).trans (hs.below (Below.refl _ _)))⟩
theorem CTableM {g pc n : Nat} {ps : List Part} {cs : Array Value} {x : Int} {w w1 : World} (hn : ps.length = n) (hg : g = w.heap.size) (hs : Same (w.alloc (.cells cs 23)) w1) (hcs : (ps.map pv).toArray = cs) (hT : Turns w) (h : Parts w ps) (hl : n ≤ 140737488355328) (hx : crcN (flat ps) = x) :
    Calls Tryd.prog 16 #[.slice (some ⟨g, 0, none⟩) n pc] w1 fun e w' => e = .returned (.int .u16 x) ∧ Hid (Below w.heap.size w w') := by
  subst hcs; exact CTableL hn hg hs hT h (hn ▸ hl) hx
theorem CTableN {w w1 : World} (hs : Same w w1) (hT : Turns w) : Calls Tryd.prog 16 #[.slice none 0 0] w1 fun e w' => e = .returned (.int .u16 65535) ∧ Hid (Below w.heap.size w w') := by
  refine (CTableC (pc := 0) (B := w.heap.size) (P := none) (ps := []) (hs.turns hT) (by simp) row_none (fun p hp => by cases hp)).mono ?_
  rintro e w2 ⟨rfl, rfl⟩
  exact ⟨rfl, Lib.hid (hs.below (Below.refl _ _))⟩
theorem CBitsL {g pc n : Nat} {ps : List Part} {x : Int} {w w1 : World} (hn : ps.length = n) (hg : g = w.heap.size) (hs : Same (w.alloc (.cells (ps.map pv).toArray 23)) w1) (hT : Turns w) (h : Parts w ps) (hl : ps.length ≤ 140737488355328) (hx : crcN (flat ps) = x) :
    Calls Tryd.prog 15 #[.slice (some ⟨g, 0, none⟩) n pc] w1 fun e w' => e = .returned (.int .u16 x) ∧ Hid (Below w.heap.size w w') := by
  subst hx hn
  refine (CBitsC (pc := pc) (B := w.heap.size + 1) (ps := ps) (hs.turns (hT.fr0 ((Fr.refl (fun _ => False) w).alloc _))) hl (hs.row (row_vals (t := 23) (f := pv) (fun _ => rfl) (Blk.new_at hg) (by omega)))
    (fun p hp => ⟨(hs.row ((h p hp).1.below ((Below.refl w.heap.size w).alloc (Nat.le_refl _) _))).more_ (by omega), (h p hp).2⟩)).mono ?_
  rintro e w2 ⟨rfl, rfl⟩
  exact ⟨rfl, Lib.hid (((Below.refl w.heap.size w).alloc (Nat.le_refl _) _).trans (hs.below (Below.refl _ _)))⟩
theorem CBitsM {g pc n : Nat} {ps : List Part} {cs : Array Value} {x : Int} {w w1 : World} (hn : ps.length = n) (hg : g = w.heap.size) (hs : Same (w.alloc (.cells cs 23)) w1) (hcs : (ps.map pv).toArray = cs) (hT : Turns w) (h : Parts w ps) (hl : n ≤ 140737488355328) (hx : crcN (flat ps) = x) :
    Calls Tryd.prog 15 #[.slice (some ⟨g, 0, none⟩) n pc] w1 fun e w' => e = .returned (.int .u16 x) ∧ Hid (Below w.heap.size w w') := by
  subst hcs; exact CBitsL hn hg hs hT h (hn ▸ hl) hx
theorem CBitsN {w w1 : World} (hs : Same w w1) (hT : Turns w) : Calls Tryd.prog 15 #[.slice none 0 0] w1 fun e w' => e = .returned (.int .u16 65535) ∧ Hid (Below w.heap.size w w') := by
  refine (CBitsC (pc := 0) (B := w.heap.size) (P := none) (ps := []) (hs.turns hT) (by simp) row_none (fun p hp => by cases hp)).mono ?_
  rintro e w2 ⟨rfl, rfl⟩
  exact ⟨rfl, Lib.hid (hs.below (Below.refl _ _))⟩
theorem CAppendE {A : Option Addr} {c n n2 : Nat} {l m : List Int} {w w1 : World} (hn : l.length = n) (hn2 : n + 2 = n2) (hm : l ++ be (crcN l) 2 = m) (hs : Same w w1) (hT : Turns w) (h : RowOf c8 1 w w.heap.size A l) (ha : ∀ ad, A = some ad → ad.block < w.heap.size) (hi : InB l) (hl : n + 4 ≤ 140737488355328) :
    Calls Tryd.prog 18 #[.slice A n c] w1 fun e w' => ∃ A' c', e = .returned (.slice A' n2 c') ∧ Hid (Made w.heap.size A' c' m w') ∧ Hid (Below w.heap.size w w') := by
  subst hn hn2 hm
  refine (CAppendC (c := c) (hs.turns hT) (hs.row0 h) (by rw [hs.size]; exact ha) hi hl).mono ?_
  rintro e w2 ⟨A', c', rfl, H, F⟩
  exact ⟨A', c', rfl, hs.size ▸ H, Lib.hid (hs.fr F.out).below0⟩
theorem CValidE {A : Option Addr} {c n : Nat} {b : Bool} {l : List Int} {w w1 : World} (hn : l.length = n) (hv : valid l = b) (hs : Same w w1) (hT : Turns w) (h : RowOf c8 1 w w.heap.size A l) (hi : InB l) (hl : n ≤ 140737488355328) (hc : n ≤ c) (hcm : c ≤ 9223372036854775807) :
    Calls Tryd.prog 17 #[.slice A n c] w1 fun e w' => e = .returned (.bool b) ∧ Hid (Below w.heap.size w w') := by
  subst hn hv
  refine (CValidC (hs.turns hT) (hs.row0 h) hi hl hc hcm).mono ?_
  rintro e w2 ⟨rfl, H⟩
  exact ⟨rfl, Lib.hid (hs.below (hs.size ▸ H.out))⟩
abbrev l9 : List Int := [49, 50, 51, 52, 53, 54, 55, 56, 57]
theorem crc9 : crcN l9 = 10673 := of_decide_eq_true (by kernel_rfl)
abbrev l11 : List Int := [49, 50, 51, 52, 53, 54, 55, 56, 57, 41, 177]
theorem be9 : l9 ++ be (crcN l9) 2 = l11 := by rw [crc9]; rfl
theorem inB9 : InB l9 := inB_of (by decide)
theorem inB11 : InB l11 := inB_of (by decide)
theorem made_cap {B : Nat} {A : Option Addr} {c : Nat} {l : List Int} {w : World} (h : Made B A c l w) : c ≤ 9223372036854775807 := by
  rcases h.1.2 with ⟨hv, h0⟩ | ⟨g, cap, cur, hv, _, _, _, hm, _⟩
  · injection hv with _ _ h; omega
  · injection hv with _ _ h; unfold maxLen at hm; omega
set_option maxHeartbeats 8000000 in
set_option maxRecDepth 10000 in
theorem shown2_walk {w : World} (hT : Turns w) : Calls Tryd.prog 12 #[] w fun e w' => e = .returned (.bool true) ∧ Hid (Below w.heap.size w w') := by
  have kc := kconv w
  obtain ⟨W, hW⟩ : ∃ W, w.alloc (.cells #[.int .u8 49, .int .u8 50, .int .u8 51, .int .u8 52, .int .u8 53, .int .u8 54, .int .u8 55, .int .u8 56, .int .u8 57] 5 (9, 10)) = W := ⟨_, rfl⟩
  have hs : W.heap.size = w.heap.size + 1 := by rw [← hW]; simp
  have HB : Hid (Below w.heap.size w W) := Lib.hid (by rw [← hW]; exact (Below.refl _ w).alloc (Nat.le_refl _) _)
  have hR : RowOf c8 1 W W.heap.size (some ⟨w.heap.size, 0, none⟩) l9 := row_lit (fr := (9, 10)) (by rw [← hW]; exact heap_alloc_new w _) (by omega)
  have hTW : Turns W := hT.below HB.out hT.lt
  have HR := Lib.hid hR
  have HA : Hid (∀ ad, some (⟨w.heap.size, 0, none⟩ : Addr) = some ad → ad.block < W.heap.size) := Lib.hid (fun ad e => by injection e with e; subst e; show w.heap.size < _; omega)
  have HP : Hid (Parts W [(some ⟨w.heap.size, 0, none⟩, 9, l9)]) := Lib.hid (Parts.cons HR.out inB9 (by decide) (Parts.nil _))
  have HP2 : Hid (Parts W [(some ⟨w.heap.size, 0, none⟩, 9, [49, 50, 51, 52]), (some ⟨w.heap.size, 4, none⟩, 5, [53, 54, 55, 56, 57])]) := Lib.hid (Parts.cons (HR.out.take_ 4) (inB_of (by decide)) (by decide) (Parts.cons (HR.out.drop_ (cap := 9) 4 (by decide)) (inB_of (by decide)) (by decide) (Parts.nil _)))
  have HTB : Hid (∀ w' : World, Below W.heap.size W w' → Turns w') := Lib.hid (fun w' b => hTW.below b (by have := hT.lt; omega))
  have hi4 : ∀ X, (Instr.slice 23 (.slice (some ⟨w.heap.size, 0, none⟩) 9 9) none (some (.int .i64 4)) none).run Tryd.prog X = .ok (.slice (some ⟨w.heap.size, 0, none⟩) 4 9) X := fun X => bcut_hi _ 9 9 4 (by omega) X
  have lo4 : ∀ X, (Instr.slice 23 (.slice (some ⟨w.heap.size, 0, none⟩) 9 9) (some (.int .i64 4)) none none).run Tryd.prog X = .ok (.slice (some ⟨w.heap.size, 4, none⟩) 5 5) X := fun X => bcut_lo _ 9 9 4 (by omega) (by omega) (by omega) X
  have k1 : Hid True := Lib.hid trivial
  clear hs hR
  go_enter Tryd.func12, Tryd.ntmps12
  go_wp2
  clear kc hW
  go_region_held (fun _ => True) (trivial) (first
    | (go_at_call 15; have _t := k1; refine Calls.mono (CBitsL (x := 10673) (ps := [(some ⟨w.heap.size, 0, none⟩, 9, l9)]) rfl rfl ⟨rfl, rfl, rfl, rfl⟩ hTW HP.out (by simp) (by rw [flat_one]; exact crc9)) ?_; rintro e w2 ⟨rfl, H2⟩; have B2 := H2; have hT2 := HTB.out _ B2.out; have k2 := k1; clear k1 H2)
    | (go_at_call 16; have _t := k2; refine Calls.mono (CTableL (x := 10673) (ps := [(some ⟨w.heap.size, 0, none⟩, 9, [49, 50, 51, 52]), (some ⟨w.heap.size, 4, none⟩, 5, [53, 54, 55, 56, 57])]) rfl rfl ⟨rfl, rfl, rfl, rfl⟩ hT2 (HP2.out.below B2.out) (by simp) (by simp only [flat, List.flatMap_cons, List.flatMap_nil]; exact crc9)) ?_; rintro e w3 ⟨rfl, H3⟩; have B3 := Lib.hid (B2.out.trans (H3.out.mono B2.out.size)); have hT3 := HTB.out _ B3.out; have k3 := k2; clear k2 H3)
    | (go_at_call 15; have _t := k3; refine Calls.mono (CBitsN (w := w3) ⟨rfl, rfl, rfl, rfl⟩ hT3) ?_; rintro e w4 ⟨rfl, H4⟩; have B4 := Lib.hid (B3.out.trans (H4.out.mono B3.out.size)); have hT4 := HTB.out _ B4.out; have k4 := k3; clear k3 H4)
    | (go_at_call 18; have _t := k4; refine Calls.mono (CAppendE (w := w4) (l := l9) rfl rfl be9 ⟨rfl, rfl, rfl, rfl⟩ hT4 (HR.out.now B4.out) (fun ad e => Nat.lt_of_lt_of_le (HA.out ad e) B4.out.size) inB9 (by decide)) ?_; rintro e w5 ⟨A5, c5, rfl, H5, F5⟩; have B5 := Lib.hid (B4.out.trans (F5.out.mono B4.out.size)); have hT5 := HTB.out _ B5.out; have s5 : ∀ n, (convert 23 9 (.slice A5 11 c5)).run Tryd.prog (w5.drewN n) = .ok (.string ⟨#[49, 50, 51, 52, 53, 54, 55, 56, 57, 41, 177]⟩) (w5.drewN n) := fun n => str_row (l := l11) (H5.out.2.1.drewN_ n); have s5a : (convert 23 9 (.slice A5 11 c5)).run Tryd.prog w5 = .ok (.string ⟨#[49, 50, 51, 52, 53, 54, 55, 56, 57, 41, 177]⟩) w5 := str_row (l := l11) H5.out.2.1; have k5 := k4; clear k4 H5 F5)
    | (go_at_call 18; have _t := k5; refine Calls.mono (CAppendE (w := w5) (l := l9) rfl rfl be9 ⟨rfl, rfl, rfl, rfl⟩ hT5 (HR.out.now B5.out) (fun ad e => Nat.lt_of_lt_of_le (HA.out ad e) B5.out.size) inB9 (by decide)) ?_; rintro e w6 ⟨A6, c6, rfl, H6, F6⟩; have B6 := Lib.hid (B5.out.trans (F6.out.mono B5.out.size)); have hT6 := HTB.out _ B6.out; have k6 := k5; clear k5 F6)
    | (go_at_call 17; have _t := k6; refine Calls.mono (CValidE (w := w6) (l := l11) (b := true) rfl (of_decide_eq_true (by kernel_rfl)) ⟨rfl, rfl, rfl, rfl⟩ hT6 H6.out.2.1 inB11 (by decide) H6.out.2.2 (made_cap H6.out)) ?_; rintro e w7 ⟨rfl, H7⟩; have B7 := Lib.hid (B6.out.trans (H7.out.mono B6.out.size)); have hT7 := HTB.out _ B7.out; have k7 := k6; clear k6 H6 H7)
    | (go_at_call 17; have _t := k7; refine Calls.mono (CValidE (w := w7) (l := l9) (b := false) rfl (of_decide_eq_true (by kernel_rfl)) ⟨rfl, rfl, rfl, rfl⟩ hT7 (HR.out.now B7.out) inB9 (by decide) (by decide) (by decide)) ?_; rintro e w8 ⟨rfl, H8⟩; have B8 := Lib.hid (B7.out.trans (H8.out.mono B7.out.size)); have hT8 := HTB.out _ B8.out; have k8 := k7; clear k7 H8)
    | (go_at_call 17; have _t := k8; refine Calls.mono (CValidE (w := w8) (l := []) (b := false) rfl rfl ⟨rfl, rfl, rfl, rfl⟩ hT8 row_none (fun x h => by cases h) (by decide) (by decide) (by decide)) ?_; rintro e w9 ⟨rfl, H9⟩; have B9 := Lib.hid (B8.out.trans (H9.out.mono B8.out.size)); clear k8 H9))
  all_goals
    go_wp2
    go_ret
    exact ⟨rfl, Lib.hid (HB.out.trans (B9.out.mono HB.out.size))⟩
end Go.Proofs.YtimlkmblfjoigaaDoor.K
