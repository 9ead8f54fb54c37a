/- What must be in any case: shown of layer 1. -/
import Derived.Test.YtfpjooekpjhbpaaDoorStr
import Derived.Lib.SmallJoins
import Derived.WalkSpells
import Derived.Lib.SlBytesConst
namespace Go.Proofs.YtfpjooekpjhbpaaDoor.K
open Go.RowKit
set_option linter.unusedVariables false
set_option linter.unusedSimpArgs false
theorem RU8_is {r : Nat} {G : Option Nat} {l m : List Int} {x : Int} {w : World} (h : Rd r G l w) (hn : 1 ≤ l.length) (hb : InB l) (hx : num (l.take 1) = x) (hm : l.drop 1 = m) :
    Calls Tryd.prog 27 #[.pointer (some ⟨r, 0, none⟩)] w fun e w' => e = .returned (.tuple #[.int .u8 x, .int .i64 0]) ∧ Hid (Rd r G m w') ∧ Hid (Fr1 r w w') := by subst hx hm; exact RU8_ok h hn hb
theorem RU16_is {r : Nat} {G : Option Nat} {l m : List Int} {x : Int} {w : World} (h : Rd r G l w) (hn : 2 ≤ l.length) (hb : InB l) (hx : num (l.take 2) = x) (hm : l.drop 2 = m) :
    Calls Tryd.prog 25 #[.pointer (some ⟨r, 0, none⟩)] w fun e w' => e = .returned (.tuple #[.int .u16 x, .int .i64 0]) ∧ Hid (Rd r G m w') ∧ Hid (Fr1 r w w') := by subst hx hm; exact RU16_ok h hn hb
theorem RU32_is {r : Nat} {G : Option Nat} {l m : List Int} {x : Int} {w : World} (h : Rd r G l w) (hn : 4 ≤ l.length) (hb : InB l) (hx : num (l.take 4) = x) (hm : l.drop 4 = m) :
    Calls Tryd.prog 23 #[.pointer (some ⟨r, 0, none⟩)] w fun e w' => e = .returned (.tuple #[.int .u32 x, .int .i64 0]) ∧ Hid (Rd r G m w') ∧ Hid (Fr1 r w w') := by subst hx hm; exact RU32_ok h hn hb
theorem inB_of {l : List Int} (h : (l.all fun x => decide (0 ≤ x) && decide (x < 256)) = true) : InB l := fun x hx => by
  have := List.all_eq_true.1 h x hx
  simpa using this
theorem Wrt.fr {b : Nat} {v : Value} {l : List Int} {S : Nat → Prop} {w w' : World} (h : Wrt b v l w) (k : Fr S w w') (hb : ¬ S b) (hv : ∀ j, v.ownBlock = some j → ¬ S j) : Wrt b v l w' := by
  obtain ⟨⟨lr, h1⟩, h2, h3⟩ := h
  exact ⟨⟨lr, h1.fr k hb⟩, own_fr h2 k hv, h3⟩
theorem Wrt.alloc {b : Nat} {v : Value} {l : List Int} {w : World} (h : Wrt b v l w) (o : Obj) : Wrt b v l (w.alloc o) := h.fr ((Fr.refl (fun _ => False) w).alloc o) (fun h => h) (fun _ _ h => h)
theorem Wrt.lt {b : Nat} {v : Value} {l : List Int} {w : World} (h : Wrt b v l w) : b < w.heap.size := by obtain ⟨⟨lr, h1⟩, _⟩ := h; exact h1.lt
theorem Wrt.ltv {b : Nat} {v : Value} {l : List Int} {w : World} (h : Wrt b v l w) : ∀ j, v.ownBlock = some j → j < w.heap.size := fun j e => (h.2.1.lt j e).2
theorem row_vals {α : Type} {c : α → List Value} {f : α → Value} {w : World} {g B : Nat} {t : TypeId} {l : List α} (hc : ∀ x, c x = [f x]) (h : Blk w g t (l.map f).toArray) (hg : g < B) : RowOf c 1 w B (some ⟨g, 0, none⟩) l := by
  intro i x hx
  refine ⟨_, rfl, hg, fun j u hu => ?_⟩
  rw [hc] at hu
  match j, hu with
  | 0, hu =>
    simp at hu; subst hu
    rw [add_plain, h.cell]
    simp [hx]
/-- What lies in a block that is neither a Writer's own nor its row's. -/
theorem away_ge {b : Nat} {v : Value} {w : World} {g o n : Nat} (hg : n ≤ g) (hgw : g < w.heap.size) (hb : b < n) (hv : ∀ j, v.ownBlock = some j → j < n) : Away b v w (some ⟨g, o, none⟩) := fun ad e => by
  injection e with e; subst e
  refine ⟨hgw, ?_, fun e => ?_⟩
  · show g ≠ b
    omega
  · have := hv _ e
    simp at this; omega
theorem away_none {b : Nat} {v : Value} {w : World} : Away b v w none := fun ad e => by cases e
theorem row_none {α : Type} {c : α → List Value} {size : Nat} {w : World} {B : Nat} : RowOf c size w B none ([] : List α) := fun i x h => by simp at h
theorem JoinE {pc : Nat} {P : Option Addr} {ps : List Part} {m : List Int} {w : World} (hm : flat ps = m) (hlim : m.length ≤ 140737488355328) (hps : ps.length ≤ 140737488355328)
    (hP : RowOf cP 1 w w.heap.size P ps) (hPa : ∀ ad, P = some ad → ad.block < w.heap.size) (hp : ∀ p ∈ ps, RowOf c8 1 w w.heap.size p.1 p.2.2 ∧ ∀ ad, p.1 = some ad → ad.block < w.heap.size) :
    Calls Tryd.prog 13 #[.slice P ps.length pc] w fun e w' => ∃ A' c', e = .returned (.slice A' m.length c') ∧ Hid (Made w.heap.size A' c' m w') ∧ Hid (Fr0 w w') := by subst hm; exact JoinC hlim hps hP hPa hp
theorem row_lit {w : World} {g B : Nat} {l : List Int} {fr : Nat × Nat} (h : w.heap[g]? = some (.cells (nums .u8 l).toArray 5 fr)) (hg : g < B) : RowOf c8 1 w B (some ⟨g, 0, none⟩) l := by
  intro i x hx
  refine ⟨_, rfl, hg, fun j u hu => ?_⟩
  match j, hu with
  | 0, hu =>
    simp at hu; subst hu
    rw [add_plain, cell_of_row w g _ _ _ _ h]
    simp [nums, hx]
theorem heap_alloc_old {w : World} {g : Nat} {x : Obj} (h : w.heap[g]? = some x) (o : Obj) : (w.alloc o).heap[g]? = some x := by
  have : g < w.heap.size := by
    rcases Nat.lt_or_ge g w.heap.size with hlt | hge
    · exact hlt
    · rw [Array.getElem?_eq_none hge] at h; cases h
  exact (Below.heap_alloc w o g this).trans h
theorem Blk.new_at {w : World} {t : TypeId} {cs : Array Value} {g : Nat} (hg : g = w.heap.size) : Blk (w.alloc (.cells cs t)) g t cs := by subst hg; exact Blk.new w t cs
theorem heap_new_at {w : World} {o : Obj} {g : Nat} (hg : g = w.heap.size) : (w.alloc o).heap[g]? = some o := by subst hg; exact heap_alloc_new w o
theorem kconv (w : World) (C : Array Value) (n c : Nat) : (convert 26 26 (.slice (some ⟨w.heap.size, 0, none⟩) n c)).run Tryd.prog (w.alloc (.cells C 5)) = .ok (.slice (some ⟨w.heap.size, 0, none⟩) n c) (w.alloc (.cells C 5 (C.size, C.size + 1))) := Lib.run_convert_bytes_const (P := Tryd.prog) w 26 5 C n c Tryd.underlying26 Tryd.underlying5
theorem kconv1 (w : World) (o : Obj) (C : Array Value) (n c : Nat) : (convert 26 26 (.slice (some ⟨w.heap.size + 1, 0, none⟩) n c)).run Tryd.prog ((w.alloc o).alloc (.cells C 5)) = .ok (.slice (some ⟨w.heap.size + 1, 0, none⟩) n c) ((w.alloc o).alloc (.cells C 5 (C.size, C.size + 1))) := Joins.run_convert_bytes_const_at (P := Tryd.prog) (w.alloc o) 26 5 C n c _ (by simp) Tryd.underlying26 Tryd.underlying5
theorem Wrt.to {b : Nat} {v : Value} {l m : List Int} {w : World} (h : Wrt b v l w) (e : l = m) : Wrt b v m w := e ▸ h
theorem fr1_below {r B : Nat} {w w1 w2 : World} (h : Below B w w1) (k : Fr1 r w1 w2) (hr : B ≤ r) (hB : B ≤ w.heap.size) : Below B w w2 :=
  below_fr h k (below_size h hB) (fun j e => by omega)
theorem fr0_below {B : Nat} {w w1 w2 : World} (h : Below B w w1) (k : Fr0 w1 w2) (hB : B ≤ w.heap.size) : Below B w w2 :=
  below_fr h k (below_size h hB) (fun j e => e.elim)
theorem wfr_below {b B : Nat} {v v' : Value} {w w1 w2 : World} (h : Below B w w1) (k : WFr b v v' w1 w2) (hb : B ≤ b) (hv : ∀ j, v.ownBlock = some j → B ≤ j) (hB : B ≤ w.heap.size) : Below B w w2 :=
  below_fr h k.fr (below_size h hB) (fun j e => by
    rcases e with e | e
    · omega
    · exact hv j e)
theorem wfr_base {b B : Nat} {v v' : Value} {w w' : World} (k : WFr b v v' w w') (hv : ∀ j, v.ownBlock = some j → B ≤ j) (hB : B ≤ w.heap.size) : ∀ j, v'.ownBlock = some j → B ≤ j := fun j e => by
  rcases k.row j e with h | h
  · exact hv j h
  · omega
theorem base_nil (B : Nat) : ∀ j, (Value.slice none 0 0).ownBlock = some j → B ≤ j := fun j e => by simp [Value.ownBlock] at e
set_option maxHeartbeats 4000000 in
set_option maxRecDepth 10000 in
theorem shown1_walk (w : World) : Calls Tryd.prog 11 #[] w fun e w' => e = .returned (.bool true) ∧ Hid (Below w.heap.size w w') := by
  go_enter Tryd.func11, Tryd.ntmps11
  go_wp2_with fail
  refine (ReadC (l := [2, 1, 0, 0, 1, 0, 9]) (by decide) (row_blk (Blk.new w _ _) (by simp))).mono ?_
  rintro e w1 ⟨r, G, rfl, hr, hG, H1, F1⟩
  have b1 : Below w.heap.size w w1 := fr0_below ((Below.refl _ w).alloc (Nat.le_refl _) _) F1.out (Nat.le_refl _)
  have B1 := Lib.hid b1
  have HR : Hid (w.heap.size ≤ r) := Lib.hid (by simp at hr; omega)
  have hG1 : Hid (∀ g, G = some g → w.heap.size ≤ g) := Lib.hid (fun g e => by have := hG g e; simp at this; omega)
  clear hr hG b1 F1
  go_wp2_with fail
  refine (RU16_is (x := 513) (m := [0, 0, 1, 0, 9]) H1.out (by decide) (inB_of (by decide)) (by decide) rfl).mono ?_
  rintro e w2 ⟨rfl, H2, F2⟩
  have B2 := Lib.hid (fr1_below B1.out F2.out HR.out (Nat.le_refl _))
  clear B1 F2
  go_wp2_with fail
  refine (RU32_is (x := 256) (m := [9]) H2.out (by decide) (inB_of (by decide)) (by decide) rfl).mono ?_
  rintro e w3 ⟨rfl, H3, F3⟩
  have B3 := Lib.hid (fr1_below B2.out F3.out HR.out (Nat.le_refl _))
  clear B2 F3
  go_wp2_with fail
  refine (RU16_short H3.out (by decide)).mono ?_
  rintro e w4 ⟨rfl, rfl⟩
  go_wp2_with fail
  refine (LeftC H3.out).mono ?_
  rintro e w5 ⟨rfl, rfl⟩
  go_wp2_with fail
  refine (RDoneC H3.out).mono ?_
  rintro e w6 ⟨rfl, rfl⟩
  go_wp2_with fail
  refine (WU16_own (n := 513) (wrt_new w6) (by decide) (by decide) (by decide)).mono ?_
  rintro e w7 ⟨rfl, v7, H7, F7⟩
  have hs6 := B3.out.size
  have B7 := Lib.hid (wfr_below (B3.out.alloc (by omega) _) F7.out (by omega) (base_nil _) (Nat.le_refl _))
  have V7 := Lib.hid (wfr_base F7.out (base_nil w.heap.size) (by simp; omega))
  have hb7 : Hid (w.heap.size ≤ w6.heap.size ∧ w6.heap.size < w7.heap.size) := Lib.hid ⟨hs6, by have := F7.out.fr.size; simp at this; omega⟩
  generalize w6.heap.size = b7 at *
  clear F7 B3 H3
  have HV := Lib.hid H7.out.ltv
  have HLT := Lib.hid H7.out.lt
  have H7 : Hid (Wrt b7 v7 [2, 1] w7) := Lib.hid (H7.out.to (by decide))
  have kc := kconv w7
  have kc1 := kconv1 w7
  go_wp2_with fail
  refine (WBytes_own (v := v7) (l := [2, 1]) (ps := [(some ⟨w7.heap.size, 0, none⟩, 1, [97]), (none, 0, []), (some ⟨w7.heap.size + 1, 0, none⟩, 2, [98, 99])]) (B := w7.heap.size + 3) ?c0 ?c1 ?c2 ?c3 ?c4 ?c5 ?_).mono ?_
  case c0 => exact ((H7.out.alloc _).alloc _).alloc _
  case c1 => simp [flat]
  case c2 => simp
  case c3 => exact row_vals (t := 26) (f := fun p => .slice p.1 p.2.2.length p.2.1) (fun _ => rfl) (Blk.new_at (by simp)) (by omega)
  case c4 => simp
  case c5 => exact away_ge (n := w7.heap.size) (by omega) (by simp) HLT.out HV.out
  · intro p hp
    simp only [List.mem_cons, List.not_mem_nil, or_false] at hp
    rcases hp with rfl | rfl | rfl
    · exact ⟨row_lit (heap_alloc_old (heap_alloc_old (heap_alloc_new _ _) _) _) (by omega), away_ge (n := w7.heap.size) (by omega) (by simp; omega) HLT.out HV.out⟩
    · exact ⟨row_none, away_none⟩
    · exact ⟨row_lit (heap_alloc_old (heap_new_at (by simp)) _) (by omega), away_ge (n := w7.heap.size) (by omega) (by simp) HLT.out HV.out⟩
  rintro e w8 ⟨rfl, v8, H8, F8⟩
  clear kc kc1
  have hs7 := B7.out.size
  have b8 := wfr_below (((B7.out.alloc hs7 _).alloc (by simp; omega) _).alloc (by simp; omega) _) F8.out hs6 V7.out (Nat.le_refl _)
  have B8 := Lib.hid b8
  have H8 : Hid (Wrt b7 v8 [2, 1, 97, 98, 99] w8) := Lib.hid (H8.out.to rfl)
  have hs8 := b8.size
  clear F8 H7 B7 V7 HV HLT b8
  go_wp2_with fail
  refine (WDoneC H8.out (by decide)).mono ?_
  rintro e w9 ⟨A9, c9, rfl, H9, F9⟩
  have b9 := fr0_below B8.out F9.out (Nat.le_refl _)
  have hs9 := b9.size
  have B9 := Lib.hid b9
  have hstr : (convert 26 9 (.slice A9 5 c9)).run Tryd.prog w9 = .ok (.string ⟨#[2, 1, 97, 98, 99]⟩) w9 := str_row (l := [2, 1, 97, 98, 99]) H9.out.2.1
  clear b9 F9 H9 H8 B8
  have kc := kconv w9
  have kc1 := kconv1 w9
  go_wp2_with fail
  refine (JoinE (m := [120, 121]) (ps := [(some ⟨w9.heap.size, 0, none⟩, 1, [120]), (some ⟨w9.heap.size + 1, 0, none⟩, 1, [121])]) rfl ?d1 ?d2 ?d3 ?d4 ?_).mono ?_
  case d1 => simp [flat]
  case d2 => simp
  case d3 => exact row_vals (t := 26) (f := fun p => .slice p.1 p.2.2.length p.2.1) (fun _ => rfl) (Blk.new_at (by simp)) (by simp)
  case d4 => intro ad e; injection e with e; subst e; simp
  · intro p hp
    simp only [List.mem_cons, List.not_mem_nil, or_false] at hp
    rcases hp with rfl | rfl
    · exact ⟨row_lit (heap_alloc_old (heap_alloc_old (heap_alloc_new _ _) _) _) (by simp; omega), fun ad e => by injection e with e; subst e; simp; omega⟩
    · exact ⟨row_lit (heap_alloc_old (heap_new_at (by simp)) _) (by simp), fun ad e => by injection e with e; subst e; simp⟩
  rintro e w10 ⟨A10, c10, rfl, H10, F10⟩
  have b10 := fr0_below (((B9.out.alloc hs9 _).alloc (by simp; omega) _).alloc (by simp; omega) _) F10.out (Nat.le_refl _)
  have B10 := Lib.hid b10
  have hstr2 : (convert 26 9 (.slice A10 2 c10)).run Tryd.prog w10 = .ok (.string ⟨#[120, 121]⟩) w10 := str_row (l := [120, 121]) H10.out.2.1
  clear b10 F10 H10 kc kc1 hstr
  go_wp2
  go_ret
  exact ⟨rfl, B10⟩
end Go.Proofs.YtfpjooekpjhbpaaDoor.K
