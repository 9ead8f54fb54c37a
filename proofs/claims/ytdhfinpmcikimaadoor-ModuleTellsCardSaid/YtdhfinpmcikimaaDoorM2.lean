/- The slave: what each of its functions does. -/
import Derived.Test.YtdhfinpmcikimaaDoorM1
import Derived.Test.YtdhfinpmcikimaaDoorWd
import Derived.Laws.ResultCell
import Derived.Deep.CutRange
import Derived.BigQuiet
namespace Go.Proofs.YtdhfinpmcikimaaDoor.K
open Go.RowKit
set_option linter.unusedVariables false
set_option linter.unusedSimpArgs false
/-- A frame. -/
structure Fm where
  addr : Int
  kind : Int
  ses : Int
  seq : Int
  ack : Int
  B : List Int
abbrev fmv (f : Fm) (A : Option Addr) (c : Nat) : Array Value := #[.int .u8 f.addr, .int .u8 f.kind, .int .u8 f.ses, .int .u8 f.seq, .int .u8 f.ack, .slice A f.B.length c]
/-- A slave. -/
structure Sl where
  num : Int
  tells : Int
  next : Int
  addr : Int
  pend : List Int
abbrev slv (st : Sl) (A : Option Addr) (c : Nat) : Array Value := #[.int .u8 st.num, .int .u8 st.tells, .int .u8 st.next, .int .u8 st.addr, .slice A st.pend.length c]
structure SlB (B s : Nat) (A : Option Addr) (c : Nat) (st : Sl) (w : World) : Prop where
  blk : Blk w s 121 (slv st A c)
  made : Made B A c st.pend w
  low : B ≤ s
  bits : (st.tells = 0 ∨ st.tells = 1) ∧ (st.next = 0 ∨ st.next = 1)
theorem SlB.fr {B s : Nat} {A : Option Addr} {c : Nat} {st : Sl} {S : Nat → Prop} {w w' : World} (h : SlB B s A c st w) (k : Fr S w w') (hs : ∀ j, B ≤ j → j < w.heap.size → ¬ S j) : SlB B s A c st w' :=
  ⟨h.blk.fr k (hs s h.low h.blk.lt), by
    obtain ⟨A', c', e, hm⟩ := made_of (own_fr h.made.1 k (fun j e => hs j (h.made.1.lt j e).1 (h.made.1.lt j e).2))
    injection e with e1 _ e3
    subst e1 e3
    exact hm, h.low, h.bits⟩
theorem made_nil (B : Nat) (w : World) : Made B none 0 [] w := ⟨own_nil _ _ _ _, (fun i x hx => by simp at hx), Nat.le_refl _⟩
theorem SlNewC (a : Int) (w : World) : Calls Tryd.prog 37 #[.int .u8 a] w fun e w' => e = .returned (.pointer (some ⟨w.heap.size, 0, none⟩)) ∧ Hid (SlB w.heap.size w.heap.size none 0 ⟨0, 0, 0, a, []⟩ w') ∧ Hid (Fr0 w w') := by
  have hb : SlB w.heap.size w.heap.size none 0 ⟨0, 0, 0, a, []⟩ (w.alloc (.cells (slv ⟨0, 0, 0, a, []⟩ none 0) 121)) := ⟨Blk.new w _ _, made_nil _ _, Nat.le_refl _, .inl rfl, .inl rfl⟩
  have HB := Lib.hid hb
  clear hb
  go_enter Tryd.func37, Tryd.ntmps37
  go_wp2
  go_ret
  exact ⟨rfl, HB, Lib.hid ((Fr.refl _ w).alloc _)⟩
theorem SlPendingC {B s : Nat} {A : Option Addr} {c : Nat} {st : Sl} {w : World} (h : SlB B s A c st w) : Calls Tryd.prog 54 #[.pointer (some ⟨s, 0, none⟩)] w fun e w' => e = .returned (.bool (decide (0 < st.pend.length))) ∧ w' = w := by
  have c4 := h.blk.cell 4
  clear h
  go_enter Tryd.func54, Tryd.ntmps54
  go_wp2
  go_ret
  exact ⟨rfl, rfl⟩
theorem SlIsC (n t x : Int) (f : Fm) (A : Option Addr) (c : Nat) (w : World) : Calls Tryd.prog 53 #[.agg #[.int .u8 n, .int .u8 t, .int .u8 x], .agg (fmv f A c)] w fun e w' => e = .returned (.bool (decide (n ≠ 0 ∧ f.ses = n))) ∧ Hid (Fr0 w w') := by
  have HF : Hid (Fr0 w ((w.alloc (.cells #[.int .u8 n, .int .u8 t, .int .u8 x] 119)).alloc (.cells (fmv f A c) 54))) := Lib.hid (((Fr.refl _ w).alloc _).alloc _)
  by_cases h0 : n = 0
  · subst h0
    go_enter Tryd.func53, Tryd.ntmps53
    go_wp2
    go_ret
    exact ⟨ret_bool (by simp), HF⟩
  · have hb : (n != 0) = true := by simp [h0]
    have HN := Lib.hid h0
    clear h0
    go_enter Tryd.func53, Tryd.ntmps53
    go_wp2
    go_ret
    exact ⟨ret_bool (by have := HN.out; rw [Bool.eq_iff_iff]; simp [this]), HF⟩
/-- A frame is stored whole. -/
abbrev stF (w : World) (g : Nat) (f : Fm) (A : Option Addr) (c : Nat) : World := (((((w.setCell ⟨g, 0, none⟩ (.int .u8 f.addr)).setCell ⟨g, 1, none⟩ (.int .u8 f.kind)).setCell ⟨g, 2, none⟩ (.int .u8 f.ses)).setCell ⟨g, 3, none⟩ (.int .u8 f.seq)).setCell ⟨g, 4, none⟩ (.int .u8 f.ack)).setCell ⟨g, 5, none⟩ (.slice A f.B.length c)
theorem stF_blk {w : World} {g : Nat} {t : TypeId} {f0 f : Fm} {A0 A : Option Addr} {c0 c : Nat} (h : Blk w g t (fmv f0 A0 c0)) : Blk (stF w g f A c) g t (fmv f A c) := by
  simpa using (((((h.set_ 0 (.int .u8 f.addr)).set_ 1 (.int .u8 f.kind)).set_ 2 (.int .u8 f.ses)).set_ 3 (.int .u8 f.seq)).set_ 4 (.int .u8 f.ack)).set_ 5 (.slice A f.B.length c)
theorem stF_fr (w : World) (g : Nat) (f : Fm) (A : Option Addr) (c : Nat) : Fr (fun j => j = g) w (stF w g f A c) :=
  ((((((Fr.refl (fun j => j = g) w).setCell (p := ⟨g, 0, none⟩) (fun _ => rfl) _).setCell (p := ⟨g, 1, none⟩) (fun _ => rfl) _).setCell (p := ⟨g, 2, none⟩) (fun _ => rfl) _).setCell (p := ⟨g, 3, none⟩) (fun _ => rfl) _).setCell (p := ⟨g, 4, none⟩) (fun _ => rfl) _).setCell (p := ⟨g, 5, none⟩) (fun _ => rfl) _
theorem SlAnswerC {B s : Nat} {A : Option Addr} {c : Nat} {st : Sl} {w : World} (k : Int) (h : SlB B s A c st w) : Calls Tryd.prog 52 #[.pointer (some ⟨s, 0, none⟩), .int .u8 k] w fun e w' => e = .returned (.agg (fmv ⟨st.addr, k, st.num, 0, 0, []⟩ none 0)) ∧ Hid (Fr0 w w') := by
  have F1 : Fr0 w (w.alloc (.cells #[.int .u8 0, .int .u8 0, .int .u8 0, .int .u8 0, .int .u8 0, .slice none 0 0] 54)) := (Fr.refl (fun _ => False) w).alloc _
  have hb := h.blk.fr F1 (fun h => h)
  have c0 : (w.alloc (.cells #[.int .u8 0, .int .u8 0, .int .u8 0, .int .u8 0, .int .u8 0, .slice none 0 0] 54)).cell? ⟨s, 0, none⟩ = some (.int .u8 st.num) := hb.cell 0
  have c3 : (w.alloc (.cells #[.int .u8 0, .int .u8 0, .int .u8 0, .int .u8 0, .int .u8 0, .slice none 0 0] 54)).cell? ⟨s, 3, none⟩ = some (.int .u8 st.addr) := hb.cell 3
  have hn : Blk (w.alloc (.cells #[.int .u8 0, .int .u8 0, .int .u8 0, .int .u8 0, .int .u8 0, .slice none 0 0] 54)) w.heap.size 54 (fmv ⟨0, 0, 0, 0, 0, []⟩ none 0) := Blk.new w _ _
  have HN := Lib.hid hn
  have HF := Lib.hid F1
  clear h hb F1 hn
  go_enter Tryd.func52, Tryd.ntmps52
  go_wp2_with fail
  go_region
  go_wp2
  refine bodyPost_ret_by (results_cell_row rfl _ _ w.heap.size 54 _ (0, 0) _ rfl (Blk.new w _ _) Tryd.underlying54 rfl (by kernel_rfl)) rfl ?_
  exact ⟨rfl, Lib.hid (((Fr.refl (fun _ => False) w).alloc _).drew)⟩
theorem SlHeardC {B s : Nat} {A : Option Addr} {c : Nat} {st : Sl} {w : World} (h : SlB B s A c st w) : Calls Tryd.prog 55 #[.pointer (some ⟨s, 0, none⟩)] w fun e w' => e = .returned (.tuple #[]) ∧ Hid (SlB B s none 0 ⟨st.num, 1 - st.tells, st.next, st.addr, []⟩ w') ∧ Hid (Fr (fun j => j = s) w w') := by
  obtain ⟨n, t, x, a, pd⟩ := st
  have HH := Lib.hid h
  have b0 := h.blk
  have f4 := b0.frozen 4
  have c4 : w.cell? ⟨s, 4, none⟩ = some (.slice A pd.length c) := b0.cell 4
  have b1 : Blk (w.setCell ⟨s, 4, none⟩ (.slice none 0 0)) s 121 (slv ⟨n, t, x, a, []⟩ none 0) := by simpa [slv] using b0.set_ 4 (.slice none 0 0)
  have f1 := b1.frozen 1
  have c1 : (w.setCell ⟨s, 4, none⟩ (.slice none 0 0)).cell? ⟨s, 1, none⟩ = some (.int .u8 t) := b1.cell 1
  have hend : ∀ u, Blk ((w.setCell ⟨s, 4, none⟩ (.slice none 0 0)).setCell ⟨s, 1, none⟩ (.int .u8 u)) s 121 (slv ⟨n, u, x, a, []⟩ none 0) := fun u => by simpa [slv] using b1.set_ 1 (.int .u8 u)
  have HE := Lib.hid hend
  have HF := Lib.hid (fun u => ((Fr.refl (fun j => j = s) w).setCell (p := ⟨s, 4, none⟩) (fun _ => rfl) (.slice none 0 0)).setCell (p := ⟨s, 1, none⟩) (fun _ => rfl) (.int .u8 u))
  have x0 : bits BinOp.xor IntKind.u8 0 1 = 1 := rfl
  have x1 : bits BinOp.xor IntKind.u8 1 1 = 0 := rfl
  have hlow := h.low
  have hbits := h.bits
  have HB1 := Lib.hid b1
  clear h b0 b1 hend
  simp only at hbits
  obtain ⟨ht, hx⟩ := hbits
  rcases ht with rfl | rfl
  all_goals
    go_enter Tryd.func55, Tryd.ntmps55
    go_wp2
    go_end0
    exact ⟨rfl, Lib.hid ⟨HE.out _, made_nil _ _, hlow, (by first | exact .inl rfl | exact .inr rfl), hx⟩, Lib.hid (HF.out _)⟩
end Go.Proofs.YtdhfinpmcikimaaDoor.K
