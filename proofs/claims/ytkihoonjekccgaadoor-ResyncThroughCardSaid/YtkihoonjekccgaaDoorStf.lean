/- What Stuff does: a range over a function of one's own. -/
import Derived.Test.YtkihoonjekccgaaDoorKit
import Derived.RangeFuncBox
import Derived.RangeFuncLeaves
import Derived.Shelf.Abstract
import Derived.WalkKit
import Derived.OwnWalkIn
import Derived.TacticsInMore
import Derived.LoopNIn
import Derived.LoopIn
import Derived.Laws.MakeOwn
import Derived.Laws.Entries
import Derived.Outline
import Derived.Test.YtkihoonjekccgaaDoorProg
namespace Go.Proofs.YtkihoonjekccgaaDoor.K
open Go.RowKit Go.Shelf
attribute [local go_sem] Oper.semAt_some
set_option linter.unusedVariables false
set_option linter.unusedSimpArgs false

theorem info_u8 : (Tryd.prog.info? 5).map (fun i => (i.zero, i.size, i.bytes)) = some (some (.int .u8 0), 1, 1) := by kernel_rfl
/-- What a byte becomes. -/
def stf1 (c : Int) : List Int := if c = 126 then [125, 94] else if c = 125 then [125, 93] else [c]
def stf (l : List Int) : List Int := l.flatMap stf1
theorem stf_snoc (l : List Int) (c : Int) : stf (l ++ [c]) = stf l ++ stf1 c := by simp [stf]
theorem stf_len (l : List Int) : l.length ≤ (stf l).length ∧ (stf l).length ≤ 2 * l.length := by
  induction l with
  | nil => simp [stf]
  | cons c l ih =>
    have h : (stf1 c).length = 1 ∨ (stf1 c).length = 2 := by unfold stf1; split <;> (try split) <;> simp
    simp only [stf, List.flatMap_cons, List.length_append, List.length_cons] at *
    omega
theorem stf_take {l : List Int} {k : Nat} (h : k < l.length) : stf (l.take (k + 1)) = stf (l.take k) ++ stf1 (l.getD k 0) := by
  rw [List.take_succ_eq_append_getElem h, stf_snoc, List.getD_eq_getElem?_getD, List.getElem?_eq_getElem h]; rfl
theorem stf_take_lt {l : List Int} {k : Nat} (h : k < l.length) : (stf (l.take k)).length + (stf1 (l.getD k 0)).length ≤ (stf l).length := by
  have h1 : stf l = stf (l.take (k + 1)) ++ stf (l.drop (k + 1)) := by
    unfold stf
    rw [← List.flatMap_append, List.take_append_drop]
  rw [h1, List.length_append, stf_take h, List.length_append]
  omega

theorem special_in (F : Fence) (n : Nat) (h16 : F.fn 41) (hro : F.round = none) (c : Int) (b : Bool) (hb : (c = 126 ∨ c = 125) ↔ b = true) (w : World) :
    CallsIn F n Tryd.prog 41 #[.int .u8 c] w fun e w' => e = .returned (.bool b) ∧ w = w' := by
  by_cases h1 : c = 126
  · obtain rfl : b = true := hb.1 (.inl h1)
    subst h1
    refine callsIn_of_wp Tryd.func41 rfl h16 ?_ hro
    simp only [Tryd.ntmps41, List.size_toArray, List.length_cons, List.length_nil, Nat.reduceAdd, Nat.reduceSub, Array.replicate_succ, Array.replicate_zero, List.push_toArray, List.append_toArray, List.nil_append, List.cons_append]
    gi_wp2
    go_ret
    exact ⟨rfl, rfl⟩
  · have h1' : (c == 126) = false := by simp [h1]
    by_cases h2 : c = 125
    · obtain rfl : b = true := hb.1 (.inr h2)
      subst h2
      refine callsIn_of_wp Tryd.func41 rfl h16 ?_ hro
      simp only [Tryd.ntmps41, List.size_toArray, List.length_cons, List.length_nil, Nat.reduceAdd, Nat.reduceSub, Array.replicate_succ, Array.replicate_zero, List.push_toArray, List.append_toArray, List.nil_append, List.cons_append]
      gi_wp2
      go_ret
      exact ⟨rfl, rfl⟩
    · obtain rfl : b = false := by cases b with | false => rfl | true => rcases hb.2 rfl with h | h; exact absurd h h1; exact absurd h h2
      have h2' : (c == 125) = false := by simp [h2]
      clear hb h1 h2
      refine callsIn_of_wp Tryd.func41 rfl h16 ?_ hro
      simp only [Tryd.ntmps41, List.size_toArray, List.length_cons, List.length_nil, Nat.reduceAdd, Nat.reduceSub, Array.replicate_succ, Array.replicate_zero, List.push_toArray, List.append_toArray, List.nil_append, List.cons_append]
      gi_wp2
      go_ret
      exact ⟨rfl, rfl⟩

/-- The bytes of a slice below block n₀, as a list. -/
def Bytes (n₀ : Nat) (W : World) (A : Option Addr) (l : List Int) : Prop := RowOf (fun x : Int => [.int .u8 x]) 1 W n₀ A l
set_option maxRecDepth 100000 in
set_option maxHeartbeats 2000000 in
theorem stuffed1_in (F : Fence) (n : Nat) (h17 : F.fn 50) (h16 : F.fn 41) (hro : F.round = none) (hn : 1 ≤ n) (l Bs n₀ : Nat) (A : Option Addr) (cap : Nat) (zs : List Int) (hreach : zs.length ≤ 70000000000000) (J Jx : List Int → World → Prop)
    (hY : ∀ pre x W, J pre W → pre.length < (stf zs).length → YieldAt F (n - 1) Tryd.prog l #[.int .u8 x] W fun e W' =>
      (e = .returned (.bool true) ∧ J (pre ++ [x]) W' ∧ Below n₀ W W') ∨ (e = .returned (.bool false) ∧ Jx (pre ++ [x]) W'))
    (W : World) (hBs : W.cell? ⟨Bs, 0, none⟩ = some (.slice A zs.length cap)) (hc : Bytes n₀ W A zs) (h0 : J [] W) :
    CallsIn F n Tryd.prog 50 #[.func (.yield l) #[] #[], .pointer (some ⟨Bs, 0, none⟩)] W fun e W' => (∃ v, e = .returned v) ∧
      ((∃ ys, ys = stf zs ∧ J ys W') ∨ (∃ pre, Jx pre W')) := by
  refine callsIn_of_wp Tryd.func50 rfl h17 ?_ hro
  simp only [Tryd.ntmps50, List.size_toArray, List.length_cons, List.length_nil, Nat.reduceAdd, Nat.reduceSub, Array.replicate_succ, Array.replicate_zero, List.push_toArray, List.append_toArray, List.nil_append, List.cons_append]
  gi_wp2
  gi_loopw [7] (fun i wr => ∃ k : Nat, k ≤ zs.length ∧ i = .int .i64 k ∧ J (stf (zs.take k)) wr ∧ Below n₀ W wr)
    (fun i _ => zs.length - (intOf i).toNat)
  case atStart => exact ⟨0, Nat.zero_le _, rfl, h0, Below.refl _ _⟩
  case round =>
    obtain ⟨k, hk, rfl, hJs, hnx⟩ := hrel
    have HC := Lib.hid hc
    have HN := Lib.hid hnx
    clear hc hnx hBs
    by_cases hlt : k < zs.length
    · obtain ⟨ad, rfl, hb, hcell⟩ := (RowOf.below HC.out HN.out).num hlt
      have htk := Lib.hid (stf_take hlt)
      have hl2 := stf_take_lt hlt
      generalize zs.getD k 0 = x at *
      by_cases h1 : x = 126
      · subst h1
        have hl3 : (stf1 126).length = 2 := rfl
        obtain ⟨fn, tmps, assign, body, hy, hR⟩ := hY _ 125 wr hJs (by omega)
        have hx : bits .xor .u8 126 32 = 94 := by decide
        gi_wp2_with (gi_at_call 41; refine (special_in F (n - 1) h16 hro 126 true (by simp) _).mono ?_; rintro e w' ⟨rfl, rfl⟩)
        refine hR.mono ?_
        rintro e W3 (⟨rfl, hJ3, hk3⟩ | ⟨rfl, hJx3⟩)
        · obtain ⟨fn2, tmps2, assign2, body2, hy2, hR2⟩ := hY _ 94 W3 hJ3 (by rw [List.length_append]; simp; omega)
          clear hy hR
          gi_wp2
          refine hR2.mono ?_
          rintro e W4 (⟨rfl, hJ4, hk4⟩ | ⟨rfl, hJx4⟩)
          · gi_wp2
            go_roundw
            case rel => exact ⟨k + 1, by omega, by simp, by rw [htk.out]; have h := hJ4; rw [List.append_assoc] at h; exact h, HN.out.trans (hk3.trans hk4)⟩
            case measure => simp [intOf]; omega
          · gi_wp2
            refine bodyPost_ret (results_none rfl _ _ _) rfl ?_
            exact ⟨⟨_, rfl⟩, .inr ⟨_, hJx4⟩⟩
        · gi_wp2
          refine bodyPost_ret (results_none rfl _ _ _) rfl ?_
          exact ⟨⟨_, rfl⟩, .inr ⟨_, hJx3⟩⟩
      · by_cases h2 : x = 125
        · subst h2
          have hl3 : (stf1 125).length = 2 := rfl
          obtain ⟨fn, tmps, assign, body, hy, hR⟩ := hY _ 125 wr hJs (by omega)
          have hx : bits .xor .u8 125 32 = 93 := by decide
          gi_wp2_with (gi_at_call 41; refine (special_in F (n - 1) h16 hro 125 true (by simp) _).mono ?_; rintro e w' ⟨rfl, rfl⟩)
          refine hR.mono ?_
          rintro e W3 (⟨rfl, hJ3, hk3⟩ | ⟨rfl, hJx3⟩)
          · obtain ⟨fn2, tmps2, assign2, body2, hy2, hR2⟩ := hY _ 93 W3 hJ3 (by rw [List.length_append]; simp; omega)
            clear hy hR
            gi_wp2
            refine hR2.mono ?_
            rintro e W4 (⟨rfl, hJ4, hk4⟩ | ⟨rfl, hJx4⟩)
            · gi_wp2
              go_roundw
              case rel => exact ⟨k + 1, by omega, by simp, by rw [htk.out]; have h := hJ4; rw [List.append_assoc] at h; exact h, HN.out.trans (hk3.trans hk4)⟩
              case measure => simp [intOf]; omega
            · gi_wp2
              refine bodyPost_ret (results_none rfl _ _ _) rfl ?_
              exact ⟨⟨_, rfl⟩, .inr ⟨_, hJx4⟩⟩
          · gi_wp2
            refine bodyPost_ret (results_none rfl _ _ _) rfl ?_
            exact ⟨⟨_, rfl⟩, .inr ⟨_, hJx3⟩⟩
        · have hl3 : stf1 x = [x] := by simp [stf1, h1, h2]
          have H3 := Lib.hid hl3
          rw [hl3] at hl2
          obtain ⟨fn, tmps, assign, body, hy, hR⟩ := hY _ x wr hJs (by simp at hl2; omega)
          have hq := Lib.hid (show (x = 126 ∨ x = 125) ↔ false = true by simp [h1, h2])
          clear h1 h2 hl3
          gi_wp2_with (gi_at_call 41; refine (special_in F (n - 1) h16 hro x false hq.out _).mono ?_; rintro e w' ⟨rfl, rfl⟩)
          refine hR.mono ?_
          rintro e W3 (⟨rfl, hJ3, hk3⟩ | ⟨rfl, hJx3⟩)
          · gi_wp2
            go_roundw
            case rel => exact ⟨k + 1, by omega, by simp, by rw [htk.out, H3.out]; exact hJ3, HN.out.trans hk3⟩
            case measure => simp [intOf]; omega
          · gi_wp2
            refine bodyPost_ret (results_none rfl _ _ _) rfl ?_
            exact ⟨⟨_, rfl⟩, .inr ⟨_, hJx3⟩⟩
    · obtain rfl : k = zs.length := by omega
      rw [List.take_length] at hJs
      gi_wp2
      go_end0
      exact ⟨⟨_, rfl⟩, .inl ⟨_, rfl, hJs⟩⟩

set_option maxHeartbeats 1000000 in
theorem stuffed_in (F : Fence) (n : Nat) (h15 : F.fn 37) (hro : F.round = none) (A : Option Addr) (len cap : Nat) (w : World) :
    CallsIn F n Tryd.prog 37 #[.slice A len cap] w fun e w' => e = .returned (.func (.func 50) #[] #[.pointer (some ⟨w.heap.size, 0, none⟩)]) ∧ w' = w.alloc (.cells #[.slice A len cap] 32) := by
  refine callsIn_of_wp Tryd.func37 rfl h15 ?_ hro
  simp only [Tryd.ntmps37, List.size_toArray, List.length_cons, List.length_nil, Nat.reduceAdd, Nat.reduceSub, Array.replicate_succ, Array.replicate_zero, List.push_toArray, List.append_toArray, List.nil_append, List.cons_append]
  gi_wp2
  go_ret
  exact ⟨rfl, rfl⟩
theorem stuffed_stops (F : Fence) (n : Nat) (h17 : F.fn 50) (h16 : F.fn 41) (hro : F.round = none) (hn : 1 ≤ n) (Bs n₀ : Nat) (A : Option Addr) (cap : Nat) (zs : List Int) (hreach : zs.length ≤ 70000000000000) (w : World) (hBs : Bs < w.heap.size) (hn₀ : n₀ ≤ w.heap.size)
    (hc : w.cell? ⟨Bs, 0, none⟩ = some (.slice A zs.length cap)) (hI : Bytes n₀ w A zs) :
    SeqStopsK F n Tryd.prog 50 #[.pointer (some ⟨Bs, 0, none⟩)] (fun x : Int => #[Value.int .u8 x]) (Below n₀) (fun ys => ys = stf zs) (fun _ => True) (stf zs).length w := fun l J Jx W hW _ _ hY h0 => by
  have hc' := (hW.cell (p := ⟨Bs, 0, none⟩) hBs).trans hc
  refine (stuffed1_in F n h17 h16 hro hn l Bs n₀ A cap zs hreach J Jx hY W hc' (hI.below (hW.mono hn₀)) h0).mono ?_
  rintro e W' ⟨he, ⟨ys, rfl, hj⟩ | ⟨pre, hj⟩⟩
  · exact ⟨he, .inl ⟨_, rfl, hj⟩⟩
  · exact ⟨he, .inr ⟨_, trivial, hj⟩⟩

theorem run_make0 {P : Program} (t e : TypeId) (i : TypeInfo) (z : Value) (ht : P.underlying t = some (.slice e)) (hi : P.info? e = some i) (hz : i.zero = some z)
    (kl kc : IntKind) (c : Nat) (hbytes : i.bytes * c ≤ 281474976710656) (h63 : c ≤ 9223372036854775807) (w : World) :
    (Instr.makeSlice t (.int kl 0) (.int kc (c : Int))).run P w = .ok (.slice (some ⟨w.heap.size, 0, none⟩) 0 c) (w.alloc (.cells (madeCells z.cells (c * i.size)) e)) := by
  have hb : (i.bytes : Int) * (c : Int) ≤ 281474976710656 := by
    have h : ((i.bytes * c : Nat) : Int) ≤ 281474976710656 := by omega
    rwa [Int.natCast_mul] at h
  have hr := run_make (P := P) w t e i z ht hi hz kl kc 0 c (by omega) (by omega) hb (by omega)
  simpa using hr
theorem own_made0 (w : World) (e : TypeId) (z : Value) (c : Nat) (hz : z.cells.size = 1) (hm : c ≤ maxLen) : (w.alloc (.cells (madeCells z.cells (c * 1)) e)).ownsRow w.heap.size e 1 (.slice (some ⟨w.heap.size, 0, none⟩) 0 c) 0 [] :=
  ⟨rfl, Or.inr ⟨w.heap.size, c, _, rfl, Nat.le_refl _, Blk.new w _ _, Nat.zero_le _, hm, by simp [madeCells, hz], rfl⟩⟩
/-- What Stuff comes to. -/
def StuffPost (l : List Int) (w : World) (e : Ending) (W' : World) : Prop := ∃ v, e = .returned v ∧ W'.ownsRow w.heap.size 5 1 v (stf l).length (nums .u8 (stf l)) ∧ Below w.heap.size w W'
set_option maxRecDepth 100000 in
set_option maxHeartbeats 4000000 in
theorem Stuff_in (F : Fence) (n : Nat) (h11 : F.fn 24) (h15 : F.fn 37) (h16 : F.fn 41) (h17 : F.fn 50) (hro : F.round = none) (hn : 3 ≤ n) (A : Option Addr) (cap : Nat) (zs : List Int) (hreach : zs.length ≤ 70000000000000) (w : World) (hL : Bytes w.heap.size w A zs) :
    CallsIn F n Tryd.prog 24 #[.slice A zs.length cap] w (StuffPost zs w) := by
  have h1 : 1 ≤ n := by omega
  obtain ⟨i0, hi, hz0, hz1, hz2⟩ := info_parts info_u8
  have hmk := run_make0 (P := Tryd.prog) 32 5 i0 (.int .u8 0) Tryd.underlying32 hi hz0 .i64 .i64 zs.length (by rw [hz2]; omega) (by omega)
  rw [hz1] at hmk
  refine callsIn_of_wp_marks Tryd.func24 rfl h11 ?_ hro
  simp only [Tryd.ntmps24, List.size_toArray, List.length_cons, List.length_nil, Nat.reduceAdd, Nat.reduceSub, Array.replicate_succ, Array.replicate_zero, List.push_toArray, List.append_toArray, List.nil_append, List.cons_append]
  gi_wp2_with (gi_at_call 37; refine (stuffed_in F (n - 1) h15 hro _ _ _ _).mono ?_; rintro e w' ⟨rfl, rfl⟩)
  have hml : zs.length ≤ maxLen := by unfold maxLen; omega
  have ho0 := own_made0 w 5 (.int .u8 0) zs.length rfl hml
  have bO := Boxed.new (w.alloc (.cells (madeCells #[.int .u8 0] zs.length) 5)) 32 (.slice (some ⟨w.heap.size, 0, none⟩) 0 zs.length)
  have bN := Boxed.new ((w.alloc (.cells (madeCells #[.int .u8 0] zs.length) 5)).alloc (.cells #[.slice (some ⟨w.heap.size, 0, none⟩) 0 zs.length] 32)) 32 (.slice A zs.length cap)
  simp only [World.size_alloc] at bO bN
  rw [Nat.mul_one] at ho0
  have hB0 : Below w.heap.size w (((w.alloc (.cells (madeCells #[.int .u8 0] zs.length) 5)).alloc (.cells #[.slice (some ⟨w.heap.size, 0, none⟩) 0 zs.length] 32)).alloc (.cells #[.slice A zs.length cap] 32)) :=
    (((Below.refl _ w).alloc (Nat.le_refl _) _).alloc (by simp) _).alloc (by simp; omega) _
  have hsl := stf_len zs
  refine wpIn_rangeFunc_ownG hro h1 (gf := 50) (lb := #[.pointer (some ⟨w.heap.size + 1 + 1, 0, none⟩)]) rfl h17 (enters_of Tryd.func50 (by kernel_rfl) rfl)
    (stuffed_stops F (n - 1) h17 h16 hro (by omega) (w.heap.size + 1 + 1) w.heap.size A cap zs hreach _ (by simp) (by simp; omega) bN.cell (hL.below hB0)) belowK_t (belowK_b (by simp; omega)) (Below.refl _ _) (fun _ => rfl)
    (fun pre W => (∃ v, Boxed W (w.heap.size + 1) 32 v ∧ W.ownsRow w.heap.size 5 1 v pre.length (nums .u8 pre) ∧ True) ∧ Below w.heap.size w W)
    (fun _ _ _ => False)
    (OwnFrom.and (Own.from (holdsRow_own w.heap.size (w.heap.size + 1) 32 5 1 (fun pre : List Int => pre.length) (fun pre => nums .u8 pre) (fun _ _ => True)) _) (ownFrom_below (Nat.le_refl _) (by simp; omega)))
    (fun _ _ _ _ _ hs _ _ => hs)
    ⟨⟨_, bO.alloc _, (ho0.alloc _).alloc _, trivial⟩, hB0⟩
    (fun x => { tmps := #[.slice A zs.length cap, undef, .slice none 0 0, .pointer (some ⟨w.heap.size + 1, 0, none⟩), .int .u8 x, .slice A zs.length cap, .int .i64 zs.length, .slice (some ⟨w.heap.size, 0, none⟩) 0 zs.length, .slice A zs.length cap, .func (.func 50) #[] #[.pointer (some ⟨w.heap.size + 1 + 1, 0, none⟩)], .int .u8 x, undef, undef, undef, undef, undef], defers := [] }) ?assign ?body ?done ?stop
  case assign =>
    intro l x W K hK
    gi_wp2
    exact hK
  case body =>
    rintro l pre x W ⟨⟨v, hv, hrow, hnil⟩, hB⟩ hlt
    have hc := hv.cell
    clear hmk ho0 bO bN hB0
    have hp1 : pre.length + 1 ≤ maxLen := by unfold maxLen; omega
    have hp2 : (pre.length + 1) * 1 ≤ 140737488355328 := by omega
    have hp3 : w.heap.size ≤ (W.alloc (.cells #[.int .u8 x] 5)).heap.size := by have := hB.size; simp; omega
    gi_wp2_with (gi_at_builtin; refine wpListIn_append_own _ rfl _ _ 32 rfl w.heap.size 5 i0 (.int .u8 0) 1 1 Tryd.underlying32 hi hz0 hz1 hz2 rfl (by decide) _ _ _ rfl (hrow.alloc _) ⟨W.heap.size, 0, none⟩ 1 1 [.int .u8 x] rfl rfl (cell_one_new _ _ _) (by simp [Value.oneCell']) hp1 hp2 hp3 ?_; intro v' w1 hown' hgrow _; obtain ⟨g', cap', rfl⟩ := ownsRow_succ hown'; obtain ⟨hv1, hv2, hr2, hk2, hb2⟩ := hv.appended (by decide) hrow hB.size (Nat.le_succ _) hown' hgrow; have hc1 := hv1.cell; have hf1 := hv1.frozen)
    exact ⟨hk2.from _, hb2, ⟨_, hv2, by rw [nums_snoc, List.length_append]; exact hr2, trivial⟩, hB.trans hb2⟩
  case done =>
    rintro D ys W hD rfl ⟨⟨v, hv, hrow, hnil⟩, hB⟩ hK
    have hc := hv.cell
    gi_wp2
    refine ⟨by simp, .inl ⟨_, _, rfl, run_takeDeferred hK, ?_⟩⟩
    exact ⟨_, results_tmp rfl _ _ _, v, rfl, ownsRow_putObj hrow _ hK rfl, hB.trans (belowK_b (w := w) (Nat.le_refl _) W D _ _ (by simp at hD; omega) hK rfl rfl)⟩
  case stop =>
    rintro D c pre W _ _ h _
    exact h.elim
/-- Stuff, at whatever bytes. -/
theorem Stuff_any (A : Option Addr) (cap : Nat) (zs : List Int) (hreach : zs.length ≤ 70000000000000) (w : World) (hL : Bytes w.heap.size w A zs) :
    Calls Tryd.prog 24 #[.slice A zs.length cap] w (StuffPost zs w) :=
  (callsIn_wide (n := 3)).1 (Stuff_in Fence.wide 3 trivial trivial trivial trivial rfl (by omega) A cap zs hreach w hL)
end Go.Proofs.YtkihoonjekccgaaDoor.K
