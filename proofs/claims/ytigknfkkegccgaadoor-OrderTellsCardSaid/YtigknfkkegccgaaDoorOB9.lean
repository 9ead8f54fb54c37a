/- Orders: slices.Delete of one order. -/
import Derived.Test.YtigknfkkegccgaaDoorOB8
namespace Go.Proofs.YtigknfkkegccgaaDoor.K
open Go.RowKit
set_option linter.unusedVariables false
set_option linter.unusedSimpArgs false
attribute [local go_sem ↓] Go.wp_at_zero Go.wp_at_succ
section
variable {g k l h x n m c : Nat} {W : World}
/-- 's[l:h]' of orders. -/
theorem ocut_lh (h1 : l ≤ h) (h2 : h ≤ c) (il ih : Int) (el : il = l) (eh : ih = h) : (Instr.slice 43 (.slice (some ⟨g, 0, none⟩) n c) (some (.int .i64 il)) (some (.int .i64 ih)) none).run Tryd.prog W = .ok (.slice (some ⟨g, if c = l then 0 else l * 2, none⟩) (h - l) (c - l)) W := by
  subst el eh
  obtain ⟨i, hi, hz⟩ := info_parts info_or
  have hel : Tryd.prog.elem 43 = 25 := by simp [Program.elem, Tryd.underlying43]
  have hu : Tryd.prog.underlying 43 = some (.slice (Tryd.prog.elem 43)) := by rw [hel]; exact Tryd.underlying43
  rw [run_slice_lh W 43 _ n c hu .i64 .i64 l h (by omega) (by omega) (by omega), hel]
  by_cases hc : c = l <;> simp [sizeOf, typeInfo, hi, hz, sliced, Result.andThen, hc, add_plain]
/-- 's[l:]' of orders. -/
theorem ocut_l (h1 : l ≤ n) (il : Int) (el : il = l) : (Instr.slice 43 (.slice (some ⟨g, 0, none⟩) n c) (some (.int .i64 il)) none none).run Tryd.prog W = .ok (.slice (some ⟨g, if c = l then 0 else l * 2, none⟩) (n - l) (c - l)) W := by
  subst el
  obtain ⟨i, hi, hz⟩ := info_parts info_or
  have hel : Tryd.prog.elem 43 = 25 := by simp [Program.elem, Tryd.underlying43]
  have hu : Tryd.prog.underlying 43 = some (.slice (Tryd.prog.elem 43)) := by rw [hel]; exact Tryd.underlying43
  rw [run_slice_l W 43 _ n c hu .i64 l (by omega) (by omega), hel]
  by_cases hc : c = l <;> simp [sizeOf, typeInfo, hi, hz, sliced, Result.andThen, hc, add_plain]
/-- 's[l:h:x]' of orders. -/
theorem ocut_lhm (h1 : l ≤ h) (h2 : h ≤ x) (h3 : x ≤ c) (il ih ix : Int) (el : il = l) (eh : ih = h) (ex : ix = x) : (Instr.slice 43 (.slice (some ⟨g, 0, none⟩) n c) (some (.int .i64 il)) (some (.int .i64 ih)) (some (.int .i64 ix))).run Tryd.prog W = .ok (.slice (some ⟨g, if x = l then 0 else l * 2, none⟩) (h - l) (x - l)) W := by
  subst el eh ex
  obtain ⟨i, hi, hz⟩ := info_parts info_or
  have hel : Tryd.prog.elem 43 = 25 := by simp [Program.elem, Tryd.underlying43]
  have hu : Tryd.prog.underlying 43 = some (.slice (Tryd.prog.elem 43)) := by rw [hel]; exact Tryd.underlying43
  rw [run_slice_lhm W 43 _ n c hu .i64 .i64 .i64 l h x (by omega) (by omega) (by omega) (by omega), hel]
  by_cases hc : x = l <;> simp [sizeOf, typeInfo, hi, hz, sliced, Result.andThen, hc, add_plain]
theorem ocut_h (h2 : h ≤ c) : (Instr.slice 43 (.slice (some ⟨g, 0, none⟩) n c) none (some (.int .i64 h)) none).run Tryd.prog W = .ok (.slice (some ⟨g, 0, none⟩) h c) W := by
  obtain ⟨i, h1, _⟩ := info_parts info_or
  exact cut_hi Tryd.underlying43 h1 _ n c h h2 W
/-- The row behind the append. -/
def del1 (k m : Nat) (cur : Array Value) : Array Value := (cur.toList.take (k * 2) ++ (cur.toList.drop ((k + 1) * 2)).take ((m - k) * 2) ++ cur.toList.drop (k * 2 + (m - k) * 2)).toArray
def del2 (m : Nat) (cur : Array Value) : Array Value := (cur.toList.take (m * 2) ++ ([.int .u32 0, .slice none 0 0] : List Value) ++ cur.toList.drop (m * 2 + 2)).toArray
theorem del1_size {cur : Array Value} (hk : k ≤ m) (hs : (m + 1) * 2 ≤ cur.size) : (del1 k m cur).size = cur.size := by
  unfold del1
  simp only [List.size_toArray, List.length_append, List.length_take, List.length_drop, Array.length_toList]
  omega
theorem del2_size {cur : Array Value} (hs : (m + 1) * 2 ≤ cur.size) : (del2 m cur).size = cur.size := by
  unfold del2
  simp only [List.size_toArray, List.length_append, List.length_take, List.length_drop, Array.length_toList, List.length_cons, List.length_nil]
  omega
theorem del_app {cur : Array Value} (hg : W.heap[g]? = some (.cells cur 25 (0, 0))) (hk : k ≤ m) (hc : m + 1 ≤ c) (hs : cur.size = c * 2) (h1 : ∀ u ∈ cur.toList.take ((m + 1) * 2), u.oneCell' = true) (ty : TypeId) :
    (Builtin.append_ #[43, 43] ty #[.slice (some ⟨g, 0, none⟩) k c, .slice (some ⟨g, if c = k + 1 then 0 else (k + 1) * 2, none⟩) (m - k) (c - (k + 1))]).run Tryd.prog W = .ok (.slice (some ⟨g, 0, none⟩) m c) (W.setRow g (del1 k m cur)) := by
  obtain ⟨i, hi, hz1, hz2, hz3⟩ := info_parts info_or
  have hlen : ((cur.toList.drop ((k + 1) * 2)).take ((m - k) * 2)).length = (m - k) * 2 := by
    rw [List.length_take, List.length_drop, Array.length_toList, hs]; omega
  have hrun := run_append_room (P := Tryd.prog) W 43 ty 25 i Tryd.underlying43 hi g k c cur hg ⟨g, if c = k + 1 then 0 else (k + 1) * 2, none⟩ (m - k) (c - (k + 1)) ((cur.toList.drop ((k + 1) * 2)).take ((m - k) * 2)) (by rw [hz2]; exact hlen)
    (fun j u hu => by
      have hj : j < (m - k) * 2 := by have := (List.getElem?_eq_some_iff.1 hu).1; omega
      rw [if_neg (by omega), add_plain]
      rw [List.getElem?_take, if_pos hj, List.getElem?_drop, Array.getElem?_toList] at hu
      exact (cell_of_row W g _ cur 25 (0, 0) hg).trans hu)
    (fun u hu => h1 u (by
      rw [← List.take_append_drop ((k + 1) * 2) (cur.toList.take ((m + 1) * 2)), List.drop_take]
      refine List.mem_append_right _ ?_
      rwa [show (m + 1) * 2 - (k + 1) * 2 = (m - k) * 2 by omega])) (by omega) (by rw [hz2, hlen]; omega)
  rw [hrun, hlen, hz2, show k + (m - k) = m by omega]
  rfl
theorem del_clear {cur : Array Value} (hg : W.heap[g]? = some (.cells cur 25 (0, 0))) (hs : (m + 1) * 2 ≤ cur.size) (ty : TypeId) (c' : Nat) :
    (Builtin.clear_ #[43] ty #[.slice (some ⟨g, m * 2, none⟩) 1 c']).run Tryd.prog W = .ok (.tuple #[]) (W.setRow g (del2 m cur)) := by
  have hv : (zeroValue 25).run Tryd.prog W = .ok (.agg #[.int .u32 0, .slice none 0 0]) W := by kernel_rfl
  have hz : (Builtin.zeroCells (Value.agg #[.int .u32 0, .slice none 0 0]).cells 1).toList = [.int .u32 0, .slice none 0 0] := by kernel_rfl
  have hst := run_storeCells_at Tryd.prog g (m * 2) 25 [.int .u32 0, .slice none 0 0] 0 cur W hg (by simp; omega) (by intro v hv; simp at hv; rcases hv with rfl | rfl <;> rfl)
  simp only [Nat.add_zero] at hst
  simp [Builtin.clear_, run_underlying Tryd.underlying43, hv, hz, hst, del2]
/-- What is left. -/
theorem del_left {os : List So} {cur : Array Value} (hl : os.length = m + 1) (hk : k ≤ m) (hs : (m + 1) * 2 ≤ cur.size) (hx : cur.toList.take ((m + 1) * 2) = os.flatMap cO) :
    (del2 m (del1 k m cur)).toList.take (m * 2) = (os.eraseIdx k).flatMap cO := by
  have hf : ∀ q : List So, (q.flatMap cO).length = q.length * 2 := fun q => flat_len (c := cO) (fun _ => rfl) q
  have h1 : (del2 m (del1 k m cur)).toList.take (m * 2) = (del1 k m cur).toList.take (m * 2) := by
    have hd := del1_size (cur := cur) hk hs
    unfold del2
    simp only [List.append_assoc]
    rw [List.take_append_of_le_length (by rw [List.length_take, Array.length_toList, hd]; omega), List.take_take]
    simp
  have h2 : cur.toList.take (k * 2) = (os.take k).flatMap cO := by
    have : cur.toList.take (k * 2) = (cur.toList.take ((m + 1) * 2)).take (k * 2) := by rw [List.take_take]; congr 1; omega
    rw [this, hx]
    conv => lhs; rw [← List.take_append_drop k os, List.flatMap_append]
    rw [List.take_append_of_le_length (by rw [hf, List.length_take]; omega), List.take_of_length_le (by rw [hf, List.length_take]; omega)]
  have h3 : (cur.toList.drop ((k + 1) * 2)).take ((m - k) * 2) = (os.drop (k + 1)).flatMap cO := by
    have : (cur.toList.drop ((k + 1) * 2)).take ((m - k) * 2) = (cur.toList.take ((m + 1) * 2)).drop ((k + 1) * 2) := by rw [List.drop_take]; congr 1; omega
    rw [this, hx]
    conv => lhs; rw [← List.take_append_drop (k + 1) os, List.flatMap_append]
    rw [List.drop_append_of_le_length (by rw [hf, List.length_take]; omega), List.drop_of_length_le (by rw [hf, List.length_take]; omega)]
    rfl
  rw [h1]
  unfold del1
  simp only
  rw [h2, h3, List.eraseIdx_eq_take_drop_succ, List.flatMap_append]
  rw [List.take_append_of_le_length (by rw [List.length_append, hf, hf, List.length_take, List.length_drop]; omega), List.take_of_length_le (by rw [List.length_append, hf, hf, List.length_take, List.length_drop]; omega)]
end
/-- An append whose answer is known, as a step of a region that draws its order. -/
theorem stepApp {P : Program} {ops : Array Oper} {o : Oper} {a : Act} {w w2 : World} {K : Act → World → Prop} {Q : Exit → Act → World → Prop} {E : Prop} {t : TypeId} {sv xv v : Value} (hgd : o.guard = none) (s x : Operand)
    (ho : o.op = .call { callee := .builtin .append, args := #[s, x], argTypes := #[t, t] }) (hs : a.eval s = sv) (hx : a.eval x = xv) (hrun : ∀ ty, (Builtin.append_ #[t, t] ty #[sv, xv]).run P w = .ok v w2) (h : K (a.put o.dst v) w2) :
    if Region.wanted o (yielded ops a.tmps) = true then Oper.wp P o a w K Q else E := by
  have hw : Region.wanted o (yielded ops a.tmps) = true := by simp [Region.wanted, hgd]
  rw [if_pos hw]
  unfold Oper.wp execOp
  simp only [ho, resolve, invoke, builtin, Sem.run_bind, Sem.run_pure, Result.andThen_ok, List.map_toArray, List.map_cons, List.map_nil, hs, hx, hrun]
  exact h
theorem fr_setRow {g : Nat} (w : World) (cs : Array Value) : Fr (fun j => j = g) w (w.setRow g cs) := ⟨rfl, rfl, rfl, by simp, fun k _ hn => setRow_other w g k cs hn⟩
set_option maxHeartbeats 2000000 in
set_option maxRecDepth 10000 in
theorem DeleteC {B g c k m : Nat} {os : List So} {w : World} (hl : os.length = m + 1) (hk : k ≤ m) (hm : m ≤ 1000) (h : w.ownsRow B 25 2 (.slice (some ⟨g, 0, none⟩) (m + 1) c) (m + 1) (os.flatMap cO)) :
    Calls Tryd.prog 49 #[.slice (some ⟨g, 0, none⟩) (m + 1) c, .int .i64 k, .int .i64 ((k : Int) + 1)] w fun e w' => e = .returned (.slice (some ⟨g, 0, none⟩) m c) ∧ Hid (w'.ownsRow B 25 2 (.slice (some ⟨g, 0, none⟩) m c) m ((os.eraseIdx k).flatMap cO)) ∧ Hid (Fr (fun j => j = g) w w') := by
  rcases h.2 with ⟨e, _⟩ | ⟨g', c', cur, e, hb, hg, hc, hcm, hs, hx⟩
  · cases e
  injection e with e1 _ e2
  subst e2
  obtain rfl : g' = g := by injection e1 with e1; injection e1 with e1; exact e1.symm
  have h1 : ∀ u ∈ cur.toList.take ((m + 1) * 2), u.oneCell' = true := by
    rw [hx]
    intro u hu
    obtain ⟨y, _, hy⟩ := List.mem_flatMap.1 hu
    exact one_or y u hy
  have hg2 : (w.drew.setRow g' (del1 k m cur)).heap[g']? = some (.cells (del1 k m cur) 25 (0, 0)) := setRow_heap w.drew g' cur _ 25 (0, 0) hg
  have hcl := fun ty c' => del_clear (m := m) hg2 (by rw [del1_size hk (by omega)]; omega) ty c'
  have hap := fun ty => del_app (W := w.drew) (g := g') (k := k) hg hk hc hs h1 ty
  have c1 : ∀ W, (Instr.slice 43 (.slice (some ⟨g', 0, none⟩) (m + 1) c) (some (.int .i64 (k : Int))) (some (.int .i64 ((k : Int) + 1))) (some (.int .i64 ((m : Int) + 1)))).run Tryd.prog W = .ok (.slice (some ⟨g', k * 2, none⟩) (k + 1 - k) (m + 1 - k)) W := fun W => by
    rw [ocut_lhm (l := k) (h := k + 1) (x := m + 1) (by omega) (by omega) hc _ _ _ rfl (by omega) (by omega), if_neg (by omega)]
  have c2 : ∀ W, (Instr.slice 43 (.slice (some ⟨g', 0, none⟩) (m + 1) c) (some (.int .i64 ((k : Int) + 1))) none none).run Tryd.prog W = .ok (.slice (some ⟨g', if c = k + 1 then 0 else (k + 1) * 2, none⟩) (m - k) (c - (k + 1))) W := fun W => by
    rw [ocut_l (l := k + 1) (by omega) _ (by omega)]; congr 2; omega
  have c3 : ∀ W, (Instr.slice 43 (.slice (some ⟨g', 0, none⟩) m c) (some (.int .i64 (m : Int))) (some (.int .i64 ((m : Int) + 1))) none).run Tryd.prog W = .ok (.slice (some ⟨g', m * 2, none⟩) 1 (c - m)) W := fun W => by
    rw [ocut_lh (l := m) (h := m + 1) (by omega) hc _ _ rfl (by omega), if_neg (by omega)]; congr 2; omega
  have c4 := fun W => ocut_h (W := W) (g := g') (n := m + 1) (h := k) (c := c) (by omega)
  have hown : ((w.drew.setRow g' (del1 k m cur)).setRow g' (del2 m (del1 k m cur))).ownsRow B 25 2 (.slice (some ⟨g', 0, none⟩) m c) m ((os.eraseIdx k).flatMap cO) := by
    refine ⟨by rw [flat_len (c := cO) (size := 2) (fun _ => rfl), List.length_eraseIdx, if_pos (by omega)]; omega, .inr ⟨g', c, _, rfl, hb, setRow_heap _ g' _ _ 25 (0, 0) hg2, by omega, hcm, ?_, del_left hl hk (by omega) hx⟩⟩
    rw [del2_size (by rw [del1_size hk (by omega)]; omega), del1_size hk (by omega)]; exact hs
  have HO := Lib.hid hown
  have HF : Hid (Fr (fun j => j = g') w ((w.drew.setRow g' (del1 k m cur)).setRow g' (del2 m (del1 k m cur)))) := Lib.hid ((((Fr.refl (fun j => j = g') w).drew).trans (fr_setRow w.drew _) (fun _ _ h => h)).trans (fr_setRow _ _) (fun _ _ h => h))
  clear hown h hg hg2 hx h1 e1 hs
  generalize (if c = k + 1 then 0 else (k + 1) * 2) = off at hap c2
  go_enter Tryd.func49, Tryd.ntmps49
  go_wp2_with fail
  go_region_held_law (fun _ => True) (trivial) ((refine stepApp rfl _ _ rfl rfl rfl hap ?_))
  go_wp2
  go_ret
  exact ⟨rfl, HO, HF⟩
end Go.Proofs.YtigknfkkegccgaaDoor.K
