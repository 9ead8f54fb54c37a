/- Orders: Add, where it adds: its contract. -/
import Derived.Test.YtigknfkkegccgaaDoorOB7
import Derived.Test.YtigknfkkegccgaaDoorSt
namespace Go.Proofs.YtigknfkkegccgaaDoor.K
open Go.RowKit
set_option linter.unusedVariables false
set_option linter.unusedSimpArgs false
attribute [local go_sem ↓] Go.wp_at_zero Go.wp_at_succ
section
variable {ρ : Operand → Value} {W : World} {o : Oper}
theorem run_nilp {s : Nat} {p : Addr} (ho : o.op = .nilCheck (.tmp s)) (e : ρ (.tmp s) = .pointer (some p)) : (execOp ρ o).run Tryd.prog W = .ok (.value (.pointer (some p))) W := by
  simp [execOp, ho, e, go_sem]
theorem run_fieldB0 {s p : Nat} (ho : o.op = .fieldAddr 95 (.tmp s) 0) (e : ρ (.tmp s) = .pointer (some ⟨p, 0, none⟩)) : (execOp ρ o).run Tryd.prog W = .ok (.value (.pointer (some ⟨p, 0, none⟩))) W := by
  simp [execOp, ho, e, go_sem]
theorem run_loadOs {s p : Nat} {A : Option Addr} {n cc : Nat} (ho : o.op = .load 43 (.tmp s)) (e : ρ (.tmp s) = .pointer (some ⟨p, 0, none⟩)) (hc : W.cell? ⟨p, 0, none⟩ = some (.slice A n cc)) : (execOp ρ o).run Tryd.prog W = .ok (.value (.slice A n cc)) W := by
  simp [execOp, ho, e, go_sem, hc]
theorem run_loadO {s p : Nat} {x y : Value} (ho : o.op = .load 25 (.tmp s)) (e : ρ (.tmp s) = .pointer (some ⟨p, 0, none⟩)) (hc : W.cell? ⟨p, 0, none⟩ = some x) (hd : W.cell? ⟨p, 1, none⟩ = some y) : (execOp ρ o).run Tryd.prog W = .ok (.value (.agg #[x, y])) W := by
  simp [execOp, ho, e, go_sem, hc, hd]
theorem run_rowO {s n c : Nat} {id : Int} {A : Option Addr} (ho : o.op = .buildSlice 43 1 #[(0, .tmp s)]) (e0 : ρ (.tmp s) = .agg #[.int .u32 id, .slice A n c]) : (execOp ρ o).run Tryd.prog W = .ok (.value (.slice (some ⟨W.heap.size, 0, none⟩) 1 1)) (W.alloc (.cells #[.int .u32 id, .slice A n c] 25)) := by
  simp [execOp, ho, e0, go_sem]
theorem run_storeOs {s t p : Nat} {A : Option Addr} {n cc : Nat} {u : Value} (ho : o.op = .store 43 (.tmp s) (.tmp t)) (e : ρ (.tmp s) = .pointer (some ⟨p, 0, none⟩)) (e2 : ρ (.tmp t) = .slice A n cc) (hc : W.cell? ⟨p, 0, none⟩ = some u) (hf : W.frozen? ⟨p, 0, none⟩ = false) : (execOp ρ o).run Tryd.prog W = .ok .skip (W.setCell ⟨p, 0, none⟩ (.slice A n cc)) := by
  simp [execOp, ho, e, e2, go_sem, hc, hf]
end
/-- An order is appended: a step of a region that draws its order. -/
theorem AW.step {ops : Array Oper} {o : Oper} {a : Act} {K : Act → World → Prop} {Q : Exit → Act → World → Prop} {E : Prop} {p : AP} {W : World} {A' : Option Addr} {c' : Nat} (hgd : o.guard = none) (s x : Operand)
    (ho : o.op = .call { callee := .builtin .append, args := #[s, x], argTypes := #[43, 43] }) (h : AW p W) (hm : MadeL p.w.heap.size A' c' p.ls W) (hB : p.B ≤ p.w.heap.size) (hl : p.os.length ≤ 1000)
    (hs : a.eval s = .slice p.VA p.os.length p.vc) (hx : a.eval x = .slice (some ⟨W.heap.size, 0, none⟩) 1 1)
    (hk : ∀ A2 c2 w2, w2.cell? ⟨p.b, 0, none⟩ = some (.slice p.VA p.os.length p.vc) → w2.frozen? ⟨p.b, 0, none⟩ = false → AE p A' c' A2 c2 (w2.setCell ⟨p.b, 0, none⟩ (.slice A2 (p.os.length + 1) c2)) → K (a.put o.dst (.slice A2 (p.os.length + 1) c2)) w2) :
    if Region.wanted o (yielded ops a.tmps) = true then Oper.wp Tryd.prog o a (W.alloc (.cells #[.int .u32 p.id, .slice A' p.ls.length c'] 25)) K Q else E := by
  have hf : Fr0 W (W.alloc (.cells #[.int .u32 p.id, .slice A' p.ls.length c'] 25)) := (Fr.refl (fun _ => False) W).alloc _
  have h' := h.next hf
  have hm' := hm.fr hf (fun _ _ h => h)
  refine stepR (c := cO) hgd s x 43 ho 25 (.agg #[.int .u32 0, .slice none 0 0]) 2 32 Tryd.underlying43 info_or rfl (by omega) (by omega) (fun _ => rfl) one_or p.B (W.heap.size + 1) (.slice p.VA p.os.length p.vc) p.os [⟨p.id, A', c', p.ls⟩] _ _ hs hx (row_new1 (c := cO) (⟨p.id, A', c', p.ls⟩ : So) (Nat.lt_succ_self _)) h'.bk.row (Nat.le_trans hB h'.fr.size) (by simp; omega) ?_
  intro v2 w2 h3 h4 h5
  rw [List.length_append, List.length_singleton] at h3
  obtain ⟨A2, c2, rfl, hc2⟩ := own_form h3
  obtain ⟨q1, q2, q3⟩ := h'.app hm' hB h3 h4 h5
  exact hk A2 c2 w2 q1 q2 q3
theorem Bk.put {B b g : Nat} {v : Value} {os : List So} {ids ids' : List Int} {w w' : World} (h : Bk B b g v os ids w) (k : Fr (fun j => j = g) w w') (he : Ever g ids' w') : Bk B b g v os ids' w' :=
  ⟨h.blk.fr k (fun e => h.low.2.2 e.symm), own_fr h.row k (fun j e e' => ever_own_ne h.ever h.row (e' ▸ e)), fun o ho => (h.each o ho).fr k (fun j e e' => ever_own_ne h.ever (h.each o ho).1 (e' ▸ e)), he, h.low⟩
set_option maxHeartbeats 4000000 in
set_option maxRecDepth 10000 in
theorem AddC {Bb b g c : Nat} {v : Value} {os : List So} {ids : List Int} {id : Int} {A : Option Addr} {ls : List Ln} {w : World} (h : Bk Bb b g v os ids w) (hid : 0 ≤ id ∧ id < 4294967296) (hr : RowOf cL 3 w w.heap.size A ls) (hc : ls.length ≤ c) (ho : ∀ l ∈ ls, l.ok) (hn : rightO ls = 0) (hm : id ∉ ids) (hos : os.length < 16) (hids : ids.length < 1024) :
    Calls Tryd.prog 20 #[.pointer (some ⟨b, 0, none⟩), .agg #[.int .u32 id, .slice A ls.length c]] w fun e w' => e = .returned (.int .i64 0) ∧ ∃ A' c' v', Hid (MadeL w.heap.size A' c' ls w') ∧ Hid (Bk Bb b g v' (os ++ [⟨id, A', c', ls⟩]) (ids ++ [id]) w') ∧ Hid (Fr (fun j => j = b ∨ j = g ∨ v.ownBlock = some j) w w') ∧ Hid (∀ k, v'.ownBlock = some k → v.ownBlock = some k ∨ w.heap.size ≤ k) := by
  obtain ⟨hl1, hl2, _⟩ := right_lines hn
  have hbl : Below w.heap.size w (w.alloc (.cells #[.int .u32 id, .slice A ls.length c] 25)) := (Below.refl _ w).alloc (Nat.le_refl _) _
  have HBL := Lib.hid hbl
  have HN := Lib.hid (Blk.new w 25 #[.int .u32 id, .slice A ls.length c])
  have HBK := Lib.hid (h.fr ((Fr.refl (fun _ => False) w).alloc (.cells #[.int .u32 id, .slice A ls.length c] 25)) (fun _ _ _ h => h))
  have HC := Lib.hid (RightC (id := id) (c := c) (RowOf.below hr hbl) (by have := hbl.size; omega) (by omega) hc ho)
  have HRow := Lib.hid hr
  have HOld : Hid (∀ k, v.ownBlock = some k → k < w.heap.size) := Lib.hid (fun k e => (h.row.lt k e).2)
  have HBB := Lib.hid h.lt
  rw [hn] at HC
  clear hbl hr ho hn h
  go_enter Tryd.func20, Tryd.ntmps20
  go_wp2_with fail
  refine Calls.mono HC.out ?_
  rintro e w1 ⟨rfl, F1⟩
  have hb1 := HBK.out.fr (Fr.of_below F1.out) (fun _ _ _ h => h)
  have h1 := HN.out.below F1.out HN.out.lt
  have d0 := h1.cell 0
  have d1 := h1.cell 1
  have q0 := hb1.blk.cell 0
  have q1 := hb1.blk.cell 1
  have hlk := ever_lookup hb1.ever.drew id hid.1 hid.2
  rw [show decide (id ∈ ids) = false by simp [hm]] at hlk
  have hln := fun ty => ever_len hb1.ever.drew ty
  obtain ⟨VA, vc, rfl, hvc⟩ := own_form hb1.row
  have HB1 := Lib.hid hb1
  have HN1 := Lib.hid h1
  have HBL1 := Lib.hid (HBL.out.trans (F1.out.mono HBL.out.size))
  clear hb1 h1 HBK HN
  go_wp2_with fail
  go_region
  go_wp2_with fail
  refine region_inv (fun a0 => AI ⟨w, Bb, b, g, VA, vc, os, ids, id, A, c, ls, w.heap.size, a0⟩) (by kernel_rfl) ?init ?done ?step
  case init =>
    refine AI.init (p := ⟨w, Bb, b, g, VA, vc, os, ids, id, A, c, ls, w.heap.size, _⟩) rfl ?_
    have haw : ∀ a0, AW ⟨w, Bb, b, g, VA, vc, os, ids, id, A, c, ls, w.heap.size, a0⟩ w1 := fun a0 => ⟨HB1.out, HN1.out, RowOf.now HRow.out HBL1.out, Fr.of_below HBL1.out, Nat.le_refl _, HOld.out⟩
    exact (haw _).next (((Fr.refl (fun _ => False) w1).drew).drew)
  case done =>
    rintro listed a w' hsz hI hr
    obtain ⟨tm, df⟩ := a
    obtain ⟨x0, x1, x2, x3, x4, x5, x6, x7, x8, x9, x10, x11, x12, x13, x14, x15, x16, x17, x18, x19, x20, x21, x22, x23, x24, x25, x26, x27, x28, x29, x30, x31, x32, x33, x34, x35, x36, x37, x38, x39, x40, x41, x42, x43, x44, x45, x46, x47, x48, x49, x50, rfl⟩ := shape51 tm hI.size
    have hall := fun j hj => ready_nil hsz (by kernel_rfl) hr j hj
    obtain ⟨n, hl, hw⟩ := hI.ph
    have h11 := hall 11 (by decide)
    rw [hl.t] at h11
    have hle := hl.le
    obtain rfl : n = 4 := by have := of_decide_eq_true h11; omega
    obtain ⟨A', c', A2, c2, hE⟩ := hw
    obtain rfl : df = [] := hI.defs
    obtain rfl : x0 = .pointer (some ⟨b, 0, none⟩) := hI.base 0 (by omega)
    obtain rfl : x3 = .pointer (some ⟨w.heap.size, 0, none⟩) := hI.base 3 (by omega)
    clear hI hr hsz hall hl hle h11
    have e0 := hE.box.cell 0
    have e1 := hE.bk.blk.cell 1
    obtain ⟨w9, hput, hev, hF⟩ := ever_put hE.bk.ever.drew hid.1 hid.2 hm (show ids.length ≤ 1000000 from by omega)
    have HE := Lib.hid hE
    have HEv := Lib.hid hev
    have HF9 := Lib.hid hF
    clear hE hev hF
    go_wp2_with fail
    go_region
    go_wp2
    go_ret
    have hF9 : Fr (fun j => j = g) w' w9 := (((Fr.refl (fun j => j = g) w').drew).trans HF9.out (fun _ _ h => h))
    refine ⟨rfl, A', c', _, Lib.hid (HE.out.made.fr hF9 (fun j e e' => ever_own_ne HE.out.bk.ever HE.out.made.1 (e' ▸ e))), Lib.hid (HE.out.bk.put hF9 HEv.out), Lib.hid (((HE.out.fr.mono (fun j _ e => ?_)).trans hF9 (fun j _ e => .inr (.inl e)))), Lib.hid HE.out.fresh⟩
    rcases e with e | e
    · exact .inl e
    · exact .inr (.inr e)
  case step =>
    rintro listed a w' hsz hI j hj
    obtain ⟨hj0, o, ho, hafter⟩ := mem_ready.1 hj
    match j, ho with
    | 0, ho =>
      obtain rfl := Option.some.inj ho
      exact stepV rfl (wanted_none rfl) (run_move rfl (hI.base 0 (by omega))) (hI.stay (j := 0) (by decide) hsz (fun u hu => Option.some.inj hu) (by decide))
    | 1, ho =>
      obtain rfl := Option.some.inj ho
      exact stepV rfl (wanted_none rfl) (run_move rfl (hI.base 0 (by omega))) (hI.stay (j := 1) (by decide) hsz (fun u hu => Option.some.inj hu) (by decide))
    | 2, ho =>
      obtain rfl := Option.some.inj ho
      exact stepV rfl (wanted_none rfl) (run_nilp rfl (hI.vals 1 _ rfl (hafter ⟨1, .data⟩ (by simp) rfl))) (hI.stay (j := 2) (by decide) hsz (fun u hu => Option.some.inj hu) (by decide))
    | 3, ho =>
      obtain rfl := Option.some.inj ho
      exact stepV rfl (wanted_none rfl) (run_fieldB0 rfl (hI.vals 2 _ rfl (hafter ⟨2, .data⟩ (by simp) rfl))) (hI.stay (j := 3) (by decide) hsz (fun u hu => Option.some.inj hu) (by decide))
    | 4, ho =>
      obtain rfl := Option.some.inj ho
      obtain ⟨n9, hl9, hw9⟩ := hI.ph
      have hn9 : n9 < 3 := by
        rcases Nat.lt_or_ge n9 3 with h | h
        · exact h
        · exact absurd (hl9.l4 h) (hfalse hj0)
      exact stepV rfl (wanted_none rfl) (run_loadOs rfl (hI.vals 3 _ rfl (hafter ⟨3, .data⟩ (by simp) rfl)) (hw9.cell hn9)) (hI.stay (j := 4) (by decide) hsz (fun u hu => Option.some.inj hu) (by decide))
    | 5, ho =>
      obtain rfl := Option.some.inj ho
      obtain ⟨n9, hl9, hw9⟩ := hI.ph
      have hn9 : n9 = 0 := by
        rcases Nat.lt_or_ge n9 1 with h | h
        · omega
        · exact absurd (hl9.l5 h) (hfalse hj0)
      subst hn9
      exact stepV rfl (wanted_none rfl) (run_loadO rfl (hI.base 3 (by omega)) (hw9.box.cell 0) (hw9.box.cell 1)) (hI.stay (j := 5) (by decide) hsz (fun u hu => Option.some.inj hu) (by decide))
    | 6, ho =>
      obtain rfl := Option.some.inj ho
      obtain ⟨n9, hl9, hw9⟩ := hI.ph
      have hup : ¬ 1 ≤ n9 := fun h => hfalse hj0 (hl9.o.trans (decide_eq_true h))
      obtain rfl : n9 = 0 := by omega
      have h5 := hafter ⟨5, .data⟩ (by simp) rfl
      refine stepC rfl (wanted_none rfl) (run_call_own rfl (hI.vals 5 _ rfl h5)) (ownC (show ls.length ≤ 1000 from by omega) (AW.row hw9)) ?_
      rintro e w2 ⟨A', c', rfl, H2, H3⟩
      exact ⟨_, rfl, hI.slots (by decide) hsz (fun u hu => by cases hu) ⟨_, hl9.step hsz (by decide) (fun e => absurd e (by decide)) (fun _ => h5), AW.next hw9 H3.out, A', c', (put_at (by rw [hI.size]; decide)).trans (if_pos rfl), H2.out.low (AW.fr hw9).size⟩⟩
    | 7, ho =>
      obtain rfl := Option.some.inj ho
      obtain ⟨n9, hl9, hw9⟩ := hI.ph
      have hup : ¬ 2 ≤ n9 := fun h => hfalse hj0 (hl9.s.trans (decide_eq_true h))
      have h6 := hafter ⟨6, .data⟩ (by simp) rfl
      rw [hl9.o] at h6
      obtain rfl : n9 = 1 := by have := of_decide_eq_true h6; omega
      obtain ⟨haw, A', c', hs9, hm9⟩ := hw9
      refine stepV rfl (wanted_none rfl) (run_rowO rfl hs9) ?_
      exact hI.slots (by decide) hsz (fun u hu => by cases hu) ⟨_, hl9.step hsz (by decide) (fun e => absurd e (by decide)) (fun e => absurd e (by decide)), w', A', c', rfl, haw, hm9, (put_at (by rw [hI.size]; decide)).trans (if_pos rfl)⟩
    | 8, ho =>
      obtain rfl := Option.some.inj ho
      obtain ⟨n9, hl9, hw9⟩ := hI.ph
      have hup : ¬ 3 ≤ n9 := fun h => hfalse hj0 (hl9.p.trans (decide_eq_true h))
      have h7 := hafter ⟨7, .data⟩ (by simp) rfl
      rw [hl9.s] at h7
      obtain rfl : n9 = 2 := by have := of_decide_eq_true h7; omega
      obtain ⟨W9, A', c', rfl, haw, hm9, hs9⟩ := hw9
      have h4l := hafter ⟨4, .data⟩ (by simp) rfl
      have hv4 := hI.vals 4 _ rfl h4l
      refine stepA rfl (wanted_none rfl) (AW.step rfl (.tmp 38) (.tmp 41) rfl haw hm9 HBB.out (show os.length ≤ 1000 from by omega) hv4 hs9 ?_)
      intro A2 c2 w2 hk2 hf2 hE2
      exact hI.slots (by decide) hsz (fun u hu => by cases hu) ⟨_, hl9.step hsz (by decide) (fun _ => h4l) (fun e => absurd e (by decide)), A', c', A2, c2, (put_at (by rw [hI.size]; decide)).trans (if_pos rfl), hk2, hf2, hE2⟩
    | 9, ho =>
      obtain rfl := Option.some.inj ho
      exact stepV rfl (wanted_none rfl) (run_nilp rfl (hI.vals 0 _ rfl (hafter ⟨0, .data⟩ (by simp) rfl))) (hI.stay (j := 9) (by decide) hsz (fun u hu => Option.some.inj hu) (by decide))
    | 10, ho =>
      obtain rfl := Option.some.inj ho
      exact stepV rfl (wanted_none rfl) (run_fieldB0 rfl (hI.vals 9 _ rfl (hafter ⟨9, .data⟩ (by simp) rfl))) (hI.stay (j := 10) (by decide) hsz (fun u hu => Option.some.inj hu) (by decide))
    | 11, ho =>
      obtain rfl := Option.some.inj ho
      obtain ⟨n9, hl9, hw9⟩ := hI.ph
      have hup : ¬ 4 ≤ n9 := fun h => hfalse hj0 (hl9.t.trans (decide_eq_true h))
      have h8 := hafter ⟨8, .data⟩ (by simp) rfl
      rw [hl9.p] at h8
      obtain rfl : n9 = 3 := by have := of_decide_eq_true h8; omega
      obtain ⟨A', c', A2, c2, hs9, hk9, hf9, hE9⟩ := hw9
      refine stepS rfl (wanted_none rfl) rfl (run_storeOs rfl (hI.vals 10 _ rfl (hafter ⟨10, .data⟩ (by simp) rfl)) hs9 hk9 hf9) ?_
      exact hI.last hsz ⟨_, hl9.step hsz (by decide) (fun e => absurd e (by decide)) (fun e => absurd e (by decide)), A', c', A2, c2, hE9⟩
end Go.Proofs.YtigknfkkegccgaaDoor.K
