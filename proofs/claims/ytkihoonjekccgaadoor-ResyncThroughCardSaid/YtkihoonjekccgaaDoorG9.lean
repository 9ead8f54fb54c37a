/- Frames that came out: joined, looked at; they are right. -/
import Derived.Test.YtkihoonjekccgaaDoorG8
import Derived.Laws.StructEq
namespace Go.Proofs.YtkihoonjekccgaaDoor.K
open Go.RowKit
set_option linter.unusedVariables false
set_option linter.unusedSimpArgs false
set_option maxRecDepth 10000 in
theorem eqlN (b0 b1 b2 b3 b4 b5 b6 b7 b8 b9 b10 b11 : Int) (W : World) : (binOp .eql 25 (n12 [b0, b1, b2, b3, b4, b5, b6, b7, b8, b9, b10, b11]) (n12 [b0, b1, b2, b3, b4, b5, b6, b7, b8, b9, b10, b11])).run Tryd.prog W = .ok (.bool true) W := by
  obtain ⟨i, hi, _, hs, _⟩ := info_parts (show (Tryd.prog.info? 3).map (fun i => (i.zero, i.size, i.bytes)) = some (some (.int .i64 0), 1, 8) by kernel_rfl)
  rw [run_eql_struct]
  have key : ∀ (a : Int), (Op.equalIn 9999 3 (.int .i64 a) (.int .i64 a)).run Tryd.prog W = .ok true W := fun a => by
    show (Op.equalIn (9998 + 1) 3 (.int .i64 a) (.int .i64 a)).run Tryd.prog W = .ok true W
    rw [run_equalIn_int W 9998 3 .i64 .i64 a a Tryd.underlying3]; simp
  show ((Op.equalIn (9998 + 1 + 1) 25 _ _).run Tryd.prog W).andThen _ = _
  rw [Op.equalIn]
  have ha : (isAgg 3).run Tryd.prog W = .ok false W := by kernel_rfl
  simp [run_underlying Tryd.underlying25, Go.sizeOf, typeInfo, hi, hs, go_sem, ha, List.range', key, Result.andThen]
theorem neqF (a k s q x : Int) (t : ByteArray) (W : World) : (binOp .neq 45 (.agg #[.int .u8 a, .int .u8 k, .int .u8 s, .int .u8 q, .int .u8 x, .string t]) (.agg #[.int .u8 a, .int .u8 k, .int .u8 s, .int .u8 q, .int .u8 x, .string t])).run Tryd.prog W = .ok (.bool false) W := by
  have h := eqlF a k s q x t W
  rw [run_eql_struct] at h
  rw [run_neq_struct]
  generalize (Op.equalIn 10000 45 _ _).run Tryd.prog W = r at *
  cases r with
  | halt e w' => simp [Result.andThen] at h
  | ok b w' => simp [Result.andThen] at h ⊢; exact ⟨by rw [h.1], h.2⟩
theorem fields_ok {l : List Int} (h : InB l) : (fieldsF l).ok := by
  have z : (fr0 : Fp).ok := ⟨by decide, by decide, by decide, by decide, by decide, fun x hx => by cases hx⟩
  match l, h with
  | [], _ | [_], _ | [_, _], _ | [_, _, _], _ | [_, _, _, _], _ => exact z
  | b0 :: b1 :: b2 :: b3 :: b4 :: m, h =>
    have h0 := h b0 (by simp)
    have h1 := h b1 (by simp)
    have h2 := h b2 (by simp)
    have h3 := h b3 (by simp)
    exact ⟨h0, h1, h2, by simp only [fieldsF]; omega, by simp only [fieldsF]; omega, fun x hx => h x (by simp [fieldsF] at hx; simp [hx])⟩
theorem dec_right {l : List Int} (h : InB l) (h0 : (decL l).2 = 0) : rightF (decL l).1 = true ∧ (decL l).1.ok := by
  obtain ⟨z, f, hu⟩ : ∃ z f, unst false l [] = (z, f) := ⟨_, _, rfl⟩
  have hz := unst_inB l false [] z f hu h (fun x hx => by cases hx)
  unfold decL at h0 ⊢
  rw [hu] at h0 ⊢
  simp only at h0 ⊢
  split
  · rename_i hf; rw [if_pos hf] at h0; exact (hf h0).elim
  · rename_i hf
    rw [if_neg hf] at h0
    split
    · rename_i h7; rw [if_pos h7] at h0; simp at h0
    · rename_i h7
      rw [if_neg h7] at h0
      split
      · rename_i hv; rw [if_pos hv] at h0; simp at h0
      · rename_i hv
        rw [if_neg hv] at h0
        unfold formF at h0 ⊢
        split
        · rename_i hr
          simp only [Bool.and_eq_true] at hr
          exact ⟨hr.1, fields_ok (fun x hx => hz x (List.mem_of_mem_take hx))⟩
        · rename_i hr; rw [if_neg hr] at h0; simp at h0
theorem end_right {s : Ds} (h : InB s.held) : ∀ f ∈ (endD s).2, rightF f = true ∧ f.ok := by
  unfold endD
  split
  · simp
  · split
    · rename_i h0
      intro f hf
      obtain rfl := List.mem_singleton.1 hf
      exact dec_right h h0
    · simp
theorem feed_right : ∀ (l : List Int) {k : Int} {s : Ds}, DsOk k s → 0 ≤ k → InB l → ∀ f ∈ (feedD l s).2, rightF f = true ∧ f.ok := by
  intro l
  induction l with
  | nil => intro k s _ _ _ f hf; simp [feedD] at hf
  | cons c l ih =>
    intro k s h h0 hi f hf
    simp only [feedD] at hf
    rcases List.mem_append.1 hf with hf | hf
    · unfold stepD at hf
      split at hf
      · exact end_right h.inB f hf
      · simp at hf
    · exact ih (step_ok h h0 (hi c (by simp))) (by omega) (fun x hx => hi x (by simp [hx])) f hf
/-- Frames behind frames. -/
theorem OutF.app {B B' m c : Nat} {v v1 : Value} {A : Option Addr} {xs ys : List Fx} {w w1 : World} (h : OutF B v xs w) (k : OutF B' (.slice A m c) ys w) (hB : B ≤ B') (hlt : ∀ x ∈ xs, ∀ a, x.2.1 = some a → a.block < B')
    (h1 : w1.ownsRow B 35 6 v1 (xs ++ ys).length ((xs ++ ys).flatMap cF)) (hf : Fr (fun k => v.ownBlock = some k) w w1) : OutF B v1 (xs ++ ys) w1 :=
  ⟨h1, fun q hq => by
    rcases List.mem_append.1 hq with hq | hq
    · have a1 := h.each q hq
      exact a1.fr hf (fun j e e2 => own_ne a1.1 h.row (by decide) j e e2)
    · have a1 := k.each q hq
      exact (a1.fr hf (fun j e e2 => own_ne a1.1 h.row (by decide) j e e2)).low hB, by
    rw [List.pairwise_append]
    refine ⟨h.apart, k.apart, fun x hx y hy a b e1 e2 => ?_⟩
    have := hlt x hx a e1
    have := made_lt (k.each y hy) b e2
    omega⟩
theorem OutF.lt {B : Nat} {v : Value} {xs : List Fx} {w : World} (h : OutF B v xs w) : ∀ x ∈ xs, ∀ a, x.2.1 = some a → a.block < w.heap.size := fun x hx a e => (made_lt (h.each x hx) a e).2
theorem OutF.rowOf {B m c : Nat} {A : Option Addr} {xs : List Fx} {w : World} (h : OutF B (.slice A m c) xs w) (hm : xs.length = m) : RowOf cF 6 w w.heap.size A xs := by
  subst hm
  exact row_own (fun _ => rfl) h.row
theorem OutF.nilrow {B m c : Nat} {A : Option Addr} {xs : List Fx} {w : World} (h : OutF B (.slice A m c) xs w) : xs.length = m := by
  rcases h.row.2 with ⟨e, e2⟩ | ⟨g, cap, cur, e, _⟩
  · injection e with _ e _; omega
  · injection e with _ e _; exact e.symm
theorem add_field (ad : Addr) (m j : Nat) (hj : 0 < j) : ad.add (m + j) = ⟨(ad.add m).block, (ad.add m).off + j, none⟩ := by
  unfold Addr.add
  by_cases hm : m = 0
  · subst hm
    rw [if_neg (by omega), if_pos rfl]
    simp
  · rw [if_neg (by omega), if_neg hm]
    simp [Nat.add_assoc]
/-- The cells of a frame in a row of them. -/
def FxC (w : World) (ad : Addr) (i : Nat) (x : Fx) : Prop :=
  w.cell? (ad.add (i * 6)) = some (.int .u8 x.1.addr) ∧ w.cell? ⟨(ad.add (i * 6)).block, (ad.add (i * 6)).off + 1, none⟩ = some (.int .u8 x.1.kind) ∧ w.cell? ⟨(ad.add (i * 6)).block, (ad.add (i * 6)).off + 2, none⟩ = some (.int .u8 x.1.ses) ∧ w.cell? ⟨(ad.add (i * 6)).block, (ad.add (i * 6)).off + 3, none⟩ = some (.int .u8 x.1.seq) ∧ w.cell? ⟨(ad.add (i * 6)).block, (ad.add (i * 6)).off + 4, none⟩ = some (.int .u8 x.1.ack) ∧ w.cell? ⟨(ad.add (i * 6)).block, (ad.add (i * 6)).off + 5, none⟩ = some (.slice x.2.1 x.1.B.length x.2.2)
theorem fx_at {w : World} {B : Nat} {A : Option Addr} {l : List Fx} (h : RowOf cF 6 w B A l) {i : Nat} (hi : i < l.length) : ∃ ad, A = some ad ∧ ad.block < B ∧ FxC w ad i l[i] := by
  obtain ⟨ad, rfl, hb, hc⟩ := h i (l[i]) (List.getElem?_eq_getElem hi)
  have k1 := hc 1 _ rfl
  have k2 := hc 2 _ rfl
  have k3 := hc 3 _ rfl
  have k4 := hc 4 _ rfl
  have k5 := hc 5 _ rfl
  rw [add_field ad (i * 6) _ (by omega)] at k1 k2 k3 k4 k5
  exact ⟨ad, rfl, hb, hc 0 _ rfl, k1, k2, k3, k4, k5⟩
theorem FxC.below {B i : Nat} {w w' : World} {ad : Addr} {x : Fx} (h : FxC w ad i x) (hb : Below B w w') (ha : ad.block < B) : FxC w' ad i x := by
  obtain ⟨h0, h1, h2, h3, h4, h5⟩ := h
  have e : (ad.add (i * 6)).block < B := by rw [block_of_add]; exact ha
  exact ⟨(hb.cell e).trans h0, (hb.cell (p := ⟨(ad.add (i * 6)).block, _, none⟩) e).trans h1, (hb.cell (p := ⟨(ad.add (i * 6)).block, _, none⟩) e).trans h2, (hb.cell (p := ⟨(ad.add (i * 6)).block, _, none⟩) e).trans h3, (hb.cell (p := ⟨(ad.add (i * 6)).block, _, none⟩) e).trans h4, (hb.cell (p := ⟨(ad.add (i * 6)).block, _, none⟩) e).trans h5⟩
/-- A frame of those that came out. -/
theorem out_at {B m c i : Nat} {A : Option Addr} {xs : List Fx} {F : List Fp} {w : World} (h : OutF B (.slice A m c) xs w) (hx : xs.map (·.1) = F) (hi : i < F.length) :
    ∃ ad Ai ci, A = some ad ∧ ad.block < w.heap.size ∧ FxC w ad i (F.getD i fr0, Ai, ci) ∧ Made B Ai ci (F.getD i fr0).B w := by
  have hm := h.nilrow
  have hl : i < xs.length := by rw [← hx, List.length_map] at hi; exact hi
  obtain ⟨ad, rfl, hb, hc⟩ := fx_at (h.rowOf hm) hl
  have e : F.getD i fr0 = (xs[i]).1 := by rw [← hx, List.getD_eq_getElem?_getD, List.getElem?_map, List.getElem?_eq_getElem hl]; rfl
  rw [e]
  exact ⟨ad, (xs[i]).2.1, (xs[i]).2.2, rfl, hb, hc, h.each _ (List.getElem_mem hl)⟩
end Go.Proofs.YtkihoonjekccgaaDoor.K
