/- The walk of CrcLinear. -/
import Derived.Test.YtimlkmblfjoigaaDoorCw
import Derived.Laws.MakeOwn
import Derived.Test.YtimlkmblfjoigaaDoorRi
namespace Go.Proofs.YtimlkmblfjoigaaDoor.K
open Go.RowKit
set_option linter.unusedVariables false
set_option linter.unusedSimpArgs false
attribute [local go_sem ↓] Go.wp_at_zero Go.wp_at_succ
theorem min_three (ats : Array TypeId) (ty : TypeId) (a b c : Value) : Builtin.min_ ats ty #[a, b, c] = (Builtin.min2 a b >>= fun s => Builtin.min2 s c >>= fun s => pure s) := by simp only [Builtin.min_, List.foldlM_cons, List.foldlM_nil]
attribute [local go_sem] min2_min min_three
/-- Two rows of bytes, bit by bit. -/
def xr (a b : List Int) : List Int := List.zipWith (bits .xor .u8) a b
theorem cf_lin : ∀ (a b : List Int) (s t : B16), a.length = b.length → InB a → InB b → cf (s ^^^ t) (xr a b) = cf s a ^^^ cf t b := by
  intro a
  induction a with
  | nil => intro b s t h _ _; obtain rfl : b = [] := List.eq_nil_of_length_eq_zero (by simpa using h.symm); rfl
  | cons c a ih =>
    intro b s t h ha hb
    match b, h, hb with
    | d :: b, h, hb =>
      have hc := ha c (by simp)
      have hd := hb d (by simp)
      show cf (sb (s ^^^ t) (bits .xor .u8 c d)) (xr a b) = cf (sb s c) a ^^^ cf (sb t d) b
      have e : sb (s ^^^ t) (bits .xor .u8 c d) = sb s c ^^^ sb t d := by
        unfold sb
        rw [up_xor c d hc hd, ← gn_xor]
        congr 1
        rw [BitVec.xor_assoc, BitVec.xor_assoc]
        congr 1
        rw [← BitVec.xor_assoc, BitVec.xor_comm t, BitVec.xor_assoc]
      rw [e]
      exact ih b _ _ (by simpa using h) (fun x hx => ha x (by simp [hx])) (fun x hx => hb x (by simp [hx]))
theorem inB_zeros (n : Nat) : InB (List.replicate n 0) := fun x hx => by obtain ⟨_, rfl⟩ := List.mem_replicate.1 hx; decide
theorem xr_zeros (b : List Int) (hb : InB b) : xr (List.replicate b.length 0) b = b := by
  induction b with
  | nil => rfl
  | cons d b ih =>
    have hd := hb d (by simp)
    show bits .xor .u8 0 d :: xr (List.replicate b.length 0) b = d :: b
    rw [ih (fun x hx => hb x (by simp [hx])), u8_xor 0 d (by decide) (by decide) hd.1 hd.2]
    congr 1
    simp
    omega
/-- The sum of the xor is the xor of the sums, and of that of noughts. -/
theorem crc_lin (a b : List Int) (h : a.length = b.length) (ha : InB a) (hb : InB b) : crc (xr a b) = crc a ^^^ crc b ^^^ crc (List.replicate b.length 0) := by
  have h1 := cf_lin a b 0xFFFF#16 0#16 h ha hb
  have h2 := cf_lin (List.replicate b.length 0) b 0xFFFF#16 0#16 (by simp) (inB_zeros _) hb
  rw [xr_zeros b hb] at h2
  rw [BitVec.xor_zero] at h1 h2
  unfold crc
  rw [h1, h2]
  generalize cf 0xFFFF#16 a = p
  generalize cf 0#16 b = q
  generalize cf 0xFFFF#16 (List.replicate b.length 0) = z
  rw [BitVec.xor_assoc p, BitVec.xor_assoc z, BitVec.xor_comm q z, ← BitVec.xor_assoc z, BitVec.xor_self, BitVec.zero_xor]
theorem crcN_lin (a b : List Int) (h : a.length = b.length) (ha : InB a) (hb : InB b) : bits .xor .u16 (bits .xor .u16 (crcN a) (crcN b)) (crcN (List.replicate b.length 0)) = crcN (xr a b) := by
  show bits .xor .u16 (bits .xor .u16 (iv (crc a)) (iv (crc b))) (iv (crc (List.replicate b.length 0))) = iv (crc (xr a b))
  rw [iv_xor, iv_xor, crc_lin a b h ha hb]
theorem xr_len (a b : List Int) (h : a.length = b.length) : (xr a b).length = b.length := by unfold xr; rw [List.length_zipWith, h, Nat.min_self]
theorem xr_inB (a b : List Int) (ha : InB a) (hb : InB b) : InB (xr a b) := fun x hx => by
  unfold xr at hx
  obtain ⟨i, hi, rfl⟩ := List.mem_iff_getElem.1 hx
  rw [List.getElem_zipWith]
  exact xor_inB _ _ (ha _ (List.getElem_mem _)) (hb _ (List.getElem_mem _))
theorem fill_set (z : List Int) (k : Nat) (hk : k < z.length) : (z.take k ++ List.replicate (z.length - k) 0).set k z[k] = z.take (k + 1) ++ List.replicate (z.length - (k + 1)) 0 := by
  have hl : (z.take k).length = k := by rw [List.length_take]; omega
  rw [List.set_append_right _ _ (by omega), hl, Nat.sub_self, show z.length - k = (z.length - (k + 1)) + 1 by omega, List.replicate_succ, List.set_cons_zero, List.take_succ_eq_append_getElem hk, List.append_assoc]
  rfl
theorem made_zeros (w : World) (n : Nat) (hn : n ≤ 140737488355328) : Made w.heap.size (some ⟨w.heap.size, 0, none⟩) n (List.replicate n 0) (w.alloc (.cells (madeCells #[.int .u8 0] n) 5)) := by
  have e : (madeCells #[.int .u8 0] n).toList = nums .u8 (List.replicate n 0) := by
    apply List.ext_getElem
    · simp [madeCells, nums]
    · intro i h1 h2
      simp [madeCells, nums, Nat.mod_one]
  have h := World.ownsRow_lit (base := w.heap.size) (e := 5) (size := 1) w (madeCells #[.int .u8 0] n) n (Nat.le_refl _) (by unfold maxLen; omega) (by rw [size_madeCells]; omega)
  rw [e] at h
  have h' : (w.alloc (.cells (madeCells #[.int .u8 0] n) 5)).ownsRow w.heap.size 5 1 (.slice (some ⟨w.heap.size, 0, none⟩) (List.replicate n (0 : Int)).length n) (List.replicate n (0 : Int)).length (nums .u8 (List.replicate n 0)) := by rw [List.length_replicate]; exact h
  exact ⟨h', row_own (c := c8) (fun _ => rfl) (by rw [← nums_flat]; exact h'), by rw [List.length_replicate]; exact Nat.le_refl _⟩
/-- A row of one part, just made. -/
def IsRow (p : Part) (v : Value) (w : World) : Prop := ∃ g, v = .slice (some ⟨g, 0, none⟩) 1 1 ∧ RowOf cP 1 w w.heap.size (some ⟨g, 0, none⟩) [p]
theorem IsRow.below {p : Part} {v : Value} {w w' : World} (h : IsRow p v w) (k : Below w.heap.size w w') : IsRow p v w' := by
  obtain ⟨g, e, h⟩ := h
  exact ⟨g, e, h.now k⟩
theorem IsRow.new {w : World} {A : Option Addr} {c n : Nat} {l : List Int} (hn : l.length = n) : IsRow (A, c, l) (.slice (some ⟨w.heap.size, 0, none⟩) 1 1) (w.alloc (.cells #[.slice A n c] 23)) := by
  subst hn
  exact ⟨_, rfl, row_one rfl (by simp)⟩
theorem run_one {ρ : Operand → Value} {s : Nat} {A : Option Addr} {n c : Nat} {W : World} {o : Oper} (ho : o.op = .buildSlice 22 1 #[(0, .tmp s)]) (e : ρ (.tmp s) = .slice A n c) : (execOp ρ o).run Tryd.prog W = .ok (.value (.slice (some ⟨W.heap.size, 0, none⟩) 1 1)) (W.alloc (.cells #[.slice A n c] 23)) := by
  simp [execOp, ho, e, go_sem]
theorem run_cut {ρ : Operand → Value} {s s2 : Nat} {v u x : Value} {W : World} {o : Oper} (ho : o.op = .slice 23 (.tmp s) none (some (.tmp s2)) none) (e : ρ (.tmp s) = v) (e2 : ρ (.tmp s2) = u) (h : (Instr.slice 23 v none (some u) none).run Tryd.prog W = .ok x W) : (execOp ρ o).run Tryd.prog W = .ok (.value x) W := by
  simp [execOp, ho, e, e2, go_sem, h]
theorem run_mk {ρ : Operand → Value} {s : Nat} {u x : Value} {W W2 : World} {o : Oper} (ho : o.op = .makeSlice 23 (.tmp s) (.tmp s)) (e : ρ (.tmp s) = u) (h : (Instr.makeSlice 23 u u).run Tryd.prog W = .ok x W2) : (execOp ρ o).run Tryd.prog W = .ok (.value x) W2 := by
  simp [execOp, ho, e, go_sem, h]
theorem run_xor {ρ : Operand → Value} {s s2 : Nat} {x y : Int} {W : World} {o : Oper} (ho : o.op = .binOp .xor 25 (.tmp s) (.tmp s2) 25) (e : ρ (.tmp s) = .int .u16 x) (e2 : ρ (.tmp s2) = .int .u16 y) : (execOp ρ o).run Tryd.prog W = .ok (.value (.int .u16 (bits .xor .u16 x y))) W := by
  simp [execOp, ho, e, e2, go_sem]
theorem run_eq16 {ρ : Operand → Value} {s s2 : Nat} {x : Int} {W : World} {o : Oper} (ho : o.op = .binOp .eql 25 (.tmp s) (.tmp s2) 25) (e : ρ (.tmp s) = .int .u16 x) (e2 : ρ (.tmp s2) = .int .u16 x) : (execOp ρ o).run Tryd.prog W = .ok (.value (.bool true)) W := by
  simp [execOp, ho, e, e2, go_sem]
theorem run_pick {ρ : Operand → Value} {s s2 : Nat} {z : Operand} {W : World} {o : Oper} (ho : o.op = .pick (.tmp s) (.tmp s2) z) (e : ρ (.tmp s) = .bool true) (e2 : ρ (.tmp s2) = .bool true) : (execOp ρ o).run Tryd.prog W = .ok (.value (.bool true)) W := by
  simp [execOp, ho, e, e2, go_sem]
theorem enter_CTable (args : Array Value) (W : World) : (callFunc 16 args).run Tryd.prog W = .ok (.enter 16 args) W := by kernel_rfl
theorem enter_CBits (args : Array Value) (W : World) : (callFunc 15 args).run Tryd.prog W = .ok (.enter 15 args) W := by kernel_rfl
theorem run_call_CTable {ρ : Operand → Value} {s : Nat} {v : Value} {ts : Array TypeId} {W : World} {o : Oper} (ho : o.op = .call { callee := .value (.func 16), args := #[.tmp s], argTypes := ts }) (e : ρ (.tmp s) = v) (hf : ρ (.func 16) = .func (.func 16) #[] #[] := by rfl) : (execOp ρ o).run Tryd.prog W = .ok (.enter 16 #[v]) W := by
  rw [← enter_CTable]
  simp [execOp, ho, e, hf, go_sem, resolve, invoke]
theorem run_call_CBits {ρ : Operand → Value} {s : Nat} {v : Value} {ts : Array TypeId} {W : World} {o : Oper} (ho : o.op = .call { callee := .value (.func 15), args := #[.tmp s], argTypes := ts }) (e : ρ (.tmp s) = v) (hf : ρ (.func 15) = .func (.func 15) #[] #[] := by rfl) : (execOp ρ o).run Tryd.prog W = .ok (.enter 15 #[v]) W := by
  rw [← enter_CBits]
  simp [execOp, ho, e, hf, go_sem, resolve, invoke]
/-- What the operations of the last region yield. -/
def LinF (A7 A A' : Option Addr) (N nx ny c c' : Nat) (z a b : List Int) (j : Nat) (v : Value) (w : World) : Prop :=
  match j with
  | 2 => v = .slice A7 N N
  | 3 => IsRow (A7, N, z) v w
  | 4 => v = .int .u16 (crcN z)
  | 5 => v = .slice A nx c
  | 6 => v = .int .i64 N
  | 7 => v = .slice A N c
  | 8 => IsRow (A, c, a) v w
  | 9 => v = .int .u16 (crcN a)
  | 10 => v = .slice A' ny c'
  | 11 => v = .int .i64 N
  | 12 => v = .slice A' N c'
  | 13 => IsRow (A', c', b) v w
  | 14 => v = .int .u16 (crcN b)
  | 15 => v = .int .u16 (bits .xor .u16 (crcN a) (crcN b))
  | 16 => v = .int .i64 N
  | 17 => ∃ A0, v = .slice A0 N N ∧ RowOf c8 1 w w.heap.size A0 (List.replicate N 0)
  | 18 => ∃ A0, IsRow (A0, N, List.replicate N 0) v w ∧ RowOf c8 1 w w.heap.size A0 (List.replicate N 0)
  | 19 => v = .int .u16 (crcN (List.replicate N 0))
  | 20 => v = .int .u16 (crcN z)
  | _ => v = .bool true
theorem LinF.below {A7 A A' : Option Addr} {N nx ny c c' : Nat} {z a b : List Int} {j : Nat} {v : Value} {w w' : World} (h : LinF A7 A A' N nx ny c c' z a b j v w) (k : Below w.heap.size w w') : LinF A7 A A' N nx ny c c' z a b j v w' := by
  unfold LinF at *
  split at h <;> first
    | exact h
    | exact IsRow.below h k
    | (obtain ⟨A0, e, h⟩ := h; exact ⟨A0, e, h.now k⟩)
    | (obtain ⟨A0, e, h⟩ := h; exact ⟨A0, e.below k, h.now k⟩)
def LinD (j : Nat) : Nat := if j = 23 then 4 else 34 + j
/-- What holds while the last region goes on. -/
structure LinI (A7 A A' : Option Addr) (N nx ny c c' : Nat) (z a b : List Int) (wr : World) (listed : Array Bool) (t : Act) (w : World) : Prop where
  size : t.tmps.size = 57
  defers : t.defers = []
  below : Below wr.heap.size wr w
  s5 : slot t 5 = .bool true
  s7 : slot t 7 = .slice A7 N N
  s0 : slot t 0 = .slice A nx c
  s1 : slot t 1 = .slice A' ny c'
  s6 : slot t 6 = .int .i64 N
  done : ∀ j, j < 24 → listed.getD j false = true → LinF A7 A A' N nx ny c c' z a b j (slot t (LinD j)) w
theorem LinD_inj {i j : Nat} (hi : i < 24) (hj : j < 24) (h : LinD i = LinD j) : i = j := by
  unfold LinD at h
  split at h <;> split at h <;> omega
theorem LinI.put {A7 A A' : Option Addr} {N nx ny c c' : Nat} {z a b : List Int} {wr : World} {listed : Array Bool} {t : Act} {w w2 : World} (h : LinI A7 A A' N nx ny c c' z a b wr listed t w) {j : Nat} (hj : j < 24) {v : Value} (hb : Below w.heap.size w w2) (hF : LinF A7 A A' N nx ny c c' z a b j v w2) :
    LinI A7 A A' N nx ny c c' z a b wr (listed.setIfInBounds j true) (t.put (some (LinD j)) v) w2 := by
  have hd : LinD j < t.tmps.size := by rw [h.size]; unfold LinD; split <;> omega
  have hn : ∀ k, k < 34 → k ≠ 4 → k ≠ LinD j := fun k h1 h2 => by unfold LinD; split <;> omega
  have key : ∀ k, k < 34 → k ≠ 4 → slot (t.put (some (LinD j)) v) k = slot t k := fun k h1 h2 => by rw [put_at hd, if_neg (hn k h1 h2)]
  refine ⟨by rw [put_size]; exact h.size, by rw [put_defers]; exact h.defers, h.below.trans (hb.mono h.below.size), by rw [key 5 (by omega) (by omega)]; exact h.s5, by rw [key 7 (by omega) (by omega)]; exact h.s7, by rw [key 0 (by omega) (by omega)]; exact h.s0, by rw [key 1 (by omega) (by omega)]; exact h.s1, by rw [key 6 (by omega) (by omega)]; exact h.s6, fun i hi hl => ?_⟩
  rw [put_at hd]
  by_cases e : LinD i = LinD j
  · obtain rfl := LinD_inj hi hj e
    rw [if_pos rfl]
    exact hF
  · rw [if_neg e]
    have hij : j ≠ i := fun e2 => e (by rw [e2])
    rw [getD_set_ne false hij] at hl
    exact (h.done i hi hl).below hb
set_option maxHeartbeats 8000000 in
set_option maxRecDepth 10000 in
theorem clin_walk (A A' : Option Addr) (c c' : Nat) (xs ys : List Int) (hc : xs.length ≤ c) (hc' : ys.length ≤ c') (hcm : c ≤ 9223372036854775807) (hcm' : c' ≤ 9223372036854775807) (w : World) (hT : Turns w) (h0 : RowOf c8 1 w w.heap.size A xs) (h1 : RowOf c8 1 w w.heap.size A' ys) (b0 : InB xs) (b1 : InB ys) :
    Calls Tryd.prog 7 #[.slice A xs.length c, .slice A' ys.length c'] w fun e w' => e = .returned (.bool true) ∧ Below w.heap.size w w' := by
  obtain ⟨N, hN⟩ : ∃ N, N = min (min xs.length ys.length) 200 := ⟨_, rfl⟩
  have hNx : N ≤ xs.length := by omega
  have hNy : N ≤ ys.length := by omega
  have hN2 : N ≤ 200 := by omega
  have hmin : min (min (xs.length : Int) (ys.length : Int)) 200 = (N : Int) := by omega
  have hcut := fun W => bcut_hi A xs.length c N (by omega) W
  have hcut' := fun W => bcut_hi A' ys.length c' N (by omega) W
  have HRa := Lib.hid (h0.take_ N)
  have HRb := Lib.hid (h1.take_ N)
  have HR0 := Lib.hid h0
  have HR1 := Lib.hid h1
  have HIa := Lib.hid (b0.take_ N)
  have HIb := Lib.hid (b1.take_ N)
  have HLa : Hid ((xs.take N).length = N) := Lib.hid (by rw [List.length_take]; omega)
  have HLb : Hid ((ys.take N).length = N) := Lib.hid (by rw [List.length_take]; omega)
  have HTB : Hid (∀ w' : World, Below w.heap.size w w' → Turns w') := Lib.hid (fun w' b => hT.below b hT.lt)
  obtain ⟨z, hz⟩ : ∃ z, z = xr (xs.take N) (ys.take N) := ⟨_, rfl⟩
  have HZ := Lib.hid hz
  have HZL : Hid (z.length = N) := Lib.hid (by rw [hz, xr_len _ _ (by rw [HLa.out, HLb.out])]; exact HLb.out)
  have HZI : Hid (InB z) := Lib.hid (by rw [hz]; exact xr_inB _ _ HIa.out HIb.out)
  have hsum := crcN_lin (xs.take N) (ys.take N) (by rw [HLa.out, HLb.out]) HIa.out HIb.out
  rw [HLb.out, ← hz] at hsum
  have HSum := Lib.hid hsum
  have HNx := Lib.hid hNx
  have HNy := Lib.hid hNy
  have hmk : ∀ W, (Instr.makeSlice 23 (.int .i64 N) (.int .i64 N)).run Tryd.prog W = .ok (.slice (some ⟨W.heap.size, 0, none⟩) N N) (W.alloc (.cells (madeCells #[.int .u8 0] N) 5)) := fun W => by
    obtain ⟨i0, hi, hz0, hz1, hz2⟩ := info_parts info_u8
    have := run_make (P := Tryd.prog) W 23 5 i0 (.int .u8 0) Tryd.underlying23 hi hz0 .i64 .i64 N N (by omega) (by omega) (by rw [hz2]; omega) (by omega)
    rw [hz1] at this
    simpa [Value.cells] using this
  clear h0 h1 b0 b1 hN hz hsum hc hc'
  go_enter Tryd.func7, Tryd.ntmps7
  go_wp2_with fail
  refine (shown2_walk hT).mono ?_
  rintro e w1 ⟨rfl, H1⟩
  go_wp2
  go_loopw [8] (fun i wr => ∃ (k : Nat), i = .int .i64 k ∧ k ≤ N ∧ Made w1.heap.size (some ⟨w1.heap.size, 0, none⟩) N (z.take k ++ List.replicate (z.length - k) 0) wr ∧ Below w1.heap.size w1 wr) (fun i _ => N - (intOf i).toNat)
  case atStart => exact ⟨0, rfl, by omega, by rw [HZL.out]; simpa using made_zeros w1 N (by omega), (Below.refl _ w1).alloc (Nat.le_refl _) _⟩
  case round =>
    obtain ⟨k, rfl, hk, hmd, hbl⟩ := hrel
    have HMD := Lib.hid hmd
    have HBL := Lib.hid hbl
    clear hmd hbl
    by_cases hlt : k < N
    · have BW := Lib.hid (H1.out.trans (HBL.out.mono H1.out.size))
      obtain ⟨ad, rfl, _, k1⟩ := (HR0.out.now BW.out).num (i := k) (by have := HNx.out; omega)
      obtain ⟨ad', rfl, _, k2⟩ := (HR1.out.now BW.out).num (i := k) (by have := HNy.out; omega)
      have hlen : (z.take k ++ List.replicate (z.length - k) 0).length = N := by rw [List.length_append, List.length_take, List.length_replicate, HZL.out]; omega
      obtain ⟨g, e, hg1, hg2, hcell, hfroz, hput⟩ := HMD.out.put (i := k) (by rw [hlen]; exact hlt)
      injection e with e
      injection e with e
      subst e
      have hp := hput (bits .xor .u8 (xs.getD k 0) (ys.getD k 0))
      have hzk : z[k]'(by rw [HZL.out]; exact hlt) = bits .xor .u8 (xs.getD k 0) (ys.getD k 0) := by
        simp only [HZ.out, xr, List.getElem_zipWith, List.getElem_take]
        rw [List.getD_eq_getElem?_getD, List.getD_eq_getElem?_getD, List.getElem?_eq_getElem (by have := HNx.out; omega), List.getElem?_eq_getElem (by have := HNy.out; omega)]
        rfl
      rw [← hzk, fill_set z k (by rw [HZL.out]; exact hlt), hzk] at hp
      have HP := Lib.hid hp
      generalize xs.getD k 0 = x at *
      generalize ys.getD k 0 = y at *
      have hkx : (k : Int) < (xs.length : Int) := by have := HNx.out; omega
      have hky : (k : Int) < (ys.length : Int) := by have := HNy.out; omega
      have HB := Lib.hid (set_below (i := k) (v := .int .u8 (bits .xor .u8 x y)) HBL.out hg1)
      obtain ⟨u, hcu⟩ : ∃ u, wr.cell? ⟨w1.heap.size, k, none⟩ = some (.int .u8 u) := ⟨_, hcell⟩
      clear hp hput hzk hcell hlen
      go_wp2
      go_region
      go_wp2
      go_roundw
      case rel => exact ⟨k + 1, by go_num, by omega, HP.out, below_dr HB.out⟩
      case measure => simp [intOf]; omega
    · obtain rfl : N = k := by omega
      go_wp2_with fail
      have hR := Lib.hid (HMD.out)
      obtain ⟨A7, hA7⟩ : ∃ A7 : Option Addr, A7 = some ⟨w1.heap.size, 0, none⟩ := ⟨_, rfl⟩
      rw [← hA7]
      have HRz : Hid (RowOf c8 1 wr wr.heap.size A7 z) := Lib.hid (by have := hR.out.2.1; rw [HZL.out, Nat.sub_self, List.replicate_zero, List.append_nil, ← HZL.out, List.take_length] at this; rw [hA7]; exact this)
      have BW := Lib.hid (H1.out.trans (HBL.out.mono H1.out.size))
      have HTr := Lib.hid (HTB.out _ BW.out)
      have HRa' := Lib.hid (HRa.out.now BW.out)
      have HRb' := Lib.hid (HRb.out.now BW.out)
      refine wp_region_any (by kernel_rfl) ?_
      refine wpAny_inv (I := LinI A7 A A' N xs.length ys.length c c' z (xs.take N) (ys.take N) wr) ?step ?done _ _ _ _ (by simp) (left_le _ _) ?init
      case init => exact ⟨rfl, rfl, below_dr (Below.refl _ _), rfl, rfl, rfl, rfl, rfl, fun j hj h => by simp [Array.getD] at h⟩
      case done =>
        rintro listed a w' hsz hI hr
        obtain ⟨tm, df⟩ := a
        obtain rfl : df = [] := hI.defers
        have e : tm.getD 4 undef = .bool true := hI.done 23 (by decide) (ready_nil hsz (by kernel_rfl) hr 23 (by decide))
        have HBw := Lib.hid (BW.out.trans (hI.below.mono BW.out.size))
        go_wp2
        go_ret
        exact ⟨by rw [e], HBw.out⟩
      case step =>
        rintro listed a w' hsz hI j hj
        obtain ⟨hj0, o, ho, hafter⟩ := mem_ready.1 hj
        match j, ho with
        | 0, ho =>
          obtain rfl := Option.some.inj ho
          refine stepV rfl (wanted_none rfl) (v := .bool true) (w2 := w') ?_ (hI.put (j := 0) (by decide) (Below.refl _ _) rfl)
          show Result.ok (Next.value (slot a 5)) w' = _
          rw [hI.s5]
        | 1, ho =>
          obtain rfl := Option.some.inj ho
          have e0 : slot a 34 = .bool true := hI.done 0 (by decide) (hafter ⟨0, .data⟩ (by simp) rfl)
          refine stepV rfl (wanted_none rfl) (v := .bool true) (w2 := w') ?_ (hI.put (j := 1) (by decide) (Below.refl _ _) rfl)
          show Result.ok (Next.value (slot a 34)) w' = _
          rw [e0]
        | 2, ho =>
          obtain rfl := Option.some.inj ho
          refine stepV rfl (wanted_some rfl rfl rfl (hI.done 1 (by decide) (hafter ⟨1, .guard⟩ (by simp) rfl))) (v := .slice A7 N N) (w2 := w') ?_ (hI.put (j := 2) (by decide) (Below.refl _ _) rfl)
          show Result.ok (Next.value (slot a 7)) w' = _
          rw [hI.s7]
        | 3, ho =>
          obtain rfl := Option.some.inj ho
          have e : slot a 36 = .slice A7 N N := hI.done 2 (by decide) (hafter ⟨2, .data⟩ (by simp) rfl)
          refine stepV rfl (wanted_some rfl rfl rfl (hI.done 1 (by decide) (hafter ⟨1, .guard⟩ (by simp) rfl))) (v := .slice (some ⟨w'.heap.size, 0, none⟩) 1 1) (w2 := w'.alloc (.cells #[.slice A7 N N] 23)) ?_ (hI.put (j := 3) (by decide) ((Below.refl _ _).alloc (Nat.le_refl _) _) (IsRow.new HZL.out))
          exact run_one rfl e
        | 4, ho =>
          obtain rfl := Option.some.inj ho
          obtain ⟨g, e, hr⟩ : IsRow (A7, N, z) (slot a 37) w' := hI.done 3 (by decide) (hafter ⟨3, .data⟩ (by simp) rfl)
          have hT' : Turns w' := HTr.out.below hI.below HTr.out.lt
          have hrow : RowOf c8 1 w' w'.heap.size A7 (z) := (HRz.out.now hI.below)
          refine stepC rfl (wanted_some rfl rfl rfl (hI.done 1 (by decide) (hafter ⟨1, .guard⟩ (by simp) rfl))) (run_call_CTable rfl e) (CTableC (pc := 1) (B := w'.heap.size) (ps := [(A7, N, z)]) hT' (by simp) hr (fun p hp => by rw [List.mem_singleton] at hp; subst hp; exact ⟨hrow, HZI.out, by rw [HZL.out]; omega⟩)) ?_
          rintro e2 w2 ⟨rfl, rfl⟩
          rw [flat_one]
          exact ⟨_, rfl, hI.put (j := 4) (by decide) (Below.refl _ _) rfl⟩
        | 5, ho =>
          obtain rfl := Option.some.inj ho
          refine stepV rfl (wanted_some rfl rfl rfl (hI.done 1 (by decide) (hafter ⟨1, .guard⟩ (by simp) rfl))) (v := .slice A xs.length c) (w2 := w') ?_ (hI.put (j := 5) (by decide) (Below.refl _ _) rfl)
          show Result.ok (Next.value (slot a 0)) w' = _
          rw [hI.s0]
        | 6, ho =>
          obtain rfl := Option.some.inj ho
          refine stepV rfl (wanted_some rfl rfl rfl (hI.done 1 (by decide) (hafter ⟨1, .guard⟩ (by simp) rfl))) (v := .int .i64 N) (w2 := w') ?_ (hI.put (j := 6) (by decide) (Below.refl _ _) rfl)
          show Result.ok (Next.value (slot a 6)) w' = _
          rw [hI.s6]
        | 7, ho =>
          obtain rfl := Option.some.inj ho
          have e5 : slot a 39 = .slice A xs.length c := hI.done 5 (by decide) (hafter ⟨5, .data⟩ (by simp) rfl)
          have e6 : slot a 40 = .int .i64 N := hI.done 6 (by decide) (hafter ⟨6, .data⟩ (by simp) rfl)
          refine stepV rfl (wanted_some rfl rfl rfl (hI.done 1 (by decide) (hafter ⟨1, .guard⟩ (by simp) rfl))) (v := .slice A N c) (w2 := w') (run_cut rfl e5 e6 (hcut w')) (hI.put (j := 7) (by decide) (Below.refl _ _) rfl)
        | 8, ho =>
          obtain rfl := Option.some.inj ho
          have e : slot a 41 = .slice A N c := hI.done 7 (by decide) (hafter ⟨7, .data⟩ (by simp) rfl)
          refine stepV rfl (wanted_some rfl rfl rfl (hI.done 1 (by decide) (hafter ⟨1, .guard⟩ (by simp) rfl))) (v := .slice (some ⟨w'.heap.size, 0, none⟩) 1 1) (w2 := w'.alloc (.cells #[.slice A N c] 23)) ?_ (hI.put (j := 8) (by decide) ((Below.refl _ _).alloc (Nat.le_refl _) _) (IsRow.new HLa.out))
          exact run_one rfl e
        | 9, ho =>
          obtain rfl := Option.some.inj ho
          obtain ⟨g, e, hr⟩ : IsRow (A, c, xs.take N) (slot a 42) w' := hI.done 8 (by decide) (hafter ⟨8, .data⟩ (by simp) rfl)
          have hT' : Turns w' := HTr.out.below hI.below HTr.out.lt
          have hrow : RowOf c8 1 w' w'.heap.size A (xs.take N) := (HRa'.out.now hI.below)
          refine stepC rfl (wanted_some rfl rfl rfl (hI.done 1 (by decide) (hafter ⟨1, .guard⟩ (by simp) rfl))) (run_call_CTable rfl e) (CTableC (pc := 1) (B := w'.heap.size) (ps := [(A, c, xs.take N)]) hT' (by simp) hr (fun p hp => by rw [List.mem_singleton] at hp; subst hp; exact ⟨hrow, HIa.out, by rw [HLa.out]; omega⟩)) ?_
          rintro e2 w2 ⟨rfl, rfl⟩
          rw [flat_one]
          exact ⟨_, rfl, hI.put (j := 9) (by decide) (Below.refl _ _) rfl⟩
        | 10, ho =>
          obtain rfl := Option.some.inj ho
          refine stepV rfl (wanted_some rfl rfl rfl (hI.done 1 (by decide) (hafter ⟨1, .guard⟩ (by simp) rfl))) (v := .slice A' ys.length c') (w2 := w') ?_ (hI.put (j := 10) (by decide) (Below.refl _ _) rfl)
          show Result.ok (Next.value (slot a 1)) w' = _
          rw [hI.s1]
        | 11, ho =>
          obtain rfl := Option.some.inj ho
          refine stepV rfl (wanted_some rfl rfl rfl (hI.done 1 (by decide) (hafter ⟨1, .guard⟩ (by simp) rfl))) (v := .int .i64 N) (w2 := w') ?_ (hI.put (j := 11) (by decide) (Below.refl _ _) rfl)
          show Result.ok (Next.value (slot a 6)) w' = _
          rw [hI.s6]
        | 12, ho =>
          obtain rfl := Option.some.inj ho
          have e10 : slot a 44 = .slice A' ys.length c' := hI.done 10 (by decide) (hafter ⟨10, .data⟩ (by simp) rfl)
          have e11 : slot a 45 = .int .i64 N := hI.done 11 (by decide) (hafter ⟨11, .data⟩ (by simp) rfl)
          refine stepV rfl (wanted_some rfl rfl rfl (hI.done 1 (by decide) (hafter ⟨1, .guard⟩ (by simp) rfl))) (v := .slice A' N c') (w2 := w') (run_cut rfl e10 e11 (hcut' w')) (hI.put (j := 12) (by decide) (Below.refl _ _) rfl)
        | 13, ho =>
          obtain rfl := Option.some.inj ho
          have e : slot a 46 = .slice A' N c' := hI.done 12 (by decide) (hafter ⟨12, .data⟩ (by simp) rfl)
          refine stepV rfl (wanted_some rfl rfl rfl (hI.done 1 (by decide) (hafter ⟨1, .guard⟩ (by simp) rfl))) (v := .slice (some ⟨w'.heap.size, 0, none⟩) 1 1) (w2 := w'.alloc (.cells #[.slice A' N c'] 23)) ?_ (hI.put (j := 13) (by decide) ((Below.refl _ _).alloc (Nat.le_refl _) _) (IsRow.new HLb.out))
          exact run_one rfl e
        | 14, ho =>
          obtain rfl := Option.some.inj ho
          obtain ⟨g, e, hr⟩ : IsRow (A', c', ys.take N) (slot a 47) w' := hI.done 13 (by decide) (hafter ⟨13, .data⟩ (by simp) rfl)
          have hT' : Turns w' := HTr.out.below hI.below HTr.out.lt
          have hrow : RowOf c8 1 w' w'.heap.size A' (ys.take N) := (HRb'.out.now hI.below)
          refine stepC rfl (wanted_some rfl rfl rfl (hI.done 1 (by decide) (hafter ⟨1, .guard⟩ (by simp) rfl))) (run_call_CTable rfl e) (CTableC (pc := 1) (B := w'.heap.size) (ps := [(A', c', ys.take N)]) hT' (by simp) hr (fun p hp => by rw [List.mem_singleton] at hp; subst hp; exact ⟨hrow, HIb.out, by rw [HLb.out]; omega⟩)) ?_
          rintro e2 w2 ⟨rfl, rfl⟩
          rw [flat_one]
          exact ⟨_, rfl, hI.put (j := 14) (by decide) (Below.refl _ _) rfl⟩
        | 15, ho =>
          obtain rfl := Option.some.inj ho
          have e9 : slot a 43 = .int .u16 (crcN (xs.take N)) := hI.done 9 (by decide) (hafter ⟨9, .data⟩ (by simp) rfl)
          have e14 : slot a 48 = .int .u16 (crcN (ys.take N)) := hI.done 14 (by decide) (hafter ⟨14, .data⟩ (by simp) rfl)
          refine stepV rfl (wanted_some rfl rfl rfl (hI.done 1 (by decide) (hafter ⟨1, .guard⟩ (by simp) rfl))) (v := .int .u16 (bits .xor .u16 (crcN (xs.take N)) (crcN (ys.take N)))) (w2 := w') (run_xor rfl e9 e14) (hI.put (j := 15) (by decide) (Below.refl _ _) rfl)
        | 16, ho =>
          obtain rfl := Option.some.inj ho
          refine stepV rfl (wanted_some rfl rfl rfl (hI.done 1 (by decide) (hafter ⟨1, .guard⟩ (by simp) rfl))) (v := .int .i64 N) (w2 := w') ?_ (hI.put (j := 16) (by decide) (Below.refl _ _) rfl)
          show Result.ok (Next.value (slot a 6)) w' = _
          rw [hI.s6]
        | 17, ho =>
          obtain rfl := Option.some.inj ho
          have e16 : slot a 50 = .int .i64 N := hI.done 16 (by decide) (hafter ⟨16, .data⟩ (by simp) rfl)
          refine stepV rfl (wanted_some rfl rfl rfl (hI.done 1 (by decide) (hafter ⟨1, .guard⟩ (by simp) rfl))) (v := .slice (some ⟨w'.heap.size, 0, none⟩) N N) (w2 := w'.alloc (.cells (madeCells #[.int .u8 0] N) 5)) (run_mk rfl e16 (hmk w')) (hI.put (j := 17) (by decide) ((Below.refl _ _).alloc (Nat.le_refl _) _) ⟨_, rfl, (made_zeros w' N (by omega)).2.1⟩)
        | 18, ho =>
          obtain rfl := Option.some.inj ho
          obtain ⟨A0, e, hrz⟩ : ∃ A0, slot a 51 = .slice A0 N N ∧ RowOf c8 1 w' w'.heap.size A0 (List.replicate N 0) := hI.done 17 (by decide) (hafter ⟨17, .data⟩ (by simp) rfl)
          refine stepV rfl (wanted_some rfl rfl rfl (hI.done 1 (by decide) (hafter ⟨1, .guard⟩ (by simp) rfl))) (v := .slice (some ⟨w'.heap.size, 0, none⟩) 1 1) (w2 := w'.alloc (.cells #[.slice A0 N N] 23)) (run_one rfl e) (hI.put (j := 18) (by decide) ((Below.refl _ _).alloc (Nat.le_refl _) _) ⟨A0, IsRow.new List.length_replicate, hrz.now ((Below.refl _ _).alloc (Nat.le_refl _) _)⟩)
        | 19, ho =>
          obtain rfl := Option.some.inj ho
          obtain ⟨A0, hx, hrz⟩ : ∃ A0, IsRow (A0, N, List.replicate N 0) (slot a 52) w' ∧ RowOf c8 1 w' w'.heap.size A0 (List.replicate N 0) := hI.done 18 (by decide) (hafter ⟨18, .data⟩ (by simp) rfl)
          obtain ⟨g, e, hr⟩ := hx
          have hT' : Turns w' := HTr.out.below hI.below HTr.out.lt
          have hrow : RowOf c8 1 w' w'.heap.size A0 (List.replicate N 0) := hrz
          refine stepC rfl (wanted_some rfl rfl rfl (hI.done 1 (by decide) (hafter ⟨1, .guard⟩ (by simp) rfl))) (run_call_CBits rfl e) (CBitsC (pc := 1) (B := w'.heap.size) (ps := [(A0, N, List.replicate N 0)]) hT' (by simp) hr (fun p hp => by rw [List.mem_singleton] at hp; subst hp; exact ⟨hrow, inB_zeros N, by rw [List.length_replicate]; omega⟩)) ?_
          rintro e2 w2 ⟨rfl, rfl⟩
          rw [flat_one]
          exact ⟨_, rfl, hI.put (j := 19) (by decide) (Below.refl _ _) rfl⟩
        | 20, ho =>
          obtain rfl := Option.some.inj ho
          have e15 : slot a 49 = .int .u16 (bits .xor .u16 (crcN (xs.take N)) (crcN (ys.take N))) := hI.done 15 (by decide) (hafter ⟨15, .data⟩ (by simp) rfl)
          have e19 : slot a 53 = .int .u16 (crcN (List.replicate N 0)) := hI.done 19 (by decide) (hafter ⟨19, .data⟩ (by simp) rfl)
          refine stepV rfl (wanted_some rfl rfl rfl (hI.done 1 (by decide) (hafter ⟨1, .guard⟩ (by simp) rfl))) (v := .int .u16 (crcN z)) (w2 := w') (HSum.out ▸ run_xor rfl e15 e19) (hI.put (j := 20) (by decide) (Below.refl _ _) rfl)
        | 21, ho =>
          obtain rfl := Option.some.inj ho
          have e4 : slot a 38 = .int .u16 (crcN z) := hI.done 4 (by decide) (hafter ⟨4, .data⟩ (by simp) rfl)
          have e20 : slot a 54 = .int .u16 (crcN z) := hI.done 20 (by decide) (hafter ⟨20, .data⟩ (by simp) rfl)
          refine stepV rfl (wanted_some rfl rfl rfl (hI.done 1 (by decide) (hafter ⟨1, .guard⟩ (by simp) rfl))) (v := .bool true) (w2 := w') (run_eq16 rfl e4 e20) (hI.put (j := 21) (by decide) (Below.refl _ _) rfl)
        | 22, ho =>
          obtain rfl := Option.some.inj ho
          have e1 : slot a 35 = .bool true := hI.done 1 (by decide) (hafter ⟨1, .data⟩ (by simp) rfl)
          have e21 : slot a 55 = .bool true := hI.done 21 (by decide) (hafter ⟨21, .data⟩ (by simp) rfl)
          refine stepV rfl (wanted_none rfl) (v := .bool true) (w2 := w') (run_pick rfl e1 e21) (hI.put (j := 22) (by decide) (Below.refl _ _) rfl)
        | 23, ho =>
          obtain rfl := Option.some.inj ho
          have e22 : slot a 56 = .bool true := hI.done 22 (by decide) (hafter ⟨22, .data⟩ (by simp) rfl)
          refine stepV rfl (wanted_none rfl) (v := .bool true) (w2 := w') ?_ (hI.put (j := 23) (by decide) (Below.refl _ _) rfl)
          show Result.ok (Next.value (slot a 56)) w' = _
          rw [e22]
        | j + 24, ho => exact absurd (Array.getElem?_eq_some_iff.1 ho).1 (by simp)
end Go.Proofs.YtimlkmblfjoigaaDoor.K
