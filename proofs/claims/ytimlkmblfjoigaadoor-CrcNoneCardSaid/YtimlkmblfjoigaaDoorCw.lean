/- Sealed bytes of the call's own, turned in place. -/
import Derived.Test.YtimlkmblfjoigaaDoorCSame
import Derived.Test.YtimlkmblfjoigaaDoorCp
namespace Go.Proofs.YtimlkmblfjoigaaDoor.K
open Go.RowKit
set_option linter.unusedVariables false
set_option linter.unusedSimpArgs false
theorem Made.put {B c i : Nat} {A : Option Addr} {l : List Int} {w : World} (h : Made B A c l w) (hi : i < l.length) :
    ∃ g, A = some ⟨g, 0, none⟩ ∧ B ≤ g ∧ g < w.heap.size ∧ w.cell? ⟨g, i, none⟩ = some (.int .u8 l[i]) ∧ w.frozen? ⟨g, i, none⟩ = false ∧ ∀ x, Made B (some ⟨g, 0, none⟩) c (l.set i x) (w.setCell ⟨g, i, none⟩ (.int .u8 x)) := by
  obtain ⟨h1, h2, h3⟩ := h
  obtain ⟨g, cap, hv, hb, hlt⟩ := h1.form (by omega)
  have hA : A = some ⟨g, 0, none⟩ := by injection hv
  subst hA
  have hxl : i < (nums .u8 l).length := by rw [nums_length]; exact hi
  have hx : (nums .u8 l)[i]? = some (.int .u8 l[i]) := by simp [nums, hi]
  refine ⟨g, rfl, hb, hlt, (h1.cellAt i (by omega)).trans hx, h1.frozenAt i, fun x => ?_⟩
  have h4 := (h1.stored i (.int .u8 x)).1
  have e : (nums .u8 l).set i (.int .u8 x) = nums .u8 (l.set i x) := by simp [nums, List.map_set]
  rw [e] at h4
  refine ⟨by rw [List.length_set]; exact h4, ?_, by rw [List.length_set]; exact h3⟩
  exact row_own (c := c8) (fun _ => rfl) (by rw [← nums_flat]; rw [List.length_set]; exact h4)
theorem set_below {B g i : Nat} {v : Value} {w0 w : World} (h : Below B w0 w) (hg : B ≤ g) : Below B w0 (w.setCell ⟨g, i, none⟩ v) :=
  ⟨h.os, h.tape, h.output, by simpa [World.setCell] using h.size, fun k hk => (Below.heap_setCell w _ v k (by rintro rfl; exact absurd hk (by simp; omega))).trans (h.block k hk)⟩
theorem Made.below {B B' c : Nat} {A : Option Addr} {l : List Int} {w w' : World} (h : Made B A c l w) (k : Below B' w w') (hB : w.heap.size ≤ B') : Made B A c l w' :=
  h.fr (Fr.of_below (k.mono hB)) (fun _ _ e => e)
theorem xor_back (a b : Int) (ha : 0 ≤ a ∧ a < 256) (hb : 0 ≤ b ∧ b < 256) : bits .xor .u8 (bits .xor .u8 a b) b = a := by
  have h1 := xor_inB a b ha hb
  rw [u8_xor _ _ h1.1 h1.2 hb.1 hb.2, u8_xor a b ha.1 ha.2 hb.1 hb.2]
  simp only [Int.toNat_natCast]
  rw [Nat.xor_assoc, Nat.xor_self, Nat.xor_zero]
  omega
theorem set_size (w : World) (a : Addr) (v : Value) : (w.setCell a v).heap.size = w.heap.size := by simp [World.setCell]
/-- Valid, of a row of the call's own. -/
theorem CValidM {B M c : Nat} {A : Option Addr} {l : List Int} {b : Bool} {w : World} (hn : l.length = M) (hv : valid l = b) (hT : Turns w) (h : Made B A c l w) (hi : InB l) (hl : M ≤ 140737488355328) :
    Calls Tryd.prog 17 #[.slice A M c] w fun e w' => e = .returned (.bool b) ∧ Hid (Below w.heap.size w w') :=
  CValidE hn hv (Same.refl w) hT h.2.1 hi hl (hn ▸ h.2.2) (made_cap h)
theorem CValidS {B M c : Nat} {A : Option Addr} {l : List Int} {b : Bool} {w w1 : World} (hn : l.length = M) (hv : valid l = b) (hs : Same w w1) (hT : Turns w) (h : Made B A c l w) (hi : InB l) (hl : M ≤ 140737488355328) :
    Calls Tryd.prog 17 #[.slice A M c] w1 fun e w' => e = .returned (.bool b) ∧ Hid (Below w.heap.size w w') :=
  CValidE hn hv hs hT h.2.1 hi hl (hn ▸ h.2.2) (made_cap h)
/-- What Append made of bytes. -/
structure Sealed (l m : List Int) (M : Nat) : Prop where
  made : l ++ be (crcN l) 2 = m
  len : m.length = M
  zero : crc m = 0#16
  inB : InB m
theorem sealed_of {l : List Int} (hi : InB l) : ∃ m, Sealed l m (l.length + 2) :=
  ⟨_, rfl, by rw [List.length_append, be_length], cf_sealed l, fun x hx => (List.mem_append.1 hx).elim (hi x) (be_inB _ _ x)⟩
set_option maxHeartbeats 8000000 in
set_option maxRecDepth 10000 in
theorem cbyte_walk (A : Option Addr) (c : Nat) (zs : List Int) (hc : zs.length ≤ c) (hcm : c ≤ 9223372036854775807) (at_ by_ : Int) (hby : 0 ≤ by_ ∧ by_ < 256) (w : World) (hT : Turns w) (h0 : RowOf c8 1 w w.heap.size A zs) (ha : ∀ ad, A = some ad → ad.block < w.heap.size) (b0 : InB zs) :
    Calls Tryd.prog 10 #[.slice A zs.length c, .int .i64 at_, .int .u8 by_] w fun e w' => e = .returned (.bool true) ∧ Below w.heap.size w w' := by
  obtain ⟨n, hn, hn1, hn2⟩ := min_nat zs.length 300
  have hcut := fun W => bcut_hi A zs.length c n (by omega) W
  obtain ⟨l, hl⟩ : ∃ l, l = zs.take n := ⟨_, rfl⟩
  have hln : n = l.length := by rw [hl, List.length_take]; omega
  subst hln
  have HR := Lib.hid (hl ▸ h0.take_ l.length : RowOf c8 1 w w.heap.size A l)
  have HI := Lib.hid (hl ▸ b0.take_ l.length : InB l)
  have HA := Lib.hid ha
  clear h0 b0 hl hc ha
  have hmin : min (zs.length : Int) 300 = (l.length : Int) := hn
  have HTB : Hid (∀ w' : World, Below w.heap.size w w' → Turns w') := Lib.hid (fun w' b => hT.below b hT.lt)
  obtain ⟨m, hS⟩ := sealed_of HI.out
  obtain ⟨M, hM⟩ : ∃ M, l.length + 2 = M := ⟨_, rfl⟩
  rw [hM] at hS
  have HS := Lib.hid hS
  obtain ⟨mk, hmk, hbits⟩ := and_mask at_ 65535 (by omega)
  have hbits : bits .and .i64 at_ 65535 = (mk : Int) := hbits
  obtain ⟨q, hq⟩ : ∃ q : Nat, q = mk % M := ⟨_, rfl⟩
  have hq1 : q < m.length := by rw [HS.out.len, hq]; exact Nat.mod_lt _ (by omega)
  have hmod : (mk : Int) % (M : Int) = (q : Int) := by rw [hq]; simp
  have hM0 : (M : Int) ≠ 0 := by omega
  have hqM : q < M := by rw [← HS.out.len]; exact hq1
  have HM := Lib.hid hM
  have hM300 : M ≤ 302 := by omega
  have HN2 := Lib.hid hn2
  have hmq := HS.out.inB _ (List.getElem_mem hq1)
  obtain ⟨x, hx⟩ : ∃ x, x = m[q] := ⟨_, rfl⟩
  obtain ⟨y, hy⟩ : ∃ y, bits .xor .u8 x by_ = y := ⟨_, rfl⟩
  have hback : bits .xor .u8 y by_ = x := by rw [← hy, hx]; exact xor_back _ _ hmq hby
  have hyb : 0 ≤ y ∧ y < 256 := by rw [← hy, hx]; exact xor_inB _ _ hmq hby
  have HYI : Hid (InB (m.set q y)) := Lib.hid (inB_set HS.out.inB hyb)
  have hv1 : valid (m.set q y) = (by_ == 0) := by
    rw [valid_iff HYI.out (by rw [List.length_set, HS.out.len]; omega), ← hy, hx, crc_set hq1 HS.out.inB hby, HS.out.zero, BitVec.zero_xor]
    rw [Bool.eq_iff_iff]
    simp only [decide_eq_true_eq, beq_iff_eq]
    constructor
    · intro h; exact (up_zero hby).1 (gn_inj0 _ _ h)
    · rintro rfl; rw [show up 0 = 0#16 from rfl, gn_zero]
  have HV1 := Lib.hid hv1
  have hv2 : valid m = true := by rw [valid_iff HS.out.inB (by rw [HS.out.len]; omega), HS.out.zero]; rfl
  have HV2 := Lib.hid hv2
  have HX : Hid (∀ h : q < m.length, m[q] = x) := Lib.hid (fun _ => hx.symm)
  have HQ1 := Lib.hid hq1
  clear hS hmk hq hmq hx hyb hv1 hv2 hq1 hM hn hn1 hn2
  go_enter Tryd.func10, Tryd.ntmps10
  go_wp2_with fail
  refine (shown2_walk hT).mono ?_
  rintro e w1 ⟨rfl, H1⟩
  go_wp2_with fail
  refine Calls.mono (CAppendE rfl HM.out HS.out.made (Same.refl w1) (HTB.out _ H1.out) (HR.out.now H1.out) (fun ad e => Nat.lt_of_lt_of_le (HA.out ad e) H1.out.size) HI.out (by have := HM.out; omega)) ?_
  rintro e w2 ⟨A2, c2, rfl, H2, F2⟩
  have B2 := Lib.hid (H1.out.trans (F2.out.mono H1.out.size))
  have hw1 := H1.out.size
  obtain ⟨g, rfl, hg1, hg2, hcell, hfroz, hput⟩ := H2.out.put HQ1.out
  rw [HX.out HQ1.out] at hcell
  have HP3 := Lib.hid (hput y)
  have HB3 := Lib.hid (set_below (i := q) (v := .int .u8 y) B2.out (by omega : w.heap.size ≤ g))
  have hT3 := HTB.out _ HB3.out
  clear hput H2 F2 H1
  go_wp2_with fail
  refine Calls.mono (CValidM (by rw [List.length_set]; exact HS.out.len) HV1.out hT3 HP3.out HYI.out (by omega)) ?_
  rintro e w4 ⟨rfl, H4⟩
  have HP4 := Lib.hid (HP3.out.below H4.out (Nat.le_refl _))
  have HB4 := Lib.hid (HB3.out.trans (H4.out.mono HB3.out.size))
  obtain ⟨g', e', hg1', hg2', hcell', hfroz', hput'⟩ := HP4.out.put (i := q) (by rw [List.length_set]; exact HQ1.out)
  injection e' with e'
  injection e' with e'
  subst e'
  rw [List.getElem_set_self] at hcell'
  have hp5 := hput' x
  rw [List.set_set, ← HX.out HQ1.out, List.set_getElem_self, HX.out HQ1.out] at hp5
  have HP5 := Lib.hid hp5
  have HB5 := Lib.hid (set_below (i := q) (v := .int .u8 x) HB4.out (by omega : w.heap.size ≤ g))
  have hT5 := HTB.out _ HB5.out
  clear hput' hp5 H4 HP4 hcell hfroz
  go_wp2_with fail
  refine Calls.mono (CValidM HS.out.len HV2.out hT5 HP5.out HS.out.inB (by omega)) ?_
  rintro e w6 ⟨rfl, H6⟩
  go_wp2
  go_ret
  exact ⟨rfl, HB5.out.trans (H6.out.mono HB5.out.size)⟩
end Go.Proofs.YtimlkmblfjoigaaDoor.K
