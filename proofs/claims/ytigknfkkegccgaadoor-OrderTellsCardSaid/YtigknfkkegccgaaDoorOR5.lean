/- The document's Parse: its contract. -/
import Derived.Test.YtigknfkkegccgaaDoorOR4
import Derived.Test.YtigknfkkegccgaaDoorOBb
namespace Go.Proofs.YtigknfkkegccgaaDoor.K
open Go.RowKit
set_option linter.unusedVariables false
set_option linter.unusedSimpArgs false
attribute [local go_sem ↓] Go.wp_at_zero Go.wp_at_succ
theorem nOf_at {b : List Int} (hi : InB b) (h : 5 ≤ b.length) : ((nOf b : Nat) : Int) = b[4] ∧ nOf b < 256 := by
  have h1 : (b.drop 4).take 1 = [b[4]] := by
    rw [List.drop_eq_getElem_cons (by omega)]; rfl
  have h2 := hi _ (List.getElem_mem (show 4 < b.length by omega))
  unfold nOf
  rw [h1]
  have : num [b[4]] = b[4] := by simp [num]
  rw [this]
  omega
theorem qT (p : QP) (a0 : Act) : (qR p a0).s0 + (qR p a0).n ≤ (qR p a0).T := by show 40 + 29 ≤ 76; omega
theorem qLt (p : QP) (a0 : Act) {j : Nat} (h : j < 29) : j < (qR p a0).n := h
theorem qNo (p : QP) (a0 : Act) {j : Nat} (h : j ∉ [26, 27, 29]) : j ∉ (qR p a0).tr := h
theorem qNd (p : QP) (a0 : Act) : (qR p a0).tr.Nodup := by show [26, 27, 29].Nodup; decide
theorem qTr (p : QP) (a0 : Act) : ∀ j ∈ (qR p a0).tr, j < 30 := by show ∀ j ∈ [26, 27, 29], j < 30; decide
theorem qS (p : QP) (a0 : Act) {j : Nat} (h : 40 + j < 76) : (qR p a0).s0 + j < (qR p a0).T := h
theorem shape76 (tm : Array Value) (h : tm.size = 76) : ∃ x0 x1 x2 x3 x4 x5 x6 x7 x8 x9 x10 x11 x12 x13 x14 x15 x16 x17 x18 x19 x20 x21 x22 x23 x24 x25 x26 x27 x28 x29 x30 x31 x32 x33 x34 x35 x36 x37 x38 x39 x40 x41 x42 x43 x44 x45 x46 x47 x48 x49 x50 x51 x52 x53 x54 x55 x56 x57 x58 x59 x60 x61 x62 x63 x64 x65 x66 x67 x68 x69 x70 x71 x72 x73 x74 x75, tm = #[x0, x1, x2, x3, x4, x5, x6, x7, x8, x9, x10, x11, x12, x13, x14, x15, x16, x17, x18, x19, x20, x21, x22, x23, x24, x25, x26, x27, x28, x29, x30, x31, x32, x33, x34, x35, x36, x37, x38, x39, x40, x41, x42, x43, x44, x45, x46, x47, x48, x49, x50, x51, x52, x53, x54, x55, x56, x57, x58, x59, x60, x61, x62, x63, x64, x65, x66, x67, x68, x69, x70, x71, x72, x73, x74, x75] := by
  obtain ⟨l⟩ := tm
  have h0 : l.length = 76 := h
  clear h
  obtain ⟨x0, l0, e0, h1⟩ := cons_len h0
  obtain ⟨x1, l1, e1, h2⟩ := cons_len h1
  obtain ⟨x2, l2, e2, h3⟩ := cons_len h2
  obtain ⟨x3, l3, e3, h4⟩ := cons_len h3
  obtain ⟨x4, l4, e4, h5⟩ := cons_len h4
  obtain ⟨x5, l5, e5, h6⟩ := cons_len h5
  obtain ⟨x6, l6, e6, h7⟩ := cons_len h6
  obtain ⟨x7, l7, e7, h8⟩ := cons_len h7
  obtain ⟨x8, l8, e8, h9⟩ := cons_len h8
  obtain ⟨x9, l9, e9, h10⟩ := cons_len h9
  obtain ⟨x10, l10, e10, h11⟩ := cons_len h10
  obtain ⟨x11, l11, e11, h12⟩ := cons_len h11
  obtain ⟨x12, l12, e12, h13⟩ := cons_len h12
  obtain ⟨x13, l13, e13, h14⟩ := cons_len h13
  obtain ⟨x14, l14, e14, h15⟩ := cons_len h14
  obtain ⟨x15, l15, e15, h16⟩ := cons_len h15
  obtain ⟨x16, l16, e16, h17⟩ := cons_len h16
  obtain ⟨x17, l17, e17, h18⟩ := cons_len h17
  obtain ⟨x18, l18, e18, h19⟩ := cons_len h18
  obtain ⟨x19, l19, e19, h20⟩ := cons_len h19
  obtain ⟨x20, l20, e20, h21⟩ := cons_len h20
  obtain ⟨x21, l21, e21, h22⟩ := cons_len h21
  obtain ⟨x22, l22, e22, h23⟩ := cons_len h22
  obtain ⟨x23, l23, e23, h24⟩ := cons_len h23
  obtain ⟨x24, l24, e24, h25⟩ := cons_len h24
  obtain ⟨x25, l25, e25, h26⟩ := cons_len h25
  obtain ⟨x26, l26, e26, h27⟩ := cons_len h26
  obtain ⟨x27, l27, e27, h28⟩ := cons_len h27
  obtain ⟨x28, l28, e28, h29⟩ := cons_len h28
  obtain ⟨x29, l29, e29, h30⟩ := cons_len h29
  obtain ⟨x30, l30, e30, h31⟩ := cons_len h30
  obtain ⟨x31, l31, e31, h32⟩ := cons_len h31
  obtain ⟨x32, l32, e32, h33⟩ := cons_len h32
  obtain ⟨x33, l33, e33, h34⟩ := cons_len h33
  obtain ⟨x34, l34, e34, h35⟩ := cons_len h34
  obtain ⟨x35, l35, e35, h36⟩ := cons_len h35
  obtain ⟨x36, l36, e36, h37⟩ := cons_len h36
  obtain ⟨x37, l37, e37, h38⟩ := cons_len h37
  obtain ⟨x38, l38, e38, h39⟩ := cons_len h38
  obtain ⟨x39, l39, e39, h40⟩ := cons_len h39
  obtain ⟨x40, l40, e40, h41⟩ := cons_len h40
  obtain ⟨x41, l41, e41, h42⟩ := cons_len h41
  obtain ⟨x42, l42, e42, h43⟩ := cons_len h42
  obtain ⟨x43, l43, e43, h44⟩ := cons_len h43
  obtain ⟨x44, l44, e44, h45⟩ := cons_len h44
  obtain ⟨x45, l45, e45, h46⟩ := cons_len h45
  obtain ⟨x46, l46, e46, h47⟩ := cons_len h46
  obtain ⟨x47, l47, e47, h48⟩ := cons_len h47
  obtain ⟨x48, l48, e48, h49⟩ := cons_len h48
  obtain ⟨x49, l49, e49, h50⟩ := cons_len h49
  obtain ⟨x50, l50, e50, h51⟩ := cons_len h50
  obtain ⟨x51, l51, e51, h52⟩ := cons_len h51
  obtain ⟨x52, l52, e52, h53⟩ := cons_len h52
  obtain ⟨x53, l53, e53, h54⟩ := cons_len h53
  obtain ⟨x54, l54, e54, h55⟩ := cons_len h54
  obtain ⟨x55, l55, e55, h56⟩ := cons_len h55
  obtain ⟨x56, l56, e56, h57⟩ := cons_len h56
  obtain ⟨x57, l57, e57, h58⟩ := cons_len h57
  obtain ⟨x58, l58, e58, h59⟩ := cons_len h58
  obtain ⟨x59, l59, e59, h60⟩ := cons_len h59
  obtain ⟨x60, l60, e60, h61⟩ := cons_len h60
  obtain ⟨x61, l61, e61, h62⟩ := cons_len h61
  obtain ⟨x62, l62, e62, h63⟩ := cons_len h62
  obtain ⟨x63, l63, e63, h64⟩ := cons_len h63
  obtain ⟨x64, l64, e64, h65⟩ := cons_len h64
  obtain ⟨x65, l65, e65, h66⟩ := cons_len h65
  obtain ⟨x66, l66, e66, h67⟩ := cons_len h66
  obtain ⟨x67, l67, e67, h68⟩ := cons_len h67
  obtain ⟨x68, l68, e68, h69⟩ := cons_len h68
  obtain ⟨x69, l69, e69, h70⟩ := cons_len h69
  obtain ⟨x70, l70, e70, h71⟩ := cons_len h70
  obtain ⟨x71, l71, e71, h72⟩ := cons_len h71
  obtain ⟨x72, l72, e72, h73⟩ := cons_len h72
  obtain ⟨x73, l73, e73, h74⟩ := cons_len h73
  obtain ⟨x74, l74, e74, h75⟩ := cons_len h74
  obtain ⟨x75, l75, e75, h76⟩ := cons_len h75
  have e76 := List.eq_nil_of_length_eq_zero h76
  subst e76
  subst e75
  subst e74
  subst e73
  subst e72
  subst e71
  subst e70
  subst e69
  subst e68
  subst e67
  subst e66
  subst e65
  subst e64
  subst e63
  subst e62
  subst e61
  subst e60
  subst e59
  subst e58
  subst e57
  subst e56
  subst e55
  subst e54
  subst e53
  subst e52
  subst e51
  subst e50
  subst e49
  subst e48
  subst e47
  subst e46
  subst e45
  subst e44
  subst e43
  subst e42
  subst e41
  subst e40
  subst e39
  subst e38
  subst e37
  subst e36
  subst e35
  subst e34
  subst e33
  subst e32
  subst e31
  subst e30
  subst e29
  subst e28
  subst e27
  subst e26
  subst e25
  subst e24
  subst e23
  subst e22
  subst e21
  subst e20
  subst e19
  subst e18
  subst e17
  subst e16
  subst e15
  subst e14
  subst e13
  subst e12
  subst e11
  subst e10
  subst e9
  subst e8
  subst e7
  subst e6
  subst e5
  subst e4
  subst e3
  subst e2
  subst e1
  subst e0
  exact ⟨x0, x1, x2, x3, x4, x5, x6, x7, x8, x9, x10, x11, x12, x13, x14, x15, x16, x17, x18, x19, x20, x21, x22, x23, x24, x25, x26, x27, x28, x29, x30, x31, x32, x33, x34, x35, x36, x37, x38, x39, x40, x41, x42, x43, x44, x45, x46, x47, x48, x49, x50, x51, x52, x53, x54, x55, x56, x57, x58, x59, x60, x61, x62, x63, x64, x65, x66, x67, x68, x69, x70, x71, x72, x73, x74, x75, rfl⟩
set_option maxHeartbeats 8000000 in
set_option maxRecDepth 20000 in
theorem RParseC {b : List Int} {w : World} (hi : InB b) (hl : b.length ≤ 1000) :
    Calls Tryd.prog 16 #[.string (strOfNums b)] w fun e w' => ∃ A' c', e = .returned (.tuple #[.agg #[.int .u32 (parseO b).2.1, .slice A' (parseO b).2.2.length c'], .int .i64 (parseO b).1]) ∧ Hid (MadeL w.heap.size A' c' (parseO b).2.2 w') ∧ Hid (Below w.heap.size w w') := by
  have hsz := str_size b
  have HI := Lib.hid hi
  have hbl := Blk.new w 25 #[.int .u32 0, .slice none 0 0]
  have HBL := Lib.hid hbl
  have HD0 := Lib.hid ((Below.refl _ w).alloc (Nat.le_refl _) (.cells #[.int .u32 0, .slice none 0 0] 25))
  clear hbl hi
  have no : ∀ e0, parseO b = (e0, 0, []) → ∃ A' c', Ending.returned (Value.tuple #[.agg #[.int .u32 0, .slice none 0 0], .int .i64 e0]) = .returned (.tuple #[.agg #[.int .u32 (parseO b).2.1, .slice A' (parseO b).2.2.length c'], .int .i64 (parseO b).1]) ∧ Hid (MadeL w.heap.size A' c' (parseO b).2.2 (w.alloc (.cells #[.int .u32 0, .slice none 0 0] 25))) ∧ Hid (Below w.heap.size w (w.alloc (.cells #[.int .u32 0, .slice none 0 0] 25))) := fun e0 h => by
    rw [h]
    exact ⟨none, 0, rfl, Lib.hid (MadeL.nil_ _ _), HD0⟩
  have HNO := Lib.hid no
  clear no
  by_cases h5 : b.length < 5
  · have hp : parseO b = (2, 0, []) := by unfold parseO; rw [if_pos (.inl h5)]
    have HP := Lib.hid hp
    clear hp
    go_enter Tryd.func16, Tryd.ntmps16
    go_wp2
    refine bodyPost_ret_by (results_row_tmp rfl _ _ w.heap.size 25 _ (0, 0) _ rfl HBL.out Tryd.underlying25 rfl (by kernel_rfl)) rfl ?_
    exact HNO.out 2 HP.out
  · obtain ⟨hn4, hn256⟩ := nOf_at HI.out (by omega)
    have hx : ∀ W, (Instr.index 9 (.string (strOfNums b)) (.int .i64 4)).run Tryd.prog W = .ok (.int .u8 (nOf b)) W := fun W => by
      rw [run_index_string _ 9 _ _ _ Tryd.underlying9, dif_pos ⟨by omega, by omega⟩, hn4, ← str_at b 4 (by omega) HI.out (by omega)]
      simp
    have HNN := Lib.hid (rfl : nOf b = nOf b)
    have hm1 : IntKind.i64.wrap (6 * (nOf b : Int)) = 6 * (nOf b : Int) := by rw [IntKind.wrap_i64]; omega
    have hm2 : IntKind.i64.wrap (5 + 6 * (nOf b : Int)) = 5 + 6 * (nOf b : Int) := by rw [IntKind.wrap_i64]; omega
    rcases Nat.lt_trichotomy b.length (5 + 6 * nOf b) with h | h | h
    · have hp : parseO b = (2, 0, []) := by unfold parseO; rw [if_pos (.inr h)]
      have hI : (b.length : Int) < 5 + 6 * (nOf b : Int) := by omega
      have HP := Lib.hid hp
      clear hp
      generalize nOf b = n at *
      go_enter Tryd.func16, Tryd.ntmps16
      go_wp2
      refine bodyPost_ret_by (results_row_tmp rfl _ _ w.heap.size 25 _ (0, 0) _ rfl HBL.out Tryd.underlying25 rfl (by kernel_rfl)) rfl ?_
      exact HNO.out 2 HP.out
    · have hp := parse_full h5 h
      have HP := Lib.hid hp
      have hI1 : (b.length : Int) ≤ 5 + 6 * (nOf b : Int) := by omega
      have hI2 : 5 + 6 * (nOf b : Int) ≤ (b.length : Int) := by omega
      have hI3 : (5 : Int) ≤ (b.length : Int) := by omega
      have hI4 : (b.length : Int) ≤ 1000 := by omega
      have H5 : Hid (¬ b.length < 5) := Lib.hid h5
      have hcut : (strOfNums b).extract 0 4 = strOfNums (b.take 4) := by rw [str_cut]; rfl
      have qN := fun W => NumberC (b.take 4) W (HI.out.take_ 4) (by rw [List.length_take]; omega)
      have hbl5 : 5 ≤ b.length := by omega
      have HLN := Lib.hid h
      clear hp hn4 h5 h
      generalize nOf b = n at *
      go_enter Tryd.func16, Tryd.ntmps16
      go_wp2_with fail
      refine Calls.mono (qN _) ?_
      rintro e w1 ⟨rfl, rfl⟩
      generalize hid : num (b.take 4) = id at *
      have HID := Lib.hid hid
      clear hid qN hcut
      go_wp2
      have hq0 : QS w (w.heap.size + 1) id (.slice none 0 0) [] ((w.alloc (.cells #[.int .u32 0, .slice none 0 0] 25)).alloc (.cells #[.int .u32 id, .slice none 0 0] 25)) := ⟨HBL.out.alloc _, Blk.new_at (by simp), own_nil _ _ _ _, HD0.out.alloc (by simp) _, by omega⟩
      have HQ0 := Lib.hid hq0
      clear hq0
      go_loopw [5] (fun i wr => ∃ (k : Nat) (v : Value), i = .int .i64 ((5 + 6 * k : Nat) : Int) ∧ k ≤ n ∧ QS w (w.heap.size + 1) id v (lnsOf k (b.drop 5)) wr) (fun i _ => b.length - (intOf i).toNat)
      case atStart => exact ⟨0, _, by simp, by omega, HQ0.out⟩
      case round =>
        clear HQ0
        obtain ⟨k, v, rfl, hk, hq⟩ := hrel
        obtain ⟨VA, vc, rfl, hvc⟩ := own_form hq.hv
        have HQ := Lib.hid hq
        clear hq
        have hll : (lnsOf k (b.drop 5)).length ≤ 1000 := by rw [lnsOf_len]; omega
        have HSN := Lib.hid (lnsOf_snoc k (b.drop 5))
        have HKK : Hid (k ≤ n ∧ b.length = 5 + 6 * n) := Lib.hid ⟨hk, HLN.out⟩
        obtain ⟨at9, hat9⟩ : ∃ at9, at9 = 5 + 6 * k := ⟨_, rfl⟩
        have hdd : (b.drop 5).drop (6 * k) = b.drop at9 := by rw [List.drop_drop, hat9]
        have HDD := Lib.hid hdd
        have HAT := Lib.hid hat9
        rw [← hat9]
        by_cases hlt : k < n
        · have hat : at9 + 6 ≤ b.length := by have := HLN.out; omega
          have hatI : (at9 : Int) + 6 ≤ (b.length : Int) := by omega
          obtain ⟨m, hm⟩ : ∃ m, m = b.drop at9 := ⟨_, rfl⟩
          have hml : 6 ≤ m.length := by rw [hm, List.length_drop]; omega
          have hib : InB m := by rw [hm]; exact HI.out.drop_ at9
          have HC1 : Hid ((b.take (at9 + 2)).drop at9 = m.take 2) := Lib.hid (by rw [hm, List.drop_take]; congr 1; omega)
          have HC2 : Hid ((b.take (at9 + 4)).drop (at9 + 2) = (m.drop 2).take 2) := Lib.hid (by rw [hm, List.drop_take, List.drop_drop]; congr 1; omega)
          have HC3 : Hid ((b.take (at9 + 6)).drop (at9 + 4) = (m.drop 4).take 2) := Lib.hid (by rw [hm, List.drop_take, List.drop_drop]; congr 1; omega)
          have HIB7 : Hid (InB (m.take 2)) := Lib.hid (hib.take_ 2)
          have HIB15 : Hid (InB ((m.drop 2).take 2)) := Lib.hid ((hib.drop_ 2).take_ 2)
          have HIB23 : Hid (InB ((m.drop 4).take 2)) := Lib.hid ((hib.drop_ 4).take_ 2)
          have q2 : (256 : Int) ^ 2 = 65536 := by decide
          have HN7 : Hid (0 ≤ num (m.take 2) ∧ num (m.take 2) < 65536) := Lib.hid (by have := num_lt (k := 2) HIB7.out (by rw [List.length_take]; omega); rwa [q2] at this)
          have HN15 : Hid (0 ≤ num ((m.drop 2).take 2) ∧ num ((m.drop 2).take 2) < 65536) := Lib.hid (by have := num_lt (k := 2) HIB15.out (by rw [List.length_take]; omega); rwa [q2] at this)
          have HN23 : Hid (0 ≤ num ((m.drop 4).take 2) ∧ num ((m.drop 4).take 2) < 65536) := Lib.hid (by have := num_lt (k := 2) HIB23.out (by rw [List.length_take]; omega); rwa [q2] at this)
          have HSNM : Hid (lnsOf (k + 1) (b.drop 5) = lnsOf k (b.drop 5) ++ [lnOf m]) := Lib.hid (by rw [HSN.out, HDD.out, hm])
          clear q2 hib hdd hat9 HSN HDD
          generalize lnsOf k (b.drop 5) = ls at *
          have hq9 : ∃ q, q = w.heap.size + 1 := ⟨_, rfl⟩
          go_wp2_with fail
          refine region_inv (fun a0 => RI (qR ⟨w, w.heap.size + 1, id, VA, vc, ls, b, at9, m⟩ a0)) (by kernel_rfl) ?init ?done ?step
          case init => exact RI.init (R := qR ⟨w, w.heap.size + 1, id, VA, vc, ls, b, at9, m⟩ _) rfl (by intro p hp; simp [qR] at hp; subst hp; simp) (HQ.out.fr0 ((Fr.refl (fun _ => False) _).drew))
          case done =>
            rintro listed a w' hsz9 hI hr
            obtain ⟨tm, df⟩ := a
            obtain ⟨x0, x1, x2, x3, x4, x5, x6, x7, x8, x9, x10, x11, x12, x13, x14, x15, x16, x17, x18, x19, x20, x21, x22, x23, x24, x25, x26, x27, x28, x29, x30, x31, x32, x33, x34, x35, x36, x37, x38, x39, x40, x41, x42, x43, x44, x45, x46, x47, x48, x49, x50, x51, x52, x53, x54, x55, x56, x57, x58, x59, x60, x61, x62, x63, x64, x65, x66, x67, x68, x69, x70, x71, x72, x73, x74, x75, rfl⟩ := shape76 tm hI.size
            have hB : ∀ s, s < 40 ∨ 69 ≤ s → slot _ s = slot _ s := hI.base
            obtain ⟨A2, c2, hq2⟩ := hI.all (qTr _ _) (fun j hj => ready_nil hsz9 (by kernel_rfl) hr j hj)
            obtain rfl : df = [] := hI.defs
            obtain rfl : x0 = .string (strOfNums b) := hB 0 (by omega)
            obtain rfl : x1 = undef := hB 1 (by omega)
            obtain rfl : x2 = .pointer (some ⟨w.heap.size, 0, none⟩) := hB 2 (by omega)
            obtain rfl : x3 = .int .i64 0 := hB 3 (by omega)
            obtain rfl : x4 = .pointer (some ⟨w.heap.size + 1, 0, none⟩) := hB 4 (by omega)
            obtain rfl : x5 = .int .i64 ((at9 : Nat) : Int) := hB 5 (by omega)
            obtain rfl : x6 = undef := hB 6 (by omega)
            obtain rfl : x7 = .string (strOfNums b) := hB 7 (by omega)
            obtain rfl : x8 = .int .i64 b.length := hB 8 (by omega)
            obtain rfl : x9 = .bool (decide ((b.length : Int) < 5)) := hB 9 (by omega)
            obtain rfl : x10 = .bool (decide ((b.length : Int) < 5)) := hB 10 (by omega)
            obtain rfl : x11 = .string (strOfNums b) := hB 11 (by omega)
            obtain rfl : x12 = .int .i64 b.length := hB 12 (by omega)
            obtain rfl : x13 = .string (strOfNums b) := hB 13 (by omega)
            obtain rfl : x14 = .int .u8 n := hB 14 (by omega)
            obtain rfl : x15 = .int .i64 n := hB 15 (by omega)
            obtain rfl : x16 = .int .i64 (6 * n) := hB 16 (by omega)
            obtain rfl : x17 = .int .i64 (5 + 6 * n) := hB 17 (by omega)
            obtain rfl : x18 = .bool (decide ((b.length : Int) < 5 + 6 * n)) := hB 18 (by omega)
            obtain rfl : x19 = .bool (decide ((b.length : Int) < 5) || decide ((b.length : Int) < 5 + 6 * n)) := hB 19 (by omega)
            obtain rfl : x20 = undef := hB 20 (by omega)
            obtain rfl : x21 = .string (strOfNums b) := hB 21 (by omega)
            obtain rfl : x22 = .int .i64 b.length := hB 22 (by omega)
            obtain rfl : x23 = .string (strOfNums b) := hB 23 (by omega)
            obtain rfl : x24 = .int .u8 n := hB 24 (by omega)
            obtain rfl : x25 = .int .i64 n := hB 25 (by omega)
            obtain rfl : x26 = .int .i64 (6 * n) := hB 26 (by omega)
            obtain rfl : x27 = .int .i64 (5 + 6 * n) := hB 27 (by omega)
            obtain rfl : x28 = .bool (decide (5 + 6 * (n : Int) < (b.length : Int))) := hB 28 (by omega)
            obtain rfl : x29 = undef := hB 29 (by omega)
            obtain rfl : x30 = .string (strOfNums b) := hB 30 (by omega)
            obtain rfl : x31 = .string (strOfNums (b.take 4)) := hB 31 (by omega)
            obtain rfl : x32 = .int .u32 id := hB 32 (by omega)
            obtain rfl : x33 = .agg #[.int .u32 id, .slice none 0 0] := hB 33 (by omega)
            obtain rfl : x69 = undef := hB 69 (by omega)
            obtain rfl : x70 = undef := hB 70 (by omega)
            obtain rfl : x71 = undef := hB 71 (by omega)
            obtain rfl : x72 = undef := hB 72 (by omega)
            obtain rfl : x73 = undef := hB 73 (by omega)
            obtain rfl : x74 = undef := hB 74 (by omega)
            obtain rfl : x75 = undef := hB 75 (by omega)
            clear hI hr hsz9
            have HQ2 := Lib.hid hq2
            clear hq2
            go_wp2
            go_roundw
            case rel => exact ⟨k + 1, _, by have := HAT.out; go_num, by omega, by rw [HSNM.out]; exact HQ2.out⟩
            case measure => simp [intOf]; omega
          case step =>
            rintro listed a w' hsz9 hI j hj
            have hsz : listed.size = 30 := hsz9
            obtain ⟨hj0, o, ho, hafter⟩ := mem_ready.1 hj
            have hB : ∀ s, s < 40 ∨ 69 ≤ s → slot a s = slot _ s := hI.base
            match j, ho with
            | 0, ho =>
              obtain rfl := Option.some.inj ho
              exact stepV rfl (wanted_none rfl) (run_field1 rfl (hB 4 (by omega))) (hI.stay (qT _ _) (qLoc _ _) (j := 0) (qLt _ _ (by omega)) (qNo _ _ (by decide)) (by omega) (fun u hu => Option.some.inj hu))
            | 1, ho =>
              obtain rfl := Option.some.inj ho
              obtain ⟨k9, hk9, htr9, hneed9, hph9⟩ := hI.ph
              have hn9 : k9 < 2 := by
                rcases Nat.lt_or_ge k9 2 with h | h
                · exact h
                · exact absurd (hneed9 (2, 1) (by simp [qR]) h) (fun h => hfalse hj0 h)
              have hc9 : w'.cell? ⟨w.heap.size + 1, 1, none⟩ = some (.slice VA ls.length vc) := qCell hph9 hn9
              exact stepV rfl (wanted_none rfl) (run_loadL rfl (hI.vals 0 _ rfl (hafter ⟨0, .data⟩ (by simp) rfl)) hc9) (hI.stay (qT _ _) (qLoc _ _) (j := 1) (qLt _ _ (by omega)) (qNo _ _ (by decide)) (by omega) (fun u hu => Option.some.inj hu))
            | 2, ho =>
              obtain rfl := Option.some.inj ho
              exact stepV rfl (wanted_none rfl) (run_move rfl (hB 0 (by omega))) (hI.stay (qT _ _) (qLoc _ _) (j := 2) (qLt _ _ (by omega)) (qNo _ _ (by decide)) (by omega) (fun u hu => Option.some.inj hu))
            | 3, ho =>
              obtain rfl := Option.some.inj ho
              exact stepV rfl (wanted_none rfl) (run_move rfl (hB 5 (by omega))) (hI.stay (qT _ _) (qLoc _ _) (j := 3) (qLt _ _ (by omega)) (qNo _ _ (by decide)) (by omega) (fun u hu => Option.some.inj hu))
            | 4, ho =>
              obtain rfl := Option.some.inj ho
              exact stepV rfl (wanted_none rfl) (run_move rfl (hB 5 (by omega))) (hI.stay (qT _ _) (qLoc _ _) (j := 4) (qLt _ _ (by omega)) (qNo _ _ (by decide)) (by omega) (fun u hu => Option.some.inj hu))
            | 5, ho =>
              obtain rfl := Option.some.inj ho
              exact stepV rfl (wanted_none rfl) (run_add rfl (hI.vals 4 _ rfl (hafter ⟨4, .data⟩ (by simp) rfl)) (by simp only; omega) (by simp only; omega)) (hI.stay (qT _ _) (qLoc _ _) (j := 5) (qLt _ _ (by omega)) (qNo _ _ (by decide)) (by omega) (fun u hu => Option.some.inj hu))
            | 6, ho =>
              obtain rfl := Option.some.inj ho
              refine stepV rfl (wanted_none rfl) (run_cutS (lo := at9) (hi := (at9 + 2)) rfl (hI.vals 2 _ rfl (hafter ⟨2, .data⟩ (by simp) rfl)) (hI.vals 3 _ rfl (hafter ⟨3, .data⟩ (by simp) rfl)) (hI.vals 5 _ rfl (hafter ⟨5, .data⟩ (by simp) rfl)) (by first | rfl | (simp only; omega)) (by first | rfl | (simp only; omega)) (by omega) (by simp only; omega)) ?_
              rw [HC1.out]
              exact hI.stay (qT _ _) (qLoc _ _) (j := 6) (qLt _ _ (by omega)) (qNo _ _ (by decide)) (by omega) (fun u hu => Option.some.inj hu)
            | 7, ho =>
              obtain rfl := Option.some.inj ho
              refine stepC rfl (wanted_none rfl) (run_call_num rfl (hI.vals 6 _ rfl (hafter ⟨6, .data⟩ (by simp) rfl))) (NumberC (m.take 2) _ HIB7.out (by simp only [List.length_take, List.length_drop]; omega)) ?_
              rintro e w2 ⟨rfl, rfl⟩
              exact ⟨_, rfl, hI.stay (qT _ _) (qLoc _ _) (j := 7) (qLt _ _ (by omega)) (qNo _ _ (by decide)) (by omega) (fun u hu => Option.some.inj hu)⟩
            | 8, ho =>
              obtain rfl := Option.some.inj ho
              exact stepV rfl (wanted_none rfl) (run_c16 rfl (hI.vals 7 _ rfl (hafter ⟨7, .data⟩ (by simp) rfl)) HN7.out.1 HN7.out.2) (hI.stay (qT _ _) (qLoc _ _) (j := 8) (qLt _ _ (by omega)) (qNo _ _ (by decide)) (by omega) (fun u hu => Option.some.inj hu))
            | 9, ho =>
              obtain rfl := Option.some.inj ho
              exact stepV rfl (wanted_none rfl) (run_move rfl (hB 0 (by omega))) (hI.stay (qT _ _) (qLoc _ _) (j := 9) (qLt _ _ (by omega)) (qNo _ _ (by decide)) (by omega) (fun u hu => Option.some.inj hu))
            | 10, ho =>
              obtain rfl := Option.some.inj ho
              exact stepV rfl (wanted_none rfl) (run_move rfl (hB 5 (by omega))) (hI.stay (qT _ _) (qLoc _ _) (j := 10) (qLt _ _ (by omega)) (qNo _ _ (by decide)) (by omega) (fun u hu => Option.some.inj hu))
            | 11, ho =>
              obtain rfl := Option.some.inj ho
              exact stepV rfl (wanted_none rfl) (run_add rfl (hI.vals 10 _ rfl (hafter ⟨10, .data⟩ (by simp) rfl)) (by simp only; omega) (by simp only; omega)) (hI.stay (qT _ _) (qLoc _ _) (j := 11) (qLt _ _ (by omega)) (qNo _ _ (by decide)) (by omega) (fun u hu => Option.some.inj hu))
            | 12, ho =>
              obtain rfl := Option.some.inj ho
              exact stepV rfl (wanted_none rfl) (run_move rfl (hB 5 (by omega))) (hI.stay (qT _ _) (qLoc _ _) (j := 12) (qLt _ _ (by omega)) (qNo _ _ (by decide)) (by omega) (fun u hu => Option.some.inj hu))
            | 13, ho =>
              obtain rfl := Option.some.inj ho
              exact stepV rfl (wanted_none rfl) (run_add rfl (hI.vals 12 _ rfl (hafter ⟨12, .data⟩ (by simp) rfl)) (by simp only; omega) (by simp only; omega)) (hI.stay (qT _ _) (qLoc _ _) (j := 13) (qLt _ _ (by omega)) (qNo _ _ (by decide)) (by omega) (fun u hu => Option.some.inj hu))
            | 14, ho =>
              obtain rfl := Option.some.inj ho
              refine stepV rfl (wanted_none rfl) (run_cutS (lo := (at9 + 2)) (hi := (at9 + 4)) rfl (hI.vals 9 _ rfl (hafter ⟨9, .data⟩ (by simp) rfl)) (hI.vals 11 _ rfl (hafter ⟨11, .data⟩ (by simp) rfl)) (hI.vals 13 _ rfl (hafter ⟨13, .data⟩ (by simp) rfl)) (by first | rfl | (simp only; omega)) (by first | rfl | (simp only; omega)) (by omega) (by simp only; omega)) ?_
              rw [HC2.out]
              exact hI.stay (qT _ _) (qLoc _ _) (j := 14) (qLt _ _ (by omega)) (qNo _ _ (by decide)) (by omega) (fun u hu => Option.some.inj hu)
            | 15, ho =>
              obtain rfl := Option.some.inj ho
              refine stepC rfl (wanted_none rfl) (run_call_num rfl (hI.vals 14 _ rfl (hafter ⟨14, .data⟩ (by simp) rfl))) (NumberC ((m.drop 2).take 2) _ HIB15.out (by simp only [List.length_take, List.length_drop]; omega)) ?_
              rintro e w2 ⟨rfl, rfl⟩
              exact ⟨_, rfl, hI.stay (qT _ _) (qLoc _ _) (j := 15) (qLt _ _ (by omega)) (qNo _ _ (by decide)) (by omega) (fun u hu => Option.some.inj hu)⟩
            | 16, ho =>
              obtain rfl := Option.some.inj ho
              exact stepV rfl (wanted_none rfl) (run_c16 rfl (hI.vals 15 _ rfl (hafter ⟨15, .data⟩ (by simp) rfl)) HN15.out.1 HN15.out.2) (hI.stay (qT _ _) (qLoc _ _) (j := 16) (qLt _ _ (by omega)) (qNo _ _ (by decide)) (by omega) (fun u hu => Option.some.inj hu))
            | 17, ho =>
              obtain rfl := Option.some.inj ho
              exact stepV rfl (wanted_none rfl) (run_move rfl (hB 0 (by omega))) (hI.stay (qT _ _) (qLoc _ _) (j := 17) (qLt _ _ (by omega)) (qNo _ _ (by decide)) (by omega) (fun u hu => Option.some.inj hu))
            | 18, ho =>
              obtain rfl := Option.some.inj ho
              exact stepV rfl (wanted_none rfl) (run_move rfl (hB 5 (by omega))) (hI.stay (qT _ _) (qLoc _ _) (j := 18) (qLt _ _ (by omega)) (qNo _ _ (by decide)) (by omega) (fun u hu => Option.some.inj hu))
            | 19, ho =>
              obtain rfl := Option.some.inj ho
              exact stepV rfl (wanted_none rfl) (run_add rfl (hI.vals 18 _ rfl (hafter ⟨18, .data⟩ (by simp) rfl)) (by simp only; omega) (by simp only; omega)) (hI.stay (qT _ _) (qLoc _ _) (j := 19) (qLt _ _ (by omega)) (qNo _ _ (by decide)) (by omega) (fun u hu => Option.some.inj hu))
            | 20, ho =>
              obtain rfl := Option.some.inj ho
              exact stepV rfl (wanted_none rfl) (run_move rfl (hB 5 (by omega))) (hI.stay (qT _ _) (qLoc _ _) (j := 20) (qLt _ _ (by omega)) (qNo _ _ (by decide)) (by omega) (fun u hu => Option.some.inj hu))
            | 21, ho =>
              obtain rfl := Option.some.inj ho
              exact stepV rfl (wanted_none rfl) (run_add rfl (hI.vals 20 _ rfl (hafter ⟨20, .data⟩ (by simp) rfl)) (by simp only; omega) (by simp only; omega)) (hI.stay (qT _ _) (qLoc _ _) (j := 21) (qLt _ _ (by omega)) (qNo _ _ (by decide)) (by omega) (fun u hu => Option.some.inj hu))
            | 22, ho =>
              obtain rfl := Option.some.inj ho
              refine stepV rfl (wanted_none rfl) (run_cutS (lo := (at9 + 4)) (hi := (at9 + 6)) rfl (hI.vals 17 _ rfl (hafter ⟨17, .data⟩ (by simp) rfl)) (hI.vals 19 _ rfl (hafter ⟨19, .data⟩ (by simp) rfl)) (hI.vals 21 _ rfl (hafter ⟨21, .data⟩ (by simp) rfl)) (by first | rfl | (simp only; omega)) (by first | rfl | (simp only; omega)) (by omega) (by simp only; omega)) ?_
              rw [HC3.out]
              exact hI.stay (qT _ _) (qLoc _ _) (j := 22) (qLt _ _ (by omega)) (qNo _ _ (by decide)) (by omega) (fun u hu => Option.some.inj hu)
            | 23, ho =>
              obtain rfl := Option.some.inj ho
              refine stepC rfl (wanted_none rfl) (run_call_num rfl (hI.vals 22 _ rfl (hafter ⟨22, .data⟩ (by simp) rfl))) (NumberC ((m.drop 4).take 2) _ HIB23.out (by simp only [List.length_take, List.length_drop]; omega)) ?_
              rintro e w2 ⟨rfl, rfl⟩
              exact ⟨_, rfl, hI.stay (qT _ _) (qLoc _ _) (j := 23) (qLt _ _ (by omega)) (qNo _ _ (by decide)) (by omega) (fun u hu => Option.some.inj hu)⟩
            | 24, ho =>
              obtain rfl := Option.some.inj ho
              exact stepV rfl (wanted_none rfl) (run_c64 rfl (hI.vals 23 _ rfl (hafter ⟨23, .data⟩ (by simp) rfl)) HN23.out.1 HN23.out.2) (hI.stay (qT _ _) (qLoc _ _) (j := 24) (qLt _ _ (by omega)) (qNo _ _ (by decide)) (by omega) (fun u hu => Option.some.inj hu))
            | 25, ho =>
              obtain rfl := Option.some.inj ho
              exact stepV rfl (wanted_none rfl) (run_buildL (l := lnOf m) rfl (hI.vals 8 _ rfl (hafter ⟨8, .data⟩ (by simp) rfl)) (hI.vals 16 _ rfl (hafter ⟨16, .data⟩ (by simp) rfl)) (hI.vals 24 _ rfl (hafter ⟨24, .data⟩ (by simp) rfl))) (hI.stay (qT _ _) (qLoc _ _) (j := 25) (qLt _ _ (by omega)) (qNo _ _ (by decide)) (by omega) (fun u hu => Option.some.inj hu))
            | 26, ho =>
              obtain rfl := Option.some.inj ho
              obtain ⟨hp9, htr9, hneed9⟩ := hI.at_ (qNd _ _) (j := 26) (k := 0) rfl (getD_no hj0) (fun i h => by omega)
              refine stepV rfl (wanted_none rfl) (run_rowL (l := lnOf m) rfl (hI.vals 25 _ rfl (hafter ⟨25, .data⟩ (by simp) rfl))) ?_
              exact hI.turn (qNd _ _) (qT _ _) (k := 0) rfl (qLt _ _ (by omega)) (by omega) (fun u hu => by cases hu) htr9 hneed9 (fun p hp e => by simp [qR] at hp; subst hp; simp at e) ⟨w', rfl, hp9, slot_newR hI.size (qS _ _ (by omega))⟩
            | 27, ho =>
              obtain rfl := Option.some.inj ho
              have h26 := hafter ⟨26, .data⟩ (by simp) rfl
              have h1l := hafter ⟨1, .data⟩ (by simp) rfl
              obtain ⟨hp9, htr9, hneed9⟩ := hI.at_ (qNd _ _) (j := 27) (k := 1) rfl (getD_no hj0) (fun i h j' hj' => by obtain rfl : i = 0 := (by omega); obtain rfl := Option.some.inj hj'; exact h26)
              obtain ⟨W9, rfl, hq9, hs9⟩ := hp9
              have hv1 := hI.vals 1 _ rfl h1l
              refine stepA rfl (wanted_none rfl) (QS.step1 rfl (.tmp 41) (.tmp 66) rfl (lnOf m) hq9 hll hv1 hs9 ?_)
              intro A2 c2 w2 hq2 hk2 hf2
              exact hI.turn (qNd _ _) (qT _ _) (k := 1) rfl (qLt _ _ (by omega)) (by omega) (fun u hu => by cases hu) htr9 hneed9 (fun p hp e => by simp [qR] at hp; subst hp; exact h1l) ⟨A2, c2, slot_newR hI.size (qS _ _ (by omega)), hk2, hf2, hq2⟩
            | 28, ho =>
              obtain rfl := Option.some.inj ho
              exact stepV rfl (wanted_none rfl) (run_field1 rfl (hB 4 (by omega))) (hI.stay (qT _ _) (qLoc _ _) (j := 28) (qLt _ _ (by omega)) (qNo _ _ (by decide)) (by omega) (fun u hu => Option.some.inj hu))
            | 29, ho =>
              obtain rfl := Option.some.inj ho
              have h27 := hafter ⟨27, .data⟩ (by simp) rfl
              obtain ⟨hp9, htr9, hneed9⟩ := hI.at_ (qNd _ _) (j := 29) (k := 2) rfl (getD_no hj0) (fun i h j' hj' => by obtain rfl : i = 1 := (by omega); obtain rfl := Option.some.inj hj'; exact h27)
              obtain ⟨A2, c2, hs9, hk9, hf9, hq9⟩ := hp9
              refine stepS rfl (wanted_none rfl) rfl (run_storeL rfl (hI.vals 28 _ rfl (hafter ⟨28, .data⟩ (by simp) rfl)) hs9 hk9 hf9) ?_
              exact hI.last (qNd _ _) (k := 2) rfl rfl (by omega) htr9 hneed9 (fun p hp e => by simp [qR] at hp; subst hp; simp at e) ⟨A2, c2, hq9⟩
        · obtain rfl : n = k := by omega
          have hat : at9 = b.length := by rw [HAT.out, HLN.out]
          have hok := lnsOf_ok n (b.drop 5) (HI.out.drop_ 5)
          have HLS := Lib.hid (rfl : lnsOf n (b.drop 5) = lnsOf n (b.drop 5))
          have hpe := HP.out
          clear HSN HDD hdd hat9
          generalize hgl : lnsOf n (b.drop 5) = ls at *
          have HPE := Lib.hid hpe
          have hq1 := HQ.out
          have x0 := hq1.o.cell 0
          have x1 := hq1.o.cell 1
          have hcap : ls.length ≤ vc := hvc
          have qR := RightRC (id := id) (c := vc) (row_own (c := cL) (fun _ => rfl) hq1.hv) (by omega) hok
          have hrg := rightO_range ls
          clear hq1 hpe hgl HLS hok
          subst hat
          generalize rightO ls = rv at *
          go_wp2_with fail
          refine Calls.mono qR ?_
          clear qR
          rintro e w2 ⟨rfl, F2⟩
          have hq2 := HQ.out.fr0 (Fr.of_below F2.out)
          have y0 := hq2.o.cell 0
          have y1 := hq2.o.cell 1
          have u0 := hq2.res.cell 0
          have v0 := hq2.res.frozen 0
          have HQ2 := Lib.hid hq2
          by_cases hz : rv = 0
          · subst hz
            rw [if_pos rfl] at HPE
            have hr1 : Blk (w2.setCell ⟨w.heap.size, 0, none⟩ (.int .u32 id)) w.heap.size 25 #[.int .u32 id, .slice none 0 0] := by simpa using hq2.res.set_ 0 (.int .u32 id)
            have u1 := hr1.cell 1
            have v1 := hr1.frozen 1
            have hr2 : Blk ((w2.setCell ⟨w.heap.size, 0, none⟩ (.int .u32 id)).setCell ⟨w.heap.size, 1, none⟩ (.slice VA ls.length vc)) w.heap.size 25 #[.int .u32 id, .slice VA ls.length vc] := by simpa using hr1.set_ 1 (.slice VA ls.length vc)
            have HR2 := Lib.hid hr2
            have hF : Fr (fun j => j = w.heap.size) w2 ((w2.setCell ⟨w.heap.size, 0, none⟩ (.int .u32 id)).setCell ⟨w.heap.size, 1, none⟩ (.slice VA ls.length vc)) := ((Fr.refl (fun j => j = w.heap.size) w2).setCell (p := ⟨w.heap.size, 0, none⟩) (fun _ => rfl) _).setCell (p := ⟨w.heap.size, 1, none⟩) (fun _ => rfl) _
            have HF := Lib.hid hF
            clear hq2 hr1 hr2 hF
            go_wp2
            refine bodyPost_ret_by (results_row_tmp rfl _ _ w.heap.size 25 _ (0, 0) _ rfl HR2.out Tryd.underlying25 rfl (by kernel_rfl)) rfl ?_
            rw [HPE.out]
            have hml : MadeL w.heap.size VA vc ls w2 := ⟨HQ2.out.hv, row_own (c := cL) (fun _ => rfl) HQ2.out.hv, hcap⟩
            exact ⟨VA, vc, rfl, Lib.hid (hml.fr HF.out (fun j e e' => by subst e'; exact own_blk_ne HQ2.out.hv HQ2.out.res (by decide) e)), Lib.hid (below_fr HQ2.out.hb HF.out HQ2.out.hb.size (fun j e => by omega))⟩
          · rw [if_neg hz] at HPE
            have hz1 : (rv == 0) = false := by simpa using hz
            have hz2 : (rv != 0) = true := by simpa using hz
            have hr1 : Blk (w2.setCell ⟨w.heap.size, 0, none⟩ (.int .u32 0)) w.heap.size 25 #[.int .u32 0, .slice none 0 0] := by simpa using hq2.res.set_ 0 (.int .u32 0)
            have u1 := hr1.cell 1
            have v1 := hr1.frozen 1
            have hr2 : Blk ((w2.setCell ⟨w.heap.size, 0, none⟩ (.int .u32 0)).setCell ⟨w.heap.size, 1, none⟩ (.slice none 0 0)) w.heap.size 25 #[.int .u32 0, .slice none 0 0] := by simpa using hr1.set_ 1 (.slice none 0 0)
            have HR2 := Lib.hid hr2
            have hF : Fr (fun j => j = w.heap.size) w2 ((w2.setCell ⟨w.heap.size, 0, none⟩ (.int .u32 0)).setCell ⟨w.heap.size, 1, none⟩ (.slice none 0 0)) := ((Fr.refl (fun j => j = w.heap.size) w2).setCell (p := ⟨w.heap.size, 0, none⟩) (fun _ => rfl) _).setCell (p := ⟨w.heap.size, 1, none⟩) (fun _ => rfl) _
            have HF := Lib.hid hF
            clear hq2 hr1 hr2 hF
            go_wp2
            refine bodyPost_ret_by (results_row_tmp rfl _ _ w.heap.size 25 _ (0, 0) _ rfl HR2.out Tryd.underlying25 rfl (by kernel_rfl)) rfl ?_
            rw [HPE.out]
            exact ⟨none, 0, rfl, Lib.hid (MadeL.nil_ _ _), Lib.hid (below_fr HQ2.out.hb HF.out HQ2.out.hb.size (fun j e => by omega))⟩
    · have hp : parseO b = (3, 0, []) := by unfold parseO; rw [if_neg (by omega), if_pos h]
      have hI : 5 + 6 * (nOf b : Int) < (b.length : Int) := by omega
      have HP := Lib.hid hp
      clear hp
      generalize nOf b = n at *
      go_enter Tryd.func16, Tryd.ntmps16
      go_wp2
      refine bodyPost_ret_by (results_row_tmp rfl _ _ w.heap.size 25 _ (0, 0) _ rfl HBL.out Tryd.underlying25 rfl (by kernel_rfl)) rfl ?_
      exact HNO.out 3 HP.out
end Go.Proofs.YtigknfkkegccgaaDoor.K
