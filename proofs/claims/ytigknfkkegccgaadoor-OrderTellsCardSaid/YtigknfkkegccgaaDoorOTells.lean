/- OrderTells: its walk. -/
import Derived.Test.YtigknfkkegccgaaDoorOR6
import Derived.Test.YtigknfkkegccgaaDoorOBs
namespace Go.Proofs.YtigknfkkegccgaaDoor.K
open Go.RowKit
set_option linter.unusedVariables false
set_option linter.unusedSimpArgs false
attribute [local go_sem ↓] Go.wp_at_zero Go.wp_at_succ
attribute [local go_sem] min2_min min_two
theorem BytesAny {A : Option Addr} {c : Nat} {id : Int} {ls : List Ln} {w : World} (hr : RowOf cL 3 w w.heap.size A ls) (hid : 0 ≤ id ∧ id < 4294967296) (hl : ls.length ≤ 1000) (hc : ls.length ≤ c) (ho : ∀ l ∈ ls, l.ok) :
    Calls Tryd.prog 12 #[.agg #[.int .u32 id, .slice A ls.length c]] w fun e w' => ∃ X n xc, e = .returned (.tuple #[.slice X n xc, .int .i64 (rightO ls)]) ∧ Hid (rightO ls = 0 → n = (bytesO id ls).length ∧ RowOf c8 1 w' w'.heap.size X (bytesO id ls)) ∧ Hid (rightO ls ≠ 0 → n = 0) ∧ Hid (Below w.heap.size w w') := by
  by_cases hz : rightO ls = 0
  · refine (BytesC hr (Nat.le_refl _) hid hc ho hz).mono ?_
    rintro e w' ⟨A', c', rfl, HM, F⟩
    exact ⟨A', _, c', by rw [hz], Lib.hid (fun _ => ⟨rfl, HM.out.2.1⟩), Lib.hid (fun h => absurd hz h), F⟩
  · refine (BytesNo hr (Nat.le_refl _) (by omega) hc ho hz).mono ?_
    rintro e w' ⟨rfl, F⟩
    exact ⟨none, 0, 0, rfl, Lib.hid (fun h => absurd h hz), Lib.hid (fun _ => rfl), F⟩
theorem shape101 (tm : Array Value) (h : tm.size = 101) : ∃ x0 x1 x2 x3 x4 x5 x6 x7 x8 x9 x10 x11 x12 x13 x14 x15 x16 x17 x18 x19 x20 x21 x22 x23 x24 x25 x26 x27 x28 x29 x30 x31 x32 x33 x34 x35 x36 x37 x38 x39 x40 x41 x42 x43 x44 x45 x46 x47 x48 x49 x50 x51 x52 x53 x54 x55 x56 x57 x58 x59 x60 x61 x62 x63 x64 x65 x66 x67 x68 x69 x70 x71 x72 x73 x74 x75 x76 x77 x78 x79 x80 x81 x82 x83 x84 x85 x86 x87 x88 x89 x90 x91 x92 x93 x94 x95 x96 x97 x98 x99 x100, tm = #[x0, x1, x2, x3, x4, x5, x6, x7, x8, x9, x10, x11, x12, x13, x14, x15, x16, x17, x18, x19, x20, x21, x22, x23, x24, x25, x26, x27, x28, x29, x30, x31, x32, x33, x34, x35, x36, x37, x38, x39, x40, x41, x42, x43, x44, x45, x46, x47, x48, x49, x50, x51, x52, x53, x54, x55, x56, x57, x58, x59, x60, x61, x62, x63, x64, x65, x66, x67, x68, x69, x70, x71, x72, x73, x74, x75, x76, x77, x78, x79, x80, x81, x82, x83, x84, x85, x86, x87, x88, x89, x90, x91, x92, x93, x94, x95, x96, x97, x98, x99, x100] := by
  obtain ⟨l⟩ := tm
  have h0 : l.length = 101 := h
  clear h
  obtain ⟨x0, l0, e0, h1⟩ := cons_len h0
  obtain ⟨x1, l1, e1, h2⟩ := cons_len h1
  obtain ⟨x2, l2, e2, h3⟩ := cons_len h2
  obtain ⟨x3, l3, e3, h4⟩ := cons_len h3
  obtain ⟨x4, l4, e4, h5⟩ := cons_len h4
  obtain ⟨x5, l5, e5, h6⟩ := cons_len h5
  obtain ⟨x6, l6, e6, h7⟩ := cons_len h6
  obtain ⟨x7, l7, e7, h8⟩ := cons_len h7
  obtain ⟨x8, l8, e8, h9⟩ := cons_len h8
  obtain ⟨x9, l9, e9, h10⟩ := cons_len h9
  obtain ⟨x10, l10, e10, h11⟩ := cons_len h10
  obtain ⟨x11, l11, e11, h12⟩ := cons_len h11
  obtain ⟨x12, l12, e12, h13⟩ := cons_len h12
  obtain ⟨x13, l13, e13, h14⟩ := cons_len h13
  obtain ⟨x14, l14, e14, h15⟩ := cons_len h14
  obtain ⟨x15, l15, e15, h16⟩ := cons_len h15
  obtain ⟨x16, l16, e16, h17⟩ := cons_len h16
  obtain ⟨x17, l17, e17, h18⟩ := cons_len h17
  obtain ⟨x18, l18, e18, h19⟩ := cons_len h18
  obtain ⟨x19, l19, e19, h20⟩ := cons_len h19
  obtain ⟨x20, l20, e20, h21⟩ := cons_len h20
  obtain ⟨x21, l21, e21, h22⟩ := cons_len h21
  obtain ⟨x22, l22, e22, h23⟩ := cons_len h22
  obtain ⟨x23, l23, e23, h24⟩ := cons_len h23
  obtain ⟨x24, l24, e24, h25⟩ := cons_len h24
  obtain ⟨x25, l25, e25, h26⟩ := cons_len h25
  obtain ⟨x26, l26, e26, h27⟩ := cons_len h26
  obtain ⟨x27, l27, e27, h28⟩ := cons_len h27
  obtain ⟨x28, l28, e28, h29⟩ := cons_len h28
  obtain ⟨x29, l29, e29, h30⟩ := cons_len h29
  obtain ⟨x30, l30, e30, h31⟩ := cons_len h30
  obtain ⟨x31, l31, e31, h32⟩ := cons_len h31
  obtain ⟨x32, l32, e32, h33⟩ := cons_len h32
  obtain ⟨x33, l33, e33, h34⟩ := cons_len h33
  obtain ⟨x34, l34, e34, h35⟩ := cons_len h34
  obtain ⟨x35, l35, e35, h36⟩ := cons_len h35
  obtain ⟨x36, l36, e36, h37⟩ := cons_len h36
  obtain ⟨x37, l37, e37, h38⟩ := cons_len h37
  obtain ⟨x38, l38, e38, h39⟩ := cons_len h38
  obtain ⟨x39, l39, e39, h40⟩ := cons_len h39
  obtain ⟨x40, l40, e40, h41⟩ := cons_len h40
  obtain ⟨x41, l41, e41, h42⟩ := cons_len h41
  obtain ⟨x42, l42, e42, h43⟩ := cons_len h42
  obtain ⟨x43, l43, e43, h44⟩ := cons_len h43
  obtain ⟨x44, l44, e44, h45⟩ := cons_len h44
  obtain ⟨x45, l45, e45, h46⟩ := cons_len h45
  obtain ⟨x46, l46, e46, h47⟩ := cons_len h46
  obtain ⟨x47, l47, e47, h48⟩ := cons_len h47
  obtain ⟨x48, l48, e48, h49⟩ := cons_len h48
  obtain ⟨x49, l49, e49, h50⟩ := cons_len h49
  obtain ⟨x50, l50, e50, h51⟩ := cons_len h50
  obtain ⟨x51, l51, e51, h52⟩ := cons_len h51
  obtain ⟨x52, l52, e52, h53⟩ := cons_len h52
  obtain ⟨x53, l53, e53, h54⟩ := cons_len h53
  obtain ⟨x54, l54, e54, h55⟩ := cons_len h54
  obtain ⟨x55, l55, e55, h56⟩ := cons_len h55
  obtain ⟨x56, l56, e56, h57⟩ := cons_len h56
  obtain ⟨x57, l57, e57, h58⟩ := cons_len h57
  obtain ⟨x58, l58, e58, h59⟩ := cons_len h58
  obtain ⟨x59, l59, e59, h60⟩ := cons_len h59
  obtain ⟨x60, l60, e60, h61⟩ := cons_len h60
  obtain ⟨x61, l61, e61, h62⟩ := cons_len h61
  obtain ⟨x62, l62, e62, h63⟩ := cons_len h62
  obtain ⟨x63, l63, e63, h64⟩ := cons_len h63
  obtain ⟨x64, l64, e64, h65⟩ := cons_len h64
  obtain ⟨x65, l65, e65, h66⟩ := cons_len h65
  obtain ⟨x66, l66, e66, h67⟩ := cons_len h66
  obtain ⟨x67, l67, e67, h68⟩ := cons_len h67
  obtain ⟨x68, l68, e68, h69⟩ := cons_len h68
  obtain ⟨x69, l69, e69, h70⟩ := cons_len h69
  obtain ⟨x70, l70, e70, h71⟩ := cons_len h70
  obtain ⟨x71, l71, e71, h72⟩ := cons_len h71
  obtain ⟨x72, l72, e72, h73⟩ := cons_len h72
  obtain ⟨x73, l73, e73, h74⟩ := cons_len h73
  obtain ⟨x74, l74, e74, h75⟩ := cons_len h74
  obtain ⟨x75, l75, e75, h76⟩ := cons_len h75
  obtain ⟨x76, l76, e76, h77⟩ := cons_len h76
  obtain ⟨x77, l77, e77, h78⟩ := cons_len h77
  obtain ⟨x78, l78, e78, h79⟩ := cons_len h78
  obtain ⟨x79, l79, e79, h80⟩ := cons_len h79
  obtain ⟨x80, l80, e80, h81⟩ := cons_len h80
  obtain ⟨x81, l81, e81, h82⟩ := cons_len h81
  obtain ⟨x82, l82, e82, h83⟩ := cons_len h82
  obtain ⟨x83, l83, e83, h84⟩ := cons_len h83
  obtain ⟨x84, l84, e84, h85⟩ := cons_len h84
  obtain ⟨x85, l85, e85, h86⟩ := cons_len h85
  obtain ⟨x86, l86, e86, h87⟩ := cons_len h86
  obtain ⟨x87, l87, e87, h88⟩ := cons_len h87
  obtain ⟨x88, l88, e88, h89⟩ := cons_len h88
  obtain ⟨x89, l89, e89, h90⟩ := cons_len h89
  obtain ⟨x90, l90, e90, h91⟩ := cons_len h90
  obtain ⟨x91, l91, e91, h92⟩ := cons_len h91
  obtain ⟨x92, l92, e92, h93⟩ := cons_len h92
  obtain ⟨x93, l93, e93, h94⟩ := cons_len h93
  obtain ⟨x94, l94, e94, h95⟩ := cons_len h94
  obtain ⟨x95, l95, e95, h96⟩ := cons_len h95
  obtain ⟨x96, l96, e96, h97⟩ := cons_len h96
  obtain ⟨x97, l97, e97, h98⟩ := cons_len h97
  obtain ⟨x98, l98, e98, h99⟩ := cons_len h98
  obtain ⟨x99, l99, e99, h100⟩ := cons_len h99
  obtain ⟨x100, l100, e100, h101⟩ := cons_len h100
  have e101 := List.eq_nil_of_length_eq_zero h101
  subst e101
  subst e100
  subst e99
  subst e98
  subst e97
  subst e96
  subst e95
  subst e94
  subst e93
  subst e92
  subst e91
  subst e90
  subst e89
  subst e88
  subst e87
  subst e86
  subst e85
  subst e84
  subst e83
  subst e82
  subst e81
  subst e80
  subst e79
  subst e78
  subst e77
  subst e76
  subst e75
  subst e74
  subst e73
  subst e72
  subst e71
  subst e70
  subst e69
  subst e68
  subst e67
  subst e66
  subst e65
  subst e64
  subst e63
  subst e62
  subst e61
  subst e60
  subst e59
  subst e58
  subst e57
  subst e56
  subst e55
  subst e54
  subst e53
  subst e52
  subst e51
  subst e50
  subst e49
  subst e48
  subst e47
  subst e46
  subst e45
  subst e44
  subst e43
  subst e42
  subst e41
  subst e40
  subst e39
  subst e38
  subst e37
  subst e36
  subst e35
  subst e34
  subst e33
  subst e32
  subst e31
  subst e30
  subst e29
  subst e28
  subst e27
  subst e26
  subst e25
  subst e24
  subst e23
  subst e22
  subst e21
  subst e20
  subst e19
  subst e18
  subst e17
  subst e16
  subst e15
  subst e14
  subst e13
  subst e12
  subst e11
  subst e10
  subst e9
  subst e8
  subst e7
  subst e6
  subst e5
  subst e4
  subst e3
  subst e2
  subst e1
  subst e0
  exact ⟨x0, x1, x2, x3, x4, x5, x6, x7, x8, x9, x10, x11, x12, x13, x14, x15, x16, x17, x18, x19, x20, x21, x22, x23, x24, x25, x26, x27, x28, x29, x30, x31, x32, x33, x34, x35, x36, x37, x38, x39, x40, x41, x42, x43, x44, x45, x46, x47, x48, x49, x50, x51, x52, x53, x54, x55, x56, x57, x58, x59, x60, x61, x62, x63, x64, x65, x66, x67, x68, x69, x70, x71, x72, x73, x74, x75, x76, x77, x78, x79, x80, x81, x82, x83, x84, x85, x86, x87, x88, x89, x90, x91, x92, x93, x94, x95, x96, x97, x98, x99, x100, rfl⟩
theorem parseO_len {b : List Int} (h : b.length ≤ 1000) : (parseO b).2.2.length ≤ 1000 := by
  unfold parseO
  split
  · simp
  · split
    · simp
    · split
      · simp only [lnsOf_len]; omega
      · simp
theorem RI.bel {p : TP} {a0 a : Act} {l : Array Bool} {w : World} (h : RI (tR p a0) l a w) : Below p.W.heap.size p.W w := by
  obtain ⟨_, _, _, _, hp⟩ := h.ph
  exact hp
theorem tT (p : TP) (a0 : Act) : (tR p a0).s0 + (tR p a0).n ≤ (tR p a0).T := by show 38 + 29 ≤ 101; omega
theorem tLoc (p : TP) (a0 : Act) : ∀ f g w k, (∀ j ∈ (tR p a0).tr, f j = g j) → (tR p a0).Ph f w k → (tR p a0).Ph g w k := fun f g w k _ h => h
theorem tLt (p : TP) (a0 : Act) {j : Nat} (h : j < 29) : j < (tR p a0).n := h
theorem tNo (p : TP) (a0 : Act) {j : Nat} : j ∉ (tR p a0).tr := by show j ∉ []; simp
theorem enter_ORight (args : Array Value) (W : World) : (callFunc 13 args).run Tryd.prog W = .ok (.enter 13 args) W := rfl
theorem enter_ROText (args : Array Value) (W : World) : (callFunc 14 args).run Tryd.prog W = .ok (.enter 14 args) W := rfl
set_option maxHeartbeats 16000000 in
set_option maxRecDepth 20000 in
theorem otells_walk (A Q : Option Addr) (c q : Nat) (id : Int) (ls : List Ln) (l : List Int) (w : World) (hA : RowOf cL 3 w w.heap.size A ls) (hc : ls.length ≤ c) (hok : ∀ x ∈ ls, x.ok) (hid : 0 ≤ id ∧ id < 4294967296) (hQ : RowOf c8 1 w w.heap.size Q l) (hi : InB l) (hq : l.length ≤ q) :
    Calls Tryd.prog 3 #[.agg #[.int .u32 id, .slice A ls.length c], .slice Q l.length q] w fun e w' => e = .returned (.bool true) ∧ Below w.heap.size w w' := by
  have HOK := Lib.hid (fun x (hx : x ∈ ls.take 12) => hok x (List.mem_of_mem_take hx))
  have hm12 : (ls.take 12).length ≤ 12 := by rw [List.length_take]; omega
  have HB0 := Lib.hid (Blk.new w 25 #[.int .u32 id, .slice A ls.length c])
  have D0 : Hid (Below w.heap.size w (w.alloc (.cells #[.int .u32 id, .slice A ls.length c] 25))) := Lib.hid ((Below.refl _ w).alloc (Nat.le_refl _) _)
  have HF : Hid (∀ w', Below w.heap.size w w' → Calls Tryd.prog 10 #[.agg #[.int .u32 id, .slice A ls.length c]] w' fun e w2 => ∃ A' c', e = .returned (.agg #[.int .u32 id, .slice A' (ls.take 12).length c']) ∧ Hid (MadeL w'.heap.size A' c' (ls.take 12) w2) ∧ Hid (Fr0 w' w2)) := Lib.hid (fun w' h => FewC hc (hA.now h))
  generalize ls.take 12 = ms at *
  obtain ⟨n, hn, hn1, hn2⟩ := min_nat l.length 100
  have hcut := fun W => bcut_hi Q l.length q n (by omega) W
  obtain ⟨b, hb⟩ : ∃ b, b = l.take n := ⟨_, rfl⟩
  have hln : n = b.length := by rw [hb, List.length_take]; omega
  subst hln
  have HR := Lib.hid (hb ▸ hQ.take_ b.length : RowOf c8 1 w w.heap.size Q b)
  have HI := Lib.hid (hb ▸ hi.take_ b.length : InB b)
  have hmin : min (l.length : Int) 100 = (b.length : Int) := hn
  have hb100 : b.length ≤ 100 := by omega
  clear hA hc hok hQ hi hb hn
  go_enter Tryd.func3, Tryd.ntmps3
  go_wp2_with fail
  refine Calls.mono shown14_walk ?_
  rintro e w1 ⟨rfl, F1⟩
  have D1 := Lib.hid (D0.out.trans (F1.out.mono D0.out.size))
  have hb1 := HB0.out.below F1.out HB0.out.lt
  have e0 := hb1.cell 0
  have e1 := hb1.cell 1
  have HB1 := Lib.hid hb1
  clear hb1 F1 D0 HB0
  have qF := HF.out w1 D1.out
  go_wp2_with fail
  refine Calls.mono qF ?_
  clear qF
  rintro e w2 ⟨A2, c2, rfl, HM2, HF2⟩
  have hb2 := HB1.out.fr HF2.out (fun h => h)
  have f0 := hb2.cell 0
  have f1 := hb2.frozen 0
  have hb3 : Blk (w2.setCell ⟨w.heap.size, 0, none⟩ (.int .u32 id)) w.heap.size 25 #[.int .u32 id, .slice A ls.length c] := by simpa using hb2.set_ 0 (.int .u32 id)
  have g0 := hb3.cell 1
  have g1 := hb3.frozen 1
  have hb4 : Blk ((w2.setCell ⟨w.heap.size, 0, none⟩ (.int .u32 id)).setCell ⟨w.heap.size, 1, none⟩ (.slice A2 ms.length c2)) w.heap.size 25 #[.int .u32 id, .slice A2 ms.length c2] := by simpa using hb3.set_ 1 (.slice A2 ms.length c2)
  have hF4 : Fr (fun j => j = w.heap.size) w2 ((w2.setCell ⟨w.heap.size, 0, none⟩ (.int .u32 id)).setCell ⟨w.heap.size, 1, none⟩ (.slice A2 ms.length c2)) := ((Fr.refl (fun j => j = w.heap.size) w2).setCell (p := ⟨w.heap.size, 0, none⟩) (fun _ => rfl) _).setCell (p := ⟨w.heap.size, 1, none⟩) (fun _ => rfl) _
  have HB4 := Lib.hid hb4
  have hs1 := D1.out.size
  have HM4 := Lib.hid (HM2.out.fr hF4 (fun j e e' => by subst e'; exact own_blk_ne HM2.out.1 (HB1.out.fr HF2.out (fun h => h)) (by decide) e))
  have D4 := Lib.hid (below_fr (D1.out.trans (HF2.out.below0.mono hs1)) hF4 (Nat.le_trans hs1 HF2.out.size) (fun j e => by omega))
  have h40 := hb4.cell 0
  have h41 := hb4.cell 1
  clear hb2 hb3 hb4 hF4 HM2 HF2 e0 e1 HB1 HF
  have hcm := HM4.out.2.2
  have qF := FewC (id := id) hcm HM4.out.2.1
  go_wp2_with fail
  generalize (w2.setCell ⟨w.heap.size, 0, none⟩ (.int .u32 id)).setCell ⟨w.heap.size, 1, none⟩ (.slice A2 ms.length c2) = W4 at *
  clear f0 f1 g0 g1
  refine Calls.mono qF ?_
  clear qF
  rintro e w5 ⟨A5, c5, rfl, HM5, HF5⟩
  have htk : ms.take 12 = ms := List.take_of_length_le hm12
  rw [htk] at HM5 ⊢
  clear htk
  have hs4 := D4.out.size
  have HB5 := Lib.hid ((HB4.out.fr HF5.out (fun h => h)).alloc (.cells #[.int .u32 id, .slice A5 ms.length c5] 25))
  have HM4' := Lib.hid ((HM4.out.fr HF5.out (fun _ _ h => h)).fr ((Fr.refl (fun _ => False) w5).alloc (.cells #[.int .u32 id, .slice A5 ms.length c5] 25)) (fun _ _ h => h))
  have HM5' := Lib.hid (HM5.out.fr ((Fr.refl (fun _ => False) w5).alloc (.cells #[.int .u32 id, .slice A5 ms.length c5] 25)) (fun _ _ h => h))
  have D5 := Lib.hid ((D4.out.trans (HF5.out.below0.mono hs4)).alloc (Nat.le_trans hs4 HF5.out.size) (.cells #[.int .u32 id, .slice A5 ms.length c5] 25))
  have HW5 := Lib.hid (Blk.new w5 25 #[.int .u32 id, .slice A5 ms.length c5])
  have hz : (w5.alloc (.cells #[.int .u32 id, .slice A5 ms.length c5] 25)).heap.size = w5.heap.size + 1 := by simp
  have HO5 : Hid (((w5.alloc (.cells #[.int .u32 id, .slice A5 ms.length c5] 25)).alloc (.cells #[] 5)).ownsRow (w5.heap.size + 1) 5 1 (.slice (some ⟨w5.heap.size + 1, 0, none⟩) 0 0) 0 ([] : List Value)) := Lib.hid (by
    have := World.ownsRow_lit (base := w5.heap.size + 1) (e := 5) (size := 1) (w5.alloc (.cells #[.int .u32 id, .slice A5 ms.length c5] 25)) #[] 0 (by omega) (by decide) rfl
    rwa [hz] at this)
  have HRR := Lib.hid (RowOf.below HR.out (D5.out.alloc D5.out.size (.cells #[] 5)))
  clear HB4 HM4 D4 HM5 HF5 h40 h41 hs4 hz
  go_wp2_with (at_builtin; go_loud (refine appR (c := c8) rfl _ _ _ rfl 5 (.int .u8 0) 1 1 Tryd.underlying26 info_u8 rfl (by omega) (by omega) (fun _ => rfl) (fun y u hu => by simp at hu; subst hu; rfl) (w5.heap.size + 1) _ (.slice (some ⟨w5.heap.size + 1, 0, none⟩) 0 0) [] b _ _ rfl rfl HRR.out HO5.out (by simp) (by simp only [List.length_nil]; omega) ?_; intro v6 w6 h3 h4 h5; have F6 : Hid (Fr0 (w5.alloc (.cells #[.int .u32 id, .slice A5 ms.length c5] 25)) w6) := Lib.hid (((Fr.refl (fun _ => False) _).alloc _).trans h4 (fun j hj e => by have := Option.some.inj e; simp at this; simp at hj; omega)); obtain ⟨A6, c6, rfl, hm6⟩ := made_of (B := w5.heap.size + 1) (v := v6) (l := b) (by rw [nums_flat]; exact h3); have M6 := Lib.hid hm6; have s6 := str_row (c := c6) hm6.2.1; have hb6 := HB5.out.fr F6.out (fun h => h); have p0 := hb6.cell 0; have p1 := hb6.cell 1; have HB6 := Lib.hid hb6; clear h3 h4 h5 hm6 hb6))
  have HM6 := Lib.hid (HM4'.out.fr F6.out (fun _ _ h => h))
  have HN6 := Lib.hid (HM5'.out.fr F6.out (fun _ _ h => h))
  have HW6 := Lib.hid (HW5.out.fr F6.out (fun h => h))
  have D6 := Lib.hid (D5.out.trans (F6.out.below0.mono D5.out.size))
  clear HB5 HM4' HM5' HW5 HRR HO5 F6 D5
  generalize w5.heap.size = pw at *
  have qR := RightRC (id := id) (c := c2) HM6.out.2.1 (by omega) HOK.out
  refine Calls.mono qR ?_
  clear qR
  rintro e w7 ⟨rfl, F7⟩
  have hb7 := HB6.out.below F7.out HB6.out.lt
  have r0 := hb7.cell 0
  have r1 := hb7.cell 1
  have HB7 := Lib.hid hb7
  have HM7 := Lib.hid (HM6.out.fr (Fr.of_below F7.out) (fun _ _ h => h))
  have HN7 := Lib.hid (HN6.out.fr (Fr.of_below F7.out) (fun _ _ h => h))
  have HW7 := Lib.hid (HW6.out.below F7.out HW6.out.lt)
  have M7 := Lib.hid (M6.out.fr (Fr.of_below F7.out) (fun _ _ h => h))
  have D7 := Lib.hid (D6.out.trans (F7.out.mono D6.out.size))
  clear hb7 HB6 HM6 HN6 HW6 M6 D6 F7 p0 p1 s6
  have qB := BytesAny (id := id) HM7.out.2.1 hid (by omega) hcm HOK.out
  have HT : Hid (rightO ms = 0 → ∀ w', Below w7.heap.size w7 w' → Calls Tryd.prog 14 #[.agg #[.int .u32 id, .slice A2 ms.length c2]] w' fun e w2 => e = .returned (.string (strOfNums (bytesO id ms))) ∧ Hid (Below w'.heap.size w' w2)) := Lib.hid (fun hz w' h => TextO (HM7.out.2.1.now h) hid HOK.out hz)
  have HRI : Hid (∀ w', Below w7.heap.size w7 w' → Calls Tryd.prog 13 #[.agg #[.int .u32 id, .slice A2 ms.length c2]] w' fun e w2 => e = .returned (.int .i64 (rightO ms)) ∧ Hid (Below w'.heap.size w' w2)) := Lib.hid (fun w' h => RightE (HM7.out.2.1.now h) rfl (by omega) hcm HOK.out rfl)
  generalize rightO ms = rv at *
  generalize bytesO id ms = L at *
  go_wp2_with fail
  refine Calls.mono qB ?_
  clear qB
  rintro e w8 ⟨X, nx, xc, rfl, HX8, HN0, HF8⟩
  have hs8 := HF8.out.size
  have HB8 := HB7.out.below HF8.out HB7.out.lt
  have HCELL0 : Hid (∀ w', Below w8.heap.size w8 w' → w'.cell? ⟨w.heap.size, 0, none⟩ = some (.int .u32 id)) := Lib.hid (fun w' h => (HB8.below h HB8.lt).cell 0)
  have HCELL1 : Hid (∀ w', Below w8.heap.size w8 w' → w'.cell? ⟨w.heap.size, 1, none⟩ = some (.slice A2 ms.length c2)) := Lib.hid (fun w' h => (HB8.below h HB8.lt).cell 1)
  have HCONV : Hid (rv = 0 → ∀ w', Below w8.heap.size w8 w' → (convert 26 9 (.slice X nx xc)).run Tryd.prog w' = .ok (.string (strOfNums L)) w') := Lib.hid (fun hz w' h => by
    obtain ⟨h1, h2⟩ := HX8.out hz
    rw [h1]
    exact str_row (c := xc) (RowOf.now h2 h))
  clear HX8 r0 r1
  go_wp2_with fail
  refine region_inv (fun a0 => RI (tR ⟨w8, w.heap.size, id, A2, ms.length, c2, rv, X, nx, xc, L⟩ a0)) (by kernel_rfl) ?init ?done ?step
  case init => exact RI.init (R := tR ⟨w8, w.heap.size, id, A2, ms.length, c2, rv, X, nx, xc, L⟩ _) rfl (by intro p hp; cases hp) (below_dr (Below.refl _ _))
  case step =>
    rintro listed a w' hsz9 hI j hj
    have hsz : listed.size = 29 := hsz9
    obtain ⟨hj0, o, ho, hafter⟩ := mem_ready.1 hj
    have hB : ∀ s, s < 38 ∨ 67 ≤ s → slot a s = slot _ s := hI.base
    match j, ho with
    | 0, ho =>
      obtain rfl := Option.some.inj ho
      have hph := hI.bel
      exact stepV rfl (wanted_none rfl) (run_loadO rfl (hB 2 (by omega)) (HCELL0.out _ hph) (HCELL1.out _ hph)) (hI.stay (tT _ _) (tLoc _ _) (j := 0) (tLt _ _ (by omega)) (tNo _ _) (by omega) (fun u hu => Option.some.inj hu))
    | 1, ho =>
      obtain rfl := Option.some.inj ho
      have hph := hI.bel
      refine stepC rfl (wanted_none rfl) (run_callF enter_ORight rfl (hI.vals 0 _ rfl (hafter ⟨0, .data⟩ (by simp) rfl))) (HRI.out _ (HF8.out.trans (hph.mono hs8))) ?_
      rintro e w2 ⟨rfl, F2⟩
      exact ⟨_, rfl, hI.stayW (tT _ _) (tLoc _ _) (fun f k h => Below.trans h (F2.out.mono (Below.size h))) (j := 1) (tLt _ _ (by omega)) (tNo _ _) (by omega) (fun u hu => Option.some.inj hu)⟩
    | 2, ho =>
      obtain rfl := Option.some.inj ho
      exact stepV rfl (wanted_none rfl) (run_move rfl (hB 8 (by omega))) (hI.stay (tT _ _) (tLoc _ _) (j := 2) (tLt _ _ (by omega)) (tNo _ _) (by omega) (fun u hu => Option.some.inj hu))
    | 3, ho =>
      obtain rfl := Option.some.inj ho
      refine stepV rfl (wanted_none rfl) (run_neqI Tryd.underlying29 rfl (hI.vals 1 _ rfl (hafter ⟨1, .data⟩ (by simp) rfl)) (hI.vals 2 _ rfl (hafter ⟨2, .data⟩ (by simp) rfl))) ?_
      have hrr : (rv != rv) = false := by simp
      rw [hrr]
      exact (hI.stay (tT _ _) (tLoc _ _) (j := 3) (tLt _ _ (by omega)) (tNo _ _) (by omega) (fun u hu => Option.some.inj hu))
    | 4, ho =>
      obtain rfl := Option.some.inj ho
      exact stepV rfl (wanted_none rfl) (run_move rfl (hI.vals 3 _ rfl (hafter ⟨3, .data⟩ (by simp) rfl))) (hI.stay (tT _ _) (tLoc _ _) (j := 4) (tLt _ _ (by omega)) (tNo _ _) (by omega) (fun u hu => Option.some.inj hu))
    | 5, ho =>
      obtain rfl := Option.some.inj ho
      exact stepV rfl (wanted_some (g := _) (d := 42) rfl rfl rfl (hI.vals 4 _ rfl (hafter ⟨4, .guard⟩ (by simp) rfl))) (run_move rfl (hB 10 (by omega))) (hI.stay (tT _ _) (tLoc _ _) (j := 5) (tLt _ _ (by omega)) (tNo _ _) (by omega) (fun u hu => Option.some.inj hu))
    | 6, ho =>
      obtain rfl := Option.some.inj ho
      exact stepV rfl (wanted_some (g := _) (d := 42) rfl rfl rfl (hI.vals 4 _ rfl (hafter ⟨4, .guard⟩ (by simp) rfl))) (run_move rfl (hB 8 (by omega))) (hI.stay (tT _ _) (tLoc _ _) (j := 6) (tLt _ _ (by omega)) (tNo _ _) (by omega) (fun u hu => Option.some.inj hu))
    | 7, ho =>
      obtain rfl := Option.some.inj ho
      refine stepV rfl (wanted_some (g := _) (d := 42) rfl rfl rfl (hI.vals 4 _ rfl (hafter ⟨4, .guard⟩ (by simp) rfl))) (run_neqI Tryd.underlying29 rfl (hI.vals 5 _ rfl (hafter ⟨5, .data⟩ (by simp) rfl)) (hI.vals 6 _ rfl (hafter ⟨6, .data⟩ (by simp) rfl))) ?_
      have hrr : (rv != rv) = false := by simp
      rw [hrr]
      exact (hI.stay (tT _ _) (tLoc _ _) (j := 7) (tLt _ _ (by omega)) (tNo _ _) (by omega) (fun u hu => Option.some.inj hu))
    | 8, ho =>
      obtain rfl := Option.some.inj ho
      exact stepV rfl (wanted_none rfl) (run_pickT (b := false) rfl (hI.vals 4 _ rfl (hafter ⟨4, .data⟩ (by simp) rfl)) (hI.vals 7 _ rfl (hafter ⟨7, .data⟩ (by simp) rfl))) (hI.stay (tT _ _) (tLoc _ _) (j := 8) (tLt _ _ (by omega)) (tNo _ _) (by omega) (fun u hu => Option.some.inj hu))
    | 9, ho =>
      obtain rfl := Option.some.inj ho
      exact stepV rfl (wanted_none rfl) (run_move rfl (hI.vals 8 _ rfl (hafter ⟨8, .data⟩ (by simp) rfl))) (hI.stay (tT _ _) (tLoc _ _) (j := 9) (tLt _ _ (by omega)) (tNo _ _) (by omega) (fun u hu => Option.some.inj hu))
    | 10, ho =>
      obtain rfl := Option.some.inj ho
      exact stepV rfl (wanted_some (g := _) (d := 47) rfl rfl rfl (hI.vals 9 _ rfl (hafter ⟨9, .guard⟩ (by simp) rfl))) (run_move rfl (hB 10 (by omega))) (hI.stay (tT _ _) (tLoc _ _) (j := 10) (tLt _ _ (by omega)) (tNo _ _) (by omega) (fun u hu => Option.some.inj hu))
    | 11, ho =>
      obtain rfl := Option.some.inj ho
      exact stepV rfl (wanted_some (g := _) (d := 47) rfl rfl rfl (hI.vals 9 _ rfl (hafter ⟨9, .guard⟩ (by simp) rfl))) (run_eqK Tryd.underlying29 rfl (hI.vals 10 _ rfl (hafter ⟨10, .data⟩ (by simp) rfl))) (hI.stay (tT _ _) (tLoc _ _) (j := 11) (tLt _ _ (by omega)) (tNo _ _) (by omega) (fun u hu => Option.some.inj hu))
    | 12, ho =>
      obtain rfl := Option.some.inj ho
      exact stepV rfl (wanted_some (g := _) (d := 47) rfl rfl rfl (hI.vals 9 _ rfl (hafter ⟨9, .guard⟩ (by simp) rfl))) (run_move rfl (hI.vals 11 _ rfl (hafter ⟨11, .data⟩ (by simp) rfl))) (hI.stay (tT _ _) (tLoc _ _) (j := 12) (tLt _ _ (by omega)) (tNo _ _) (by omega) (fun u hu => Option.some.inj hu))
    | 13, ho =>
      obtain rfl := Option.some.inj ho
      by_cases hz : rv = 0
      · have hzb : (rv == 0) = true := by simpa using hz
        exact stepV rfl (wanted_some (g := _) (d := 50) rfl rfl rfl ((hI.vals 12 _ rfl (hafter ⟨12, .guard⟩ (by simp) rfl)).trans (by show Value.bool (rv == 0) = _; rw [hzb]))) (run_move rfl (hB 9 (by omega))) (hI.stay (tT _ _) (tLoc _ _) (j := 13) (tLt _ _ (by omega)) (tNo _ _) (by omega) (fun u hu => Option.some.inj ((if_pos hz).symm.trans hu)))
      · have hzb : (rv == 0) = false := by simpa using hz
        exact stepU rfl (wanted_not (g := _) (d := 50) (c := false) rfl rfl rfl ((hI.vals 12 _ rfl (hafter ⟨12, .guard⟩ (by simp) rfl)).trans (by show Value.bool (rv == 0) = _; rw [hzb])) (by decide)) (hI.stay (tT _ _) (tLoc _ _) (j := 13) (tLt _ _ (by omega)) (tNo _ _) (by omega) (fun u hu => nomatch ((if_neg hz).symm.trans hu)))
    | 14, ho =>
      obtain rfl := Option.some.inj ho
      by_cases hz : rv = 0
      · have hzb : (rv == 0) = true := by simpa using hz
        have hph := hI.bel
        exact stepV rfl (wanted_some (g := _) (d := 50) rfl rfl rfl ((hI.vals 12 _ rfl (hafter ⟨12, .guard⟩ (by simp) rfl)).trans (by show Value.bool (rv == 0) = _; rw [hzb]))) (run_str rfl (hI.vals 13 _ (if_pos hz) (hafter ⟨13, .data⟩ (by simp) rfl)) (HCONV.out hz _ hph)) (hI.stay (tT _ _) (tLoc _ _) (j := 14) (tLt _ _ (by omega)) (tNo _ _) (by omega) (fun u hu => Option.some.inj ((if_pos hz).symm.trans hu)))
      · have hzb : (rv == 0) = false := by simpa using hz
        exact stepU rfl (wanted_not (g := _) (d := 50) (c := false) rfl rfl rfl ((hI.vals 12 _ rfl (hafter ⟨12, .guard⟩ (by simp) rfl)).trans (by show Value.bool (rv == 0) = _; rw [hzb])) (by decide)) (hI.stay (tT _ _) (tLoc _ _) (j := 14) (tLt _ _ (by omega)) (tNo _ _) (by omega) (fun u hu => nomatch ((if_neg hz).symm.trans hu)))
    | 15, ho =>
      obtain rfl := Option.some.inj ho
      by_cases hz : rv = 0
      · have hzb : (rv == 0) = true := by simpa using hz
        have hph := hI.bel
        exact stepV rfl (wanted_some (g := _) (d := 50) rfl rfl rfl ((hI.vals 12 _ rfl (hafter ⟨12, .guard⟩ (by simp) rfl)).trans (by show Value.bool (rv == 0) = _; rw [hzb]))) (run_loadO rfl (hB 2 (by omega)) (HCELL0.out _ hph) (HCELL1.out _ hph)) (hI.stay (tT _ _) (tLoc _ _) (j := 15) (tLt _ _ (by omega)) (tNo _ _) (by omega) (fun u hu => Option.some.inj ((if_pos hz).symm.trans hu)))
      · have hzb : (rv == 0) = false := by simpa using hz
        exact stepU rfl (wanted_not (g := _) (d := 50) (c := false) rfl rfl rfl ((hI.vals 12 _ rfl (hafter ⟨12, .guard⟩ (by simp) rfl)).trans (by show Value.bool (rv == 0) = _; rw [hzb])) (by decide)) (hI.stay (tT _ _) (tLoc _ _) (j := 15) (tLt _ _ (by omega)) (tNo _ _) (by omega) (fun u hu => nomatch ((if_neg hz).symm.trans hu)))
    | 16, ho =>
      obtain rfl := Option.some.inj ho
      by_cases hz : rv = 0
      · have hzb : (rv == 0) = true := by simpa using hz
        have hph := hI.bel
        refine stepC rfl (wanted_some (g := _) (d := 50) rfl rfl rfl ((hI.vals 12 _ rfl (hafter ⟨12, .guard⟩ (by simp) rfl)).trans (by show Value.bool (rv == 0) = _; rw [hzb]))) (run_callF enter_ROText rfl (hI.vals 15 _ (if_pos hz) (hafter ⟨15, .data⟩ (by simp) rfl))) (HT.out hz _ (HF8.out.trans (hph.mono hs8))) ?_
        rintro e w2 ⟨rfl, F2⟩
        exact ⟨_, rfl, hI.stayW (tT _ _) (tLoc _ _) (fun f k h => Below.trans h (F2.out.mono (Below.size h))) (j := 16) (tLt _ _ (by omega)) (tNo _ _) (by omega) (fun u hu => Option.some.inj ((if_pos hz).symm.trans hu))⟩
      · have hzb : (rv == 0) = false := by simpa using hz
        exact stepU rfl (wanted_not (g := _) (d := 50) (c := false) rfl rfl rfl ((hI.vals 12 _ rfl (hafter ⟨12, .guard⟩ (by simp) rfl)).trans (by show Value.bool (rv == 0) = _; rw [hzb])) (by decide)) (hI.stay (tT _ _) (tLoc _ _) (j := 16) (tLt _ _ (by omega)) (tNo _ _) (by omega) (fun u hu => nomatch ((if_neg hz).symm.trans hu)))
    | 17, ho =>
      obtain rfl := Option.some.inj ho
      by_cases hz : rv = 0
      · have hzb : (rv == 0) = true := by simpa using hz
        exact stepV rfl (wanted_some (g := _) (d := 50) rfl rfl rfl ((hI.vals 12 _ rfl (hafter ⟨12, .guard⟩ (by simp) rfl)).trans (by show Value.bool (rv == 0) = _; rw [hzb]))) (run_neqS rfl (hI.vals 14 _ (if_pos hz) (hafter ⟨14, .data⟩ (by simp) rfl)) (hI.vals 16 _ (if_pos hz) (hafter ⟨16, .data⟩ (by simp) rfl))) (hI.stay (tT _ _) (tLoc _ _) (j := 17) (tLt _ _ (by omega)) (tNo _ _) (by omega) (fun u hu => Option.some.inj ((if_pos hz).symm.trans hu)))
      · have hzb : (rv == 0) = false := by simpa using hz
        exact stepU rfl (wanted_not (g := _) (d := 50) (c := false) rfl rfl rfl ((hI.vals 12 _ rfl (hafter ⟨12, .guard⟩ (by simp) rfl)).trans (by show Value.bool (rv == 0) = _; rw [hzb])) (by decide)) (hI.stay (tT _ _) (tLoc _ _) (j := 17) (tLt _ _ (by omega)) (tNo _ _) (by omega) (fun u hu => nomatch ((if_neg hz).symm.trans hu)))
    | 18, ho =>
      obtain rfl := Option.some.inj ho
      by_cases hz : rv = 0
      · have hzb : (rv == 0) = true := by simpa using hz
        exact stepV rfl (wanted_some (g := _) (d := 47) rfl rfl rfl (hI.vals 9 _ rfl (hafter ⟨9, .guard⟩ (by simp) rfl))) (run_pickF rfl ((hI.vals 12 _ rfl (hafter ⟨12, .data⟩ (by simp) rfl)).trans (by show Value.bool (rv == 0) = _; rw [hzb])) (hI.vals 17 _ (if_pos hz) (hafter ⟨17, .data⟩ (by simp) rfl))) (hI.stay (tT _ _) (tLoc _ _) (j := 18) (tLt _ _ (by omega)) (tNo _ _) (by omega) (fun u hu => Option.some.inj hu))
      · have hzb : (rv == 0) = false := by simpa using hz
        exact stepV rfl (wanted_some (g := _) (d := 47) rfl rfl rfl (hI.vals 9 _ rfl (hafter ⟨9, .guard⟩ (by simp) rfl))) (run_pickN rfl ((hI.vals 12 _ rfl (hafter ⟨12, .data⟩ (by simp) rfl)).trans (by show Value.bool (rv == 0) = _; rw [hzb]))) (hI.stay (tT _ _) (tLoc _ _) (j := 18) (tLt _ _ (by omega)) (tNo _ _) (by omega) (fun u hu => Option.some.inj hu))
    | 19, ho =>
      obtain rfl := Option.some.inj ho
      exact stepV rfl (wanted_none rfl) (run_pickT (b := false) rfl (hI.vals 9 _ rfl (hafter ⟨9, .data⟩ (by simp) rfl)) (hI.vals 18 _ rfl (hafter ⟨18, .data⟩ (by simp) rfl))) (hI.stay (tT _ _) (tLoc _ _) (j := 19) (tLt _ _ (by omega)) (tNo _ _) (by omega) (fun u hu => Option.some.inj hu))
    | 20, ho =>
      obtain rfl := Option.some.inj ho
      exact stepV rfl (wanted_none rfl) (run_move rfl (hI.vals 19 _ rfl (hafter ⟨19, .data⟩ (by simp) rfl))) (hI.stay (tT _ _) (tLoc _ _) (j := 20) (tLt _ _ (by omega)) (tNo _ _) (by omega) (fun u hu => Option.some.inj hu))
    | 21, ho =>
      obtain rfl := Option.some.inj ho
      exact stepV rfl (wanted_some (g := _) (d := 58) rfl rfl rfl (hI.vals 20 _ rfl (hafter ⟨20, .guard⟩ (by simp) rfl))) (run_move rfl (hB 10 (by omega))) (hI.stay (tT _ _) (tLoc _ _) (j := 21) (tLt _ _ (by omega)) (tNo _ _) (by omega) (fun u hu => Option.some.inj hu))
    | 22, ho =>
      obtain rfl := Option.some.inj ho
      exact stepV rfl (wanted_some (g := _) (d := 58) rfl rfl rfl (hI.vals 20 _ rfl (hafter ⟨20, .guard⟩ (by simp) rfl))) (run_neqK Tryd.underlying29 rfl (hI.vals 21 _ rfl (hafter ⟨21, .data⟩ (by simp) rfl))) (hI.stay (tT _ _) (tLoc _ _) (j := 22) (tLt _ _ (by omega)) (tNo _ _) (by omega) (fun u hu => Option.some.inj hu))
    | 23, ho =>
      obtain rfl := Option.some.inj ho
      exact stepV rfl (wanted_some (g := _) (d := 58) rfl rfl rfl (hI.vals 20 _ rfl (hafter ⟨20, .guard⟩ (by simp) rfl))) (run_move rfl (hI.vals 22 _ rfl (hafter ⟨22, .data⟩ (by simp) rfl))) (hI.stay (tT _ _) (tLoc _ _) (j := 23) (tLt _ _ (by omega)) (tNo _ _) (by omega) (fun u hu => Option.some.inj hu))
    | 24, ho =>
      obtain rfl := Option.some.inj ho
      by_cases hz : rv = 0
      · have hzb : (rv != 0) = false := by simpa using hz
        exact stepU rfl (wanted_not (g := _) (d := 61) (c := false) rfl rfl rfl ((hI.vals 23 _ rfl (hafter ⟨23, .guard⟩ (by simp) rfl)).trans (by show Value.bool (rv != 0) = _; rw [hzb])) (by decide)) (hI.stay (tT _ _) (tLoc _ _) (j := 24) (tLt _ _ (by omega)) (tNo _ _) (by omega) (fun u hu => nomatch ((if_pos hz).symm.trans hu)))
      · have hzb : (rv != 0) = true := by simpa using hz
        exact stepV rfl (wanted_some (g := _) (d := 61) rfl rfl rfl ((hI.vals 23 _ rfl (hafter ⟨23, .guard⟩ (by simp) rfl)).trans (by show Value.bool (rv != 0) = _; rw [hzb]))) (run_move rfl (hB 9 (by omega))) (hI.stay (tT _ _) (tLoc _ _) (j := 24) (tLt _ _ (by omega)) (tNo _ _) (by omega) (fun u hu => Option.some.inj ((if_neg hz).symm.trans hu)))
    | 25, ho =>
      obtain rfl := Option.some.inj ho
      by_cases hz : rv = 0
      · have hzb : (rv != 0) = false := by simpa using hz
        exact stepU rfl (wanted_not (g := _) (d := 61) (c := false) rfl rfl rfl ((hI.vals 23 _ rfl (hafter ⟨23, .guard⟩ (by simp) rfl)).trans (by show Value.bool (rv != 0) = _; rw [hzb])) (by decide)) (hI.stay (tT _ _) (tLoc _ _) (j := 25) (tLt _ _ (by omega)) (tNo _ _) (by omega) (fun u hu => nomatch ((if_pos hz).symm.trans hu)))
      · have hzb : (rv != 0) = true := by simpa using hz
        exact stepV rfl (wanted_some (g := _) (d := 61) rfl rfl rfl ((hI.vals 23 _ rfl (hafter ⟨23, .guard⟩ (by simp) rfl)).trans (by show Value.bool (rv != 0) = _; rw [hzb]))) (run_lenB rfl rfl (hI.vals 24 _ (if_neg hz) (hafter ⟨24, .data⟩ (by simp) rfl))) (hI.stay (tT _ _) (tLoc _ _) (j := 25) (tLt _ _ (by omega)) (tNo _ _) (by omega) (fun u hu => Option.some.inj ((if_neg hz).symm.trans hu)))
    | 26, ho =>
      obtain rfl := Option.some.inj ho
      by_cases hz : rv = 0
      · have hzb : (rv != 0) = false := by simpa using hz
        exact stepU rfl (wanted_not (g := _) (d := 61) (c := false) rfl rfl rfl ((hI.vals 23 _ rfl (hafter ⟨23, .guard⟩ (by simp) rfl)).trans (by show Value.bool (rv != 0) = _; rw [hzb])) (by decide)) (hI.stay (tT _ _) (tLoc _ _) (j := 26) (tLt _ _ (by omega)) (tNo _ _) (by omega) (fun u hu => nomatch ((if_pos hz).symm.trans hu)))
      · have hzb : (rv != 0) = true := by simpa using hz
        have hn0 := HN0.out hz
        refine stepV rfl (wanted_some (g := _) (d := 61) rfl rfl rfl ((hI.vals 23 _ rfl (hafter ⟨23, .guard⟩ (by simp) rfl)).trans (by show Value.bool (rv != 0) = _; rw [hzb]))) (run_neqK Tryd.underlying3 rfl (hI.vals 25 _ (if_neg hz) (hafter ⟨25, .data⟩ (by simp) rfl))) ?_
        have hrr : ((nx : Int) != 0) = false := by rw [hn0]; rfl
        rw [hrr]
        exact (hI.stay (tT _ _) (tLoc _ _) (j := 26) (tLt _ _ (by omega)) (tNo _ _) (by omega) (fun u hu => Option.some.inj ((if_neg hz).symm.trans hu)))
    | 27, ho =>
      obtain rfl := Option.some.inj ho
      by_cases hz : rv = 0
      · have hzb : (rv != 0) = false := by simpa using hz
        exact stepV rfl (wanted_some (g := _) (d := 58) rfl rfl rfl (hI.vals 20 _ rfl (hafter ⟨20, .guard⟩ (by simp) rfl))) (run_pickN rfl ((hI.vals 23 _ rfl (hafter ⟨23, .data⟩ (by simp) rfl)).trans (by show Value.bool (rv != 0) = _; rw [hzb]))) (hI.stay (tT _ _) (tLoc _ _) (j := 27) (tLt _ _ (by omega)) (tNo _ _) (by omega) (fun u hu => Option.some.inj hu))
      · have hzb : (rv != 0) = true := by simpa using hz
        exact stepV rfl (wanted_some (g := _) (d := 58) rfl rfl rfl (hI.vals 20 _ rfl (hafter ⟨20, .guard⟩ (by simp) rfl))) (run_pickF rfl ((hI.vals 23 _ rfl (hafter ⟨23, .data⟩ (by simp) rfl)).trans (by show Value.bool (rv != 0) = _; rw [hzb])) (hI.vals 26 _ (if_neg hz) (hafter ⟨26, .data⟩ (by simp) rfl))) (hI.stay (tT _ _) (tLoc _ _) (j := 27) (tLt _ _ (by omega)) (tNo _ _) (by omega) (fun u hu => Option.some.inj hu))
    | 28, ho =>
      obtain rfl := Option.some.inj ho
      exact stepV rfl (wanted_none rfl) (run_pickT (b := false) rfl (hI.vals 20 _ rfl (hafter ⟨20, .data⟩ (by simp) rfl)) (hI.vals 27 _ rfl (hafter ⟨27, .data⟩ (by simp) rfl))) (hI.stay (tT _ _) (tLoc _ _) (j := 28) (tLt _ _ (by omega)) (tNo _ _) (by omega) (fun u hu => Option.some.inj hu))
  case done =>
    rintro listed a w9 hsz9 hI hr
    obtain ⟨tm, df⟩ := a
    obtain ⟨x0, x1, x2, x3, x4, x5, x6, x7, x8, x9, x10, x11, x12, x13, x14, x15, x16, x17, x18, x19, x20, x21, x22, x23, x24, x25, x26, x27, x28, x29, x30, x31, x32, x33, x34, x35, x36, x37, x38, x39, x40, x41, x42, x43, x44, x45, x46, x47, x48, x49, x50, x51, x52, x53, x54, x55, x56, x57, x58, x59, x60, x61, x62, x63, x64, x65, x66, x67, x68, x69, x70, x71, x72, x73, x74, x75, x76, x77, x78, x79, x80, x81, x82, x83, x84, x85, x86, x87, x88, x89, x90, x91, x92, x93, x94, x95, x96, x97, x98, x99, x100, rfl⟩ := shape101 tm hI.size
    have hall := fun j hj => ready_nil hsz9 (by kernel_rfl) hr j hj
    have hB : ∀ s, s < 38 ∨ 67 ≤ s → slot _ s = slot _ s := hI.base
    have F9 := hI.bel
    obtain rfl : df = [] := hI.defs
    obtain rfl : x66 = .bool false := hI.vals 28 _ rfl (hall 28 (by decide))
    obtain rfl : x1 = .slice A6 b.length c6 := hB 1 (by omega)
    obtain rfl : x2 = .pointer (some ⟨w.heap.size, 0, none⟩) := hB 2 (by omega)
    obtain rfl : x5 = .bool true := hB 5 (by omega)
    obtain rfl : x6 = .pointer (some ⟨pw, 0, none⟩) := hB 6 (by omega)
    obtain rfl : x7 = .string (strOfNums b) := hB 7 (by omega)
    have G9 : Below w7.heap.size w7 w9 := HF8.out.trans (Below.mono F9 hs8)
    have HB9 := Lib.hid (HB7.out.below G9 HB7.out.lt)
    have HW9 := Lib.hid (HW7.out.below G9 HW7.out.lt)
    have HM9 := Lib.hid (HM7.out.fr (Fr.of_below G9) (fun _ _ h => h))
    have HN9 := Lib.hid (HN7.out.fr (Fr.of_below G9) (fun _ _ h => h))
    have M9 := Lib.hid (M7.out.fr (Fr.of_below G9) (fun _ _ h => h))
    have D9 := Lib.hid (D7.out.trans (G9.mono D7.out.size))
    clear hI hr hsz9 hall hB F9 G9 HCELL0 HCELL1 HCONV HT HRI HN0 HB8 HB7 HW7 HM7 HN7 M7 D7
    have qP := ParseC (c := c6) M9.out.2.1 HI.out (by omega)
    have qQ := fun W => RParseC (b := b) (w := W) HI.out (by omega)
    have hpl := parseO_len (b := b) (by omega)
    generalize parseO b = po at *
    obtain ⟨pe, pid, pls⟩ := po
    simp only at qP qQ hpl
    have HQ := Lib.hid qQ
    clear qQ
    go_wp2_with fail
    refine Calls.mono qP ?_
    clear qP
    rintro e wa ⟨Aa, ca, rfl, HMa, Fa⟩
    have hsa := Fa.out.size
    obtain ⟨Wa, hWa⟩ : ∃ Wa, Wa = wa.alloc (.cells #[.int .u32 pid, .slice Aa pls.length ca] 25) := ⟨_, rfl⟩
    have Ga : Below w9.heap.size w9 Wa := by rw [hWa]; exact Fa.out.alloc hsa _
    have HYa := Lib.hid (Blk.new wa 25 #[.int .u32 pid, .slice Aa pls.length ca])
    rw [← hWa] at HYa
    have HMa' : Hid (MadeL w9.heap.size Aa ca pls Wa) := Lib.hid (by rw [hWa]; exact HMa.out.fr ((Fr.refl (fun _ => False) wa).alloc _) (fun _ _ h => h))
    have HWE := Lib.hid hWa.symm
    have HGa := Lib.hid Ga
    clear hWa Ga HMa Fa
    have qQ := HQ.out Wa
    go_wp2_with fail
    rw [HWE.out]
    generalize wa.heap.size = ya at *
    clear HWE
    refine Calls.mono qQ ?_
    clear qQ
    rintro e wb ⟨Ab, cb, rfl, HMb, Fb⟩
    have hsb := Fb.out.size
    obtain ⟨Wb, hWb⟩ : ∃ Wb, Wb = wb.alloc (.cells #[.int .u32 pid, .slice Ab pls.length cb] 25) := ⟨_, rfl⟩
    have Gb : Below Wa.heap.size Wa Wb := by rw [hWb]; exact Fb.out.alloc hsb _
    have hzb := Blk.new wb 25 #[.int .u32 pid, .slice Ab pls.length cb]
    rw [← hWb] at hzb
    have z0 := hzb.cell 0
    have z1 := hzb.cell 1
    have hyb := HYa.out.below Gb HYa.out.lt
    have y0 := hyb.cell 0
    have y1 := hyb.cell 1
    have HMb' : Hid (MadeL Wa.heap.size Ab cb pls Wb) := Lib.hid (by rw [hWb]; exact HMb.out.fr ((Fr.refl (fun _ => False) wb).alloc _) (fun _ _ h => h))
    have HMab := Lib.hid (HMa'.out.fr (Fr.of_below Gb) (fun _ _ h => h))
    have HGb := Lib.hid (HGa.out.trans (Gb.mono HGa.out.size))
    clear Gb HMb Fb hzb hyb HYa HMa' HGa
    subst hWb
    have qS := SameC (i := pid) (j := pid) (c := ca) (d := cb) HMab.out.2.1 HMb'.out.2.1 hpl
    rw [show decide (pid = pid ∧ pls = pls) = true by simp] at qS
    have HS := Lib.hid qS
    clear qS
    go_wp2_with fail
    generalize wb.alloc (.cells #[.int .u32 pid, .slice Ab pls.length cb] 25) = Wb at *
    refine Calls.mono HS.out ?_
    rintro e wc ⟨rfl, Fc⟩
    have Gc := HGb.out.trans (Fc.out.mono HGb.out.size)
    have hbc := HB9.out.below Gc HB9.out.lt
    have b0 := hbc.cell 0
    have b1 := hbc.cell 1
    have hwc := HW9.out.below Gc HW9.out.lt
    have u0 := hwc.cell 0
    have u1 := hwc.cell 1
    have hmc := HM9.out.fr (Fr.of_below Gc) (fun _ _ h => h)
    have hnc := HN9.out.fr (Fr.of_below Gc) (fun _ _ h => h)
    have qT := SameC (i := id) (j := id) (c := c2) (d := c5) hmc.2.1 hnc.2.1 (by omega)
    rw [show decide (id = id ∧ ms = ms) = true by simp] at qT
    have HGc := Lib.hid Gc
    clear z0 z1 y0 y1 hbc hwc hmc hnc HGb Gc
    go_wp2_with fail
    refine Calls.mono qT ?_
    clear qT
    rintro e wd ⟨rfl, Fd⟩
    have Gd := HGc.out.trans (Fd.out.mono HGc.out.size)
    have sd := str_row (c := c6) (RowOf.now M9.out.2.1 Gd)
    have HGd := Lib.hid Gd
    clear Gd b0 b1 u0 u1
    go_wp2
    go_ret
    exact ⟨rfl, D9.out.trans (HGd.out.mono D9.out.size)⟩
end Go.Proofs.YtigknfkkegccgaaDoor.K
