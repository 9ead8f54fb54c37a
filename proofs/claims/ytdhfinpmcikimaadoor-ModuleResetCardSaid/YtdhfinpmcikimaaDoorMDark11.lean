/- ModuleDark: its walk. -/
import Derived.Test.YtdhfinpmcikimaaDoorMi
import Derived.Deep.CutBlock
import Derived.Deep.DeepCutAuto
namespace Go.Proofs.YtdhfinpmcikimaaDoor.K
open Go.RowKit
set_option linter.unusedVariables false
set_option linter.unusedSimpArgs false
def SlD (ev : List Int) (sl : Sl) : Prop := sl = ⟨1, 0, 1, 3, ev⟩ ∨ sl = ⟨1, 1, 1, 3, []⟩
theorem bytesM_lit (t q : Int) : bytesM 1 t q = [1, t / 256 % 256, t % 256, q / 256 % 256, q % 256] := by
  simp [bytesM, be]
theorem and3 (x : Int) : ∃ m : Nat, m < 4 ∧ bits BinOp.and IntKind.u8 x 3 = m := by
  have h2 : (BitVec.ofInt 8 (3 : Int)).toNat = 3 := by decide
  have h : (BitVec.ofInt 8 x &&& BitVec.ofInt 8 (3 : Int)).toNat ≤ 3 := by
    rw [BitVec.toNat_and, h2]
    exact Nat.and_le_right
  refine ⟨(BitVec.ofInt 8 x &&& BitVec.ofInt 8 (3 : Int)).toNat, by omega, ?_⟩
  show IntKind.u8.wrap ((BitVec.ofInt 8 x &&& BitVec.ofInt 8 (3 : Int)).toNat : Int) = _
  rw [IntKind.wrap_u8]
  omega
set_option maxHeartbeats 16000000 in
set_option maxRecDepth 20000 in
theorem mdark_walk {h : Nat} (A : Option Addr) (c : Nat) (ls : List Int) (token qty : Int) (w : World) (hk : Kn h w) (hr : RowOf c8 1 w w.heap.size A ls) (ht : 0 ≤ token ∧ token < 65536) (hq : 0 ≤ qty ∧ qty < 65536) :
    Calls Tryd.prog 6 #[.slice A ls.length c, .int .u16 token, .int .u16 qty] w fun e w' => e = .returned (.bool true) ∧ Below w.heap.size w w' := by
  have HK := Lib.hid hk
  have HR := Lib.hid hr
  have HT := Lib.hid ht
  have HQ := Lib.hid hq
  clear hk hr ht hq
  go_enter Tryd.func6, Tryd.ntmps6
  go_wp2_with fail
  refine Calls.mono (shown11_walk HK.out) ?_
  rintro e w1 ⟨rfl, FS⟩
  have HK1 := Lib.hid (HK.out.fr0 FS.out)
  go_wp2_with fail
  refine Calls.mono (OpenedC w1) ?_
  rintro e w2 ⟨l, m, s, A2, c2, rfl, HL2, HF2⟩
  have l2 := HL2.out.blk.cell 0
  go_upto_block 0 with (fail)
  go_cut [9, 10] (fun s9 _ wx => ∃ (i : Nat) (A' : Option Addr) (c' : Nat) (bt' : BS), s9 = .int .i64 (1 + 10 * i) ∧ i ≤ 20 ∧ LiB w1.heap.size l m s A' c' ⟨1, 0, 0, 3, []⟩ ⟨false, false, 0, 0, 0⟩ bt' 0 0 wx ∧ AllUp bt' ∧ Fr0 w1 wx)
  case first =>
    go_wp2_with fail
    go_loopw [9, 10] (fun nv iv wr => ∃ (i : Nat) (A' : Option Addr) (c' : Nat) (bt' : BS), nv = .int .i64 (1 + 10 * i) ∧ iv = .int .i64 i ∧ i ≤ ls.length ∧ i ≤ 20 ∧ LiB w1.heap.size l m s A' c' ⟨1, 0, 0, 3, []⟩ ⟨false, false, 0, 0, 0⟩ bt' 0 0 wr ∧ AllUp bt' ∧ Fr0 w1 wr) (fun _ iv _ => 20 - (intOf iv).toNat)
    case atStart => exact ⟨0, A2, c2, z4, rfl, rfl, by omega, by omega, HL2.out, z4_up, HF2.out⟩
    case round =>
      clear HL2 HF2 l2
      obtain ⟨i, A', c', bt', rfl, rfl, hil, hi20, hl, hup, hf⟩ := hrel
      have HL := Lib.hid hl
      have HF := Lib.hid hf
      have HUP := Lib.hid hup
      have l0 := hl.blk.cell 0
      clear hl hf hup
      by_cases hgo : i < ls.length ∧ i < 20
      · obtain ⟨hlt, h20⟩ := hgo
        obtain ⟨ad, rfl, _, hc⟩ := (RowOf.now HR.out ((FS.out.trans HF.out (fun _ _ h => h)).below0)).num hlt
        generalize ls.getD i 0 = x at *
        obtain ⟨b, hb4, hbe⟩ := and3 x
        have hw8 : IntKind.i64.wrap (b : Int) = b := by rw [IntKind.wrap_i64]; omega
        have qP := PressC (h := h) (b := b) (now := 1 + 10 * (i : Int)) HL.out ⟨by decide, by decide, by decide⟩ (HK1.out.fr0 HF.out) (by simp) HUP.out hb4 ⟨by omega, by omega⟩
        rw [show stepP ((⟨false, false, 0, 0, 0⟩ : Dp), (⟨1, 0, 0, 3, []⟩ : Sl)) (b : Int) = (⟨false, false, 0, 0, 0⟩, ⟨1, 0, 0, 3, []⟩) by simp [stepP]] at qP
        go_wp2_with fail
        refine Calls.mono qP ?_
        clear qP
        rintro e w7 ⟨rfl, A7, c7, bt7, HL7, HU7, F7⟩
        have HF7 := Lib.hid (HL.out.out0 (Nat.le_refl _) HF.out (frms F7.out))
        have l7 := HL7.out.blk.cell 0
        clear HL HF HUP l0 F7
        have qS := MShowC HL7.out.mo
        go_wp2_with fail
        refine Calls.mono qS ?_
        clear qS
        rintro e w8 ⟨rfl, F⟩
        have HL8 := Lib.hid (HL7.out.fr0 F.out)
        have HF8 := Lib.hid (HF7.out.trans F.out (fun _ _ h => h))
        have l8 := HL8.out.blk.cell 0
        clear HL7 HF7 l7  F
        have hfd : (Instr.field 44 (.agg #[.bool false, .bool false, .int .u16 0, .int .u16 0, .int .u16 0]) 0).run Tryd.prog w8 = .ok (.bool false) w8 := by kernel_rfl
        dsimp only [dpv]
        have qT := TellsE (n := 0) (BA := none) (bc := 0) (b := []) rfl HL8.out (by simp) (rowE_none _) (by decide) (fun x hx => by cases hx) (fun ad e => by cases e) (.inl rfl) (.inl rfl) tells_none
        go_wp2_with fail
        refine Calls.mono qT ?_
        clear qT
        rintro e w9 ⟨rfl, A9, c9, HL9, F⟩
        have HF9 := Lib.hid (HL8.out.out0 (Nat.le_refl _) HF8.out F.out)
        have l9 := HL9.out.blk.cell 0
        clear HL8 HF8 l8  F
        simp only [strE_nil]
        clear hfd hw8 hbe
        go_wp2
        go_roundw
        case rel => exact ⟨i + 1, A9, c9, bt7, by go_num, by go_num, by omega, by omega, HL9.out, HU7.out, HF9.out⟩
        case measure => simp [intOf]; omega
      · have hgb : (decide ((i : Int) < (ls.length : Int)) && decide ((i : Int) < 20)) = false := by
          simp only [Bool.and_eq_false_iff, decide_eq_false_iff_not]; omega
        by_cases hlt : i < ls.length
        · obtain rfl : i = 20 := by omega
          go_wp2
          go_meet
          exact ⟨20, A', c', bt', rfl, by omega, HL.out, HUP.out, HF.out⟩
        · obtain rfl : i = ls.length := by omega
          go_wp2
          go_meet
          exact ⟨ls.length, A', c', bt', rfl, by omega, HL.out, HUP.out, HF.out⟩
  case rest =>
    obtain ⟨i, A', c', bt', rfl, hi20, hl, hup, hf⟩ := hcut
    clear HL2 HF2 l2
    generalize wc = w20 at *
    have HL20 := Lib.hid hl
    have HF20 := Lib.hid hf
    have HUP := Lib.hid hup
    have l20 := hl.blk.cell 0
    clear hl hf hup
    have FL : Fr0 w20 (w20.alloc (.cells #[.int .u8 1, .int .u8 (token / 256 % 256), .int .u8 (token % 256), .int .u8 (qty / 256 % 256), .int .u8 (qty % 256)] 5)) := (Fr.refl (fun _ => False) w20).alloc _
    have hlr : RowOf c8 1 (w20.alloc (.cells #[.int .u8 1, .int .u8 (token / 256 % 256), .int .u8 (token % 256), .int .u8 (qty / 256 % 256), .int .u8 (qty % 256)] 5)) (w20.alloc (.cells #[.int .u8 1, .int .u8 (token / 256 % 256), .int .u8 (token % 256), .int .u8 (qty / 256 % 256), .int .u8 (qty % 256)] 5)).heap.size (some ⟨w20.heap.size, 0, none⟩) (bytesM 1 token qty) := by rw [bytesM_lit]; exact row_blk (l := [1, token / 256 % 256, token % 256, qty / 256 % 256, qty % 256]) (Blk.new w20 5 #[.int .u8 1, .int .u8 (token / 256 % 256), .int .u8 (token % 256), .int .u8 (qty / 256 % 256), .int .u8 (qty % 256)]) (by simp)
    have HT1 : tellsL ⟨1, 0, 0, 3, []⟩ ⟨false, false, 0, 0, 0⟩ 0 0 (bytesM 1 token qty) = ⟨[], ⟨1, 0, 1, 3, []⟩, ⟨true, false, token, qty, qty⟩, 1, 0⟩ := by
      have := tells_cmd (tl := 0) (nx := 0) (ack := 0) (d := ⟨false, false, 0, 0, 0⟩) (.inl rfl) HT.out HQ.out
      rw [show doesS (⟨false, false, 0, 0, 0⟩ : Dp) false 1 token qty = ⟨true, false, token, qty, qty⟩ by simp [doesS, sameD]] at this
      exact this
    have hsl := HL20.out.mo.sb.blk.lt
    have hll := HL20.out.blk.lt
    have HL21 := Lib.hid (HL20.out.fr0 FL)
    have HF21 := Lib.hid (HF20.out.trans FL (fun _ _ h => h))
    have l21 := HL21.out.blk.cell 0
    have qT := TellsE (n := 5) (bc := 5) (bytesM_len _ _ _) HL21.out (by simp) hlr (by decide) (bytesM_in ⟨by decide, by decide⟩ HT.out HQ.out) (fun ad e => by obtain rfl := Option.some.inj e; exact ⟨by simp only; omega, by simp only; omega⟩) (.inl rfl) (.inl rfl) HT1
    clear FL hlr HT1 hsl hll HL20 HF20 l20
    go_wp2_with fail
    refine Calls.mono qT ?_
    clear qT
    rintro e w22 ⟨rfl, A22, c22, HL22, F⟩
    have HF22 := Lib.hid (HL21.out.out0 (Nat.le_refl _) HF21.out F.out)
    have l22 := HL22.out.blk.cell 0
    clear HL21 HF21 l21  F
    have hst : stepP ((⟨true, false, token, qty, qty⟩ : Dp), (⟨1, 0, 1, 3, []⟩ : Sl)) ((0 : Nat) : Int) = (⟨true, true, token, qty, qty⟩, ⟨1, 0, 1, 3, (bytesM 1 token qty)⟩) := by simp [stepP, pressS, latS, offN, offS, bytesM_len]
    have qP := PressC (h := h) (b := 0) (now := 1 + 10 * (i : Int)) HL22.out ⟨HT.out, HQ.out, HQ.out⟩ (HK1.out.fr0 HF22.out) (by simp) HUP.out (by decide) ⟨by omega, by omega⟩
    rw [hst] at qP
    clear hst
    go_wp2_with fail
    refine Calls.mono qP ?_
    clear qP
    rintro e w23 ⟨rfl, A23, c23, bt23, HL23, HU23, F⟩
    have HF23 := Lib.hid (HL22.out.out0 (Nat.le_refl _) HF22.out (frms F.out))
    have l23 := HL23.out.blk.cell 0
    clear HL22 HF22 l22 F HUP
    have hev5 : (bytesM 1 token qty).length = 5 := bytesM_len _ _ _
    have HEV : Hid (0 < (bytesM 1 token qty).length ∧ (bytesM 1 token qty).length ≤ 1000 ∧ InB (bytesM 1 token qty)) := Lib.hid ⟨by omega, by omega, bytesM_in ⟨by decide, by decide⟩ HT.out HQ.out⟩
    have hnev : ((strOfNums (bytesM 1 token qty)).toList == ([] : List UInt8)) = false := by
      have := str_eq (a := (bytesM 1 token qty)) (b := []) HEV.out.2.2 (fun x hx => by cases hx)
      rw [show (strOfNums ([] : List Int)).toList = [] by rw [str_list]; rfl] at this
      rw [this]
      exact decide_eq_false (fun e => by rw [e] at hev5; simp at hev5)
    clear hev5
    generalize (bytesM 1 token qty) = ev at *
    have qS := MShowC HL23.out.mo
    go_wp2_with fail
    refine Calls.mono qS ?_
    clear qS
    rintro e w24 ⟨rfl, F⟩
    have FD : Fr0 w23 (w24.alloc (.cells (dpv ⟨true, true, token, qty, qty⟩) 44)) := F.out.alloc _
    have HL25 := Lib.hid (HL23.out.fr0 FD)
    have HF25 := Lib.hid (HF23.out.trans FD (fun _ _ h => h))
    have l25 := HL25.out.blk.cell 0
    have HBW25 := Lib.hid (Blk.new w24 44 (dpv ⟨true, true, token, qty, qty⟩))
    clear HL23 HF23 l23  F FD
    go_upto_region 15 with (fail)
    generalize w24.alloc (.cells (dpv ⟨true, true, token, qty, qty⟩) 44) = w25 at *
    generalize w24.heap.size = gW at *
    have xW0 := HBW25.out.cell 0
    have xW1 := HBW25.out.cell 1
    have xW2 := HBW25.out.cell 2
    have xW3 := HBW25.out.cell 3
    have xW4 := HBW25.out.cell 4
    have qT := TellsE (n := 0) (BA := none) (bc := 0) (b := []) rfl HL25.out HEV.out.2.1 (rowE_none _) (by decide) (fun x hx => by cases hx) (fun ad e => by cases e) (.inr rfl) (.inl rfl) (tells_some HEV.out.1)
    go_wp2_with fail
    refine Calls.mono qT ?_
    clear qT
    rintro e w26 ⟨rfl, A26, c26, HL26, F⟩
    have HF26 := Lib.hid (HL25.out.out0 (Nat.le_refl _) HF25.out F.out)
    have HBW26 := Lib.hid (HL25.out.keep HBW25.out (by decide) (by decide) (by decide) F.out)
    have l26 := HL26.out.blk.cell 0
    clear HL25 HF25 l25 HBW25 F
    have hnq : ∀ W, _ := fun W => neqD ⟨true, true, token, qty, qty⟩ W
    simp only at hnq
    clear xW0 xW1 xW2 xW3 xW4 l26
    go_wp2_with fail
    go_loopw [9, 12] (fun nv iv wr => ∃ (j : Nat) (sl : Sl) (A' : Option Addr) (c' : Nat) (bt' : BS), nv = .int .i64 (11 + 10 * (i : Int) + 10 * j) ∧ iv = .int .i64 j ∧ j ≤ ls.length ∧ j ≤ 20 ∧ SlD ev sl ∧ LiB w1.heap.size l m s A' c' sl ⟨true, true, token, qty, qty⟩ bt' 1 1 wr ∧ AllUp bt' ∧ Blk wr gW 44 (dpv ⟨true, true, token, qty, qty⟩) ∧ Fr0 w1 wr) (fun _ iv _ => 20 - (intOf iv).toNat)
    case atStart => exact ⟨0, _, A26, c26, _, by congr 1; simp; omega, rfl, by omega, by omega, .inl rfl, HL26.out, HU23.out, HBW26.out, HF26.out⟩
    case round =>
      clear HL26 HF26 HBW26
      obtain ⟨j, sl, A', c', bt', rfl, rfl, hjl, hj20, hsl, hl, hup, hbw, hf⟩ := hrel
      have HL := Lib.hid hl
      have HF := Lib.hid hf
      have HUP := Lib.hid hup
      have HBW := Lib.hid hbw
      have HSL := Lib.hid hsl
      have l0 := hl.blk.cell 0
      have hpl : sl.pend.length ≤ 1000 := by
        rcases (show sl = _ ∨ sl = _ from hsl) with e | e
        · rw [e]; exact HEV.out.2.1
        · rw [e]; simp
      clear hl hf hup hbw hsl
      by_cases hgo : j < ls.length ∧ j < 20
      · obtain ⟨hlt, h20⟩ := hgo
        obtain ⟨ad, rfl, _, hc⟩ := (RowOf.now HR.out ((FS.out.trans HF.out (fun _ _ h => h)).below0)).num hlt
        generalize ls.getD j 0 = x at *
        obtain ⟨b, hb4, hbe⟩ := and3 x
        have hw8 : IntKind.i64.wrap (b : Int) = b := by rw [IntKind.wrap_i64]; omega
        have qP := PressC (h := h) (b := b) (now := 11 + 10 * (i : Int) + 10 * (j : Int)) HL.out ⟨HT.out, HQ.out, HQ.out⟩ (HK1.out.fr0 HF.out) hpl HUP.out hb4 ⟨by omega, by omega⟩
        rw [show stepP ((⟨true, true, token, qty, qty⟩ : Dp), sl) (b : Int) = (⟨true, true, token, qty, qty⟩, sl) by simp [stepP]] at qP
        go_wp2_with fail
        refine Calls.mono qP ?_
        clear qP
        rintro e w7 ⟨rfl, A7, c7, bt7, HL7, HU7, F7⟩
        have HF7 := Lib.hid (HL.out.out0 (Nat.le_refl _) HF.out (frms F7.out))
        have HBW7 := Lib.hid (HL.out.keep HBW.out (by decide) (by decide) (by decide) (frms F7.out))
        clear HL HF HUP HBW l0 F7
        have hS7 : Hid (w7.cell? ⟨l, 0, none⟩ = some (.pointer (some ⟨m, 0, none⟩)) ∧ w7.cell? ⟨gW, 0, none⟩ = some (.bool true) ∧ w7.cell? ⟨gW, 1, none⟩ = some (.bool true) ∧ w7.cell? ⟨gW, 2, none⟩ = some (.int .u16 token) ∧ w7.cell? ⟨gW, 3, none⟩ = some (.int .u16 qty) ∧ w7.cell? ⟨gW, 4, none⟩ = some (.int .u16 qty)) := Lib.hid ⟨HL7.out.blk.cell 0, HBW7.out.cell 0, HBW7.out.cell 1, HBW7.out.cell 2, HBW7.out.cell 3, HBW7.out.cell 4⟩
        have hS7d : Hid (w7.drew.cell? ⟨l, 0, none⟩ = some (.pointer (some ⟨m, 0, none⟩)) ∧ w7.drew.cell? ⟨gW, 0, none⟩ = some (.bool true) ∧ w7.drew.cell? ⟨gW, 1, none⟩ = some (.bool true) ∧ w7.drew.cell? ⟨gW, 2, none⟩ = some (.int .u16 token) ∧ w7.drew.cell? ⟨gW, 3, none⟩ = some (.int .u16 qty) ∧ w7.drew.cell? ⟨gW, 4, none⟩ = some (.int .u16 qty)) := Lib.hid hS7.out
        have QS := Lib.hid (fun W (k : Fr0 w7 W) => MShowC (HL7.out.mo.fr0 k))
        have hTL : tellsL sl ⟨true, true, token, qty, qty⟩ 1 1 [] = ⟨[], ⟨1, 1, 1, 3, []⟩, ⟨true, true, token, qty, qty⟩, 1, 1⟩ := by
          rcases (show sl = _ ∨ sl = _ from HSL.out) with e | e
          · rw [e]; exact tells_heard HEV.out.1 (by decide)
          · rw [e]; exact tells_none
        have HTL := Lib.hid hTL
        clear hTL
        have QT : Hid (∀ W A8 c8x, LiB w1.heap.size l m s A8 c8x sl ⟨true, true, token, qty, qty⟩ bt7 1 1 W → Calls Tryd.prog 17 #[.pointer (some ⟨l, 0, none⟩), .slice none 0 0] W fun e w' => e = .returned (.string (ByteArray.mk #[])) ∧ ∃ A' c', Hid (LiB w1.heap.size l m s A' c' ⟨1, 1, 1, 3, []⟩ ⟨true, true, token, qty, qty⟩ bt7 1 1 w') ∧ Hid (Fr (fun j => j = m ∨ j = s ∨ j = l) W w')) := Lib.hid (fun W A8 c8x hl => TellsE (n := 0) (BA := none) (bc := 0) (b := []) rfl hl hpl (rowE_none _) (by decide) (fun x hx => by cases hx) (fun ad e => by cases e) (.inr rfl) (.inr rfl) HTL.out)
        go_wp2_with fail
        go_region_held_law (fun w' => w'.cell? ⟨l, 0, none⟩ = some (.pointer (some ⟨m, 0, none⟩)) ∧ w'.cell? ⟨gW, 0, none⟩ = some (.bool true) ∧ w'.cell? ⟨gW, 1, none⟩ = some (.bool true) ∧ w'.cell? ⟨gW, 2, none⟩ = some (.int .u16 token) ∧ w'.cell? ⟨gW, 3, none⟩ = some (.int .u16 qty) ∧ w'.cell? ⟨gW, 4, none⟩ = some (.int .u16 qty)) (first | (with_reducible exact hS7.out) | (with_reducible exact hS7d.out) | (with_reducible exact hS8.out) | (with_reducible exact hS9.out)) (first
          | (go_simp; go_at_call 19; refine Calls.mono (QS.out _ (by exact (Fr.refl (fun _ => False) _).drew)) ?_; rintro e w8 ⟨rfl, F8⟩; have F8' := Lib.hid (Fr.undrew F8.out); have HL8 := Lib.hid (HL7.out.fr0 F8'.out); have HBW8 := Lib.hid (HBW7.out.fr F8'.out (fun h => h)); have HF8 := Lib.hid (HF7.out.trans F8'.out (fun _ _ h => h)); have hS8 : Hid (w8.cell? ⟨l, 0, none⟩ = some (.pointer (some ⟨m, 0, none⟩)) ∧ w8.cell? ⟨gW, 0, none⟩ = some (.bool true) ∧ w8.cell? ⟨gW, 1, none⟩ = some (.bool true) ∧ w8.cell? ⟨gW, 2, none⟩ = some (.int .u16 token) ∧ w8.cell? ⟨gW, 3, none⟩ = some (.int .u16 qty) ∧ w8.cell? ⟨gW, 4, none⟩ = some (.int .u16 qty)) := Lib.hid ⟨HL8.out.blk.cell 0, HBW8.out.cell 0, HBW8.out.cell 1, HBW8.out.cell 2, HBW8.out.cell 3, HBW8.out.cell 4⟩)
          | (go_simp; go_at_call 17; refine Calls.mono (QT.out _ _ _ HL8.out) ?_; rintro e w9 ⟨rfl, A9, c9, HL9, F9⟩; have HF9 := Lib.hid (HL8.out.out0 (Nat.le_refl _) HF8.out F9.out); have HBW9 := Lib.hid (HL8.out.keep HBW8.out (by decide) (by decide) (by decide) F9.out); have hS9 : Hid (w9.cell? ⟨l, 0, none⟩ = some (.pointer (some ⟨m, 0, none⟩)) ∧ w9.cell? ⟨gW, 0, none⟩ = some (.bool true) ∧ w9.cell? ⟨gW, 1, none⟩ = some (.bool true) ∧ w9.cell? ⟨gW, 2, none⟩ = some (.int .u16 token) ∧ w9.cell? ⟨gW, 3, none⟩ = some (.int .u16 qty) ∧ w9.cell? ⟨gW, 4, none⟩ = some (.int .u16 qty)) := Lib.hid ⟨HL9.out.blk.cell 0, HBW9.out.cell 0, HBW9.out.cell 1, HBW9.out.cell 2, HBW9.out.cell 3, HBW9.out.cell 4⟩))
        go_wp2
        go_roundw
        case rel => exact ⟨j + 1, ⟨1, 1, 1, 3, []⟩, A9, c9, bt7, by go_num, by go_num, by omega, by omega, .inr rfl, HL9.out, HU7.out, HBW9.out, HF9.out⟩
        case measure => simp [intOf]; omega
      · by_cases hlt : j < ls.length
        · obtain rfl : j = 20 := by omega
          go_wp2
          go_ret
          exact ⟨rfl, (FS.out.trans HF.out (fun _ _ h => h)).below0⟩
        · obtain rfl : j = ls.length := by omega
          go_wp2
          go_ret
          exact ⟨rfl, (FS.out.trans HF.out (fun _ _ h => h)).below0⟩
theorem mdark_row {W : World} (hk : ∃ h, Kn h W) (A : Option Addr) (c : Nat) (ls : List Int) (token qty : Int) (hr : RowOf c8 1 W W.heap.size A ls) (ht : 0 ≤ token ∧ token < 65536) (hq : 0 ≤ qty ∧ qty < 65536) :
    Calls Tryd.prog 6 #[.slice A ls.length c, .int .u16 token, .int .u16 qty] W fun e w' => e = .returned (.bool true) ∧ Below W.heap.size W w' := by
  obtain ⟨h, hk⟩ := hk
  exact mdark_walk A c ls token qty W hk hr ht hq
end Go.Proofs.YtdhfinpmcikimaaDoor.K
