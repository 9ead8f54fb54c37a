/- The walk of OctetsStays. -/
import Derived.Test.YtfpjooekpjhbpaaDoorGe
namespace Go.Proofs.YtfpjooekpjhbpaaDoor.K
open Go.RowKit
set_option linter.unusedVariables false
set_option linter.unusedSimpArgs false
attribute [local go_sem] min2_min min_two
attribute [local go_sem ↓] Go.wp_at_zero Go.wp_at_succ
namespace Stays
/-- What Bytes answers. -/
def bof (n : Nat) (l : List Int) : List Int × Int × List Int := if n ≤ l.length then (l.take n, 0, l.drop n) else ([], 2, l)
theorem RBytesAny {r n : Nat} {G : Option Nat} {l t m : List Int} {f : Int} {w : World} (h : Rd r G l w) (hlim : n ≤ 140737488355328) (hu : bof n l = (t, f, m)) :
    Calls Tryd.prog 21 #[.pointer (some ⟨r, 0, none⟩), .int .i64 n] w fun e w' => ∃ A c, e = .returned (.tuple #[.slice A t.length c, .int .i64 f]) ∧ (∀ ad, A = some ad → w.heap.size ≤ ad.block ∧ ad.block < w'.heap.size) ∧ Hid (RowOf c8 1 w' w'.heap.size A t) ∧ Hid (Rd r G m w') ∧ Hid (Fr1 r w w') := by
  unfold bof at hu
  by_cases h2 : n ≤ l.length
  · rw [if_pos h2] at hu
    simp only [Prod.mk.injEq] at hu
    obtain ⟨rfl, rfl, rfl⟩ := hu
    refine (RBytesOk h h2 hlim).mono ?_
    rintro e w' ⟨rfl, H1, H2, H3⟩
    have hl : (l.take n).length = n := by rw [List.length_take]; omega
    exact ⟨_, n, by rw [hl], fun ad e => by injection e with e; subst e; exact ⟨Nat.le_refl _, H1.out.lt⟩, Lib.hid (row_blk H1.out H1.out.lt), H2, H3⟩
  · rw [if_neg h2] at hu
    simp only [Prod.mk.injEq] at hu
    obtain ⟨rfl, rfl, rfl⟩ := hu
    refine (RBytesShort h (by omega)).mono ?_
    rintro e w' ⟨rfl, rfl⟩
    exact ⟨none, 0, rfl, (fun ad e => by cases e), Lib.hid row_none, Lib.hid h, Lib.hid (Fr.refl _ _)⟩
end Stays
open Stays
set_option maxHeartbeats 8000000 in
set_option maxRecDepth 10000 in
theorem ostays_walk (A : Option Addr) (c : Nat) (zs : List Int) (hc : zs.length ≤ c) (D : Option Addr) (d : Nat) (ys : List Int) (hd : ys.length ≤ 140737488351232) (w : World) (h0 : RowOf c8 1 w w.heap.size A zs) (b0 : InB zs) (k0 : RowOf c8 1 w w.heap.size D ys) (e0 : InB ys) :
    Calls Tryd.prog 6 #[.slice A zs.length c, .slice D ys.length d] w fun e w' => e = .returned (.bool true) ∧ Below w.heap.size w w' := by
  obtain ⟨n, hn, hn1, hn2⟩ := min_nat zs.length 100
  have hcut := fun W => bcut_hi A zs.length c n (by omega) W
  obtain ⟨l, hl⟩ : ∃ l, l = zs.take n := ⟨_, rfl⟩
  have hln : n = l.length := by rw [hl, List.length_take]; omega
  subst hln
  have HR := Lib.hid (hl ▸ h0.take_ l.length : RowOf c8 1 w w.heap.size A l)
  have HI := Lib.hid (hl ▸ b0.take_ l.length : InB l)
  have KR := Lib.hid k0
  have KI := Lib.hid e0
  clear h0 b0 hl hc k0 e0
  have hmin : min (zs.length : Int) 100 = (l.length : Int) := hn
  clear hn
  go_enter Tryd.func6, Tryd.ntmps6
  go_wp2_with fail
  refine (shown1_walk _).mono ?_
  rintro e w1 ⟨rfl, H1⟩
  have hs1 := H1.out.size
  go_wp2_with fail
  refine (ReadC (by omega) (HR.out.now H1.out)).mono ?_
  rintro e w2 ⟨rr, Gr, rfl, hr, hGr, H2, F2⟩
  have hs2 := F2.out.size
  have HW2 := Lib.hid (fr0_below H1.out F2.out (Nat.le_refl _))
  go_wp2_with fail
  refine (ReadC (by omega) (HR.out.now HW2.out)).mono ?_
  rintro e w3 ⟨rs, Gs, rfl, hrs, hGs, H3, F3⟩
  have HW3 := Lib.hid (fr0_below HW2.out F3.out (Nat.le_refl _))
  have HRR3 := Lib.hid (H2.out.fr0 F3.out)
  have hltr := H2.out.lt
  have hlts := H3.out.lt
  have hGlr := H2.out.ltG
  have hne1 : Hid (∀ g, Gr = some g → g ≠ rs) := Lib.hid (fun g e => by have := hGlr g e; omega)
  have hne2 : Hid (∀ g, Gs = some g → g ≠ rr) := Lib.hid (fun g e => by have := hGs g e; omega)
  have HLow : Hid (w.heap.size ≤ rr ∧ w.heap.size ≤ rs ∧ rr ≠ rs) := Lib.hid (by omega)
  clear H2 hGr hGs hGlr hcut hmin hr hrs hs2 hs1 hlts hltr F2 F3 H1 HW2
  go_wp2
  go_loopw [8] (fun i wr => ∃ (k : Nat) (m : List Int), i = .int .i64 k ∧ k ≤ ys.length ∧ m.length ≤ 100 ∧ InB m ∧ Rd rr Gr m wr ∧ Rd rs Gs m wr ∧ Below w.heap.size w wr) (fun i _ => ys.length - (intOf i).toNat)
  case atStart => exact ⟨0, l, rfl, by omega, hn2, HI.out, HRR3.out, H3.out, HW3.out⟩
  case round =>
    obtain ⟨k, m, rfl, hk, hm, hmi, hrr, hrs, hb⟩ := hrel
    have HMI := Lib.hid hmi
    have HRR := Lib.hid hrr
    have HRS := Lib.hid hrs
    have HB := Lib.hid hb
    clear hmi hrr hrs hb
    by_cases hgo : k < ys.length ∧ k < 30
    · obtain ⟨hlt, h30⟩ := hgo
      · obtain ⟨ad, rfl, hbd, hcell⟩ := (KR.out.below HB.out).num hlt
        have hx : 0 ≤ ys.getD k 0 ∧ ys.getD k 0 < 256 := by
          rw [List.getD_eq_getElem?_getD, List.getElem?_eq_getElem hlt]
          exact KI.out _ (List.getElem_mem hlt)
        generalize ys.getD k 0 = x at *
        obtain ⟨hx0, hx1⟩ := hx
        have hq0 : IntKind.i64.wrap x = x := by rw [IntKind.wrap_i64]; omega
        have hq1 : IntKind.i64.wrap ((m.length : Int) + 1) = (m.length : Int) + 1 := by rw [IntKind.wrap_i64]; omega
        have hq2 : IntKind.i64.wrap ((m.length : Int) + 1 + x) = (m.length : Int) + 1 + x := by rw [IntKind.wrap_i64]; omega
        have hcd : wr.drew.cell? (ad.add k) = some (.int .u8 x) := hcell
        go_wp2_with fail
        go_region_held (fun w' => w'.cell? (ad.add k) = some (.int .u8 x)) (go_keep) (first | (go_at_call 22; refine (LeftC HRR.out.drew).mono ?_; rintro e w5 ⟨rfl, rfl⟩) | (go_at_call 21; refine (RBytesShort HRR.out.drew (by omega)).mono ?_; rintro e w6 ⟨rfl, rfl⟩))
        clear hq0 hq1 hq2
        go_wp2_with fail
        refine (RBytesNeg (by omega)).mono ?_
        rintro e w7 ⟨rfl, rfl⟩
        go_wp2_with fail
        refine (LeftC HRR.out.drew).mono ?_
        rintro e w7 ⟨rfl, rfl⟩
        have hmod : x.tmod 10 = ((x % 10).toNat : Int) := by rw [Int.tmod_eq_emod_of_nonneg hx0]; omega
        obtain ⟨p, hp⟩ : ∃ p : Nat, p = (x % 10).toNat := ⟨_, rfl⟩
        have hp9 : p ≤ 9 := by omega
        rw [← hp] at hmod
        have hmod2 : x % 10 = (p : Int) := by omega
        obtain ⟨t, f, m', hu⟩ : ∃ t f m', bof p m = (t, f, m') := ⟨_, _, _, rfl⟩
        have HU := Lib.hid hu
        have hmm : m'.length ≤ 100 ∧ InB m' ∧ t.length ≤ 100 := by
          unfold bof at hu
          split at hu <;> simp only [Prod.mk.injEq] at hu <;> obtain ⟨rfl, _, rfl⟩ := hu
          · exact ⟨by rw [List.length_drop]; omega, HMI.out.drop_ _, by rw [List.length_take]; omega⟩
          · exact ⟨hm, HMI.out, by simp⟩
        obtain ⟨hm1, hm2, hm3⟩ := hmm
        have HM2 := Lib.hid hm2
        clear hu hp hm2
        by_cases h4 : m.length < 4
        · go_wp2_with fail
          refine (RU32_short HRR.out.drew h4).mono ?_
          rintro e w8 ⟨rfl, rfl⟩
          go_wp2_with fail
          refine (RBytesAny HRR.out.drew (by omega) HU.out).mono ?_
          rintro e w9 ⟨A9, c9, rfl, hA9, HX9, HR9, F9⟩
          have hlow := HLow.out
          have hltd := HRS.out.drew.lt
          have HS9 := Lib.hid (HRS.out.drew.fr F9.out (by omega) hne2.out)
          have HB9 := Lib.hid (fr1_below (below_dr HB.out) F9.out hlow.1 (Nat.le_refl _))
          have HA9 := Lib.hid hA9
          have hwr := HB.out.size
          have hc9 : w9.cell? (ad.add k) = some (.int .u8 x) := (F9.out.cell (p := ad.add k) (by rw [block_of_add]; show ad.block < wr.heap.size; omega) (by rw [block_of_add]; omega)).trans hcd
          clear hA9 hwr
          go_wp2_with fail
          refine (RBytesAny HS9.out (by omega) HU.out).mono ?_
          rintro e w10 ⟨A10, c10, rfl, hA10, HY10, HS10, F10⟩
          have HX10 := Lib.hid (row_fr HX9.out F10.out (fun ad e => by have := HA9.out ad e; exact ⟨this.2, by omega⟩))
          have HR10 := Lib.hid (HR9.out.fr F10.out (by omega) hne1.out)
          have HB10 := Lib.hid (fr1_below HB9.out F10.out (by omega) (Nat.le_refl _))
          have s1 := str_row (c := c9) HX10.out
          have s2 := str_row (c := c10) HY10.out
          clear hA10 hltd
          go_wp2_with fail
          refine (LeftC HR10.out).mono ?_
          rintro e w11 ⟨rfl, rfl⟩
          go_wp2_with fail
          refine (LeftC HS10.out).mono ?_
          rintro e w12 ⟨rfl, rfl⟩
          go_wp2
          go_roundw
          case rel => exact ⟨k + 1, m', by go_num, by omega, hm1, HM2.out, HR10.out, HS10.out, HB10.out⟩
          case measure => simp [intOf]; omega
        · have h4' : ¬ ((m.length : Int) < 4) := by omega
          go_wp2_with fail
          refine (RBytesAny HRR.out.drew (by omega) HU.out).mono ?_
          rintro e w9 ⟨A9, c9, rfl, hA9, HX9, HR9, F9⟩
          have hlow := HLow.out
          have hltd := HRS.out.drew.lt
          have HS9 := Lib.hid (HRS.out.drew.fr F9.out (by omega) hne2.out)
          have HB9 := Lib.hid (fr1_below (below_dr HB.out) F9.out hlow.1 (Nat.le_refl _))
          have HA9 := Lib.hid hA9
          have hwr := HB.out.size
          have hc9 : w9.cell? (ad.add k) = some (.int .u8 x) := (F9.out.cell (p := ad.add k) (by rw [block_of_add]; show ad.block < wr.heap.size; omega) (by rw [block_of_add]; omega)).trans hcd
          clear hA9 hwr
          go_wp2_with fail
          refine (RBytesAny HS9.out (by omega) HU.out).mono ?_
          rintro e w10 ⟨A10, c10, rfl, hA10, HY10, HS10, F10⟩
          have HX10 := Lib.hid (row_fr HX9.out F10.out (fun ad e => by have := HA9.out ad e; exact ⟨this.2, by omega⟩))
          have HR10 := Lib.hid (HR9.out.fr F10.out (by omega) hne1.out)
          have HB10 := Lib.hid (fr1_below HB9.out F10.out (by omega) (Nat.le_refl _))
          have s1 := str_row (c := c9) HX10.out
          have s2 := str_row (c := c10) HY10.out
          clear hA10 hltd
          go_wp2_with fail
          refine (LeftC HR10.out).mono ?_
          rintro e w11 ⟨rfl, rfl⟩
          go_wp2_with fail
          refine (LeftC HS10.out).mono ?_
          rintro e w12 ⟨rfl, rfl⟩
          go_wp2
          go_roundw
          case rel => exact ⟨k + 1, m', by go_num, by omega, hm1, HM2.out, HR10.out, HS10.out, HB10.out⟩
          case measure => simp [intOf]; omega
    · rcases (by omega : (¬ k < ys.length) ∨ (k < ys.length ∧ ¬ k < 30)) with hlt | ⟨hlt, h30⟩
      all_goals
        have tok1 : Hid True := Lib.hid trivial
        have hlow := HLow.out
        go_wp2_with fail
        go_region_held (fun _ => True) (trivial) (first
          | (go_at_call 24; have _t := tok1; (with_reducible refine (RRestC HRR.out.drew (by omega)).mono ?_); rintro e w11 ⟨rfl, HX11, HR11, F11⟩; have s1 : (convert 26 9 (.slice (some ⟨wr.heap.size, 0, none⟩) m.length m.length)).run Tryd.prog w11 = .ok (.string (strOfNums m)) w11 := str_row (row_blk HX11.out HX11.out.lt); have HS11 := Lib.hid (HRS.out.drew.fr F11.out (by omega) hne2.out); have hlt9 := HRS.out.drew.lt; clear tok1)
          | (go_at_call 24; have _t := tok1; (with_reducible refine (RRestC HRS.out.drew (by omega)).mono ?_); rintro e w11 ⟨rfl, HX11, HR11, F11⟩; have s1 : (convert 26 9 (.slice (some ⟨wr.heap.size, 0, none⟩) m.length m.length)).run Tryd.prog w11 = .ok (.string (strOfNums m)) w11 := str_row (row_blk HX11.out HX11.out.lt); have HS11 := Lib.hid (HRR.out.drew.fr F11.out (by omega) hne1.out); have hlt9 := HRR.out.drew.lt; clear tok1)
          | (go_at_call 24; refine (RRestC HS11.out (by omega)).mono ?_; rintro e w12 ⟨rfl, HX12, HR12, F12⟩; have s2 := str_row (c := m.length) (row_blk HX12.out HX12.out.lt); have s3 : (convert 26 9 (.slice (some ⟨wr.heap.size, 0, none⟩) m.length m.length)).run Tryd.prog w12 = .ok (.string (strOfNums m)) w12 := str_row (row_blk (HX11.out.fr F12.out (by omega)) (HX11.out.fr F12.out (by omega)).lt)))
        all_goals
          go_wp2
          go_ret
          exact ⟨rfl, fr1_below (fr1_below (below_dr HB.out) F11.out (by omega) (Nat.le_refl _)) F12.out (by omega) (Nat.le_refl _)⟩
end Go.Proofs.YtfpjooekpjhbpaaDoor.K
