/- The walk of OctetsBack. -/
import Derived.Test.YtfpjooekpjhbpaaDoorOJoins
namespace Go.Proofs.YtfpjooekpjhbpaaDoor.K
open Go.RowKit
set_option linter.unusedVariables false
set_option linter.unusedSimpArgs false
attribute [local go_sem] min2_min min_two
attribute [local go_sem ↓] Go.wp_at_zero Go.wp_at_succ
namespace Back1
def en (x : Int) : List Int := be x 4 ++ (be (x / 65536) 2 ++ be (x / 16777216) 1)
def ens (l : List Int) : List Int := l.flatMap en
theorem en_len (x : Int) : (en x).length = 7 := by simp [en, be_length]
theorem ens_len (l : List Int) : (ens l).length = 7 * l.length := by
  induction l with
  | nil => rfl
  | cons x l ih => rw [show ens (x :: l) = en x ++ ens l from rfl, List.length_append, en_len, ih, List.length_cons]; omega
theorem ens_app (a b : List Int) : ens (a ++ b) = ens a ++ ens b := by simp [ens]
theorem ens_take (l : List Int) (k : Nat) (hk : k < l.length) : ens (l.take (k + 1)) = ens (l.take k) ++ en l[k] := by
  rw [List.take_succ_eq_append_getElem hk, ens_app]; simp [ens]
theorem ens_drop (l : List Int) (k : Nat) (hk : k ≤ l.length) : (ens l).drop (7 * k) = ens (l.drop k) := by
  have e : ens l = ens (l.take k) ++ ens (l.drop k) := by rw [← ens_app, List.take_append_drop]
  have hl : (ens (l.take k)).length = 7 * k := by rw [ens_len, List.length_take]; omega
  rw [e, ← hl, List.drop_left]
/-- What is left behind k numbers, c bytes less. -/
def rem (l : List Int) (c k : Nat) : List Int := ((ens l).take (7 * l.length - c)).drop (7 * k)
theorem rem_len (l : List Int) (c k : Nat) : (rem l c k).length = 7 * l.length - c - 7 * k := by
  unfold rem
  rw [List.length_drop, List.length_take, ens_len]; omega
theorem rem_next (l : List Int) (c k : Nat) : (rem l c k).drop 7 = rem l c (k + 1) := by
  unfold rem
  rw [List.drop_drop, show 7 * k + 7 = 7 * (k + 1) by omega]
theorem rem_eq (l : List Int) (c k : Nat) (hk : k < l.length) : rem l c k = (en l[k] ++ ens (l.drop (k + 1))).take (7 * l.length - c - 7 * k) := by
  unfold rem
  rw [List.drop_take, ens_drop l k (by omega)]
  congr 1
  rw [List.drop_eq_getElem_cons hk]
  rfl
theorem take_of (x : Int) (r : List Int) (n : Nat) (hn : 6 ≤ n) : ((en x ++ r).take n).take 4 = be x 4 ∧ (((en x ++ r).take n).drop 4).take 2 = be (x / 65536) 2 ∧ (7 ≤ n → (((en x ++ r).take n).drop 6).take 1 = be (x / 16777216) 1) := by
  have h : en x = [x / 256 ^ 3 % 256, x / 256 ^ 2 % 256, x / 256 ^ 1 % 256, x / 256 ^ 0 % 256, x / 65536 / 256 ^ 1 % 256, x / 65536 / 256 ^ 0 % 256, x / 16777216 / 256 ^ 0 % 256] := rfl
  rw [h]
  obtain ⟨m, rfl⟩ : ∃ m, n = m + 6 := ⟨n - 6, by omega⟩
  refine ⟨rfl, rfl, fun h7 => ?_⟩
  obtain ⟨j, rfl⟩ : ∃ j, m = j + 1 := ⟨m - 1, by omega⟩
  rfl
end Back1
open Back1
theorem cut_cases (cut : Bool) (n : Nat) : cut = false ∨ (cut = true ∧ ¬ 0 < n) ∨ (cut = true ∧ 0 < n) := by
  cases cut
  · exact .inl rfl
  · by_cases h : 0 < n
    · exact .inr (.inr ⟨rfl, h⟩)
    · exact .inr (.inl ⟨rfl, h⟩)
theorem nums_read (x : Int) (h0 : 0 ≤ x) (h1 : x < 4294967296) : num (be x 4) = x ∧ num (be (x / 65536) 2) = x / 65536 ∧ num (be (x / 16777216) 1) = x / 16777216 := by
  refine ⟨?_, ?_, ?_⟩
  · rw [num_be, show (256 : Int) ^ 4 = 4294967296 by decide]; omega
  · rw [num_be, show (256 : Int) ^ 2 = 65536 by decide]; omega
  · rw [num_be, show (256 : Int) ^ 1 = 256 by decide]; omega
theorem ens_inB (l : List Int) : InB (ens l) := fun x hx => by
  obtain ⟨y, _, hy⟩ := List.mem_flatMap.1 hx
  unfold en at hy
  rcases List.mem_append.1 hy with h | h
  · exact be_inB _ _ x h
  · rcases List.mem_append.1 h with h | h
    · exact be_inB _ _ x h
    · exact be_inB _ _ x h
theorem u32_info : ∃ i, Tryd.prog.info? 41 = some i := Option.isSome_iff_exists.1 (by kernel_rfl)
abbrev c32 : Int → List Value := fun x => [.int .u32 x]
set_option maxHeartbeats 8000000 in
set_option maxRecDepth 10000 in
theorem oback_walk (A : Option Addr) (c : Nat) (zs : List Int) (cut : Bool) (hc : zs.length ≤ c) (w : World) (h0 : RowOf c32 1 w w.heap.size A zs) (b0 : ∀ x ∈ zs, 0 ≤ x ∧ x < 4294967296) :
    Calls Tryd.prog 8 #[.slice A zs.length c, .bool cut] w fun e w' => e = .returned (.bool true) ∧ Below w.heap.size w w' := by
  obtain ⟨i32, hi32⟩ := u32_info
  obtain ⟨n, hn, hn1, hn2⟩ := min_nat zs.length 40
  have hcut := fun W => cut_hi Tryd.underlying64 hi32 A zs.length c n (by omega) W
  obtain ⟨l, hl⟩ : ∃ l, l = zs.take n := ⟨_, rfl⟩
  have hln : n = l.length := by rw [hl, List.length_take]; omega
  subst hln
  have HR := Lib.hid (hl ▸ h0.take_ l.length : RowOf c32 1 w w.heap.size A l)
  have HI : Hid (∀ x ∈ l, 0 ≤ x ∧ x < 4294967296) := Lib.hid (fun x hx => b0 x (by rw [hl] at hx; exact List.mem_of_mem_take hx))
  have hcc : l.length ≤ c := by omega
  clear h0 b0 hl hc hi32
  have hmin : min (zs.length : Int) 40 = (l.length : Int) := hn
  clear hn
  go_enter Tryd.func8, Tryd.ntmps8
  go_wp2_with fail
  refine (shown1_walk _).mono ?_
  rintro e w1 ⟨rfl, H1⟩
  have hs1 := H1.out.size
  obtain ⟨b, hb⟩ : ∃ b, b = w1.heap.size := ⟨_, rfl⟩
  have HBE := Lib.hid hb
  have hwb : w.heap.size ≤ b := by omega
  have HW0 : Hid (Wrt b (.slice none 0 0) [] (nw w1)) := Lib.hid (hb ▸ wrt_new w1)
  have HB0 : Hid (Below w.heap.size w (nw w1)) := Lib.hid (H1.out.alloc hs1 _)
  clear hb
  go_wp2
  rw [← HBE.out]
  clear hcut hmin
  go_loopw [7] (fun i wr => ∃ (k : Nat) (v : Value), i = .int .i64 k ∧ k ≤ l.length ∧ Wrt b v (ens (l.take k)) wr ∧ (∀ j, v.ownBlock = some j → w.heap.size ≤ j) ∧ Below w.heap.size w wr) (fun i _ => l.length - (intOf i).toNat)
  case atStart => exact ⟨0, _, rfl, by omega, HW0.out, base_nil _, HB0.out⟩
  case round =>
    obtain ⟨k, v, rfl, hk, hw, hv, hb⟩ := hrel
    have HW := Lib.hid hw
    have HV := Lib.hid hv
    have HB := Lib.hid hb
    clear hw hv hb
    by_cases hgo : k < l.length
    · obtain ⟨ad, rfl, hbd, hcell⟩ := (HR.out.below HB.out).one (g := fun x => .int .u32 x) (fun _ => rfl) hgo
      obtain ⟨x0, x1⟩ := HI.out _ (List.getElem_mem hgo)
      have HE := Lib.hid (ens_take l k hgo)
      have hel : (ens (l.take k)).length ≤ 280 := by rw [ens_len, List.length_take]; omega
      generalize l[k] = x at *
      have hwd : wr.drew.cell? (ad.add k) = some (.int .u32 x) := hcell
      have y0 : 0 ≤ x / 65536 := by omega
      have y1 : x / 65536 < 65536 := by omega
      have z0 : 0 ≤ x / 16777216 := by omega
      have z1 : x / 16777216 < 256 := by omega
      have t16 : IntKind.u16.wrap (x / 65536) = x / 65536 := by simp [IntKind.wrap, IntKind.bits, IntKind.signed]; omega
      have t8 : IntKind.u8.wrap (x / 16777216) = x / 16777216 := by simp [IntKind.wrap, IntKind.bits, IntKind.signed]; omega
      have HLb := Lib.hid HW.out.lt
      have hfar : ∀ (W W' : World) (v v' : Value), w.heap.size ≤ W.heap.size → WFr b v v' W W' → (∀ j, v.ownBlock = some j → w.heap.size ≤ j) → W.cell? (ad.add k) = some (.int .u32 x) → W'.cell? (ad.add k) = some (.int .u32 x) := fun W W' v v' hs F hv h =>
        (F.fr.cell (p := ad.add k) (by rw [block_of_add]; omega) (by
          rw [block_of_add]
          intro e
          rcases e with e | e
          · omega
          · have := hv _ e; omega)).trans h
      have HFAR := Lib.hid hfar
      have hws := HB.out.size
      clear hfar
      go_wp2_with fail
      go_region_held (fun w' => w'.cell? (ad.add k) = some (.int .u32 x)) (first | exact hwd | exact k2 | exact k3 | exact k4) (first
        | (go_at_call 19; refine (WU32_own (show Wrt b v (ens (l.take k)) wr.drew from HW.out) x0 x1 (by omega)).mono ?_; rintro e w2 ⟨rfl, v2, H2, F2⟩; have k2 := HFAR.out _ _ _ _ (show w.heap.size ≤ wr.drew.heap.size from hws) F2.out HV.out hwd; have HV2 := Lib.hid (wfr_base F2.out HV.out hws); have HB2 := Lib.hid (wfr_below (below_dr HB.out) F2.out hwb HV.out (Nat.le_refl _)); have hs2 := HB2.out.size)
        | (go_at_call 18; refine (WU16_own H2.out y0 y1 (by rw [List.length_append, be_length]; omega)).mono ?_; rintro e w3 ⟨rfl, v3, H3, F3⟩; have k3 := HFAR.out _ _ _ _ hs2 F3.out HV2.out k2; have HV3 := Lib.hid (wfr_base F3.out HV2.out hs2); have HB3 := Lib.hid (wfr_below HB2.out F3.out hwb HV2.out (Nat.le_refl _)); have hs3 := HB3.out.size)
        | (go_at_call 16; refine (WU8_own H3.out z0 z1 (by rw [List.length_append, List.length_append, be_length, be_length]; omega)).mono ?_; rintro e w4 ⟨rfl, v4, H4, F4⟩; have k4 := HFAR.out _ _ _ _ hs3 F4.out HV3.out k3; have HV4 := Lib.hid (wfr_base F4.out HV3.out hs3); have HB4 := Lib.hid (wfr_below HB3.out F4.out hwb HV3.out (Nat.le_refl _))))
      all_goals
        clear t16 t8 k2 k3 k4 hwd hcell
        go_wp2
        go_roundw
        case rel => exact ⟨k + 1, v4, by go_num, by omega, by rw [HE.out]; have := H4.out; rw [List.append_assoc, List.append_assoc] at this; exact this, HV4.out, HB4.out⟩
        case measure => simp [intOf]; omega
    · obtain rfl : l.length = k := by omega
      rw [List.take_length] at HW
      obtain ⟨M, hM⟩ : ∃ M, M = 7 * l.length := ⟨_, rfl⟩
      have HEL : Hid ((ens l).length = M) := Lib.hid (by rw [ens_len, hM])
      have HMM := Lib.hid hM
      have hM3 : M ≤ 280 := by omega
      have t7 : IntKind.i64.wrap (7 * (l.length : Int)) = (M : Int) := by rw [IntKind.wrap_i64]; omega
      have hws := HB.out.size
      clear hM hgo
      go_wp2_with fail
      refine (WDoneE HEL.out HW.out (by rw [HEL.out]; omega)).mono ?_
      rintro e w5 ⟨A5, c5, rfl, H5, F5⟩
      have HB5 := Lib.hid (fr0_below HB.out F5.out (Nat.le_refl _))
      have hm5 : M ≤ c5 := by have := H5.out.2.2; rwa [HEL.out] at this
      have HE5 := Lib.hid (show rem l 0 0 = ens l by unfold rem; simp [List.take_of_length_le, ens_len])
      have hm7 := HMM.out
      have q7 : (7 : Int) * (l.length : Int) = (M : Int) := by omega
      clear hm7
      rcases cut_cases cut l.length with rfl | ⟨rfl, hz⟩ | ⟨rfl, hz⟩
      case inr.inr =>
        obtain ⟨M1, hM1⟩ : ∃ M1, M1 = M - 1 := ⟨_, rfl⟩
        have hzi : (0 : Int) < (l.length : Int) := by omega
        have hmm := HMM.out
        have t1 : IntKind.i64.wrap ((M : Int) - 1) = (M1 : Int) := by rw [IntKind.wrap_i64]; omega
        have t1' : (M : Int) - 1 = (M1 : Int) := by omega
        have hcut5 := fun W => bcut_hi A5 M c5 M1 (by omega) W
        have HL1 : Hid (((ens l).take M1).length = M1) := Lib.hid (by rw [List.length_take, HEL.out]; omega)
        have HR1 := Lib.hid (H5.out.2.1.take_ M1)
        have HE1 : Hid (rem l 1 0 = (ens l).take M1) := Lib.hid (by unfold rem; rw [show 7 * l.length - 1 = M1 by omega]; simp)
        have hM1' : M1 ≤ 280 := by omega
        clear hmm hM1
        go_wp2_with fail
        refine (ReadE HL1.out (by rw [HL1.out]; omega) HR1.out).mono ?_
        rintro e w6 ⟨r, G, rfl, hr, hG, H6, F6⟩
        clear t1 t1' hcut5 t7 q7
        have HW5 := Lib.hid (fr0_below HB5.out F6.out (Nat.le_refl _))
        have hwr := HB5.out.size
        have hrr : w.heap.size ≤ r := by omega
        clear hr hG HB5 F6
        go_wp2
        go_loopw [10] (fun i wz => ∃ k : Nat, i = .int .i64 k ∧ k ≤ l.length ∧ Rd r G (rem l 1 k) wz ∧ Below w.heap.size w wz) (fun i _ => l.length - (intOf i).toNat)
        case atStart => exact ⟨0, rfl, by omega, by rw [HE1.out]; exact H6.out, HW5.out⟩
        case round =>
          obtain ⟨k, rfl, hk, hrd, hb⟩ := hrel
          have HRD := Lib.hid hrd
          have HB := Lib.hid hb
          clear hrd hb
          have hrl := rem_len l 1 k
          by_cases hgo : k < l.length
          · obtain ⟨ad, rfl, hbd, hcell⟩ := (HR.out.below HB.out).one (g := fun x => .int .u32 x) (fun _ => rfl) hgo
            obtain ⟨x0, x1⟩ := HI.out _ (List.getElem_mem hgo)
            have htk := take_of l[k] (ens (l.drop (k + 1))) (7 * l.length - 1 - 7 * k) (by omega)
            rw [← rem_eq l 1 k hgo] at htk
            have hfar : ∀ (W W' : World), w.heap.size ≤ W.heap.size → Fr1 r W W' → W.cell? (ad.add k) = some (.int .u32 l[k]) → W'.cell? (ad.add k) = some (.int .u32 l[k]) := fun W W' hs F h =>
              (F.cell (p := ad.add k) (by rw [block_of_add]; omega) (by rw [block_of_add]; omega)).trans h
            have hIR : InB (rem l 1 k) := ((ens_inB l).take_ _).drop_ _
            have hnx := rem_next l 1 k
            generalize l[k] = x at *
            obtain ⟨e1, e2, e3⟩ := htk
            obtain ⟨n1, n2, n3⟩ := nums_read x x0 x1
            have y1 : x / 65536 < 65536 := by omega
            have y0 : 0 ≤ x / 65536 := by omega
            have z0 : 0 ≤ x / 16777216 := by omega
            have z1 : x / 16777216 < 256 := by omega
            have HFAR := Lib.hid hfar
            have HIR := Lib.hid hIR
            have hrlt := HRD.out.lt
            have hws := HB.out.size
            have HN1 : Hid (num ((rem l 1 k).take 4) = x) := Lib.hid (by rw [e1]; exact n1)
            have HN2 : Hid (num (((rem l 1 k).drop 4).take 2) = x / 65536) := Lib.hid (by rw [e2]; exact n2)
            have HN3 : Hid (7 ≤ 7 * l.length - 1 - 7 * k → num (((rem l 1 k).drop 6).take 1) = x / 16777216) := Lib.hid (fun h => by rw [e3 h]; exact n3)
            have HNX := Lib.hid hnx
            have HRL := Lib.hid hrl
            clear hfar hIR e1 e2 e3 n1 n2 n3 hnx hrl
            go_wp2_with fail
            refine (RU32_is (m := (rem l 1 k).drop 4) (x := x) HRD.out (by rw [HRL.out]; omega) HIR.out HN1.out rfl).mono ?_
            rintro e w7 ⟨rfl, H7, F7⟩
            have c7 := HFAR.out _ _ hws F7.out hcell
            have HB7 := Lib.hid (fr1_below HB.out F7.out hrr (Nat.le_refl _))
            go_wp2_with fail
            refine (RU16_is (m := (rem l 1 k).drop 6) (x := x / 65536) H7.out (by rw [List.length_drop, HRL.out]; omega) (HIR.out.drop_ _) HN2.out (by rw [List.drop_drop])).mono ?_
            rintro e w8 ⟨rfl, H8, F8⟩
            have c8' := HFAR.out _ _ HB7.out.size F8.out c7
            have HB8 := Lib.hid (fr1_below HB7.out F8.out hrr (Nat.le_refl _))
            clear c7 hcell
            by_cases hlast : k + 1 = l.length
            · have hlk : ((k : Int) == (l.length : Int) - 1) = true := by rw [show (k : Int) = (l.length : Int) - 1 by omega]; simp
              go_wp2_with fail
              refine (RU8_short H8.out (by rw [List.length_drop, HRL.out]; omega)).mono ?_
              rintro e w9 ⟨rfl, rfl⟩
              have he : Hid (rem l 1 (k + 1) = (rem l 1 k).drop 6) := Lib.hid (by
                have h1 : (rem l 1 k).drop 6 = [] := List.eq_nil_of_length_eq_zero (by rw [List.length_drop, HRL.out]; omega)
                have h2 : rem l 1 (k + 1) = [] := List.eq_nil_of_length_eq_zero (by rw [rem_len]; omega)
                rw [h1, h2])
              go_wp2
              go_roundw
              case rel => exact ⟨k + 1, by go_num, by omega, by rw [he.out]; exact H8.out, HB8.out⟩
              case measure => simp [intOf]; omega
            · have hlk : ((k : Int) == (l.length : Int) - 1) = false := by simp; omega
              go_wp2_with fail
              refine (RU8_is (m := rem l 1 (k + 1)) (x := x / 16777216) H8.out (by rw [List.length_drop, HRL.out]; omega) (HIR.out.drop_ _) (HN3.out (by omega)) (by rw [List.drop_drop, ← HNX.out])).mono ?_
              rintro e w9 ⟨rfl, H9, F9⟩
              have c9 := HFAR.out _ _ HB8.out.size F9.out c8'
              have HB9 := Lib.hid (fr1_below HB8.out F9.out hrr (Nat.le_refl _))
              clear c8'
              go_wp2
              go_roundw
              case rel => exact ⟨k + 1, by go_num, by omega, H9.out, HB9.out⟩
              case measure => simp [intOf]; omega
          · obtain rfl : l.length = k := by omega
            have h0 : (rem l 1 l.length).length = 0 := by omega
            go_wp2_with fail
            refine (RDoneC HRD.out).mono ?_
            rintro e w7 ⟨rfl, rfl⟩
            rw [if_pos h0]
            clear h0 hrl
            go_wp2
            go_ret
            exact ⟨rfl, HB.out⟩
      case inl =>
        go_wp2_with fail
        refine (ReadE HEL.out (by rw [HEL.out]; omega) H5.out.2.1).mono ?_
        rintro e w6 ⟨r, G, rfl, hr, hG, H6, F6⟩
        clear t7 q7
        have HW5 := Lib.hid (fr0_below HB5.out F6.out (Nat.le_refl _))
        have hwr := HB5.out.size
        have hrr : w.heap.size ≤ r := by omega
        clear hr hG HB5 F6
        go_wp2
        go_loopw [10] (fun i wz => ∃ k : Nat, i = .int .i64 k ∧ k ≤ l.length ∧ Rd r G (rem l 0 k) wz ∧ Below w.heap.size w wz) (fun i _ => l.length - (intOf i).toNat)
        case atStart => exact ⟨0, rfl, by omega, by rw [HE5.out]; exact H6.out, HW5.out⟩
        case round =>
          obtain ⟨k, rfl, hk, hrd, hb⟩ := hrel
          have HRD := Lib.hid hrd
          have HB := Lib.hid hb
          clear hrd hb
          have hrl := rem_len l 0 k
          by_cases hgo : k < l.length
          · obtain ⟨ad, rfl, hbd, hcell⟩ := (HR.out.below HB.out).one (g := fun x => .int .u32 x) (fun _ => rfl) hgo
            obtain ⟨x0, x1⟩ := HI.out _ (List.getElem_mem hgo)
            have htk := take_of l[k] (ens (l.drop (k + 1))) (7 * l.length - 0 - 7 * k) (by omega)
            rw [← rem_eq l 0 k hgo] at htk
            have hfar : ∀ (W W' : World), w.heap.size ≤ W.heap.size → Fr1 r W W' → W.cell? (ad.add k) = some (.int .u32 l[k]) → W'.cell? (ad.add k) = some (.int .u32 l[k]) := fun W W' hs F h =>
              (F.cell (p := ad.add k) (by rw [block_of_add]; omega) (by rw [block_of_add]; omega)).trans h
            have hIR : InB (rem l 0 k) := ((ens_inB l).take_ _).drop_ _
            have hnx := rem_next l 0 k
            generalize l[k] = x at *
            obtain ⟨e1, e2, e3⟩ := htk
            obtain ⟨n1, n2, n3⟩ := nums_read x x0 x1
            have y1 : x / 65536 < 65536 := by omega
            have y0 : 0 ≤ x / 65536 := by omega
            have z0 : 0 ≤ x / 16777216 := by omega
            have z1 : x / 16777216 < 256 := by omega
            have HFAR := Lib.hid hfar
            have HIR := Lib.hid hIR
            have hrlt := HRD.out.lt
            have hws := HB.out.size
            have HN1 : Hid (num ((rem l 0 k).take 4) = x) := Lib.hid (by rw [e1]; exact n1)
            have HN2 : Hid (num (((rem l 0 k).drop 4).take 2) = x / 65536) := Lib.hid (by rw [e2]; exact n2)
            have HN3 : Hid (7 ≤ 7 * l.length - 0 - 7 * k → num (((rem l 0 k).drop 6).take 1) = x / 16777216) := Lib.hid (fun h => by rw [e3 h]; exact n3)
            have HNX := Lib.hid hnx
            have HRL := Lib.hid hrl
            clear hfar hIR e1 e2 e3 n1 n2 n3 hnx hrl
            go_wp2_with fail
            refine (RU32_is (m := (rem l 0 k).drop 4) (x := x) HRD.out (by rw [HRL.out]; omega) HIR.out HN1.out rfl).mono ?_
            rintro e w7 ⟨rfl, H7, F7⟩
            have c7 := HFAR.out _ _ hws F7.out hcell
            have HB7 := Lib.hid (fr1_below HB.out F7.out hrr (Nat.le_refl _))
            go_wp2_with fail
            refine (RU16_is (m := (rem l 0 k).drop 6) (x := x / 65536) H7.out (by rw [List.length_drop, HRL.out]; omega) (HIR.out.drop_ _) HN2.out (by rw [List.drop_drop])).mono ?_
            rintro e w8 ⟨rfl, H8, F8⟩
            have c8' := HFAR.out _ _ HB7.out.size F8.out c7
            have HB8 := Lib.hid (fr1_below HB7.out F8.out hrr (Nat.le_refl _))
            clear c7 hcell
            go_wp2_with fail
            refine (RU8_is (m := rem l 0 (k + 1)) (x := x / 16777216) H8.out (by rw [List.length_drop, HRL.out]; omega) (HIR.out.drop_ _) (HN3.out (by omega)) (by rw [List.drop_drop, ← HNX.out])).mono ?_
            rintro e w9 ⟨rfl, H9, F9⟩
            have c9 := HFAR.out _ _ HB8.out.size F9.out c8'
            have HB9 := Lib.hid (fr1_below HB8.out F9.out hrr (Nat.le_refl _))
            clear c8'
            go_wp2
            go_roundw
            case rel => exact ⟨k + 1, by go_num, by omega, H9.out, HB9.out⟩
            case measure => simp [intOf]; omega
          · obtain rfl : l.length = k := by omega
            have h0 : (rem l 0 l.length).length = 0 := by omega
            go_wp2_with fail
            refine (RDoneC HRD.out).mono ?_
            rintro e w7 ⟨rfl, rfl⟩
            rw [if_pos h0]
            clear h0 hrl
            go_wp2
            go_ret
            exact ⟨rfl, HB.out⟩
      case inr.inl =>
        have hzi : ¬ (0 : Int) < (l.length : Int) := by omega
        go_wp2_with fail
        refine (ReadE HEL.out (by rw [HEL.out]; omega) H5.out.2.1).mono ?_
        rintro e w6 ⟨r, G, rfl, hr, hG, H6, F6⟩
        clear t7 q7
        have HW5 := Lib.hid (fr0_below HB5.out F6.out (Nat.le_refl _))
        have hwr := HB5.out.size
        have hrr : w.heap.size ≤ r := by omega
        clear hr hG HB5 F6
        go_wp2
        go_loopw [10] (fun i wz => ∃ k : Nat, i = .int .i64 k ∧ k ≤ l.length ∧ Rd r G (rem l 0 k) wz ∧ Below w.heap.size w wz) (fun i _ => l.length - (intOf i).toNat)
        case atStart => exact ⟨0, rfl, by omega, by rw [HE5.out]; exact H6.out, HW5.out⟩
        case round =>
          obtain ⟨k, rfl, hk, hrd, hb⟩ := hrel
          have HRD := Lib.hid hrd
          have HB := Lib.hid hb
          clear hrd hb
          have hrl := rem_len l 0 k
          by_cases hgo : k < l.length
          · obtain ⟨ad, rfl, hbd, hcell⟩ := (HR.out.below HB.out).one (g := fun x => .int .u32 x) (fun _ => rfl) hgo
            obtain ⟨x0, x1⟩ := HI.out _ (List.getElem_mem hgo)
            have htk := take_of l[k] (ens (l.drop (k + 1))) (7 * l.length - 0 - 7 * k) (by omega)
            rw [← rem_eq l 0 k hgo] at htk
            have hfar : ∀ (W W' : World), w.heap.size ≤ W.heap.size → Fr1 r W W' → W.cell? (ad.add k) = some (.int .u32 l[k]) → W'.cell? (ad.add k) = some (.int .u32 l[k]) := fun W W' hs F h =>
              (F.cell (p := ad.add k) (by rw [block_of_add]; omega) (by rw [block_of_add]; omega)).trans h
            have hIR : InB (rem l 0 k) := ((ens_inB l).take_ _).drop_ _
            have hnx := rem_next l 0 k
            generalize l[k] = x at *
            obtain ⟨e1, e2, e3⟩ := htk
            obtain ⟨n1, n2, n3⟩ := nums_read x x0 x1
            have y1 : x / 65536 < 65536 := by omega
            have y0 : 0 ≤ x / 65536 := by omega
            have z0 : 0 ≤ x / 16777216 := by omega
            have z1 : x / 16777216 < 256 := by omega
            have HFAR := Lib.hid hfar
            have HIR := Lib.hid hIR
            have hrlt := HRD.out.lt
            have hws := HB.out.size
            have HN1 : Hid (num ((rem l 0 k).take 4) = x) := Lib.hid (by rw [e1]; exact n1)
            have HN2 : Hid (num (((rem l 0 k).drop 4).take 2) = x / 65536) := Lib.hid (by rw [e2]; exact n2)
            have HN3 : Hid (7 ≤ 7 * l.length - 0 - 7 * k → num (((rem l 0 k).drop 6).take 1) = x / 16777216) := Lib.hid (fun h => by rw [e3 h]; exact n3)
            have HNX := Lib.hid hnx
            have HRL := Lib.hid hrl
            clear hfar hIR e1 e2 e3 n1 n2 n3 hnx hrl
            go_wp2_with fail
            refine (RU32_is (m := (rem l 0 k).drop 4) (x := x) HRD.out (by rw [HRL.out]; omega) HIR.out HN1.out rfl).mono ?_
            rintro e w7 ⟨rfl, H7, F7⟩
            have c7 := HFAR.out _ _ hws F7.out hcell
            have HB7 := Lib.hid (fr1_below HB.out F7.out hrr (Nat.le_refl _))
            go_wp2_with fail
            refine (RU16_is (m := (rem l 0 k).drop 6) (x := x / 65536) H7.out (by rw [List.length_drop, HRL.out]; omega) (HIR.out.drop_ _) HN2.out (by rw [List.drop_drop])).mono ?_
            rintro e w8 ⟨rfl, H8, F8⟩
            have c8' := HFAR.out _ _ HB7.out.size F8.out c7
            have HB8 := Lib.hid (fr1_below HB7.out F8.out hrr (Nat.le_refl _))
            clear c7 hcell
            go_wp2_with fail
            refine (RU8_is (m := rem l 0 (k + 1)) (x := x / 16777216) H8.out (by rw [List.length_drop, HRL.out]; omega) (HIR.out.drop_ _) (HN3.out (by omega)) (by rw [List.drop_drop, ← HNX.out])).mono ?_
            rintro e w9 ⟨rfl, H9, F9⟩
            have c9 := HFAR.out _ _ HB8.out.size F9.out c8'
            have HB9 := Lib.hid (fr1_below HB8.out F9.out hrr (Nat.le_refl _))
            clear c8'
            go_wp2
            go_roundw
            case rel => exact ⟨k + 1, by go_num, by omega, H9.out, HB9.out⟩
            case measure => simp [intOf]; omega
          · obtain rfl : l.length = k := by omega
            have h0 : (rem l 0 l.length).length = 0 := by omega
            go_wp2_with fail
            refine (RDoneC HRD.out).mono ?_
            rintro e w7 ⟨rfl, rfl⟩
            rw [if_pos h0]
            clear h0 hrl
            go_wp2
            go_ret
            exact ⟨rfl, HB.out⟩
end Go.Proofs.YtfpjooekpjhbpaaDoor.K
