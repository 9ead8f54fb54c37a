/- The walk of OctetsJoins. -/
import Derived.Test.YtfpjooekpjhbpaaDoorPs
namespace Go.Proofs.YtfpjooekpjhbpaaDoor.K
open Go.RowKit
set_option linter.unusedVariables false
set_option linter.unusedSimpArgs false
attribute [local go_sem ↓] Go.wp_at_zero Go.wp_at_succ
theorem Join3 {X Y m : List Int} {At Ad : Option Addr} {ct cd bt bd : Nat} {w : World} (hT : RowOf c8 1 w w.heap.size At X ∧ ∀ ad, At = some ad → bt ≤ ad.block ∧ ad.block < w.heap.size) (hD : RowOf c8 1 w w.heap.size Ad Y ∧ ∀ ad, Ad = some ad → bd ≤ ad.block ∧ ad.block < w.heap.size) (hm : X ++ Y = m) (hl : m.length ≤ 140737488355328) :
    Calls Tryd.prog 13 #[.slice (some ⟨w.heap.size, 0, none⟩) 3 3] (w.alloc (.cells #[.slice At X.length ct, .slice none 0 0, .slice Ad Y.length cd] 26)) fun e w' => ∃ A' c', e = .returned (.slice A' m.length c') ∧ Hid (Made w.heap.size A' c' m w') ∧ Hid (Fr0 w w') := by
  have bel : Below w.heap.size w (w.alloc (.cells #[.slice At X.length ct, .slice none 0 0, .slice Ad Y.length cd] 26)) := (Below.refl _ w).alloc (Nat.le_refl _) _
  refine (JoinE (m := m) (ps := [(At, ct, X), (none, 0, []), (Ad, cd, Y)]) (by rw [← hm]; simp [flat]) hl (by simp) (row_vals (t := 26) (f := fun p => .slice p.1 p.2.2.length p.2.1) (fun _ => rfl) (Blk.new_at rfl) (by simp)) (fun ad e => by injection e with e; subst e; simp) ?_).mono ?_
  · intro p hp
    simp only [List.mem_cons, List.not_mem_nil, or_false] at hp
    rcases hp with rfl | rfl | rfl
    · exact ⟨(hT.1.below bel).more_ (by simp), fun ad e => by have := hT.2 ad e; simp; omega⟩
    · exact ⟨row_none, fun ad e => by cases e⟩
    · exact ⟨(hD.1.below bel).more_ (by simp), fun ad e => by have := hD.2 ad e; simp; omega⟩
  · rintro e w' ⟨A, c, rfl, H, F⟩
    exact ⟨A, c, rfl, Lib.hid (H.out.low (by simp)), Lib.hid (((Fr.refl (fun _ => False) w).alloc _).trans F.out (fun _ _ h => h))⟩
/-- A world with a new Writer. -/
abbrev nw (w : World) : World := w.alloc (.cells #[.slice none 0 0, .int .i64 0, .int .i8 0] 36)
theorem WOne {b B U : Nat} {v : Value} {l : List Int} {p : Part} {w : World} (hw : Wrt b v l w) (hp : RowOf c8 1 w U p.1 p.2.2 ∧ ∀ ad, p.1 = some ad → B ≤ ad.block ∧ ad.block < U) (hU : U ≤ w.heap.size) (hb : b < B ∨ U ≤ b) (hv : ∀ j, v.ownBlock = some j → j < B ∨ U ≤ j) (hlim : l.length + p.2.2.length ≤ 140737488355328) :
    Calls Tryd.prog 14 #[.pointer (some ⟨b, 0, none⟩), .slice (some ⟨w.heap.size, 0, none⟩) 1 1] (w.alloc (.cells #[.slice p.1 p.2.2.length p.2.1] 26)) fun e w' => e = .returned (.pointer (some ⟨b, 0, none⟩)) ∧ ∃ v', Hid (Wrt b v' (l ++ p.2.2) w') ∧ Hid (WFr b v v' w w') := by
  have bel : Below w.heap.size w (w.alloc (.cells #[.slice p.1 p.2.2.length p.2.1] 26)) := (Below.refl _ w).alloc (Nat.le_refl _) _
  have hfl : flat [p] = p.2.2 := by simp [flat]
  refine (WBytes_own (l := l) (ps := [p]) (B := w.heap.size + 1) (hw.alloc _) (by rw [hfl]; exact hlim) (by simp) (row_vals (t := 26) (f := fun p => .slice p.1 p.2.2.length p.2.1) (fun _ => rfl) (Blk.new_at rfl) (by omega)) (by simp) ?_ ?_).mono ?_
  · intro ad e
    injection e with e
    subst e
    have := hw.lt
    refine ⟨by simp, by simp; omega, fun e => ?_⟩
    have := hw.ltv _ e
    simp at this
  · intro q hq
    obtain rfl := List.mem_singleton.1 hq
    refine ⟨((hp.1.more_ hU).below bel).more_ (by omega), fun ad e => ?_⟩
    have := hp.2 ad e
    exact ⟨by simp; omega, by omega, fun e2 => by have := hv _ e2; omega⟩
  · rintro e w' ⟨rfl, v', H1, H2⟩
    rw [hfl] at H1
    exact ⟨rfl, v', H1, Lib.hid ⟨((Fr.refl (fun k => k = b ∨ v.ownBlock = some k) w).alloc _).trans H2.out.fr (fun _ _ h => h), fun j e => by
      rcases H2.out.row j e with h | h
      · exact .inl h
      · exact .inr (by simp at h; omega)⟩⟩
theorem Ps.nil (B U : Nat) (w : World) : Ps B U none [] w := ⟨row_none, (fun ad e => by cases e), fun p hp => by simp at hp⟩
set_option maxHeartbeats 8000000 in
set_option maxRecDepth 10000 in
theorem ojoins_walk (P : Option Addr) (pc : Nat) (qs : List Part) (at_ : Int) (w : World) (hin : In2 w.heap.size P qs w) (hq : qs.length ≤ 140737488351232) :
    Calls Tryd.prog 3 #[.slice P qs.length pc, .int .i64 at_] w fun e w' => e = .returned (.bool true) ∧ Below w.heap.size w w' := by
  have HIN := Lib.hid hin
  clear hin
  obtain ⟨mk, hmk, hbits⟩ := and_mask at_ 65535 (by omega)
  have hbits : bits .and .i64 at_ 65535 = (mk : Int) := hbits
  go_enter Tryd.func3, Tryd.ntmps3
  go_wp2_with fail
  refine (shown1_walk _).mono ?_
  rintro e w1 ⟨rfl, H1⟩
  have hs1 := H1.out.size
  go_wp2_with fail
  refine (parts1_walk (w := w1) ⟨(HIN.out.below H1.out).row.more_ hs1, fun p hp => ⟨((HIN.out.below H1.out).each p hp).1.more_ hs1, ((HIN.out.below H1.out).each p hp).2⟩⟩ (by omega)).mono ?_
  rintro e w2 ⟨v, ps, rfl, HO2, _, HB2⟩
  obtain ⟨Q, qc, rfl, hqc, hps⟩ := HO2.out.ps
  have HPS := Lib.hid hps
  have HW2 := Lib.hid (H1.out.trans (HB2.out.mono hs1))
  have hs2 := HB2.out.size
  have hfew := HO2.out.few
  have hcap : qc ≤ 9223372036854775807 := by
    rcases HO2.out.row.2 with ⟨hv, h0⟩ | ⟨g, cap, cur, hv, _, _, _, hm, _⟩
    · injection hv with _ _ h; omega
    · injection hv with _ _ h; unfold maxLen at hm; omega
  have hfl : (flat ps).length ≤ 250 := by have := flat_le (n := 50) (fun p hp => ((HO2.out.each p hp).2.1)); omega
  obtain ⟨N, hN⟩ : ∃ N, N = ps.length := ⟨_, rfl⟩
  have HN := Lib.hid hN.symm
  rw [← hN] at hqc hfew ⊢
  obtain ⟨p, hp⟩ : ∃ p : Nat, p = mk % (N + 1) := ⟨_, rfl⟩
  have hp1 : p ≤ N := by have := Nat.mod_lt mk (show 0 < N + 1 by omega); omega
  have hmod : (mk : Int) % ((N : Int) + 1) = (p : Int) := by rw [hp]; simp
  have hc1 := fun W => ycut_hi Q N qc p (by omega) W
  obtain ⟨Q2, hQ2⟩ : ∃ Q2, Q2 = (if qc = p then Q else Q.map (·.add p)) := ⟨_, rfl⟩
  have HPt := Lib.hid (HPS.out.take_ p)
  have HPd := Lib.hid (hQ2 ▸ HPS.out.drop_ (cap := qc) p (by rw [HN.out]; exact hqc) : Ps w1.heap.size w2.heap.size Q2 (ps.drop p) w2)
  obtain ⟨N2, hN2⟩ : ∃ N2, N2 = N - p := ⟨_, rfl⟩
  have hc2 := fun W => ycut_lo Q N qc p hp1 hqc hcap W
  rw [← hQ2, ← hN2] at hc2
  have HNt : Hid ((ps.take p).length = p) := Lib.hid (by rw [List.length_take, HN.out]; omega)
  have HNd : Hid ((ps.drop p).length = N2) := Lib.hid (by rw [List.length_drop, HN.out]; omega)
  clear hN hp hQ2 hN2 hps HO2
  go_wp2_with fail
  refine (PsJoin HN.out HPS.out (Nat.le_refl _) (by omega) (by have := HN.out; omega)).mono ?_
  rintro e w3 ⟨A3, c3, rfl, H3, F3⟩
  have HW3 := Lib.hid (fr0_below HW2.out F3.out (Nat.le_refl _))
  have hs3 := F3.out.size
  simp only [hmod]
  have tok1 : Hid True := Lib.hid trivial
  have HPt3 : Hid (Ps w1.heap.size w2.heap.size Q (ps.take p) w3.drew) := Lib.hid (HPt.out.fr0 F3.out (Nat.le_refl _)).drew
  have HPd3 : Hid (Ps w1.heap.size w2.heap.size Q2 (ps.drop p) w3.drew) := Lib.hid (HPd.out.fr0 F3.out (Nat.le_refl _)).drew
  have hft := flat_take_le ps p
  have hfd := flat_drop_le ps p
  have hnt := HNt.out
  have hnd := HNd.out
  have hbt : (ps.take p).length ≤ 140737488355328 := by omega
  have hbd : (ps.drop p).length ≤ 140737488355328 := by have := HN.out; rw [List.length_drop]; omega
  clear hnt hnd
  have hs3d : w2.heap.size ≤ w3.drew.heap.size := hs3
  have hlt : (flat (ps.take p)).length ≤ 140737488355328 := by omega
  have hld : (flat (ps.drop p)).length ≤ 140737488355328 := by omega
  go_wp2_with fail
  go_region_held (fun _ => True) (trivial) (first
    | (go_at_call 13; have _t := tok1; (with_reducible refine (PsJoin (Q := Q) HNt.out HPt3.out hs3d hlt hbt).mono ?_); rintro e w4 ⟨At, ct, rfl, HT, F4⟩; have tok2 := tok1; have HD4 := Lib.hid (HPd3.out.fr0 F4.out hs3); have hs24 : w2.heap.size ≤ w4.heap.size := Nat.le_trans hs3 F4.out.size; clear tok1)
    | (go_at_call 13; have _t := tok1; (with_reducible refine (PsJoin (Q := Q2) HNd.out HPd3.out hs3d hld hbd).mono ?_); rintro e w4 ⟨Ad, cd, rfl, HD, F4⟩; have tok2 := tok1; have HT4 := Lib.hid (HPt3.out.fr0 F4.out hs3); have hs24 : w2.heap.size ≤ w4.heap.size := Nat.le_trans hs3 F4.out.size; clear tok1)
    | (go_at_call 13; have _t := tok2; (with_reducible refine (PsJoin (Q := Q2) HNd.out HD4.out hs24 hld hbd).mono ?_); rintro e w5 ⟨Ad, cd, rfl, HD, F5⟩; have HT5 := Lib.hid ((HT.out.fr F5.out (fun _ _ h => h)).ps); have HD5 := Lib.hid HD.out.ps; have F35 : Hid (Fr0 w3 w5) := Lib.hid (F4.out.undrew.trans F5.out (fun _ _ h => h)); clear tok2)
    | (go_at_call 13; have _t := tok2; (with_reducible refine (PsJoin (Q := Q) HNt.out HT4.out hs24 hlt hbt).mono ?_); rintro e w5 ⟨At, ct, rfl, HT, F5⟩; have HD5 := Lib.hid ((HD.out.fr F5.out (fun _ _ h => h)).ps); have HT5 := Lib.hid HT.out.ps; have F35 : Hid (Fr0 w3 w5) := Lib.hid (F4.out.undrew.trans F5.out (fun _ _ h => h)); clear tok2)
    | (go_at_call 13; refine (Join3 HT5.out HD5.out (flat_split ps p) (by omega)).mono ?_; rintro e w6 ⟨Ab, cb, rfl, H6, F6⟩; have F36 : Hid (Fr0 w3 w6) := Lib.hid (F35.out.trans F6.out (fun _ _ h => h))))
  all_goals
    have hs36 := F36.out.size
    have hs56 := F6.out.size
    have hs35 := F35.out.size
    have HPS6 := Lib.hid ((HPS.out.fr0 F3.out (Nat.le_refl _)).fr0 F36.out hs3)
    have HA6 : Hid (Made w2.heap.size A3 c3 (flat ps) w6) := Lib.hid (H3.out.fr F36.out (fun _ _ h => h))
    have HA3 := Lib.hid (made_lt H3.out)
    have HRb := Lib.hid H6.out.ps
    have HW6 := Lib.hid (fr0_below HW3.out F36.out (Nat.le_refl _))
    have hw6 := HW6.out.size
    clear HPt3 HPd3 HT HD HT5 HD5 F4 F5 F6 F35 F36 H6 H3 F3 HW3 HPt HPd HNt HNd hft hfd hbt hbd hlt hld hc1 hc2 hbits hs24 hs3d
    go_wp2
    go_loopw [11] (fun i wr => ∃ (k : Nat) (v' : Value), i = .int .i64 k ∧ k ≤ N ∧ Wrt w6.heap.size v' (flat (ps.take k)) wr ∧ WFr w6.heap.size (.slice none 0 0) v' (nw w6) wr) (fun i _ => N - (intOf i).toNat)
    case atStart => exact ⟨0, _, rfl, by omega, wrt_new w6, WFr.refl _ _ _⟩
    case round =>
      obtain ⟨k, v1, rfl, hk, hw, hf⟩ := hrel
      have HWr := Lib.hid hw
      have HF := Lib.hid hf
      clear hw hf
      have HFR : Hid (Fr (fun j => j = w6.heap.size) w6 wr) := Lib.hid (((Fr.refl (fun j => j = w6.heap.size) w6).alloc _).trans HF.out.fr (fun j hj e => by
        rcases e with e | e
        · exact e
        · simp [Value.ownBlock] at e))
      have HPSr := Lib.hid (HPS6.out.fr HFR.out (by omega) (fun j _ hj e => by omega))
      have HV := Lib.hid (wfr_base HF.out (base_nil w6.heap.size) (by simp))
      have hsr := HFR.out.size
      by_cases hgo : k < N
      · have hlt : k < ps.length := by have := HN.out; omega
        obtain ⟨ad, rfl, hbd, hcell⟩ := HPSr.out.row.one (g := fun p => .slice p.1 p.2.2.length p.2.1) (fun _ => rfl) hlt
        have HP := Lib.hid (HPSr.out.each ps[k] (List.getElem_mem hlt))
        have HT := Lib.hid (flat_take ps k hlt)
        have hq2 := flat_take_le ps (k + 1)
        rw [HT.out, List.length_append] at hq2
        generalize ps[k] = q at *
        obtain ⟨qA, qcp, ql⟩ := q
        simp only at hcell HT hq2
        clear hlt
        go_wp2_with fail
        refine (WOne (p := (qA, qcp, ql)) HWr.out HP.out (by omega) (by omega) (fun j e => by have := HV.out j e; omega) (by show (flat (ps.take k)).length + ql.length ≤ _; omega)).mono ?_
        rintro e w7 ⟨rfl, v2, H7, F7⟩
        clear hq2
        go_wp2
        go_roundw
        case rel => exact ⟨k + 1, v2, by go_num, by omega, by rw [HT.out]; exact H7.out, HF.out.trans F7.out⟩
        case measure => simp [intOf]; omega
      · obtain rfl : N = k := by omega
        have HWr : Hid (Wrt w6.heap.size v1 (flat ps) wr) := Lib.hid (by have := HWr.out; rwa [List.take_of_length_le (by have := HN.out; omega)] at this)
        obtain ⟨L, hL⟩ : ∃ L, L = (flat ps).length := ⟨_, rfl⟩
        have HL := Lib.hid hL.symm
        have HA7 : Hid (wr.ownsRow w2.heap.size 5 1 (.slice A3 L c3) L (nums .u8 (flat ps))) := Lib.hid (by have := own_fr HA6.out.1 HFR.out (fun j e h => by have := HA6.out.1.lt j e; omega); rwa [HL.out] at this)
        have HRb7 := Lib.hid (row_fr HRb.out.1 HFR.out (fun ad e => by have := HRb.out.2 ad e; exact ⟨this.2, by omega⟩))
        have HW7 := Lib.hid (below_fr HW6.out HFR.out hw6 (fun j e => by omega))
        have HVb := Lib.hid HWr.out.ltv
        rw [← hL] at hfl ⊢
        clear hL hgo
        obtain ⟨w7, hw7⟩ : ∃ w7, w7 = wr := ⟨_, rfl⟩
        have HE := Lib.hid hw7
        clear hw7
        rw [← HE.out] at HWr HA7 HRb7 HW7 HPSr hsr HVb ⊢
        clear HFR HF HE
        go_wp2
        go_loopw [12] (fun i wr => ∃ (k : Nat) (xs : List Value), i = .int .i64 k ∧ k ≤ L ∧ wr.ownsRow w2.heap.size 5 1 (.slice A3 L c3) L xs ∧ Fr (fun j => (Value.slice A3 L c3).ownBlock = some j) w7 wr) (fun i _ => L - (intOf i).toNat)
        case atStart => exact ⟨0, _, rfl, by omega, HA7.out, Fr.refl _ _⟩
        case round =>
          obtain ⟨k, xs, rfl, hk, hx, hf⟩ := hrel
          by_cases hgo : k < L
          · obtain ⟨g, x, rfl, hbg, hlg, hcx, hfx, hst⟩ := own_put hx hgo
            have HF := Lib.hid hf
            have HST := Lib.hid hst
            clear hf hst hx
            go_wp2
            go_roundw
            case rel => exact ⟨k + 1, _, by go_num, by omega, HST.out _, HF.out.setCell (p := ⟨g, k, none⟩) (fun _ => rfl) _⟩
            case measure => simp [intOf]; omega
          · obtain rfl : L = k := by omega
            have HS : Hid (∀ j, (Value.slice A3 L c3).ownBlock = some j → w2.heap.size ≤ j ∧ j < w3.heap.size) := Lib.hid (fun j e => by
              cases A3 with
              | none => simp [Value.ownBlock] at e
              | some ad =>
                have h1 := HA3.out ad rfl
                have h2 : ad.block = j := Option.some.inj e
                omega)
            have HPS8 := Lib.hid (HPSr.out.fr hf (by omega) (fun j _ h2 e => by have := HS.out j e; omega))
            have HRb8 := Lib.hid (row_fr HRb7.out hf (fun ad e => by have := HRb.out.2 ad e; exact ⟨by omega, fun e2 => by have := HS.out _ e2; omega⟩))
            have HWr8 := Lib.hid (HWr.out.fr hf (fun e => by have := HS.out _ e; omega) (fun j e e2 => by have := HS.out _ e2; have := HV.out j e; omega))
            have HW8 := Lib.hid (below_fr HW7.out hf (by omega) (fun j e => by have := HS.out j e; omega))
            have hs8 := hf.size
            have HLt := Lib.hid HWr8.out.lt
            clear hf hx HA7 HRb7 HPSr hgo HS
            go_wp2
            go_loop [13, 14] (fun s i => ∃ k : Nat, k ≤ N ∧ i = .int .i64 k ∧ s = .string (strOfNums (flat (ps.take k)))) (fun _ i => N - (intOf i).toNat)
            case atStart => exact ⟨0, by omega, rfl, by rw [show flat (ps.take 0) = [] from rfl, str_nil]; rfl⟩
            case round =>
              obtain ⟨j, hj, rfl, rfl⟩ := hrel
              by_cases hgo : j < N
              · have hlt : j < ps.length := by have := HN.out; omega
                obtain ⟨ad, rfl, hbd, hcell⟩ := HPS8.out.row.one (g := fun p => .slice p.1 p.2.2.length p.2.1) (fun _ => rfl) hlt
                have hP := (HPS8.out.each ps[j] (List.getElem_mem hlt)).1
                have HT := Lib.hid (flat_take ps j hlt)
                have hq2 := flat_take_le ps (j + 1)
                rw [HT.out, List.length_append] at hq2
                have hll := HL.out
                generalize ps[j] = q at *
                obtain ⟨qA, qcp, ql⟩ := q
                simp only at hcell HT hq2 hP
                have s1 := str_row (c := qcp) hP
                have happ := str_append (flat (ps.take j)) ql
                have hss : (strOfNums (flat (ps.take j))).size + (strOfNums ql).size ≤ 9223372036854775807 := by rw [str_size, str_size]; omega
                clear hP hq2 hll hlt
                go_wp2
                go_round
                case rel => exact ⟨j + 1, by omega, by go_num, by rw [HT.out]⟩
                case measure => simp [intOf]; omega
              · obtain rfl : N = j := by omega
                have hft : flat (ps.take N) = flat ps := by rw [List.take_of_length_le (by have := HN.out; omega)]
                rw [hft]
                have hsz := (str_size (flat ps)).trans HL.out
                have s0 := str_n (c := cb) HL.out HRb8.out
                have hll : (flat ps).length ≤ 140737488355328 := by have := HL.out; omega
                have hnl : ps.length ≤ 140737488355328 := by have := HN.out; omega
                clear hft hgo
                go_wp2_with fail
                refine (WDoneE HL.out HWr8.out hll).mono ?_
                rintro e w9 ⟨A9, c9, rfl, H9, F9⟩
                have s1 := str_n (c := c9) HL.out H9.out.2.1
                have hs9 := F9.out.size
                have HPS9 := Lib.hid (HPS8.out.fr0 F9.out (by omega))
                have HW9 := Lib.hid (fr0_below HW8.out F9.out (Nat.le_refl _))
                go_wp2_with fail
                refine (PsJoin HN.out HPS9.out (by omega) hll hnl).mono ?_
                rintro e w10 ⟨A10, c10, rfl, H10, F10⟩
                have s2 := str_row (c := c10) H10.out.2.1
                have HW10 := Lib.hid (fr0_below HW9.out F10.out (Nat.le_refl _))
                go_wp2_with fail
                refine (JoinE (m := []) (ps := []) rfl (by simp) (by simp) row_none (fun ad e => by cases e) (fun p hp => by simp at hp)).mono ?_
                rintro e w11 ⟨A11, c11, rfl, H11, F11⟩
                have HW11 := Lib.hid (fr0_below HW10.out F11.out (Nat.le_refl _))
                go_wp2
                go_ret
                exact ⟨rfl, HW11.out⟩
end Go.Proofs.YtfpjooekpjhbpaaDoor.K
