/- The walk of OctetsReads. -/
import Derived.Test.YtfpjooekpjhbpaaDoorORd
namespace Go.Proofs.YtfpjooekpjhbpaaDoor.K
open Go.RowKit Rd1
set_option linter.unusedVariables false
set_option linter.unusedSimpArgs false
attribute [local go_sem] min2_min min_two
attribute [local go_sem ↓] Go.wp_at_zero Go.wp_at_succ
theorem rst_at {w : World} {B : Nat} {A : Option Addr} {l : List Rst} (h : RowOf Rst.c 2 w B A l) {i : Nat} (hi : i < l.length) :
    ∃ ad, A = some ad ∧ ad.block < B ∧ w.cell? (ad.add (i * 2)) = some (.int .i64 (l[i]).kind) ∧ w.cell? ⟨(ad.add (i * 2)).block, (ad.add (i * 2)).off + 1, none⟩ = some (.int .i64 (l[i]).n) := by
  obtain ⟨ad, rfl, hb, hc⟩ := h i (l[i]) (List.getElem?_eq_getElem hi)
  have k1 := hc 1 _ rfl
  rw [add_field ad (i * 2) _ (by omega)] at k1
  exact ⟨ad, rfl, hb, hc 0 _ rfl, k1⟩
/-- What the loop of OctetsReads holds. -/
structure RI (w : World) (r d : Nat) (G : Option Nat) (m : List Int) (wr : World) : Prop where
  rd : Rd r G m wr
  rf : RefRd d m wr
  im : InB m
  lm : m.length ≤ 200
  bel : Below w.heap.size w wr
theorem NumberX {t : List Int} {x : Int} {w : World} (hb : InB t) (h4 : t.length ≤ 4) (hx : num t = x) :
    Calls Tryd.prog 29 #[.string (strOfNums t)] w fun e w' => e = .returned (.int .u32 x) ∧ w' = w := by subst hx; exact NumberC t w hb h4
theorem done_facts (m : List Int) : ∃ (v : Int) (bz : Bool), (if m.length = 0 then (0 : Int) else 3) = v ∧ (v == 0) = bz ∧ (v == 3) = !bz ∧ (strOfNums m).toList.isEmpty = bz := by
  by_cases h : m.length = 0
  · obtain rfl := List.eq_nil_of_length_eq_zero h
    exact ⟨0, true, rfl, rfl, rfl, by rw [str_list]; rfl⟩
  · refine ⟨3, false, if_neg h, rfl, rfl, ?_⟩
    rw [str_list]
    cases m with
    | nil => simp at h
    | cons x m => rfl
set_option maxHeartbeats 16000000 in
set_option maxRecDepth 20000 in
theorem oreads_walk (A : Option Addr) (c : Nat) (zs : List Int) (hc : zs.length ≤ c) (D : Option Addr) (dc : Nat) (l : List Rst) (hd : l.length ≤ 140737488351232) (w : World) (h0 : RowOf c8 1 w w.heap.size A zs) (b0 : InB zs) (k0 : RowOf Rst.c 2 w w.heap.size D l) :
    Calls Tryd.prog 10 #[.slice A zs.length c, .slice D l.length dc] w fun e w' => e = .returned (.bool true) ∧ Below w.heap.size w w' := by
  obtain ⟨n, hn, hn1, hn2⟩ := min_nat zs.length 200
  have hcut := fun W => bcut_hi A zs.length c n (by omega) W
  obtain ⟨z, hz⟩ : ∃ z, z = zs.take n := ⟨_, rfl⟩
  have hln : n = z.length := by rw [hz, List.length_take]; omega
  subst hln
  have HR := Lib.hid (hz ▸ h0.take_ z.length : RowOf c8 1 w w.heap.size A z)
  have HI := Lib.hid (hz ▸ b0.take_ z.length : InB z)
  have K0 := Lib.hid k0
  clear h0 b0 hz hc k0
  have hmin : min (zs.length : Int) 200 = (z.length : Int) := hn
  clear hn
  go_enter Tryd.func10, Tryd.ntmps10
  go_wp2_with fail
  refine (shown1_walk _).mono ?_
  rintro e w1 ⟨rfl, H1⟩
  have hs1 := H1.out.size
  have HR1 := Lib.hid (HR.out.now H1.out)
  go_wp2_with (at_builtin; refine appR (c := c8) rfl _ _ _ rfl 5 (.int .u8 0) 1 1 Tryd.underlying26 info_u8 rfl (by omega) (by omega) (fun _ => rfl) (fun y u hu => by simp at hu; subst hu; rfl) w1.heap.size w1.heap.size _ [] z _ _ rfl rfl (RowOf.below HR1.out ((Below.refl _ w1).alloc (Nat.le_refl _) _)) (World.ownsRow_lit w1 #[] 0 (Nat.le_refl _) (by decide) rfl) (by simp) (by simp only [List.length_nil]; omega) ?_; intro v2 w2 h3 h4 h5; have F2 := Lib.hid (lit_fr h4 (fun k hk => Nat.le_of_eq (Option.some.inj hk))); have G2 := Lib.hid (made_of (B := w1.heap.size) (v := v2) (l := z) (by rw [nums_flat]; exact h3)); clear h3 h4 h5)
  obtain ⟨A2, c2, rfl, hm2⟩ := G2.out
  have HM2 := Lib.hid hm2
  have HB2 := Lib.hid (fr0_below H1.out F2.out (Nat.le_refl _))
  have hs2 := HB2.out.size
  clear hm2 G2 hcut hmin F2 HR1
  refine (ReadC (by omega) HM2.out.2.1).mono ?_
  rintro e w3 ⟨r, G, rfl, hr, hG, H3, F3⟩
  have s3 := str_row (c := c2) (HM2.out.2.1.below F3.out.below0)
  have HB3 := Lib.hid (fr0_below HB2.out F3.out (Nat.le_refl _))
  have HO3 := Lib.hid (own_fr HM2.out.1 F3.out (fun _ _ h => h))
  have HA2 := Lib.hid (made_lt HM2.out)
  have hlr := H3.out.lt
  have hGl := H3.out.ltG
  have hs3 := F3.out.size
  go_wp2
  obtain ⟨d, hd9⟩ : ∃ d, d = w3.heap.size := ⟨_, rfl⟩
  have HDE := Lib.hid hd9
  have hdw : w3.heap.size ≤ d := by omega
  obtain ⟨W4, hW4⟩ : ∃ W4, W4 = w3.alloc (Obj.cells #[Value.string (strOfNums z)] 73) := ⟨_, rfl⟩
  have HRD4 : Hid (Rd r G z W4) := Lib.hid (hW4 ▸ H3.out.fr0 ((Fr.refl (fun _ => False) w3).alloc _))
  have HRF4 : Hid (RefRd d z W4) := Lib.hid (hW4 ▸ hd9 ▸ Blk.new w3 73 _)
  have HO4 : Hid (W4.ownsRow w1.heap.size 5 1 (.slice A2 z.length c2) z.length (nums .u8 z)) := Lib.hid (hW4 ▸ HO3.out.alloc _)
  have HB4 : Hid (Below w.heap.size w W4) := Lib.hid (hW4 ▸ HB3.out.alloc (by omega) _)
  have HG := Lib.hid hG
  rw [← hW4, ← hd9]
  clear hW4 hd9 s3 hGl hG H3 F3 HB2 HB3 HM2 HO3
  go_loopw [9] (fun i wz => ∃ (k : Nat) (xs : List Value), i = .int .i64 k ∧ k ≤ z.length ∧ wz.ownsRow w1.heap.size 5 1 (.slice A2 z.length c2) z.length xs ∧ Fr (fun j => w1.heap.size ≤ j ∧ j < w2.heap.size) W4 wz) (fun i _ => z.length - (intOf i).toNat)
  case atStart => exact ⟨0, _, rfl, by omega, HO4.out, Fr.refl _ _⟩
  case round =>
    obtain ⟨k, xs, rfl, hk, hx, hf⟩ := hrel
    by_cases hgo : k < z.length
    · obtain ⟨g, x, rfl, hbg, hlg, hcx, hfx, hst⟩ := own_put hx hgo
      have HF := Lib.hid hf
      have HST := Lib.hid hst
      have hg2 := (HA2.out _ rfl).2
      clear hf hst hx
      go_wp2
      go_roundw
      case rel => exact ⟨k + 1, _, by go_num, by omega, HST.out _, HF.out.setCell (p := ⟨g, k, none⟩) (fun _ => ⟨hbg, hg2⟩) _⟩
      case measure => simp [intOf]; omega
    · have HIN : Hid (RI w r d G z wr) := Lib.hid ⟨HRD4.out.fr hf (by omega) (fun g e => by have := HG.out g e; omega), HRF4.out.fr hf (by omega), HI.out, hn2, below_fr HB4.out hf HB4.out.size (fun j e => by omega)⟩
      have hlow : w.heap.size ≤ r ∧ w.heap.size ≤ d := by omega
      clear hf hx HO4 HRD4 HRF4 HB4
      go_wp2
      go_loopw [10] (fun i wz => ∃ (k : Nat) (m : List Int), i = .int .i64 k ∧ k ≤ l.length ∧ RI w r d G m wz) (fun i _ => l.length - (intOf i).toNat)
      case atStart => exact ⟨0, z, rfl, by omega, HIN.out⟩
      case round =>
        obtain ⟨k, m, rfl, hk, hri⟩ := hrel
        obtain ⟨hrd, hrf, him, hlm, hbel⟩ := hri
        have HRD := Lib.hid hrd
        have HRF := Lib.hid hrf
        have HIM := Lib.hid him
        have HB := Lib.hid hbel
        have hne := rd_ne hrd hrf
        have HNE := Lib.hid hne.2
        have hdr : d ≠ r := hne.1
        have hltr := hrd.lt
        have HGL := Lib.hid hrd.ltG
        have hltd : d < wr.heap.size := Blk.lt hrf
        clear hrd hrf him hbel hne
        by_cases hgo : k < l.length ∧ k < 50
        · obtain ⟨hlt, h50⟩ := hgo
          have h50i : (k : Int) < 50 := by omega
          obtain ⟨ad, rfl, hbd, q0, q1⟩ := rst_at (K0.out.below HB.out) hlt
          generalize l[k] = q at *
          obtain ⟨kind, sn⟩ := q
          simp only at q0 q1
          have hwsz := HB.out.size
          obtain ⟨T, hT⟩ : ∃ T, T = wr.heap.size := ⟨_, rfl⟩
          have HT := Lib.hid hT
          have hrT : r < T := by omega
          have hdT : d < T := by omega
          have HGT : Hid (∀ g, G = some g → g < T) := Lib.hid (fun g e => by have := HGL.out g e; omega)
          have hwT : w.heap.size ≤ T := by omega
          clear hT
          rcases (by omega : kind = 1 ∨ kind = 2 ∨ kind = 3 ∨ kind = 4 ∨ kind = 5 ∨ (kind ≠ 1 ∧ kind ≠ 2 ∧ kind ≠ 3 ∧ kind ≠ 4 ∧ kind ≠ 5)) with rfl | rfl | rfl | rfl | rfl | ⟨n1, n2, n3, n4, n5⟩
          · obtain ⟨t, f, m', hu⟩ : ∃ t f m', bof 1 m = (t, f, m') := ⟨_, _, _, rfl⟩
            have hbb := bof_bound hu HIM.out
            have HU := Lib.hid hu
            have HUI : Hid (bofI 1 m = (t, f, m')) := Lib.hid (by unfold bofI; rw [if_neg (by decide)]; exact hu)
            have HIT := Lib.hid hbb.1
            have HIM' := Lib.hid hbb.2.1
            have ht4 : t.length ≤ 1 := hbb.2.2.1
            have hm' : m'.length ≤ 200 := by have := hbb.2.2.2.2; omega
            have hxb := num_lt (k := 1) HIT.out ht4
            rw [show (256 : Int) ^ 1 = 256 by decide] at hxb
            obtain ⟨hx0, hx1⟩ := hxb
            obtain ⟨x, hx⟩ : ∃ x, x = num t := ⟨_, rfl⟩
            have HX := Lib.hid hx.symm
            have C1 := Lib.hid (RU8A HRD.out HIM.out HU.out)
            rw [← hx] at C1 hx0 hx1
            clear hu hbb hx
            go_wp2_with fail
            (with_reducible refine C1.out.mono ?_)
            rintro e w5 ⟨rfl, H5, F5⟩
            have HB5 := Lib.hid (fr1_below HB.out F5.out hlow.1 (Nat.le_refl _))
            go_wp2_with fail
            refine (TakeI (n := 1) (HRF.out.fr F5.out hdr) HUI.out).mono ?_
            rintro e wt ⟨rfl, HRFt, F6⟩
            have HRDt := Lib.hid (H5.out.fr F6.out (Ne.symm hdr) HNE.out)
            have HBt := Lib.hid (fr1_below HB5.out F6.out hlow.2 (Nat.le_refl _))
            have hwt : wr.heap.size ≤ wt.heap.size := Nat.le_trans F5.out.size F6.out.size
            have HRW : Hid (Rw T none 0 0 wt) := Lib.hid Rw.nil
            obtain ⟨dv, bz, hdv, e0, e3, es⟩ := done_facts m'
            have HDV := Lib.hid hdv
            have hcd : wt.cell? ⟨d, 0, none⟩ = some (.string (strOfNums m')) := Blk.cell HRFt.out 0
            have hsz := str_size m'
            clear hdv
            go_wp2_with fail
            go_quiet ((first | (go_at_call 29; exact Calls.quiet_of_same (NumberX HIT.out (by omega) HX.out)) | (go_at_call 22; exact Calls.quiet_of_same (LeftC (HRDt.out.drewN _))) | (go_at_call 26; exact Calls.quiet_of_same (RDoneI (HRDt.out.drewN _) HDV.out))))
            have HRW2 : Hid (Rw T none 0 0 (wt.drewN nq)) := Lib.hid HRW.out
            clear e0 e3 es hcd hsz q0 q1
            go_wp2
            go_loopw [21] (fun i wz => ∃ j : Nat, i = .int .i64 j ∧ j ≤ 0 ∧ Rw T none 0 0 wz ∧ Fr (fun j => T ≤ j) wt wz) (fun i _ => 0 - (intOf i).toNat)
            case atStart => exact ⟨0, rfl, by omega, HRW2.out, (Fr.refl _ _).drewN _⟩
            case round =>
              obtain ⟨j, rfl, hj, hrw, hf⟩ := hrel
              by_cases hjo : j < 0
              · omega
              · have HF := Lib.hid hf
                clear hf hrw
                go_wp2
                go_roundw
                case rel => exact ⟨k + 1, m', by go_num, by omega, HRDt.out.fr HF.out (by omega) (fun g e => by have := HGT.out g e; omega), HRFt.out.fr HF.out (by omega), HIM'.out, hm', below_fr HBt.out HF.out HBt.out.size (fun j e => by omega)⟩
                case measure => simp [intOf]; omega
          · obtain ⟨t, f, m', hu⟩ : ∃ t f m', bof 2 m = (t, f, m') := ⟨_, _, _, rfl⟩
            have hbb := bof_bound hu HIM.out
            have HU := Lib.hid hu
            have HUI : Hid (bofI 2 m = (t, f, m')) := Lib.hid (by unfold bofI; rw [if_neg (by decide)]; exact hu)
            have HIT := Lib.hid hbb.1
            have HIM' := Lib.hid hbb.2.1
            have ht4 : t.length ≤ 2 := hbb.2.2.1
            have hm' : m'.length ≤ 200 := by have := hbb.2.2.2.2; omega
            have hxb := num_lt (k := 2) HIT.out ht4
            rw [show (256 : Int) ^ 2 = 65536 by decide] at hxb
            obtain ⟨hx0, hx1⟩ := hxb
            obtain ⟨x, hx⟩ : ∃ x, x = num t := ⟨_, rfl⟩
            have HX := Lib.hid hx.symm
            have C1 := Lib.hid (RU16A HRD.out HIM.out HU.out)
            rw [← hx] at C1 hx0 hx1
            clear hu hbb hx
            go_wp2_with fail
            (with_reducible refine C1.out.mono ?_)
            rintro e w5 ⟨rfl, H5, F5⟩
            have HB5 := Lib.hid (fr1_below HB.out F5.out hlow.1 (Nat.le_refl _))
            go_wp2_with fail
            refine (TakeI (n := 2) (HRF.out.fr F5.out hdr) HUI.out).mono ?_
            rintro e wt ⟨rfl, HRFt, F6⟩
            have HRDt := Lib.hid (H5.out.fr F6.out (Ne.symm hdr) HNE.out)
            have HBt := Lib.hid (fr1_below HB5.out F6.out hlow.2 (Nat.le_refl _))
            have hwt : wr.heap.size ≤ wt.heap.size := Nat.le_trans F5.out.size F6.out.size
            have HRW : Hid (Rw T none 0 0 wt) := Lib.hid Rw.nil
            obtain ⟨dv, bz, hdv, e0, e3, es⟩ := done_facts m'
            have HDV := Lib.hid hdv
            have hcd : wt.cell? ⟨d, 0, none⟩ = some (.string (strOfNums m')) := Blk.cell HRFt.out 0
            have hsz := str_size m'
            clear hdv
            go_wp2_with fail
            go_quiet ((first | (go_at_call 29; exact Calls.quiet_of_same (NumberX HIT.out (by omega) HX.out)) | (go_at_call 22; exact Calls.quiet_of_same (LeftC (HRDt.out.drewN _))) | (go_at_call 26; exact Calls.quiet_of_same (RDoneI (HRDt.out.drewN _) HDV.out))))
            have HRW2 : Hid (Rw T none 0 0 (wt.drewN nq)) := Lib.hid HRW.out
            clear e0 e3 es hcd hsz q0 q1
            go_wp2
            go_loopw [21] (fun i wz => ∃ j : Nat, i = .int .i64 j ∧ j ≤ 0 ∧ Rw T none 0 0 wz ∧ Fr (fun j => T ≤ j) wt wz) (fun i _ => 0 - (intOf i).toNat)
            case atStart => exact ⟨0, rfl, by omega, HRW2.out, (Fr.refl _ _).drewN _⟩
            case round =>
              obtain ⟨j, rfl, hj, hrw, hf⟩ := hrel
              by_cases hjo : j < 0
              · omega
              · have HF := Lib.hid hf
                clear hf hrw
                go_wp2
                go_roundw
                case rel => exact ⟨k + 1, m', by go_num, by omega, HRDt.out.fr HF.out (by omega) (fun g e => by have := HGT.out g e; omega), HRFt.out.fr HF.out (by omega), HIM'.out, hm', below_fr HBt.out HF.out HBt.out.size (fun j e => by omega)⟩
                case measure => simp [intOf]; omega
          · obtain ⟨t, f, m', hu⟩ : ∃ t f m', bof 4 m = (t, f, m') := ⟨_, _, _, rfl⟩
            have hbb := bof_bound hu HIM.out
            have HU := Lib.hid hu
            have HUI : Hid (bofI 4 m = (t, f, m')) := Lib.hid (by unfold bofI; rw [if_neg (by decide)]; exact hu)
            have HIT := Lib.hid hbb.1
            have HIM' := Lib.hid hbb.2.1
            have ht4 : t.length ≤ 4 := hbb.2.2.1
            have hm' : m'.length ≤ 200 := by have := hbb.2.2.2.2; omega
            have hxb := num_lt (k := 4) HIT.out ht4
            rw [show (256 : Int) ^ 4 = 4294967296 by decide] at hxb
            obtain ⟨hx0, hx1⟩ := hxb
            obtain ⟨x, hx⟩ : ∃ x, x = num t := ⟨_, rfl⟩
            have HX := Lib.hid hx.symm
            have C1 := Lib.hid (RU32A HRD.out HIM.out HU.out)
            rw [← hx] at C1 hx0 hx1
            clear hu hbb hx
            go_wp2_with fail
            (with_reducible refine C1.out.mono ?_)
            rintro e w5 ⟨rfl, H5, F5⟩
            have HB5 := Lib.hid (fr1_below HB.out F5.out hlow.1 (Nat.le_refl _))
            go_wp2_with fail
            refine (TakeI (n := 4) (HRF.out.fr F5.out hdr) HUI.out).mono ?_
            rintro e wt ⟨rfl, HRFt, F6⟩
            have HRDt := Lib.hid (H5.out.fr F6.out (Ne.symm hdr) HNE.out)
            have HBt := Lib.hid (fr1_below HB5.out F6.out hlow.2 (Nat.le_refl _))
            have hwt : wr.heap.size ≤ wt.heap.size := Nat.le_trans F5.out.size F6.out.size
            have HRW : Hid (Rw T none 0 0 wt) := Lib.hid Rw.nil
            obtain ⟨dv, bz, hdv, e0, e3, es⟩ := done_facts m'
            have HDV := Lib.hid hdv
            have hcd : wt.cell? ⟨d, 0, none⟩ = some (.string (strOfNums m')) := Blk.cell HRFt.out 0
            have hsz := str_size m'
            clear hdv
            go_wp2_with fail
            go_quiet ((first | (go_at_call 29; exact Calls.quiet_of_same (NumberX HIT.out (by omega) HX.out)) | (go_at_call 22; exact Calls.quiet_of_same (LeftC (HRDt.out.drewN _))) | (go_at_call 26; exact Calls.quiet_of_same (RDoneI (HRDt.out.drewN _) HDV.out))))
            have HRW2 : Hid (Rw T none 0 0 (wt.drewN nq)) := Lib.hid HRW.out
            clear e0 e3 es hcd hsz q0 q1
            go_wp2
            go_loopw [21] (fun i wz => ∃ j : Nat, i = .int .i64 j ∧ j ≤ 0 ∧ Rw T none 0 0 wz ∧ Fr (fun j => T ≤ j) wt wz) (fun i _ => 0 - (intOf i).toNat)
            case atStart => exact ⟨0, rfl, by omega, HRW2.out, (Fr.refl _ _).drewN _⟩
            case round =>
              obtain ⟨j, rfl, hj, hrw, hf⟩ := hrel
              by_cases hjo : j < 0
              · omega
              · have HF := Lib.hid hf
                clear hf hrw
                go_wp2
                go_roundw
                case rel => exact ⟨k + 1, m', by go_num, by omega, HRDt.out.fr HF.out (by omega) (fun g e => by have := HGT.out g e; omega), HRFt.out.fr HF.out (by omega), HIM'.out, hm', below_fr HBt.out HF.out HBt.out.size (fun j e => by omega)⟩
                case measure => simp [intOf]; omega
          · obtain ⟨t, f, m', hu⟩ : ∃ t f m', bofI sn m = (t, f, m') := ⟨_, _, _, rfl⟩
            have hbb := bofI_bound hu HIM.out
            have HU := Lib.hid hu
            have HIT := Lib.hid hbb.1
            have HIM' := Lib.hid hbb.2.1
            have ht4 : t.length ≤ 200 := by have := hbb.2.2.1; omega
            have hm' : m'.length ≤ 200 := by have := hbb.2.2.2; omega
            have hq1 := q1
            clear hu hbb
            go_wp2_with fail
            refine (RBytesI HRD.out hlm HU.out).mono ?_
            rintro e w5 ⟨PA, PC, rfl, HW5, HRO5, H5, F5⟩
            have HB5 := Lib.hid (fr1_below HB.out F5.out hlow.1 (Nat.le_refl _))
            have hq5 : w5.cell? ⟨(ad.add (k * 2)).block, (ad.add (k * 2)).off + 1, none⟩ = some (.int .i64 sn) := (F5.out.cell (p := ⟨(ad.add (k * 2)).block, (ad.add (k * 2)).off + 1, none⟩) (by show (ad.add (k * 2)).block < _; rw [block_of_add]; omega) (by show ¬ (ad.add (k * 2)).block = _; rw [block_of_add]; omega)).trans hq1
            go_wp2_with fail
            refine (TakeI (n := sn) (HRF.out.fr F5.out hdr) HU.out).mono ?_
            rintro e wt ⟨rfl, HRFt, F6⟩
            have HRDt := Lib.hid (H5.out.fr F6.out (Ne.symm hdr) HNE.out)
            have HBt := Lib.hid (fr1_below HB5.out F6.out hlow.2 (Nat.le_refl _))
            have hwt : wr.heap.size ≤ wt.heap.size := Nat.le_trans F5.out.size F6.out.size
            have HRW : Hid (Rw T PA t.length PC wt) := Lib.hid (by
              obtain ⟨xs, hx⟩ := HW5.out
              rw [← HT.out] at hx
              exact ⟨xs, own_fr hx F6.out (fun j e => by have := hx.lt j e; omega)⟩)
            have hpa : ∀ adp, PA = some adp → adp.block < w5.heap.size ∧ adp.block ≠ d := fun adp e => by
              obtain ⟨xs, hx⟩ := HW5.out
              subst e
              have := hx.lt adp.block rfl
              exact ⟨this.2, by omega⟩
            have HROt := Lib.hid (row_fr HRO5.out F6.out hpa)
            have s1 := fun n => str_row (c := PC) (HROt.out.drewN_ n)
            clear hpa hq1 hq5
            obtain ⟨dv, bz, hdv, e0, e3, es⟩ := done_facts m'
            have HDV := Lib.hid hdv
            have hcd : wt.cell? ⟨d, 0, none⟩ = some (.string (strOfNums m')) := Blk.cell HRFt.out 0
            have hsz := str_size m'
            clear hdv
            go_wp2_with fail
            go_quiet ((first | (go_at_call 22; exact Calls.quiet_of_same (LeftC (HRDt.out.drewN _))) | (go_at_call 26; exact Calls.quiet_of_same (RDoneI (HRDt.out.drewN _) HDV.out))))
            have HRW2 : Hid (Rw T PA t.length PC (wt.drewN nq)) := Lib.hid HRW.out
            clear e0 e3 es hcd hsz q0 q1 s1
            go_wp2
            go_loopw [21] (fun i wz => ∃ j : Nat, i = .int .i64 j ∧ j ≤ t.length ∧ Rw T PA t.length PC wz ∧ Fr (fun j => T ≤ j) wt wz) (fun i _ => t.length - (intOf i).toNat)
            case atStart => exact ⟨0, rfl, by omega, HRW2.out, (Fr.refl _ _).drewN _⟩
            case round =>
              obtain ⟨j, rfl, hj, hrw, hf⟩ := hrel
              by_cases hjo : j < t.length
              · obtain ⟨g, x9, hg0, hg1, hg2, hg3, hg4⟩ := hrw.put hjo
                subst hg0
                have HF := Lib.hid hf
                have HRW3 := Lib.hid hrw
                clear hf hrw
                go_wp2
                go_roundw
                case rel => exact ⟨j + 1, by go_num, by omega, HRW3.out.set_ _ _ _, HF.out.setCell (p := ⟨g, j, none⟩) (fun _ => hg1) _⟩
                case measure => simp [intOf]; omega
              · have HF := Lib.hid hf
                clear hf hrw
                go_wp2
                go_roundw
                case rel => exact ⟨k + 1, m', by go_num, by omega, HRDt.out.fr HF.out (by omega) (fun g e => by have := HGT.out g e; omega), HRFt.out.fr HF.out (by omega), HIM'.out, hm', below_fr HBt.out HF.out HBt.out.size (fun j e => by omega)⟩
                case measure => simp [intOf]; omega
          · have HIM' : Hid (InB []) := Lib.hid (fun x h => by simp at h)
            have hm' : ([] : List Int).length ≤ 200 := by simp
            have HU : Hid (bofI (m.length : Int) m = (m, 0, [])) := Lib.hid (by unfold bofI; rw [if_neg (by omega)]; unfold bof; rw [if_pos (by omega)]; simp)
            go_wp2_with fail
            refine (RRestC HRD.out (by omega)).mono ?_
            rintro e w5 ⟨rfl, HBk5, H5, F5⟩
            have HB5 := Lib.hid (fr1_below HB.out F5.out hlow.1 (Nat.le_refl _))
            have HRF5 := Lib.hid (HRF.out.fr F5.out hdr)
            have hcd5 : w5.cell? ⟨d, 0, none⟩ = some (.string (strOfNums m)) := Blk.cell HRF5.out 0
            have hszm := str_size m
            rw [← HT.out] at HBk5
            rw [← HT.out]
            go_wp2_with fail
            refine (TakeI (n := m.length) HRF5.out HU.out).mono ?_
            rintro e wt ⟨rfl, HRFt, F6⟩
            have HRDt := Lib.hid (H5.out.fr F6.out (Ne.symm hdr) HNE.out)
            have HBt := Lib.hid (fr1_below HB5.out F6.out hlow.2 (Nat.le_refl _))
            have hwt : wr.heap.size ≤ wt.heap.size := Nat.le_trans F5.out.size F6.out.size
            have HBkt := Lib.hid (HBk5.out.fr F6.out (by omega))
            have HRW : Hid (Rw T (some ⟨T, 0, none⟩) m.length m.length wt) := Lib.hid (own_of_blk HBkt.out (Nat.le_refl _) (by omega))
            have s1 := fun n => str_row (c := m.length) (row_blk (HBkt.out.drewN n) (HBkt.out.drewN n).lt)
            clear hcd5 hszm
            obtain ⟨dv, bz, hdv, e0, e3, es⟩ := done_facts []
            have HDV := Lib.hid hdv
            have hcd : wt.cell? ⟨d, 0, none⟩ = some (.string (strOfNums [])) := Blk.cell HRFt.out 0
            have hsz := str_size []
            clear hdv
            go_wp2_with fail
            go_quiet ((first | (go_at_call 22; exact Calls.quiet_of_same (LeftC (HRDt.out.drewN _))) | (go_at_call 26; exact Calls.quiet_of_same (RDoneI (HRDt.out.drewN _) HDV.out))))
            have HRW2 : Hid (Rw T (some ⟨T, 0, none⟩) m.length m.length (wt.drewN nq)) := Lib.hid HRW.out
            clear e0 e3 es hcd hsz q0 q1 s1
            go_wp2
            go_loopw [21] (fun i wz => ∃ j : Nat, i = .int .i64 j ∧ j ≤ m.length ∧ Rw T (some ⟨T, 0, none⟩) m.length m.length wz ∧ Fr (fun j => T ≤ j) wt wz) (fun i _ => m.length - (intOf i).toNat)
            case atStart => exact ⟨0, rfl, by omega, HRW2.out, (Fr.refl _ _).drewN _⟩
            case round =>
              obtain ⟨j, rfl, hj, hrw, hf⟩ := hrel
              by_cases hjo : j < m.length
              · obtain ⟨g, x9, hg0, hg1, hg2, hg3, hg4⟩ := hrw.put hjo
                injection hg0 with hg0
                injection hg0 with hg0 _ _
                subst hg0
                have HF := Lib.hid hf
                have HRW3 := Lib.hid hrw
                clear hf hrw
                go_wp2
                go_roundw
                case rel => exact ⟨j + 1, by go_num, by omega, HRW3.out.set_ _ _ _, HF.out.setCell (p := ⟨T, j, none⟩) (fun _ => hg1) _⟩
                case measure => simp [intOf]; omega
              · have HF := Lib.hid hf
                clear hf hrw
                go_wp2
                go_roundw
                case rel => exact ⟨k + 1, [], by go_num, by omega, HRDt.out.fr HF.out (by omega) (fun g e => by have := HGT.out g e; omega), HRFt.out.fr HF.out (by omega), HIM'.out, hm', below_fr HBt.out HF.out HBt.out.size (fun j e => by omega)⟩
                case measure => simp [intOf]; omega
          · have HIM' := HIM
            have hm' : m.length ≤ 200 := hlm
            have k1 : (kind == 1) = false := by simp [n1]
            have k2 : (kind == 2) = false := by simp [n2]
            have k3 : (kind == 3) = false := by simp [n3]
            have k4 : (kind == 4) = false := by simp [n4]
            have k5 : (kind == 5) = false := by simp [n5]
            obtain ⟨wt, hwt9⟩ : ∃ wt : World, wt = wr := ⟨_, rfl⟩
            have HRDt := HRD
            have HRFt := HRF
            have HBt := HB
            rw [← hwt9] at HRDt HRFt HBt q0 q1 ⊢
            have hwt : wr.heap.size ≤ wt.heap.size := by rw [hwt9]; exact Nat.le_refl _
            clear hwt9
            have HRW : Hid (Rw T none 0 0 wt) := Lib.hid Rw.nil
            have s1 : ∀ n, (convert 26 9 (.slice none 0 0)).run Tryd.prog (wt.drewN n) = .ok (.string ⟨#[]⟩) (wt.drewN n) := fun n => str_row (B := 0) (l := []) row_none
            obtain ⟨dv, bz, hdv, e0, e3, es⟩ := done_facts m
            have HDV := Lib.hid hdv
            have hcd : wt.cell? ⟨d, 0, none⟩ = some (.string (strOfNums m)) := Blk.cell HRFt.out 0
            have hsz := str_size m
            clear hdv
            go_wp2_with fail
            go_quiet ((first | (go_at_call 22; exact Calls.quiet_of_same (LeftC (HRDt.out.drewN _))) | (go_at_call 26; exact Calls.quiet_of_same (RDoneI (HRDt.out.drewN _) HDV.out))))
            have HRW2 : Hid (Rw T none 0 0 (wt.drewN nq)) := Lib.hid HRW.out
            clear e0 e3 es hcd hsz q0 q1 s1 k1 k2 k3 k4 k5
            go_wp2
            go_loopw [21] (fun i wz => ∃ j : Nat, i = .int .i64 j ∧ j ≤ 0 ∧ Rw T none 0 0 wz ∧ Fr (fun j => T ≤ j) wt wz) (fun i _ => 0 - (intOf i).toNat)
            case atStart => exact ⟨0, rfl, by omega, HRW2.out, (Fr.refl _ _).drewN _⟩
            case round =>
              obtain ⟨j, rfl, hj, hrw, hf⟩ := hrel
              by_cases hjo : j < 0
              · omega
              · have HF := Lib.hid hf
                clear hf hrw
                go_wp2
                go_roundw
                case rel => exact ⟨k + 1, m, by go_num, by omega, HRDt.out.fr HF.out (by omega) (fun g e => by have := HGT.out g e; omega), HRFt.out.fr HF.out (by omega), HIM'.out, hm', below_fr HBt.out HF.out HBt.out.size (fun j e => by omega)⟩
                case measure => simp [intOf]; omega
        · rcases (by omega : (¬ k < l.length) ∨ (k < l.length ∧ ¬ (k : Int) < 50)) with hlt | ⟨hlt, h50⟩
          all_goals
            have hcd : wr.drew.cell? ⟨d, 0, none⟩ = some (.string (strOfNums m)) := Blk.cell HRF.out 0
            go_wp2_with fail
            go_region_held (fun w' => w'.cell? ⟨d, 0, none⟩ = some (.string (strOfNums m))) (first | exact hcd | exact k5) ((go_at_call 24; refine (RRestC HRD.out.drew (by omega)).mono ?_; rintro e w5 ⟨rfl, HBk5, H5, F5⟩; have s1 : (convert 26 9 (.slice (some ⟨wr.heap.size, 0, none⟩) m.length m.length)).run Tryd.prog w5 = .ok (.string (strOfNums m)) w5 := str_row (row_blk HBk5.out HBk5.out.lt); have k5 : w5.cell? ⟨d, 0, none⟩ = some (.string (strOfNums m)) := (F5.out.cell (p := ⟨d, 0, none⟩) hltd hdr).trans hcd))
          all_goals
            go_wp2
            go_ret
            exact ⟨rfl, fr1_below (below_dr HB.out) F5.out hlow.1 (Nat.le_refl _)⟩
end Go.Proofs.YtfpjooekpjhbpaaDoor.K
