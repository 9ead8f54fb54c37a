/- The walk of ResyncPortions. -/
import Derived.Test.YtkihoonjekccgaaDoorG9
import Derived.Deep.DrawnRows
import Derived.Deep.RegionHeld3
import Derived.Deep.RegionHeldLaw
namespace Go.Proofs.YtkihoonjekccgaaDoor.K
open Go.RowKit
set_option linter.unusedVariables false
set_option linter.unusedSimpArgs false
attribute [local go_sem] min2_min min_two
attribute [local go_sem ↓] Go.wp_at_zero Go.wp_at_succ
theorem feed_few : ∀ (l : List Int) (s : Ds), (feedD l s).2.length ≤ l.length := by
  intro l
  induction l with
  | nil => intro s; simp [feedD]
  | cons c l ih =>
    intro s
    have h := ih (stepD c s).1
    have h1 : (stepD c s).2.length ≤ 1 := by
      unfold stepD endD
      split
      · split
        · simp
        · split <;> simp
      · simp
    simp only [feedD, List.length_append, List.length_cons]
    omega
theorem OutF.to {B m : Nat} {v : Value} {xs : List Fx} {F : List Fp} {w : World} (h : OutF B v xs w) (hx : xs.map (·.1) = F) (hm : F.length = m) : ∃ A c, v = .slice A m c ∧ OutF B (.slice A m c) xs w := by
  obtain ⟨A, c, e, _⟩ := out_form h
  have : xs.length = m := by rw [← hm, ← hx, List.length_map]
  subst this
  subst e
  exact ⟨A, c, rfl, h⟩
theorem RightE {A : Option Addr} {c nb : Nat} {a k s q x : Int} {m : List Int} (hr : rightF ⟨a, k, s, q, x, m⟩ = true) (hn : m.length = nb) (w : World) : Calls Tryd.prog 16 #[.agg #[.int .u8 a, .int .u8 k, .int .u8 s, .int .u8 q, .int .u8 x, .slice A nb c]] w fun e w' => e = .returned (.int .i64 0) ∧ Hid (Below w.heap.size w w') := by
  subst hn
  have := RightFC ⟨a, k, s, q, x, m⟩ A c w
  rw [hr, if_pos rfl] at this
  exact this
set_option maxHeartbeats 4000000 in
set_option maxRecDepth 20000 in
theorem rport_walk (A : Option Addr) (c : Nat) (zs : List Int) (a1 : Int) (h0 : zs.length ≤ c) (hc : c ≤ 9223372036854775807) (w : World) (hT : Turns w) (hR : RowOf c8 1 w w.heap.size A zs) (ha : ∀ ad, A = some ad → ad.block < w.heap.size) (hi : InB zs) :
    Calls Tryd.prog 4 #[.slice A zs.length c, .int .i64 a1] w fun e w' => e = .returned (.bool true) ∧ Below w.heap.size w w' := by
  have HTB : Hid (∀ w' : World, Below w.heap.size w w' → Turns w') := Lib.hid (fun w' b => hT.below b hT.lt)
  have HT := Lib.hid hT
  obtain ⟨n, hn, hn1, hn2⟩ := min_nat zs.length 2000
  have hcut := fun W => bcut_hi A zs.length c n (by omega) W
  have hmin : min (zs.length : Int) 2000 = (n : Int) := hn
  obtain ⟨l, hl⟩ : ∃ l, l = zs.take n := ⟨_, rfl⟩
  have hln : l.length = n := by rw [hl, List.length_take]; omega
  have HLN := Lib.hid hln
  have HR := Lib.hid (hl ▸ hR.take_ n : RowOf c8 1 w w.heap.size A l)
  have HI := Lib.hid (hl ▸ hi.take_ n : InB l)
  have HA := Lib.hid ha
  obtain ⟨mk, hmk, hbits⟩ := and_mask a1 65535 (by omega)
  have hbits : bits .and .i64 a1 65535 = (mk : Int) := hbits
  obtain ⟨p, hp⟩ : ∃ p : Nat, p = mk % (n + 1) := ⟨_, rfl⟩
  have hpn : p ≤ n := by have := Nat.mod_lt mk (show n + 1 > 0 by omega); omega
  have hmod : (mk : Int) % ((n : Int) + 1) = (p : Int) := by rw [hp]; simp
  obtain ⟨A2, hA2⟩ : ∃ A2, A2 = (if c = p then A else A.map (·.add p)) := ⟨_, rfl⟩
  obtain ⟨M, hM⟩ : ∃ M, M = n - p := ⟨_, rfl⟩
  obtain ⟨C2, hC2⟩ : ∃ C2, C2 = c - p := ⟨_, rfl⟩
  have hcut1 := fun W => bcut_hi A n c p (by omega) W
  have hcut2 : ∀ W, (Instr.slice 32 (.slice A n c) (some (.int .i64 p)) none none).run Tryd.prog W = .ok (.slice A2 M C2) W := fun W => by
    rw [hA2, hM, hC2]; exact bcut_lo A n c p hpn (by omega) hc W
  have HD : Hid (∀ W : World, RowOf c8 1 W W.heap.size A l → RowOf c8 1 W W.heap.size A2 (l.drop p)) := Lib.hid (fun W h => by rw [hA2]; exact RowOf.drop_ (cap := c) h p (by omega))
  have HA2 : Hid (∀ ad, A2 = some ad → ad.block < w.heap.size) := Lib.hid (fun ad e => by
    rw [hA2] at e
    split at e
    · exact ha ad e
    · cases A with
      | none => cases e
      | some a => simp at e; subst e; rw [block_of_add]; exact ha a rfl)
  have HM : Hid ((l.drop p).length = M) := Lib.hid (by rw [List.length_drop]; omega)
  have HPL : Hid ((l.take p).length = p) := Lib.hid (by rw [List.length_take]; omega)
  obtain ⟨⟨S1, F1⟩, hF1⟩ : ∃ SF, feedD (l.take p) d0 = SF := ⟨_, rfl⟩
  obtain ⟨⟨S, F2⟩, hF2⟩ : ∃ SF, feedD (l.drop p) S1 = SF := ⟨_, rfl⟩
  have hF : feedD l d0 = (S, F1 ++ F2) := by
    have := feed_app (l.take p) (l.drop p) d0
    rw [List.take_append_drop, hF1] at this
    simp only at this
    rw [hF2] at this
    exact this
  have HF1 := Lib.hid hF1
  have HF2 := Lib.hid hF2
  obtain ⟨F, hFF⟩ : ∃ F, F1 ++ F2 = F := ⟨_, rfl⟩
  rw [hFF] at hF
  have HFF := Lib.hid hFF
  have HF := Lib.hid hF
  have hok1 := feed_ok (l.take p) d0_ok (by omega) (HI.out.take_ p)
  rw [hF1] at hok1
  have HOK1 := Lib.hid hok1
  have hok := feed_ok l d0_ok (by omega) HI.out
  rw [hF] at hok
  have HOK := Lib.hid hok
  have hfr := feed_right l d0_ok (by omega) HI.out
  rw [hF] at hfr
  have HFR := Lib.hid hfr
  have hfew := feed_few l d0
  rw [hF] at hfew
  simp only at hfew
  obtain ⟨m, hm⟩ : ∃ m, F.length = m := ⟨_, rfl⟩
  obtain ⟨m1, hm1⟩ : ∃ m, F1.length = m := ⟨_, rfl⟩
  obtain ⟨m2, hm2⟩ : ∃ m, F2.length = m := ⟨_, rfl⟩
  have hmm : m = m1 + m2 := by rw [← hm, ← hFF, List.length_append]; omega
  rw [hm, hln] at hfew
  have HMM := Lib.hid hmm
  have hm1' : m1 ≤ 2000 := by omega
  have hm2' : m2 ≤ 2000 := by omega
  clear hmm
  have HMF := Lib.hid hm
  have HM1 := Lib.hid hm1
  have HM2 := Lib.hid hm2
  have hM2' : M ≤ 2000 := by omega
  have HTK : Hid (p ≤ 2000) := Lib.hid (by omega)
  clear hT hR hi hl hn ha hln hp hA2 hM hC2 hF1 hF2 hF hFF hok1 hok hfr hm hm1 hm2 h0 hc hmk
  go_enter Tryd.func4, Tryd.ntmps4
  go_wp2_with fail
  refine Calls.mono (shown5_walk HT.out) ?_
  rintro e w1 ⟨rfl, H1⟩
  have hs1 := H1.out.size
  go_wp2_with fail
  simp only [hmod]
  obtain ⟨W3, hW3⟩ : ∃ W3, ((w1.alloc (.cells Tryd.zeroCells30 30)).alloc (.cells Tryd.zeroCells30 30)).alloc (.cells Tryd.zeroCells30 30) = W3 := ⟨_, rfl⟩
  have F3 : Hid (Fr0 w1 W3) := Lib.hid (hW3 ▸ (((Fr.refl (fun _ => False) w1).alloc _).alloc _).alloc _)
  have HX3 : Hid (DecB W3 w1.heap.size d0) := Lib.hid (hW3 ▸ ((dec_zero w1).fr (((Fr.refl (fun _ => False) _).alloc _).alloc _) (fun h => h)))
  have HY3 : Hid (DecB W3 (w1.heap.size + 1) d0) := Lib.hid (by
    have := (dec_zero (w1.alloc (.cells Tryd.zeroCells30 30))).fr ((Fr.refl (fun _ => False) _).alloc (.cells Tryd.zeroCells30 30)) (fun h => h)
    rw [hW3] at this
    simpa using this)
  have HZ3 : Hid (DecB W3 (w1.heap.size + 1 + 1) d0) := Lib.hid (by
    have := dec_zero ((w1.alloc (.cells Tryd.zeroCells30 30)).alloc (.cells Tryd.zeroCells30 30))
    rw [hW3] at this
    simpa using this)
  have hs3 : W3.heap.size = w1.heap.size + 3 := by rw [← hW3]; simp
  have B3 := Lib.hid (fr0_below H1.out F3.out (Nat.le_refl _))
  obtain ⟨g1, hg1⟩ : ∃ g, w1.heap.size = g := ⟨_, rfl⟩
  obtain ⟨g2, hg2⟩ : ∃ g, w1.heap.size + 1 = g := ⟨_, rfl⟩
  obtain ⟨g3, hg3⟩ : ∃ g, w1.heap.size + 1 + 1 = g := ⟨_, rfl⟩
  rw [hW3]
  rw [hg3] at HZ3 ⊢
  rw [hg2] at HY3 ⊢
  rw [hg1] at HX3 ⊢
  have hw1 : w.heap.size ≤ g1 := by omega
  have hw2 : g1 < g2 := by omega
  have hw3 : g2 < g3 := by omega
  have hw4 : g3 < W3.heap.size := by omega
  clear hW3 hg1 hg2 hg3 hs3 hs1 H1 F3 hmod hbits hmin hcut
  refine Calls.mono (FeedE (w := W3) (K := 0) HLN.out HF.out HMF.out HX3.out d0_ok (by decide) (HTB.out _ B3.out) HI.out (by omega) (HR.out.now B3.out) (fun ad e => by have := HA.out ad e; omega)) ?_
  rintro e w4 ⟨A4, c4, xs4, rfl, O4, X4, G4, F4⟩
  have hs4 := F4.out.size
  have B4 := Lib.hid (fr1_below B3.out F4.out hw1 (Nat.le_refl _))
  have HY4 := Lib.hid (HY3.out.fr F4.out (by omega))
  have HZ4 := Lib.hid (HZ3.out.fr F4.out (by omega))
  clear HX3 HY3 HZ3 B3 F4
  have b4d : Below w4.heap.size w4 w4.drew := (Below.refl _ w4).drew
  have B4d := Lib.hid (B4.out.trans (b4d.mono B4.out.size))
  have HY4d := Lib.hid (HY4.out.fr (Fr.of_below b4d) (fun h => h))
  have hs4d : w4.drew.heap.size = w4.heap.size := rfl
  have HR4d := Lib.hid ((HR.out.now B4d.out).take_ p)
  have tk1 : Hid True := Lib.hid trivial
  clear b4d
  go_wp2_with fail
  go_region_held_law (fun _ => True) (trivial) (first
    | (go_at_call 10; have _t := tk1; refine Calls.mono (FeedE (w := w4.drew) (K := 0) HPL.out HF1.out HM1.out HY4d.out d0_ok (by decide) (HTB.out _ B4d.out) (HI.out.take_ p) (by omega) HR4d.out (fun ad e => by have := HA.out ad e; omega)) ?_; rintro e w5 ⟨A5, c5, xs5, rfl, O5, X5, G5, F5⟩; have B5 := Lib.hid (fr1_below B4d.out F5.out (by omega) (Nat.le_refl _)); have hs5 := F5.out.size; have HR5 := Lib.hid (HD.out _ (HR.out.now B5.out)); clear _t tk1)
    | (go_at_call 10; refine Calls.mono (FeedE (w := w5) (K := 2000) HM.out HF2.out HM2.out G5.out (HOK1.out.mono (by have := HPL.out; have := HTK.out; omega)) (by decide) (HTB.out _ B5.out) (fun x hx => HI.out x (List.mem_of_mem_drop hx)) (by omega) HR5.out (fun ad e => by have := HA2.out ad e; omega)) ?_; rintro e w6 ⟨A6, c6, xs6, rfl, O6, X6, G6, F6⟩; have B6 := Lib.hid (fr1_below B5.out F6.out (by omega) (Nat.le_refl _)); have hs6 := F6.out.size; have O5' := Lib.hid (O5.out.fr F6.out (fun j hj _ e => by omega)); have L5 := Lib.hid O5.out.lt)
    | (refine stepR (c := cF) rfl _ _ _ rfl 35 (.agg #[.int .u8 0, .int .u8 0, .int .u8 0, .int .u8 0, .int .u8 0, .slice none 0 0]) 6 32 Tryd.underlying31 info_frame rfl (by omega) (by omega) (fun _ => rfl) (fun y u hu => by simp only [cF, List.mem_cons, List.not_mem_nil, or_false] at hu; rcases hu with rfl | rfl | rfl | rfl | rfl | rfl <;> rfl) w4.drew.heap.size w6.heap.size (.slice A5 m1 c5) xs5 xs6 A6 c6 rfl (by show Value.slice A6 m2 c6 = _; rw [O6.out.nilrow]) (O6.out.rowOf O6.out.nilrow) (O5'.out.row) (by omega) (by have := O5.out.nilrow; have := O6.out.nilrow; omega) ?_; intro v7 w7 h3 h4 h5; have O7 : Hid (OutF w4.drew.heap.size v7 (xs5 ++ xs6) w7) := Lib.hid (O5'.out.app O6.out hs5 L5.out h3 h4); have F7 : Hid (Fr (fun k => w4.heap.size ≤ k) w6 w7) := Lib.hid (h4.mono (fun j hj e => (O5'.out.row.lt j e).1)); clear h3 h4 h5))
  obtain ⟨A7, c7, rfl, o7⟩ := O7.out.to (F := F) (m := m) (by rw [List.map_append, X5.out, X6.out, HFF.out]) HMF.out
  have X7 : Hid ((xs5 ++ xs6).map (·.1) = F) := Lib.hid (by rw [List.map_append, X5.out, X6.out, HFF.out])
  obtain ⟨xs7, hxs7⟩ : ∃ xs, xs5 ++ xs6 = xs := ⟨_, rfl⟩
  rw [hxs7] at o7 X7
  have hs7 := F7.out.size
  have Q2 : Hid (Fr (fun k => w4.heap.size ≤ k ∨ k = g2) w4 w7) := Lib.hid (by
    have a5 : Fr (fun k => w4.heap.size ≤ k ∨ k = g2) w4 w5 := ((Fr.refl _ w4).drew).trans F5.out (fun j hj e => .inr e)
    exact (a5.trans F6.out (fun j hj e => .inr e)).trans F7.out (fun j hj e => .inl e))
  have B7 := Lib.hid (below_fr B4.out Q2.out B4.out.size (fun j e => by omega))
  have O1 := Lib.hid (O4.out.fr Q2.out (fun j hj hj2 e => by omega))
  have D1 := Lib.hid (G4.out.fr Q2.out (by omega))
  have D2 : Hid (DecB w7 g2 S) := Lib.hid (G6.out.fr F7.out (by omega))
  have O2 := Lib.hid o7
  have D3 := Lib.hid (HZ4.out.fr Q2.out (by omega))
  have hz7 : g3 < w7.heap.size := D3.out.lt
  have h1c : w4.heap.size ≤ w7.heap.size := Q2.out.size
  clear hxs7 o7 O7 O5 O5' O6 X5 X6 G5 G6 F5 F6 F7 B5 B6 L5 HR5 HR4d HY4d B4d HY4 HZ4 Q2 O4 G4 B4 hcut1 hcut2
  go_wp2
  go_loopw [11, 12] (fun v i wr => ∃ (k : Nat) (xs : List Fx), i = .int .i64 k ∧ k ≤ n ∧ OutF w7.heap.size v xs wr ∧ xs.map (·.1) = (feedD (l.take k) d0).2 ∧ DecB wr g3 (feedD (l.take k) d0).1 ∧ Fr1 g3 w7 wr) (fun _ i _ => n - (intOf i).toNat)
  case atStart => exact ⟨0, [], rfl, by omega, OutF.nil _ _, rfl, D3.out, Fr.refl _ _⟩
  case round =>
    obtain ⟨k, xs, rfl, hk, ho, hx, hd, hf⟩ := hrel
    have HO := Lib.hid ho
    have HX := Lib.hid hx
    have HD1 := Lib.hid hd
    have HFW := Lib.hid hf
    clear ho hx hd hf
    by_cases hgo : k < n
    · have hft := feed_take l d0 (k := k) (by rw [HLN.out]; exact hgo)
      have hok := feed_ok (l.take k) d0_ok (by omega) (HI.out.take_ k)
      have hxl : xs.length ≤ k := by
        have := feed_few (l.take k) d0
        rw [← HX.out, List.length_map, List.length_take] at this
        omega
      have hB := fr1_below B7.out HFW.out (by omega) (Nat.le_refl _)
      obtain ⟨ad, rfl, hbd, hcell⟩ := (HR.out.below hB).num (i := k) (by rw [HLN.out]; exact hgo)
      have hx0 : 0 ≤ l.getD k 0 ∧ l.getD k 0 < 256 := HI.out _ (by rw [List.getD_eq_getElem?_getD, List.getElem?_eq_getElem (by rw [HLN.out]; exact hgo)]; exact List.getElem_mem _)
      have HXC := Lib.hid hx0
      obtain ⟨⟨S0, F0⟩, hSF⟩ : ∃ SF, feedD (l.take k) d0 = SF := ⟨_, rfl⟩
      rw [hSF] at hft hok HX HD1
      simp only at hft hok HX HD1
      generalize l.getD k 0 = x at *
      obtain ⟨⟨S9, F9⟩, hSF9⟩ : ∃ SF, stepD x S0 = SF := ⟨_, rfl⟩
      rw [hSF9] at hft
      simp only at hft
      have HFT := Lib.hid hft
      have HST := Lib.hid ((feed_one x S0).trans hSF9)
      have hf9 : F9.length ≤ 1 := by
        have := feed_few [x] S0
        rw [feed_one, hSF9] at this
        exact this
      have h62 : S9.held.length ≤ 62 := by
        have := step_ok hok (by omega) hx0
        rw [hSF9] at this
        exact this.held
      have HOK0 := Lib.hid hok
      have hsr := HFW.out.size
      have hf1 : Fr0 wr (wr.alloc (.cells #[.int .u8 x] 5)) := (Fr.refl (fun _ => False) wr).alloc _
      have HR1 : Hid (RowOf c8 1 (wr.alloc (.cells #[.int .u8 x] 5)) (wr.alloc (.cells #[.int .u8 x] 5)).heap.size (some ⟨wr.heap.size, 0, none⟩) [x]) := Lib.hid (row_lit (l := [x]) (heap_alloc_new wr _) (by simp))
      have HD2 := Lib.hid (HD1.out.fr hf1 (fun h => h))
      have HO2 := Lib.hid (HO.out.fr hf1 (fun _ _ _ h => h))
      have HB2 := Lib.hid (fr0_below hB hf1 (Nat.le_refl _))
      have HF2' := Lib.hid (HFW.out.trans hf1 (fun _ _ h => h.elim))
      have hs2 : (wr.alloc (.cells #[.int .u8 x] 5)).heap.size = wr.heap.size + 1 := by simp
      obtain ⟨m9, hm9⟩ : ∃ m, F9.length = m := ⟨_, rfl⟩
      have HM9 := Lib.hid hm9
      rw [hm9] at hf9
      have H62 := Lib.hid h62
      clear hft hok hSF hSF9 hx0 hB hf1 hm9 h62 HO HD1 HFW
      go_wp2_with fail
      refine Calls.mono (FeedE (w := wr.alloc (.cells #[.int .u8 x] 5)) (K := 2000) rfl HST.out HM9.out HD2.out (HOK0.out.mono (by rw [List.length_take]; omega)) (by decide) (HTB.out _ HB2.out) (fun y hy => by obtain rfl := List.mem_singleton.1 hy; exact HXC.out) (by omega) HR1.out (fun ad e => by obtain rfl := Option.some.inj e; simp; omega)) ?_
      rintro e w8 ⟨A8, c8', xs8, rfl, O8, X8, G8, F8⟩
      have hs8 := F8.out.size
      have HO8 := Lib.hid (HO2.out.fr F8.out (fun j hj _ e => by omega))
      have HL8 := Lib.hid HO2.out.lt
      have HF8 := Lib.hid (HF2'.out.trans F8.out (fun _ _ h => h))
      have hx8 := O8.out.nilrow
      have HX8 := Lib.hid hx8
      clear HO2 F8 HF2' HB2 HD2 HR1 hx8
      have HROW := Lib.hid HO8.out.row
      have HRW8 := Lib.hid (O8.out.rowOf HX8.out)
      have HUG : Hid (¬ u11.ownBlock = some g3) := Lib.hid (fun e => by have := HO8.out.row.lt g3 e; omega)
      have HUB : Hid (∀ j, u11.ownBlock = some j → w7.heap.size ≤ j) := Lib.hid (fun j e => (HO8.out.row.lt j e).1)
      go_wp2_with (at_builtin; go_loud (refine appR (c := cF) rfl _ _ _ rfl 35 (.agg #[.int .u8 0, .int .u8 0, .int .u8 0, .int .u8 0, .int .u8 0, .slice none 0 0]) 6 32 Tryd.underlying31 info_frame rfl (by omega) (by omega) (fun _ => rfl) (fun y u hu => by simp only [cF, List.mem_cons, List.not_mem_nil, or_false] at hu; rcases hu with rfl | rfl | rfl | rfl | rfl | rfl <;> rfl) w7.heap.size w8.heap.size u11 xs xs8 A8 c8' rfl (by show Value.slice A8 m9 c8' = _; rw [HX8.out]) HRW8.out HROW.out (by omega) (by rw [HX8.out]; omega) ?_; intro v9 w9 h3' h4' h5'; have HO9 : Hid (OutF w7.heap.size v9 (xs ++ xs8) w9) := Lib.hid (HO8.out.app O8.out (by omega) HL8.out h3' h4'); have HF9 := Lib.hid (HF8.out.trans h4' (fun j hj e => by have := HUB.out j e; omega)); have HD9 := Lib.hid (G8.out.fr h4' HUG.out); clear h3' h4' h5'))
      obtain ⟨h9, hh9⟩ : ∃ h, S9.held.length = h := ⟨_, rfl⟩
      have hle9 : (h9 : Int) ≤ 62 := by have := H62.out; omega
      refine Calls.mono (heldE (n := h9) HD9.out hh9) ?_
      rintro e w' ⟨rfl, rfl⟩
      clear hh9
      go_wp2
      go_roundw
      case rel => exact ⟨k + 1, xs ++ xs8, by go_num, by omega, HO9.out, by rw [HFT.out, List.map_append, HX.out, X8.out], by rw [HFT.out]; exact HD9.out, HF9.out⟩
      case measure => simp [intOf]; omega
    · obtain rfl : k = n := by omega
      have htk : l.take k = l := by rw [← HLN.out, List.take_length]
      rw [htk, HF.out] at HX HD1
      obtain ⟨A9, c9, rfl, o9⟩ := HO.out.to HX.out HMF.out
      have hwr := HFW.out.size
      have O1' := Lib.hid (O1.out.fr HFW.out (fun j hj _ e => by omega))
      have O2' := Lib.hid (O2.out.fr HFW.out (fun j hj _ e => by omega))
      have O3 := Lib.hid o9
      have D1' := Lib.hid (D1.out.fr HFW.out (by omega))
      have D2' := Lib.hid (D2.out.fr HFW.out (by omega))
      have BR := Lib.hid (fr1_below B7.out HFW.out (by omega) (Nat.le_refl _))
      obtain ⟨w8, hw8⟩ : ∃ w8 : World, w8 = wr := ⟨_, rfl⟩
      subst hw8
      clear o9 HO HFW O1 O2 D1 D2 htk D3 B7
      go_wp2
      go_loopw [13] (fun i wr => ∃ (j : Nat), i = .int .i64 j ∧ j ≤ m ∧ Below w8.heap.size w8 wr) (fun i _ => m - (intOf i).toNat)
      case atStart => exact ⟨0, rfl, by omega, Below.refl _ _⟩
      case round =>
        obtain ⟨j, rfl, hj, hb⟩ := hrel
        have HBW := Lib.hid hb
        have hsw := hb.size
        clear hb
        by_cases hgo2 : j < m
        · have hjm : j < F.length := by rw [HMF.out]; exact hgo2
          obtain ⟨ad1, B1, b1, rfl, ha1, k1, M1⟩ := out_at O1'.out X4.out hjm
          obtain ⟨ad2, B2, b2, rfl, ha2, k2, M2⟩ := out_at O2'.out X7.out hjm
          obtain ⟨ad3, B3, b3, rfl, ha3, k3, M3⟩ := out_at O3.out HX.out hjm
          obtain ⟨hrt, _⟩ := HFR.out (F.getD j fr0) (by rw [List.getD_eq_getElem?_getD, List.getElem?_eq_getElem hjm]; exact List.getElem_mem _)
          obtain ⟨⟨fa, fk, fs, fq, fx, fm⟩, hf⟩ : ∃ f, F.getD j fr0 = f := ⟨_, rfl⟩
          rw [hf] at k1 k2 k3 M1 M2 M3 hrt
          obtain ⟨nb, hnb⟩ : ∃ nb, fm.length = nb := ⟨_, rfl⟩
          have HNB := Lib.hid hnb
          have HRT := Lib.hid hrt
          have r1 : Hid (∀ w', Below wr.heap.size wr w' → RowOf c8 1 w' w'.heap.size B1 fm) := Lib.hid (fun w' b => M1.2.1.now (HBW.out.trans (b.mono hsw)))
          have r2 : Hid (∀ w', Below wr.heap.size wr w' → RowOf c8 1 w' w'.heap.size B2 fm) := Lib.hid (fun w' b => M2.2.1.now (HBW.out.trans (b.mono hsw)))
          have r3 : Hid (∀ w', Below wr.heap.size wr w' → RowOf c8 1 w' w'.heap.size B3 fm) := Lib.hid (fun w' b => M3.2.1.now (HBW.out.trans (b.mono hsw)))
          have sNew : Hid (∀ w', Below wr.heap.size wr w' → (Below wr.heap.size wr w' ∧ (w'.cell? (ad1.add (j * 6)) = some (.int .u8 fa) ∧ w'.cell? ⟨(ad1.add (j * 6)).block, (ad1.add (j * 6)).off + 1, none⟩ = some (.int .u8 fk) ∧ w'.cell? ⟨(ad1.add (j * 6)).block, (ad1.add (j * 6)).off + 2, none⟩ = some (.int .u8 fs) ∧ w'.cell? ⟨(ad1.add (j * 6)).block, (ad1.add (j * 6)).off + 3, none⟩ = some (.int .u8 fq) ∧ w'.cell? ⟨(ad1.add (j * 6)).block, (ad1.add (j * 6)).off + 4, none⟩ = some (.int .u8 fx) ∧ w'.cell? ⟨(ad1.add (j * 6)).block, (ad1.add (j * 6)).off + 5, none⟩ = some (.slice B1 nb b1)) ∧ (w'.cell? (ad2.add (j * 6)) = some (.int .u8 fa) ∧ w'.cell? ⟨(ad2.add (j * 6)).block, (ad2.add (j * 6)).off + 1, none⟩ = some (.int .u8 fk) ∧ w'.cell? ⟨(ad2.add (j * 6)).block, (ad2.add (j * 6)).off + 2, none⟩ = some (.int .u8 fs) ∧ w'.cell? ⟨(ad2.add (j * 6)).block, (ad2.add (j * 6)).off + 3, none⟩ = some (.int .u8 fq) ∧ w'.cell? ⟨(ad2.add (j * 6)).block, (ad2.add (j * 6)).off + 4, none⟩ = some (.int .u8 fx) ∧ w'.cell? ⟨(ad2.add (j * 6)).block, (ad2.add (j * 6)).off + 5, none⟩ = some (.slice B2 nb b2)) ∧ (w'.cell? (ad3.add (j * 6)) = some (.int .u8 fa) ∧ w'.cell? ⟨(ad3.add (j * 6)).block, (ad3.add (j * 6)).off + 1, none⟩ = some (.int .u8 fk) ∧ w'.cell? ⟨(ad3.add (j * 6)).block, (ad3.add (j * 6)).off + 2, none⟩ = some (.int .u8 fs) ∧ w'.cell? ⟨(ad3.add (j * 6)).block, (ad3.add (j * 6)).off + 3, none⟩ = some (.int .u8 fq) ∧ w'.cell? ⟨(ad3.add (j * 6)).block, (ad3.add (j * 6)).off + 4, none⟩ = some (.int .u8 fx) ∧ w'.cell? ⟨(ad3.add (j * 6)).block, (ad3.add (j * 6)).off + 5, none⟩ = some (.slice B3 nb b3)))) := Lib.hid (fun w' b => by
            have e1 := k1.below (HBW.out.trans (b.mono hsw)) ha1
            have e2 := k2.below (HBW.out.trans (b.mono hsw)) ha2
            have e3 := k3.below (HBW.out.trans (b.mono hsw)) ha3
            subst hnb
            exact ⟨b, e1, e2, e3⟩)
          have eN := neqF fa fk fs fq fx (strOfNums fm)
          have bb : Hid (Below wr.heap.size wr wr.drew) := Lib.hid (Below.refl _ wr).drew
          clear k1 k2 k3 M1 M2 M3 hf hnb hrt ha1 ha2 ha3 hjm
          go_wp2_with fail
          go_region_held3 (fun w' => Below wr.heap.size wr w' ∧ (w'.cell? (ad1.add (j * 6)) = some (.int .u8 fa) ∧ w'.cell? ⟨(ad1.add (j * 6)).block, (ad1.add (j * 6)).off + 1, none⟩ = some (.int .u8 fk) ∧ w'.cell? ⟨(ad1.add (j * 6)).block, (ad1.add (j * 6)).off + 2, none⟩ = some (.int .u8 fs) ∧ w'.cell? ⟨(ad1.add (j * 6)).block, (ad1.add (j * 6)).off + 3, none⟩ = some (.int .u8 fq) ∧ w'.cell? ⟨(ad1.add (j * 6)).block, (ad1.add (j * 6)).off + 4, none⟩ = some (.int .u8 fx) ∧ w'.cell? ⟨(ad1.add (j * 6)).block, (ad1.add (j * 6)).off + 5, none⟩ = some (.slice B1 nb b1)) ∧ (w'.cell? (ad2.add (j * 6)) = some (.int .u8 fa) ∧ w'.cell? ⟨(ad2.add (j * 6)).block, (ad2.add (j * 6)).off + 1, none⟩ = some (.int .u8 fk) ∧ w'.cell? ⟨(ad2.add (j * 6)).block, (ad2.add (j * 6)).off + 2, none⟩ = some (.int .u8 fs) ∧ w'.cell? ⟨(ad2.add (j * 6)).block, (ad2.add (j * 6)).off + 3, none⟩ = some (.int .u8 fq) ∧ w'.cell? ⟨(ad2.add (j * 6)).block, (ad2.add (j * 6)).off + 4, none⟩ = some (.int .u8 fx) ∧ w'.cell? ⟨(ad2.add (j * 6)).block, (ad2.add (j * 6)).off + 5, none⟩ = some (.slice B2 nb b2)) ∧ (w'.cell? (ad3.add (j * 6)) = some (.int .u8 fa) ∧ w'.cell? ⟨(ad3.add (j * 6)).block, (ad3.add (j * 6)).off + 1, none⟩ = some (.int .u8 fk) ∧ w'.cell? ⟨(ad3.add (j * 6)).block, (ad3.add (j * 6)).off + 2, none⟩ = some (.int .u8 fs) ∧ w'.cell? ⟨(ad3.add (j * 6)).block, (ad3.add (j * 6)).off + 3, none⟩ = some (.int .u8 fq) ∧ w'.cell? ⟨(ad3.add (j * 6)).block, (ad3.add (j * 6)).off + 4, none⟩ = some (.int .u8 fx) ∧ w'.cell? ⟨(ad3.add (j * 6)).block, (ad3.add (j * 6)).off + 5, none⟩ = some (.slice B3 nb b3))) (exact sNew.out _ bb.out) ((first
            | (go_at_call 15; refine Calls.mono (OfC HNB.out _ (by first | exact r1.out _ (And.left (by assumption)) | exact r2.out _ (And.left (by assumption)) | exact r3.out _ (And.left (by assumption)))) ?_; rintro ee wq ⟨rfl, D⟩; have bo : Below wr.heap.size wr _ := And.left (by assumption); have bb : Hid (Below wr.heap.size wr wq) := Lib.hid (bo.trans (D.out.mono bo.size)); clear bo D)
            | (go_at_call 16; refine Calls.mono (RightE HRT.out HNB.out _) ?_; rintro ee wq ⟨rfl, D⟩; have bo : Below wr.heap.size wr _ := And.left (by assumption); have bb : Hid (Below wr.heap.size wr wq) := Lib.hid (bo.trans (D.out.mono bo.size)); clear bo D)))
          have HBQ := Lib.hid (HBW.out.trans (bb.out.mono hsw))
          rename_i hq
          clear hq
          go_wp2
          go_roundw
          case rel => exact ⟨j + 1, by go_num, by omega, HBQ.out⟩
          case measure => simp [intOf]; omega
        · obtain rfl : j = m := by omega
          obtain ⟨Sn, Sh, So⟩ := S
          obtain ⟨b0, b1, b2, b3, b4, b5, b6, b7, b8, b9, b10, b11, rfl⟩ := twelve D1'.out.len
          obtain ⟨hl, hhl⟩ : ∃ hl, Sh.length = hl := ⟨_, rfl⟩
          have HHL : Hid ((⟨[b0, b1, b2, b3, b4, b5, b6, b7, b8, b9, b10, b11], Sh, So⟩ : Ds).held.length = hl) := Lib.hid hhl
          have d1 : Hid (∀ w', Below wr.heap.size wr w' → DecB w' g1 ⟨[b0, b1, b2, b3, b4, b5, b6, b7, b8, b9, b10, b11], Sh, So⟩) := Lib.hid (fun w' b => D1'.out.fr (Fr.of_below (HBW.out.trans (b.mono hsw))) (fun h => h))
          have d2 : Hid (∀ w', Below wr.heap.size wr w' → DecB w' g2 ⟨[b0, b1, b2, b3, b4, b5, b6, b7, b8, b9, b10, b11], Sh, So⟩) := Lib.hid (fun w' b => D2'.out.fr (Fr.of_below (HBW.out.trans (b.mono hsw))) (fun h => h))
          have d3 : Hid (∀ w', Below wr.heap.size wr w' → DecB w' g3 ⟨[b0, b1, b2, b3, b4, b5, b6, b7, b8, b9, b10, b11], Sh, So⟩) := Lib.hid (fun w' b => HD1.out.fr (Fr.of_below (HBW.out.trans (b.mono hsw))) (fun h => h))
          have eN := eqlN b0 b1 b2 b3 b4 b5 b6 b7 b8 b9 b10 b11
          have bb : Hid (Below wr.heap.size wr wr.drew) := Lib.hid (Below.refl _ wr).drew
          have HBR := Lib.hid (BR.out.trans (HBW.out.mono BR.out.size))
          clear hhl HBW
          go_wp2_with fail
          go_region_held3 (fun w' => Below wr.heap.size wr w' ∧ True) (exact ⟨bb.out, trivial⟩) ((first
            | (go_at_call 13; refine Calls.mono (errC (by first | exact d1.out _ (And.left (by assumption)) | exact d2.out _ (And.left (by assumption)) | exact d3.out _ (And.left (by assumption)))) ?_; rintro ee wq ⟨rfl, D⟩; have bo : Below wr.heap.size wr _ := And.left (by assumption); have bb : Hid (Below wr.heap.size wr wq) := Lib.hid (bo.trans (D.out.mono bo.size)); clear bo D)
            | (go_at_call 14; refine Calls.mono (heldE (by first | exact d1.out _ (And.left (by assumption)) | exact d2.out _ (And.left (by assumption)) | exact d3.out _ (And.left (by assumption))) HHL.out) ?_; rintro ee wq ⟨rfl, rfl⟩)))
          have HBQ := Lib.hid (HBR.out.trans (bb.out.mono HBR.out.size))
          go_wp2
          go_ret
          exact ⟨rfl, HBQ.out⟩
end Go.Proofs.YtkihoonjekccgaaDoor.K
