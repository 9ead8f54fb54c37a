/- The walk of ResyncThrough. -/
import Derived.Test.YtkihoonjekccgaaDoorG9
import Derived.Test.YtkihoonjekccgaaDoorG2
import Derived.Deep.DrawnRows
import Derived.Deep.RegionHeld3
import Derived.Deep.CutBlock
import Derived.Deep.DeepCutAuto
import Derived.Deep.Cut
namespace Go.Proofs.YtkihoonjekccgaaDoor.K
open Go.RowKit
set_option linter.unusedVariables false
set_option linter.unusedSimpArgs false
attribute [local go_sem] min2_min min_two
attribute [local go_sem ↓] Go.wp_at_zero Go.wp_at_succ
theorem feed_stuck : ∀ (m : List Int) (n : List Int), (∀ x ∈ m, x ≠ 126) → feedD m ⟨n, [], true⟩ = (⟨n, [], true⟩, []) := by
  intro m
  induction m with
  | nil => intro n _; rfl
  | cons c m ih =>
    intro n h
    have hs : stepD c ⟨n, [], true⟩ = (⟨n, [], true⟩, []) := by unfold stepD; rw [if_neg (h c (by simp))]; rfl
    simp only [feedD, hs, ih n (fun x hx => h x (by simp [hx])), List.append_nil]
theorem feed_fit : ∀ (m : List Int) (n h : List Int), (∀ x ∈ m, x ≠ 126) → h.length + m.length ≤ 62 → feedD m ⟨n, h, false⟩ = (⟨n, h ++ m, false⟩, []) := by
  intro m
  induction m with
  | nil => intro n h _ _; simp [feedD]
  | cons c m ih =>
    intro n h hm hl
    have hs : stepD c ⟨n, h, false⟩ = (⟨n, h ++ [c], false⟩, []) := by
      simp only [List.length_cons] at hl
      unfold stepD; rw [if_neg (hm c (by simp))]
      unfold takeD; rw [if_neg (by simp), if_neg (by simp only; omega)]
    simp only [List.length_cons] at hl
    simp only [feedD, hs, ih n (h ++ [c]) (fun x hx => hm x (by simp [hx])) (by simp; omega), List.append_nil, List.append_assoc, List.singleton_append]
theorem feed_over : ∀ (m : List Int) (n h : List Int), (∀ x ∈ m, x ≠ 126) → h.length ≤ 62 → 62 < h.length + m.length → feedD m ⟨n, h, false⟩ = (⟨inc n 10, [], true⟩, []) := by
  intro m
  induction m with
  | nil => intro n h _ h1 h2; simp at h2; omega
  | cons c m ih =>
    intro n h hm hl hlt
    simp only [List.length_cons] at hlt
    by_cases h62 : h.length = 62
    · have hs : stepD c ⟨n, h, false⟩ = (⟨inc n 10, [], true⟩, []) := by
        unfold stepD; rw [if_neg (hm c (by simp))]
        unfold takeD; rw [if_neg (by simp), if_pos h62]
      simp only [feedD, hs, feed_stuck m _ (fun x hx => hm x (by simp [hx])), List.append_nil]
    · have hs : stepD c ⟨n, h, false⟩ = (⟨n, h ++ [c], false⟩, []) := by
        unfold stepD; rw [if_neg (hm c (by simp))]
        unfold takeD; rw [if_neg (by simp), if_neg h62]
      simp only [feedD, hs, ih n (h ++ [c]) (fun x hx => hm x (by simp [hx])) (by simp; omega) (by simp; omega), List.append_nil]
theorem stf_no7 (l : List Int) : ∀ x ∈ stf l, x ≠ 126 := fun x hx => by
  obtain ⟨y, _, hy⟩ := List.mem_flatMap.1 hx
  unfold stf1 at hy
  split at hy
  · simp at hy; rcases hy with rfl | rfl <;> decide
  · split at hy
    · simp at hy; rcases hy with rfl | rfl <;> decide
    · simp at hy; subst hy; assumption
theorem feed_enc {f : Fp} (hf : f.ok) (hr : rightF f = true) (n : List Int) : feedD (encL f) ⟨n, [], false⟩ = (⟨n, [], false⟩, [f]) := by
  have h24 := (right_of hr).2.2.2.2.2.2
  have hl := (stf_len (innerL f)).2
  have hi := innerL_len f
  have h1 : feedD [126] ⟨n, [], false⟩ = (⟨n, [], false⟩, []) := by rw [feed_one]; simp [stepD, endD]
  have h2 := feed_fit (stf (innerL f)) n [] (stf_no7 _) (by simp; omega)
  have hne : stf (innerL f) ≠ [] := fun e => by have h0 := (stf_len (innerL f)).1; rw [e, List.length_nil] at h0; omega
  have h3 : feedD [126] ⟨n, stf (innerL f), false⟩ = (⟨n, [], false⟩, [f]) := by
    rw [feed_one]
    unfold stepD endD
    rw [if_pos rfl, if_neg hne, dec_enc hf hr, if_pos rfl]
  unfold encL
  rw [feed_app, h1]
  simp only
  rw [feed_app, h2]
  simp only [List.nil_append]
  rw [h3]
theorem feed_said {m : List Int} (hm : ∀ x ∈ m, x ≠ 126) {n : List Int} (hn : n.length = 12) (hd : (decL m).2 ≠ 0) :
    ∃ S n', feedD m ⟨n, [], false⟩ = (S, []) ∧ feedD [126] S = (⟨n', [], false⟩, []) ∧ n'.length = 12 ∧ sumI n' = sumI n + (if 0 < m.length then 1 else 0) := by
  by_cases hl : m.length ≤ 62
  · have h := feed_fit m n [] hm (by simpa using hl)
    rw [List.nil_append] at h
    by_cases h0 : m = []
    · subst h0
      exact ⟨_, n, h, by rw [feed_one]; simp [stepD, endD], hn, by simp⟩
    · have he := dec_err m
      refine ⟨_, inc n (decL m).2.toNat, h, ?_, by rw [inc_len]; exact hn, ?_⟩
      · rw [feed_one]; unfold stepD endD; rw [if_pos rfl, if_neg h0, if_neg hd]
      · rw [sumI_inc _ _ (by omega), if_pos (List.length_pos_iff.2 h0)]
  · have h := feed_over m n [] hm (by simp) (by simp; omega)
    exact ⟨_, inc n 10, h, by rw [feed_one]; simp [stepD, endD], by rw [inc_len]; exact hn, by rw [sumI_inc _ _ (by omega), if_pos (by omega)]⟩
theorem end_held (S : Ds) : ∃ n0 fs, feedD [126] S = (⟨n0, [], false⟩, fs) := by
  rw [feed_one]
  unfold stepD endD
  rw [if_pos rfl]
  split
  · exact ⟨_, _, rfl⟩
  · split
    · exact ⟨_, _, rfl⟩
    · exact ⟨_, _, rfl⟩
theorem sumI_take (l : List Int) (k : Nat) (h : k < l.length) : sumI (l.take (k + 1)) = sumI (l.take k) + l.getD k 0 := by
  rw [List.take_succ_eq_append_getElem h, sumI_app, List.getD_eq_getElem?_getD, List.getElem?_eq_getElem h]
  simp [sumI]
theorem sumI_bd {l : List Int} {K : Int} (h : ∀ x ∈ l, 0 ≤ x ∧ x ≤ K) : 0 ≤ sumI l ∧ sumI l ≤ K * l.length := by
  induction l with
  | nil => simp [sumI]
  | cons x l ih =>
    have h1 := ih (fun y hy => h y (by simp [hy]))
    have h2 := h x (by simp)
    have e : K * ((x :: l).length : Int) = K * (l.length : Int) + K := by
      rw [List.length_cons, Int.natCast_add, Int.mul_add]; simp
    simp only [sumI]
    rw [e]
    omega
/-- What is left of noise without its flags. -/
def unfl (l : List Int) : List Int := l.filter (fun x => x ≠ 126)
theorem unfl_take (l : List Int) (k : Nat) (h : k < l.length) : unfl (l.take (k + 1)) = unfl (l.take k) ++ (if l.getD k 0 = 126 then [] else [l.getD k 0]) := by
  unfold unfl
  rw [List.take_succ_eq_append_getElem h, List.filter_append, List.getD_eq_getElem?_getD, List.getElem?_eq_getElem h]
  simp only [Option.getD_some, List.filter_cons, List.filter_nil]
  by_cases e : l[k] = 126 <;> simp [e]
theorem unfl_no (l : List Int) : ∀ x ∈ unfl l, x ≠ 126 := fun x hx => by simpa [unfl] using (List.mem_filter.1 hx).2
theorem unfl_len (l : List Int) : (unfl l).length ≤ l.length := List.length_filter_le _ _
set_option maxHeartbeats 4000000 in
set_option maxRecDepth 20000 in
theorem rthrough_walk (A : Option Addr) (c : Nat) (zs : List Int) (h0 : zs.length ≤ c) (P : Option Addr) (pc : Nat) (fxs : List Fx) (M : Option Addr) (mc : Nat) (ms : List Int) (w : World) (hT : Turns w)
    (hR : RowOf c8 1 w w.heap.size A zs) (hi : InB zs) (hP : RowOf cF 6 w w.heap.size P fxs) (hF : ∀ x ∈ fxs, x.1.ok ∧ RowOf c8 1 w w.heap.size x.2.1 x.1.B) (hq : fxs.length ≤ 9223372036854775807) (hM : RowOf c8 1 w w.heap.size M ms) (hmi : InB ms) (hm : ms.length ≤ 9223372036854775807) :
    Calls Tryd.prog 5 #[.slice A zs.length c, .slice P fxs.length pc, .slice M ms.length mc] w fun e w' => e = .returned (.bool true) ∧ Below w.heap.size w w' := by
  have HTB : Hid (∀ w' : World, Below w.heap.size w w' → Turns w') := Lib.hid (fun w' b => hT.below b hT.lt)
  have HT := Lib.hid hT
  obtain ⟨n, hn, hn1, hn2⟩ := min_nat zs.length 2000
  have hcut := fun W => bcut_hi A zs.length c n (by omega) W
  have hmin : min (zs.length : Int) 2000 = (n : Int) := hn
  obtain ⟨l, hl⟩ : ∃ l, l = zs.take n := ⟨_, rfl⟩
  have hln : l.length = n := by rw [hl, List.length_take]; omega
  have HLN := Lib.hid hln
  have HR := Lib.hid (hl ▸ hR.take_ n : RowOf c8 1 w w.heap.size A l)
  have HI := Lib.hid (hl ▸ hi.take_ n : InB l)
  have HP := Lib.hid hP
  have HFX := Lib.hid hF
  have HMR := Lib.hid hM
  have HMI := Lib.hid hmi
  obtain ⟨⟨S1, F1⟩, hF1⟩ : ∃ SF, feedD l d0 = SF := ⟨_, rfl⟩
  obtain ⟨n0, F2, hF2⟩ := end_held S1
  have hok1 := feed_ok l d0_ok (by omega) HI.out
  rw [hF1, hln] at hok1
  have hok2 := feed_ok [126] hok1 (by omega) (inB_of (by decide))
  rw [hF2] at hok2
  have HOK1 := Lib.hid hok1
  have HOK2 := Lib.hid (hok2.mono (k' := 3000) (by simp; omega))
  have HF1 := Lib.hid hF1
  have HF2 := Lib.hid hF2
  obtain ⟨m1, hm1⟩ : ∃ m, F1.length = m := ⟨_, rfl⟩
  obtain ⟨m2, hm2⟩ : ∃ m, F2.length = m := ⟨_, rfl⟩
  have HM1 := Lib.hid hm1
  have HM2 := Lib.hid hm2
  clear hT hR hi hl hn hln hP hF hM hmi hF1 hF2 hok1 hok2 hm1 hm2 h0
  go_enter Tryd.func5, Tryd.ntmps5
  go_wp2_with fail
  refine Calls.mono (shown5_walk HT.out) ?_
  rintro e w1 ⟨rfl, H1⟩
  have hs1 := H1.out.size
  go_wp2_with fail
  obtain ⟨W3, hW3⟩ : ∃ W3, w1.alloc (.cells Tryd.zeroCells30 30) = W3 := ⟨_, rfl⟩
  have HX3 : Hid (DecB W3 w1.heap.size d0) := Lib.hid (hW3 ▸ dec_zero w1)
  have B3 : Hid (Below w.heap.size w W3) := Lib.hid (hW3 ▸ H1.out.alloc hs1 _)
  have hs3 : w1.heap.size < W3.heap.size := HX3.out.lt
  rw [hW3]
  clear hW3 H1 hcut hmin
  obtain ⟨g, hg⟩ : ∃ g, w1.heap.size = g := ⟨_, rfl⟩
  rw [hg] at HX3 hs1 hs3 ⊢
  clear hg
  refine Calls.mono (FeedB (w := W3) (K := 0) HLN.out HF1.out HM1.out HX3.out d0_ok (by decide) (HTB.out _ B3.out) HI.out (by omega) (HR.out.below B3.out) hs1) ?_
  rintro e w4 ⟨A4, c4, xs4, rfl, O4, X4, G4, F4⟩
  have hs4 := F4.out.size
  have B4 := Lib.hid (fr1_below B3.out F4.out hs1 (Nat.le_refl _))
  clear O4 X4 F4 HX3 B3
  have f4 : Fr0 w4 (w4.alloc (.cells #[.int .u8 126] 5)) := (Fr.refl (fun _ => False) w4).alloc _
  have G4' := Lib.hid (G4.out.fr f4 (fun h => h))
  have B4' := Lib.hid (fr0_below B4.out f4 (Nat.le_refl _))
  have R4 : Hid (RowOf c8 1 (w4.alloc (.cells #[.int .u8 126] 5)) (w4.alloc (.cells #[.int .u8 126] 5)).heap.size (some ⟨w4.heap.size, 0, none⟩) [126]) := Lib.hid (row_lit (l := [126]) (heap_alloc_new w4 _) (by simp))
  have hs4' : (w4.alloc (.cells #[.int .u8 126] 5)).heap.size = w4.heap.size + 1 := by simp
  clear f4 G4 B4
  go_wp2_with fail
  refine Calls.mono (FeedE (w := w4.alloc (.cells #[.int .u8 126] 5)) (K := 2000) rfl HF2.out HM2.out G4'.out (HOK1.out.mono (by omega)) (by decide) (HTB.out _ B4'.out) (inB_of (by decide)) (by decide) R4.out (fun ad e => by obtain rfl := Option.some.inj e; simp; omega)) ?_
  rintro e w5 ⟨A5, c5, xs5, rfl, O5, X5, G5, F5⟩
  have hs5 := F5.out.size
  have B5 := Lib.hid (fr1_below B4'.out F5.out hs1 (Nat.le_refl _))
  clear O5 X5 F5 G4' B4' R4
  go_wp2_with fail
  refine Calls.mono (heldE (n := 0) G5.out rfl) ?_
  rintro e w' ⟨rfl, rfl⟩
  have HG5 := Lib.hid (G5.out.fr ((Fr.refl (fun _ => False) w5).alloc (.cells #[] 5)) (fun h => h))
  have hu := unfl_take ms
  have HU := Lib.hid hu
  obtain ⟨sd, hsd⟩ : ∃ sd, unfl (ms.take 200) = sd := ⟨_, rfl⟩
  have HSD := Lib.hid hsd
  have hsdl : sd.length ≤ 200 := by have := unfl_len (ms.take 200); rw [hsd, List.length_take] at this; omega
  have HSN : Hid (∀ x ∈ sd, x ≠ 126) := Lib.hid (hsd ▸ unfl_no _)
  have HSI : Hid (InB sd) := Lib.hid (fun x hx => by rw [← hsd] at hx; exact HMI.out x (List.mem_of_mem_take (List.mem_filter.1 hx).1))
  clear hu hsd
  go_upto_block 0 with (fail)
  go_cut [9] (fun s9 wx => wx.ownsRow w5.heap.size 5 1 s9 sd.length (nums .u8 sd) ∧ Below w5.heap.size w5 wx)
  case first =>
    go_wp2_with fail
    go_loopw [9, 10] (fun v i wr => ∃ k : Nat, i = .int .i64 k ∧ k ≤ ms.length ∧ k ≤ 200 ∧ wr.ownsRow w5.heap.size 5 1 v (unfl (ms.take k)).length (nums .u8 (unfl (ms.take k))) ∧ Below w5.heap.size w5 wr) (fun _ i _ => 200 - (intOf i).toNat)
    case atStart => exact ⟨0, rfl, by omega, by omega, World.ownsRow_lit w5 #[] 0 (Nat.le_refl _) (by decide) rfl, (Below.refl _ w5).alloc (Nat.le_refl _) _⟩
    case round =>
      obtain ⟨k, rfl, hk, hk2, ho, hb⟩ := hrel
      have HO := Lib.hid ho
      have HB := Lib.hid hb
      have hsz := hb.size
      clear ho hb
      by_cases hgo : k < ms.length ∧ k < 200
      · obtain ⟨hlt, h200⟩ := hgo
        have HUK := Lib.hid (HU.out k hlt)
        obtain ⟨ad, rfl, _, hcell⟩ := ((HMR.out.below (B5.out.trans (HB.out.mono B5.out.size)))).num hlt
        have hul := unfl_len (ms.take k)
        rw [List.length_take] at hul
        generalize ms.getD k 0 = x at *
        by_cases h126 : x = 126
        · subst h126
          rw [if_pos rfl, List.append_nil] at HUK
          go_wp2
          go_roundw
          case rel => exact ⟨k + 1, by go_num, by omega, by omega, by rw [HUK.out]; exact HO.out, HB.out⟩
          case measure => simp [intOf]; omega
        · rw [if_neg h126] at HUK
          have hx1 : (x == 126) = false := by simpa using h126
          have hx2 : (x != 126) = true := by simpa using h126
          clear h126
          generalize unfl (ms.take k) = fl at *
          go_wp2_with (at_builtin; (refine app1 rfl _ _ _ rfl 5 (.int .u8 0) 1 1 Tryd.underlying32 info_u8 rfl (by omega) (by omega) w5.heap.size u9 fl.length (nums .u8 fl) [.int .u8 x] rfl rfl rfl (fun u hu => by obtain rfl := List.mem_singleton.1 hu; rfl) HO.out hsz (by omega) ?_; intro v3 w9 h3 h4 h5; have HO3 : Hid (w9.ownsRow w5.heap.size 5 1 v3 (unfl (ms.take (k + 1))).length (nums .u8 (unfl (ms.take (k + 1))))) := Lib.hid (by rw [HUK.out, List.length_append, nums_snoc]; exact h3); have HB3 : Hid (Below w5.heap.size w5 w9) := Lib.hid (below_fr HB.out h4 hsz (fun j e => (HO.out.lt j e).1)); clear h3 h4 h5))
          go_roundw
          case rel => exact ⟨k + 1, by go_num, by omega, by omega, HO3.out, HB3.out⟩
          case measure => simp [intOf]; omega
      · rcases (by omega : (¬ k < ms.length) ∨ (k < ms.length ∧ ¬ k < 200)) with hlt | ⟨hlt, h5⟩
        all_goals
          have e : unfl (ms.take k) = sd := by
            rw [← HSD.out]
            first
              | (rw [List.take_of_length_le (by omega), List.take_of_length_le (by omega)])
              | (rw [show k = 200 by omega])
          rw [e] at HO
          go_wp2
          go_meet
          exact ⟨HO.out, HB.out⟩
  case rest =>
    obtain ⟨hown, hb5⟩ := hcut
    obtain ⟨A6, c6, rfl, m6⟩ := made_of (B := w5.heap.size) (l := sd) hown
    obtain ⟨N, hN⟩ : ∃ N, sd.length = N := ⟨_, rfl⟩
    have HN := Lib.hid hN
    have M6 := Lib.hid m6
    have HB5 := Lib.hid hb5
    have hsc := hb5.size
    rw [hN] at hsdl
    rw [hN]
    have GC := Lib.hid (G5.out.fr (Fr.of_below hb5) (fun h => h))
    have BC := Lib.hid (B5.out.trans (hb5.mono B5.out.size))
    obtain ⟨a0, a1, a2, a3, a4, a5, a6, a7, a8, a9, a10, a11, rfl⟩ := twelve G5.out.len
    obtain ⟨sl, hsl⟩ : ∃ sl : List Int, [a0, a1, a2, a3, a4, a5, a6, a7, a8, a9, a10, a11] = sl := ⟨_, rfl⟩
    have HSL := Lib.hid hsl
    clear hown m6 hN hb5 hsl HG5
    go_wp2_with fail
    refine Calls.mono (errC GC.out) ?_
    rintro e w6 ⟨rfl, D6⟩
    go_upto_block 2 with (fail)
    obtain ⟨W7, hW7⟩ : ∃ W7, w6.alloc (.cells #[.int .i64 a0, .int .i64 a1, .int .i64 a2, .int .i64 a3, .int .i64 a4, .int .i64 a5, .int .i64 a6, .int .i64 a7, .int .i64 a8, .int .i64 a9, .int .i64 a10, .int .i64 a11] 25) = W7 := ⟨_, rfl⟩
    have F7 : Hid (Fr0 wc W7) := Lib.hid ((Fr.of_below D6.out).trans (hW7 ▸ (Fr.refl (fun _ => False) w6).alloc _) (fun _ _ h => h))
    have K7 : Hid (Blk W7 w6.heap.size 25 #[.int .i64 a0, .int .i64 a1, .int .i64 a2, .int .i64 a3, .int .i64 a4, .int .i64 a5, .int .i64 a6, .int .i64 a7, .int .i64 a8, .int .i64 a9, .int .i64 a10, .int .i64 a11]) := Lib.hid (hW7 ▸ Blk.new w6 _ _)
    have G7 := Lib.hid (HSL.out ▸ GC.out.fr F7.out (fun h => h))
    have B7 := Lib.hid (fr0_below BC.out F7.out (Nat.le_refl _))
    have M7 := Lib.hid (M6.out.fr F7.out (fun _ _ h => h))
    have hs6 := D6.out.size
    have hs7 := F7.out.size
    have HOK7 : Hid (DsOk 3000 ⟨sl, [], false⟩) := Lib.hid (HSL.out ▸ HOK2.out)
    rw [hW7]
    obtain ⟨gw, hgw⟩ : ∃ gw, w6.heap.size = gw := ⟨_, rfl⟩
    rw [hgw] at K7 hs6 ⊢
    have hk7 : gw < W7.heap.size := K7.out.lt
    clear hW7 D6 hgw M6 GC BC F7 G5 HB5
    go_cut [13] (fun s13 wx => ∃ (bt : Nat) (nk : List Int), s13 = .int .i64 bt ∧ bt ≤ 10 ∧ DecB wx g ⟨nk, [], false⟩ ∧ sumI nk = sumI sl + (bt : Int) ∧ (∀ x ∈ nk, 0 ≤ x ∧ x ≤ 20000) ∧ Fr1 g W7 wx)
    case first =>
      go_wp2_with fail
      go_loopw [12, 13, 14] (fun cv bv i wr => ∃ (k cn bt : Nat) (nk : List Int), i = .int .i64 k ∧ cv = .int .i64 cn ∧ bv = .int .i64 bt ∧ k ≤ fxs.length ∧ k ≤ 10 ∧ cn ≤ k ∧ bt ≤ k ∧ DecB wr g ⟨nk, [], false⟩ ∧ DsOk (3000 + 1000 * (k : Int)) ⟨nk, [], false⟩ ∧ sumI nk = sumI sl + (bt : Int) ∧ Fr1 g W7 wr) (fun _ _ i _ => 10 - (intOf i).toNat)
      case atStart => exact ⟨0, 0, 0, sl, rfl, rfl, rfl, by omega, by omega, by omega, by omega, G7.out, HOK7.out, by simp, Fr.refl _ _⟩
      case round =>
        obtain ⟨k, cn, bt, nk, rfl, rfl, rfl, hk, hk2, hcn, hbt, hd, hok, hsum, hf⟩ := hrel
        have HD := Lib.hid hd
        have HOK := Lib.hid hok
        have HSUM := Lib.hid hsum
        have HF := Lib.hid hf
        have hsr := hf.size
        have hgr : g < wr.heap.size := hd.lt
        have HBr := Lib.hid (fr1_below B7.out hf hs1 (Nat.le_refl _))
        clear hd hok hsum hf
        by_cases hgo : k < fxs.length ∧ k < 10
        · obtain ⟨hlt, h10⟩ := hgo
          obtain ⟨ad, rfl, hbd, hc⟩ := fx_at (HP.out.below HBr.out) hlt
          obtain ⟨hfo, hfr⟩ := HFX.out _ (List.getElem_mem hlt)
          generalize fxs[k] = fxx at *
          obtain ⟨⟨fa, fk, fs, fq, fx, fm⟩, fA, fc⟩ := fxx
          simp only at hfo hfr
          obtain ⟨nb, hnb⟩ : ∃ nb, fm.length = nb := ⟨_, rfl⟩
          have HC := Lib.hid hc
          unfold FxC at hc
          simp only [hnb] at hc
          obtain ⟨q0, q1, q2, q3, q4, q5⟩ := hc
          have HNB := Lib.hid hnb
          have HFO := Lib.hid hfo
          have HFR := Lib.hid hfr
          clear hnb hfo hfr
          go_wp2_with fail
          clear q0 q1 q2 q3 q4 q5
          cases hr : rightF ⟨fa, fk, fs, fq, fx, fm⟩ with
          | false =>
            refine Calls.mono (EncodeN hr HNB.out wr) ?_
            rintro e w2 ⟨rfl, D2⟩
            have HD2 := Lib.hid (HD.out.fr (Fr.of_below D2.out) (fun h => h))
            have HF2' := Lib.hid (HF.out.trans (Fr.of_below D2.out) (fun _ _ h => h.elim))
            have HOK' := Lib.hid (HOK.out.mono (k' := 3000 + 1000 * ((k + 1 : Nat) : Int)) (by omega))
            clear hr D2
            go_wp2
            go_roundw
            case rel => exact ⟨k + 1, cn, bt, nk, by go_num, rfl, rfl, by omega, by omega, by omega, by omega, HD2.out, HOK'.out, HSUM.out, HF2'.out⟩
            case measure => simp [intOf]; omega
          | true =>
            obtain ⟨L, hL⟩ : ∃ L, encL ⟨fa, fk, fs, fq, fx, fm⟩ = L := ⟨_, rfl⟩
            have hle := encL_le hr
            have hLI := encL_inB HFO.out hr
            have hfe := feed_enc HFO.out hr nk
            rw [hL] at hle hLI hfe
            have HLI := Lib.hid hLI
            have HFE := Lib.hid hfe
            obtain ⟨Ln, hLn⟩ : ∃ n, L.length = n := ⟨_, rfl⟩
            rw [hLn] at hle
            have HLn := Lib.hid hLn
            have hEA : encA ⟨fa, fk, fs, fq, fx, fm⟩ = (L, 0) := by unfold encA; rw [hr, if_pos rfl, hL]
            refine Calls.mono (EncodeW HFO.out hEA HNB.out hLn wr (HTB.out _ HBr.out) ((HFR.out.below HBr.out).more_ (by have := HBr.out.size; omega))) ?_
            rintro e w2 ⟨A2, c2, rfl, M2, D2⟩
            have hs2 := D2.out.size
            have HD2 := Lib.hid (HD.out.fr (Fr.of_below D2.out) (fun h => h))
            have HB2 := Lib.hid (HBr.out.trans (D2.out.mono HBr.out.size))
            clear hr hL hLI hfe hLn hEA
            go_wp2_with fail
            refine Calls.mono (FeedE (w := w2) (K := 20000) (m := 1) HLn.out HFE.out rfl HD2.out (HOK.out.mono (by omega)) (by decide) (HTB.out _ HB2.out) HLI.out (by omega) M2.out.2.1 (fun ad e => by have := made_lt M2.out ad e; omega)) ?_
            rintro e w3 ⟨A3, c3, xs3, rfl, O3, X3, G3, F3⟩
            have hs3' := F3.out.size
            obtain ⟨gb, B1, b1, rfl, hgb, hgl, p0, p1, p2, p3, p4, p5, MB⟩ := out_one O3.out X3.out
            simp only [HNB.out] at p0 p1 p2 p3 p4 p5
            have HB3 := Lib.hid (fr1_below HB2.out F3.out hs1 (Nat.le_refl _))
            have hb23 : Below w.heap.size wr w3 := fr1_below (D2.out.mono HBr.out.size) F3.out hs1 HBr.out.size
            have hc3 := HC.out.below hb23 hbd
            unfold FxC at hc3
            simp only [HNB.out] at hc3
            have HC3 := Lib.hid hc3
            have HF3 := Lib.hid ((HF.out.trans (Fr.of_below D2.out) (fun _ _ h => h.elim)).trans F3.out (fun _ _ h => h))
            have r1 : Hid (∀ w', Below w3.heap.size w3 w' → RowOf c8 1 w' w'.heap.size B1 fm) := Lib.hid (fun w' b => MB.2.1.now b)
            have r2 : Hid (∀ w', Below w3.heap.size w3 w' → RowOf c8 1 w' w'.heap.size fA fm) := Lib.hid (fun w' b => (HFR.out.below (HB3.out.trans (b.mono HB3.out.size))).more_ (Nat.le_trans HB3.out.size b.size))
            have d1 : Hid (∀ w', Below w3.heap.size w3 w' → DecB w' g ⟨nk, [], false⟩) := Lib.hid (fun w' b => G3.out.fr (Fr.of_below b) (fun h => h))
            have P3 := Lib.hid (And.intro p0 (And.intro p1 (And.intro p2 (And.intro p3 (And.intro p4 p5)))))
            have sNew : Hid (∀ w', Below w3.heap.size w3 w' → (Below w3.heap.size w3 w' ∧ (w'.cell? ⟨gb, 0, none⟩ = some (.int .u8 fa) ∧ w'.cell? ⟨gb, 1, none⟩ = some (.int .u8 fk) ∧ w'.cell? ⟨gb, 2, none⟩ = some (.int .u8 fs) ∧ w'.cell? ⟨gb, 3, none⟩ = some (.int .u8 fq) ∧ w'.cell? ⟨gb, 4, none⟩ = some (.int .u8 fx) ∧ w'.cell? ⟨gb, 5, none⟩ = some (.slice B1 nb b1)) ∧ (w'.cell? (ad.add (k * 6)) = some (.int .u8 fa) ∧ w'.cell? ⟨(ad.add (k * 6)).block, (ad.add (k * 6)).off + 1, none⟩ = some (.int .u8 fk) ∧ w'.cell? ⟨(ad.add (k * 6)).block, (ad.add (k * 6)).off + 2, none⟩ = some (.int .u8 fs) ∧ w'.cell? ⟨(ad.add (k * 6)).block, (ad.add (k * 6)).off + 3, none⟩ = some (.int .u8 fq) ∧ w'.cell? ⟨(ad.add (k * 6)).block, (ad.add (k * 6)).off + 4, none⟩ = some (.int .u8 fx) ∧ w'.cell? ⟨(ad.add (k * 6)).block, (ad.add (k * 6)).off + 5, none⟩ = some (.slice fA nb fc)))) := Lib.hid (fun w' b => by
              obtain ⟨p0, p1, p2, p3, p4, p5⟩ := P3.out
              obtain ⟨q0, q1, q2, q3, q4, q5⟩ := HC3.out
              have e : (ad.add (k * 6)).block < w3.heap.size := by rw [block_of_add]; have := HB3.out.size; omega
              exact ⟨b, ⟨(b.cell (p := ⟨gb, 0, none⟩) hgl).trans p0, (b.cell (p := ⟨gb, 1, none⟩) hgl).trans p1, (b.cell (p := ⟨gb, 2, none⟩) hgl).trans p2, (b.cell (p := ⟨gb, 3, none⟩) hgl).trans p3, (b.cell (p := ⟨gb, 4, none⟩) hgl).trans p4, (b.cell (p := ⟨gb, 5, none⟩) hgl).trans p5⟩,
                (b.cell e).trans q0, (b.cell (p := ⟨(ad.add (k * 6)).block, _, none⟩) e).trans q1, (b.cell (p := ⟨(ad.add (k * 6)).block, _, none⟩) e).trans q2, (b.cell (p := ⟨(ad.add (k * 6)).block, _, none⟩) e).trans q3, (b.cell (p := ⟨(ad.add (k * 6)).block, _, none⟩) e).trans q4, (b.cell (p := ⟨(ad.add (k * 6)).block, _, none⟩) e).trans q5⟩)
            have eN := neqF fa fk fs fq fx (strOfNums fm)
            have bb : Hid (Below w3.heap.size w3 w3.drew) := Lib.hid (Below.refl _ w3).drew
            clear p0 p1 p2 p3 p4 p5 hb23 hc3 HC MB O3 X3 F3 D2 M2
            go_wp2_with fail
            go_region_held3 (fun w' => Below w3.heap.size w3 w' ∧ (w'.cell? ⟨gb, 0, none⟩ = some (.int .u8 fa) ∧ w'.cell? ⟨gb, 1, none⟩ = some (.int .u8 fk) ∧ w'.cell? ⟨gb, 2, none⟩ = some (.int .u8 fs) ∧ w'.cell? ⟨gb, 3, none⟩ = some (.int .u8 fq) ∧ w'.cell? ⟨gb, 4, none⟩ = some (.int .u8 fx) ∧ w'.cell? ⟨gb, 5, none⟩ = some (.slice B1 nb b1)) ∧ (w'.cell? (ad.add (k * 6)) = some (.int .u8 fa) ∧ w'.cell? ⟨(ad.add (k * 6)).block, (ad.add (k * 6)).off + 1, none⟩ = some (.int .u8 fk) ∧ w'.cell? ⟨(ad.add (k * 6)).block, (ad.add (k * 6)).off + 2, none⟩ = some (.int .u8 fs) ∧ w'.cell? ⟨(ad.add (k * 6)).block, (ad.add (k * 6)).off + 3, none⟩ = some (.int .u8 fq) ∧ w'.cell? ⟨(ad.add (k * 6)).block, (ad.add (k * 6)).off + 4, none⟩ = some (.int .u8 fx) ∧ w'.cell? ⟨(ad.add (k * 6)).block, (ad.add (k * 6)).off + 5, none⟩ = some (.slice fA nb fc))) (exact sNew.out _ bb.out) ((first
              | (go_at_call 15; refine Calls.mono (OfC HNB.out _ (by first | exact r1.out _ (And.left (by assumption)) | exact r2.out _ (And.left (by assumption)))) ?_; rintro ee wq ⟨rfl, D⟩; have bo : Below w3.heap.size w3 _ := And.left (by assumption); have bb : Hid (Below w3.heap.size w3 wq) := Lib.hid (bo.trans (D.out.mono bo.size)); clear bo D)
              | (go_at_call 14; refine Calls.mono (heldE (n := 0) (d1.out _ (And.left (by assumption))) rfl) ?_; rintro ee wq ⟨rfl, rfl⟩)))
            rename_i hq
            clear hq
            have HFq := Lib.hid (HF3.out.trans (Fr.of_below bb.out) (fun _ _ h => h.elim))
            have HBq := Lib.hid (HB3.out.trans (bb.out.mono HB3.out.size))
            have hsq := HFq.out.size
            have Gq := Lib.hid (d1.out _ bb.out)
            have RS := Lib.hid ((row_fr M7.out.2.1 HFq.out (fun ad e => by have := made_lt M7.out ad e; omega)).more_ hsq)
            obtain ⟨⟨da, dk, ds, dq, dx, dm⟩, er, hd⟩ : ∃ f er, decL sd = (f, er) := ⟨_, _, rfl⟩
            have HDE := Lib.hid hd
            have hder := dec_err sd
            rw [hd] at hder
            simp only at hder
            obtain ⟨nd, hnd⟩ : ∃ n, dm.length = n := ⟨_, rfl⟩
            have HND := Lib.hid hnd
            clear r1 r2 d1 P3 sNew eN bb HC3 HF3 HB3 G3 hd hnd HB2 HD2 HFE
            go_wp2_with fail
            refine Calls.mono (DecodeE HDE.out HND.out HN.out (by omega) HSI.out wq (HTB.out _ HBq.out) RS.out) ?_
            rintro ee w4 ⟨A4, c4, rfl, M4, D4⟩
            obtain ⟨W8, hW8⟩ : ∃ W8, w4.alloc (.cells #[.int .u8 da, .int .u8 dk, .int .u8 ds, .int .u8 dq, .int .u8 dx, .slice A4 nd c4] 35) = W8 := ⟨_, rfl⟩
            have f8 : Fr0 wq W8 := (Fr.of_below D4.out).trans (hW8 ▸ (Fr.refl (fun _ => False) w4).alloc _) (fun _ _ h => h)
            have hs8 := f8.size
            have HF8 := Lib.hid (HFq.out.trans f8 (fun _ _ h => h.elim))
            have HB8 := Lib.hid (fr0_below HBq.out f8 (Nat.le_refl _))
            have G8 := Lib.hid (Gq.out.fr f8 (fun h => h))
            have RS8 := Lib.hid ((row_fr RS.out f8 (fun ad e => ⟨by have := made_lt M7.out ad e; omega, fun h => h⟩)).more_ hs8)
            have HW8 := Lib.hid hW8
            clear RS Gq HFq HBq M4 D4 f8 hW8
            by_cases he0 : er = 0
            · subst he0
              have HOK' := Lib.hid (HOK.out.mono (k' := 3000 + 1000 * ((k + 1 : Nat) : Int)) (by omega))
              clear hder
              go_wp2
              rw [HW8.out]
              go_roundw
              case rel => exact ⟨k + 1, cn + 1, bt, nk, by go_num, by go_num, rfl, by omega, by omega, by omega, by omega, G8.out, HOK'.out, HSUM.out, HF8.out⟩
              case measure => simp [intOf]; omega
            · obtain ⟨S9, n9, hf9, hg9, hl9, hs9⟩ := feed_said HSN.out HOK.out.len (show (decL sd).2 ≠ 0 by rw [HDE.out]; exact he0)
              have hok9 := feed_ok sd HOK.out (by omega) HSI.out
              rw [hf9, HN.out] at hok9
              have hok10 := feed_ok [126] hok9 (by omega) (inB_of (by decide))
              rw [hg9] at hok10
              rw [HN.out] at hs9
              have HFS := Lib.hid hf9
              have HFG := Lib.hid hg9
              have HS9 := Lib.hid hs9
              have HOK9 := Lib.hid hok9
              have HOK10 := Lib.hid (hok10.mono (k' := 3000 + 1000 * ((k + 1 : Nat) : Int)) (by simp; omega))
              have e1 : (er == 0) = false := by simpa using he0
              clear hf9 hg9 hl9 hs9 hok9 hok10 hder he0
              go_wp2_with fail
              rw [HW8.out]
              clear e1
              refine Calls.mono (FeedE (w := W8) (K := 20000) (m := 0) HN.out HFS.out rfl G8.out (HOK.out.mono (by omega)) (by decide) (HTB.out _ HB8.out) HSI.out (by omega) RS8.out (fun ad e => by have := made_lt M7.out ad e; omega)) ?_
              rintro ee w9 ⟨A9, c9, xs9, rfl, O9, X9, G9, F9⟩
              have hs9 := F9.out.size
              have HF9 := Lib.hid (HF8.out.trans F9.out (fun _ _ h => h))
              have HB9 := Lib.hid (fr1_below HB8.out F9.out hs1 (Nat.le_refl _))
              have f10 : Fr0 w9 (w9.alloc (.cells #[.int .u8 126] 5)) := (Fr.refl (fun _ => False) w9).alloc _
              have G10 := Lib.hid (G9.out.fr f10 (fun h => h))
              have B10 := Lib.hid (fr0_below HB9.out f10 (Nat.le_refl _))
              have HF10 := Lib.hid (HF9.out.trans f10 (fun _ _ h => h.elim))
              have R10 : Hid (RowOf c8 1 (w9.alloc (.cells #[.int .u8 126] 5)) (w9.alloc (.cells #[.int .u8 126] 5)).heap.size (some ⟨w9.heap.size, 0, none⟩) [126]) := Lib.hid (row_lit (l := [126]) (heap_alloc_new w9 _) (by simp))
              have hs10 : (w9.alloc (.cells #[.int .u8 126] 5)).heap.size = w9.heap.size + 1 := by simp
              have hg9 : g < w9.heap.size := G9.out.lt
              clear f10 G9 O9 X9 F9 HF9 HB9 RS8 G8 HF8 HB8 HW8
              by_cases hN0 : 0 < N
              · have HS10 : Hid (sumI n9 = sumI sl + ((bt + 1 : Nat) : Int)) := Lib.hid (by rw [HS9.out, if_pos hN0, HSUM.out]; omega)
                go_wp2_with fail
                refine Calls.mono (FeedE (w := w9.alloc (.cells #[.int .u8 126] 5)) (K := 20000) (m := 0) rfl HFG.out rfl G10.out (HOK9.out.mono (by omega)) (by decide) (HTB.out _ B10.out) (inB_of (by decide)) (by decide) R10.out (fun ad e => by obtain rfl := Option.some.inj e; simp; omega)) ?_
                rintro ee w11 ⟨A11, c11, xs11, rfl, O11, X11, G11, F11⟩
                have HF11 := Lib.hid (HF10.out.trans F11.out (fun _ _ h => h))
                clear O11 X11 F11
                go_wp2
                go_roundw
                case rel => exact ⟨k + 1, cn + 1, bt + 1, n9, by go_num, by go_num, by go_num, by omega, by omega, by omega, by omega, G11.out, HOK10.out, HS10.out, HF11.out⟩
                case measure => simp [intOf]; omega
              · have HS10 : Hid (sumI n9 = sumI sl + (bt : Int)) := Lib.hid (by rw [HS9.out, if_neg hN0, HSUM.out]; omega)
                go_wp2_with fail
                refine Calls.mono (FeedE (w := w9.alloc (.cells #[.int .u8 126] 5)) (K := 20000) (m := 0) rfl HFG.out rfl G10.out (HOK9.out.mono (by omega)) (by decide) (HTB.out _ B10.out) (inB_of (by decide)) (by decide) R10.out (fun ad e => by obtain rfl := Option.some.inj e; simp; omega)) ?_
                rintro ee w11 ⟨A11, c11, xs11, rfl, O11, X11, G11, F11⟩
                have HF11 := Lib.hid (HF10.out.trans F11.out (fun _ _ h => h))
                clear O11 X11 F11
                go_wp2
                go_roundw
                case rel => exact ⟨k + 1, cn + 1, bt, n9, by go_num, by go_num, rfl, by omega, by omega, by omega, by omega, G11.out, HOK10.out, HS10.out, HF11.out⟩
                case measure => simp [intOf]; omega
        · rcases (by omega : (¬ k < fxs.length) ∨ (k < fxs.length ∧ ¬ k < 10)) with hlt | ⟨hlt, h5⟩
          all_goals
            have HCN : Hid (∀ x ∈ nk, 0 ≤ x ∧ x ≤ 20000) := Lib.hid (fun x hx => by have := HOK.out.cnt x hx; omega)
            go_wp2
            go_meet
            exact ⟨bt, nk, rfl, by omega, HD.out, HSUM.out, HCN.out, HF.out⟩
    case rest =>
      obtain ⟨bt, nk, rfl, hbt, hd, hsum, hcn, hf⟩ := hcut
      have GD := Lib.hid hd
      have HSUM := Lib.hid hsum
      have HCN := Lib.hid hcn
      have HF := Lib.hid hf
      have hsr := hf.size
      have HBr := Lib.hid (fr1_below B7.out hf hs1 (Nat.le_refl _))
      have Kw := Lib.hid (K7.out.fr hf (by omega))
      have HSN' : Hid (∀ x ∈ sl, 0 ≤ x ∧ x ≤ 20000) := Lib.hid (fun x hx => by have := HOK7.out.cnt x hx; omega)
      clear hd hsum hcn hf K7 G7 M7 B7 HOK7
      obtain ⟨b0, b1, b2, b3, b4, b5, b6, b7, b8, b9, b10, b11, rfl⟩ := twelve GD.out.len
      go_wp2_with fail
      refine Calls.mono (errC GD.out) ?_
      rintro e w9 ⟨rfl, D9⟩
      have hs9 := D9.out.size
      have K9 := Lib.hid (Kw.out.fr (Fr.of_below D9.out) (fun h => h))
      have B9 := Lib.hid (HBr.out.trans (D9.out.mono HBr.out.size))
      go_wp2
      obtain ⟨W5, hW5⟩ : ∃ W5, w9.alloc (.cells #[.int .i64 b0, .int .i64 b1, .int .i64 b2, .int .i64 b3, .int .i64 b4, .int .i64 b5, .int .i64 b6, .int .i64 b7, .int .i64 b8, .int .i64 b9, .int .i64 b10, .int .i64 b11] 25) = W5 := ⟨_, rfl⟩
      have B5' : Hid (Below w.heap.size w W5) := Lib.hid (hW5 ▸ B9.out.alloc B9.out.size _)
      have K5 : Hid (Blk W5 w9.heap.size 25 #[.int .i64 b0, .int .i64 b1, .int .i64 b2, .int .i64 b3, .int .i64 b4, .int .i64 b5, .int .i64 b6, .int .i64 b7, .int .i64 b8, .int .i64 b9, .int .i64 b10, .int .i64 b11]) := Lib.hid (hW5 ▸ Blk.new w9 _ _)
      have Kx := Lib.hid (K9.out.fr (hW5 ▸ (Fr.refl (fun _ => False) w9).alloc _) (fun h => h) : Blk W5 gw 25 _)
      rw [hW5]
      clear hW5 B9 K9 Kw D9 HBr
      obtain ⟨gx, hgx⟩ : ∃ gx, w9.heap.size = gx := ⟨_, rfl⟩
      rw [hgx] at K5 ⊢
      have hx5 := K5.out.lt
      have hw5 := Kx.out.lt
      obtain ⟨nk, hnk⟩ : ∃ nk : List Int, [b0, b1, b2, b3, b4, b5, b6, b7, b8, b9, b10, b11] = nk := ⟨_, rfl⟩
      have HN12 : Hid (nk.length = 12) := Lib.hid (by rw [← hnk]; rfl)
      have HS12 : Hid (sl.length = 12) := Lib.hid (by rw [← HSL.out]; rfl)
      have HKN : Hid (∀ w', Below W5.heap.size W5 w' → ∀ k < 12, w'.cell? ⟨gx, k, none⟩ = some (.int .i64 (nk.getD k 0))) := Lib.hid (fun w' b k hk => by
        rw [b.cell (p := ⟨gx, k, none⟩) hx5, K5.out.cell k, ← hnk]
        match k, hk with
        | 0, _ | 1, _ | 2, _ | 3, _ | 4, _ | 5, _ | 6, _ | 7, _ | 8, _ | 9, _ | 10, _ | 11, _ => rfl)
      have HKS : Hid (∀ w', Below W5.heap.size W5 w' → ∀ k < 12, w'.cell? ⟨gw, k, none⟩ = some (.int .i64 (sl.getD k 0))) := Lib.hid (fun w' b k hk => by
        rw [b.cell (p := ⟨gw, k, none⟩) hw5, Kx.out.cell k, ← HSL.out]
        match k, hk with
        | 0, _ | 1, _ | 2, _ | 3, _ | 4, _ | 5, _ | 6, _ | 7, _ | 8, _ | 9, _ | 10, _ | 11, _ => rfl)
      rw [hnk] at HSUM HCN
      clear hnk hgx GD
      go_loopw [21, 22] (fun s i wr => ∃ (k : Nat), i = .int .i64 k ∧ k ≤ 12 ∧ s = .int .i64 (sumI (nk.take k) - sumI (sl.take k)) ∧ Below W5.heap.size W5 wr) (fun _ i _ => 12 - (intOf i).toNat)
      case atStart => exact ⟨0, rfl, by omega, by simp [sumI], Below.refl _ _⟩
      case round =>
        obtain ⟨k, rfl, hk, rfl, hb⟩ := hrel
        have HB := Lib.hid hb
        by_cases hgo : k < 12
        · have HT1 := Lib.hid (sumI_take nk k (by rw [HN12.out]; exact hgo))
          have HT2 := Lib.hid (sumI_take sl k (by rw [HS12.out]; exact hgo))
          have hsb1 := sumI_bd (l := nk.take k) (K := 20000) (fun x hx => HCN.out x (List.mem_of_mem_take hx))
          have hsb2 := sumI_bd (l := sl.take k) (K := 20000) (fun x hx => HSN'.out x (List.mem_of_mem_take hx))
          have hgb1 := getD_bd HCN.out (by decide) k
          have hgb2 := getD_bd HSN'.out (by decide) k
          have hcell1 := HKN.out wr hb k hgo
          have hcell2 := HKS.out wr hb k hgo
          rw [List.length_take] at hsb1 hsb2
          generalize nk.getD k 0 = x at *
          generalize sl.getD k 0 = y at *
          generalize sumI (nk.take k) = T at *
          generalize sumI (sl.take k) = U at *
          obtain ⟨t1, t2⟩ := hsb1
          obtain ⟨u1, u2⟩ := hsb2
          obtain ⟨x1, x2⟩ := hgb1
          obtain ⟨y1, y2⟩ := hgb2
          obtain ⟨TU, hTU⟩ : ∃ z, T - U = z := ⟨_, rfl⟩
          have z1 : -300000 ≤ TU := by omega
          have z2 : TU ≤ 300000 := by omega
          have e1 : IntKind.i64.wrap (TU + x) = TU + x := by rw [IntKind.wrap_i64]; omega
          have e2 : IntKind.i64.wrap (TU + x - y) = TU + x - y := by rw [IntKind.wrap_i64]; omega
          have i1 : (0 : Int) ≤ (k : Int) := by omega
          have i2 : (k : Int) < 12 := by omega
          have hu' := Tryd.underlying25
          rw [hTU]
          have HTU := Lib.hid hTU
          clear t2 u2 hTU hb
          go_wp2_with fail
          go_region
          go_wp2
          go_roundw
          case rel => exact ⟨k + 1, by go_num, by omega, by rw [HT1.out, HT2.out]; congr 1; rw [← HTU.out]; omega, HB.out.drew⟩
          case measure => simp [intOf]; omega
        · obtain rfl : k = 12 := by omega
          have ht1 : nk.take 12 = nk := by rw [← HN12.out, List.take_length]
          have ht2 : sl.take 12 = sl := by rw [← HS12.out, List.take_length]
          rw [ht1, ht2]
          have hss := HSUM.out
          generalize sumI nk = T at *
          generalize sumI sl = U at *
          obtain ⟨z, hz⟩ : ∃ z, T - U = z := ⟨_, rfl⟩
          rw [hz]
          have hzb : z = (bt : Int) := by omega
          subst hzb
          clear ht1 ht2 hss hz hb
          go_wp2
          go_ret
          exact ⟨rfl, B5'.out.trans (HB.out.mono B5'.out.size)⟩
end Go.Proofs.YtkihoonjekccgaaDoor.K
