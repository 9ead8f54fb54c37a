/- OrderBookOrder: its walk. -/
import Derived.Test.YtigknfkkegccgaaDoorOBo
import Derived.BigQuiet
namespace Go.Proofs.YtigknfkkegccgaaDoor.K
open Go.RowKit
set_option linter.unusedVariables false
set_option linter.unusedSimpArgs false
attribute [local go_sem ↓] Go.wp_at_zero Go.wp_at_succ
theorem right_one {l : Ln} (h1 : l.loc < 64) (h2 : 1 ≤ l.qty) (h3 : l.qty ≤ 9999) : rightO [l] = 0 := by
  have e1 : lineF [] l = 0 := by
    unfold lineF
    rw [if_neg (by omega), if_neg (by omega)]
    rfl
  simp [rightO, rightL, e1]
theorem u32cut_hi (A : Option Addr) (n c k : Nat) (hc : k ≤ c) (W : World) : (Instr.slice 55 (.slice A n c) none (some (.int .i64 k)) none).run Tryd.prog W = .ok (.slice A k c) W := by
  obtain ⟨i, h1, _⟩ := info_parts info_u32x
  exact cut_hi Tryd.underlying55 h1 A n c k hc W
theorem u32cut_lo (A : Option Addr) (n c k : Nat) (hk : k ≤ n) (hc : n ≤ c) (hcm : c ≤ 9223372036854775807) (W : World) : (Instr.slice 55 (.slice A n c) (some (.int .i64 k)) none none).run Tryd.prog W = .ok (.slice (if c = k then A else A.map (·.add k)) (n - k) (c - k)) W := by
  obtain ⟨i, h1, h2, h3, h4⟩ := info_parts info_u32x
  exact cut_lo Tryd.underlying55 h1 h3 A n c k hk hc hcm W
set_option maxHeartbeats 16000000 in
set_option maxRecDepth 20000 in
theorem obook_walk (a0 : Int) (A : Option Addr) (c : Nat) (l : List Int) (a2 : Bool) (w : World) (hr : RowOf c8 1 w w.heap.size A l) (hi : InB l) :
    Calls Tryd.prog 7 #[.int .i64 a0, .slice A l.length c, .bool a2] w fun e w' => e = .returned (.bool true) ∧ Below w.heap.size w w' := by
  have HR := Lib.hid hr
  have HI := Lib.hid hi
  clear hr hi
  obtain ⟨m0, hm0, h0⟩ := and_mask a0 65535 (by omega)
  have h0 : bits .and .i64 a0 65535 = (m0 : Int) := h0
  obtain ⟨n, hn⟩ : ∃ n : Nat, n = m0 % 17 := ⟨_, rfl⟩
  have r0 : (m0 : Int) % 17 = (n : Int) := by rw [hn]; simp
  have hn16 : n ≤ 16 := by omega
  clear hn hm0
  go_enter Tryd.func7, Tryd.ntmps7
  go_wp2_with fail
  refine Calls.mono shown14_walk ?_
  rintro e w1 ⟨rfl, F1⟩
  go_wp2_with fail
  refine Calls.mono (NewBookC w1) ?_
  rintro e w2 ⟨b, g, rfl, HB2, HF2⟩
  have B2 := Lib.hid (F1.out.trans (HF2.out.below0.mono F1.out.size))
  have hB0 := F1.out.size
  go_wp2
  clear r0 h0
  rename bits .and .i64 a0 ↑65535 = _ => q0
  clear q0
  generalize w1.heap.size = B0 at *
  clear HF2 F1 w1
  go_loopw [9, 10] (fun a i wr => ∃ (k : Nat) (v : Value) (os : List So), i = .int .i64 k ∧ k ≤ n ∧ os.map So.id = lftB k ∧ (∀ o ∈ os, OkB o) ∧ wr.ownsRow w.heap.size 22 1 a k (nums .u32 (lftB k)) ∧ Bk B0 b g v os (lftB k) wr ∧ Below w.heap.size w wr) (fun _ i _ => n - (intOf i).toNat)
  case atStart => exact ⟨0, _, [], rfl, by omega, rfl, (fun o h => by cases h), own_nil _ _ _ _, HB2.out, B2.out⟩
  case round =>
    clear HB2 B2
    obtain ⟨k, v, os, rfl, hk, hmap, hok, hrow, hbk, hf⟩ := hrel
    have hosl : os.length = k := by rw [← lftB_len k, ← hmap, List.length_map]
    obtain ⟨VA, vc, rfl, hvc⟩ := own_form hrow
    have HMAP := Lib.hid hmap
    have HOK := Lib.hid hok
    have HROW := Lib.hid hrow
    have HBK := Lib.hid hbk
    have HF := Lib.hid hf
    clear hmap hok hrow hbk hf
    by_cases hlt : k < n
    · have F1 : Fr0 wr (wr.alloc (.cells #[.int .u16 k, .int .u16 5, .int .i64 (1 + k)] 51)) := (Fr.refl (fun _ => False) wr).alloc _
      have HB1 := Lib.hid (HBK.out.fr F1 (fun _ _ _ h => h))
      have HF1 := Lib.hid (HF.out.alloc HF.out.size (.cells #[.int .u16 k, .int .u16 5, .int .i64 (1 + k)] 51))
      have HR1 := Lib.hid (own_fr HROW.out F1 (fun _ _ h => h))
      have HL1 : Hid (RowOf cL 3 (wr.alloc (.cells #[.int .u16 k, .int .u16 5, .int .i64 (1 + k)] 51)) (wr.alloc (.cells #[.int .u16 k, .int .u16 5, .int .i64 (1 + k)] 51)).heap.size (some ⟨wr.heap.size, 0, none⟩) [⟨k, 5, 1 + k⟩]) := Lib.hid (row_blk1 (Blk.new wr 51 (lvs ⟨k, 5, 1 + k⟩)) (by simp))
      have ok1 : ∀ l ∈ [(⟨k, 5, 1 + k⟩ : Ln)], l.ok := fun l hl => by
        rw [List.mem_singleton] at hl; subst hl
        exact ⟨⟨by simp only; omega, by simp only; omega⟩, ⟨by simp only; omega, by simp only; omega⟩, ⟨by simp only; omega, by simp only; omega⟩⟩
      have qA := AddC (c := 1) (id := 700 - k) HB1.out (by omega) HL1.out (Nat.le_refl _) ok1 (right_one (by simp only; omega) (by simp only; omega) (by simp only; omega)) (lftB_new k) (by omega) (by rw [lftB_len]; omega)
      clear ok1 F1
      go_wp2_with fail
      refine Calls.mono qA ?_
      clear qA
      rintro e w5 ⟨rfl, A', c', v5, -, HB5, HF5, -⟩
      have HR5 := Lib.hid (own_fr HR1.out HF5.out (fun j e e' => by
        rcases e' with e' | e' | e'
        · exact own_blk_ne HR1.out HB1.out.blk (by decide) (e' ▸ e)
        · exact ever_own_ne HB1.out.ever HR1.out (e' ▸ e)
        · exact own_ne HR1.out HB1.out.row (by decide) j e e'))
      have D5 : Hid (Below w.heap.size w w5) := Lib.hid (HF1.out.trans (HF5.out.below (fun j _ e => by
        have h1 := HB1.out.low
        rcases e with e | e | e
        · omega
        · omega
        · have := (HB1.out.row.lt j e).1; omega) HF1.out.size))
      have HS : Hid (nums .u32 (lftB (k + 1)) = nums .u32 (lftB k) ++ [.int .u32 (700 - k)]) := Lib.hid (by rw [lftB_succ, nums_append]; rfl)
      have HOK' : Hid ((os ++ [(⟨700 - k, A', c', [⟨k, 5, 1 + k⟩]⟩ : So)]).map So.id = lftB (k + 1) ∧ ∀ o ∈ os ++ [(⟨700 - k, A', c', [⟨k, 5, 1 + k⟩]⟩ : So)], OkB o) := Lib.hid ⟨by rw [List.map_append, HMAP.out, lftB_succ]; rfl, fun o ho => by
        rcases List.mem_append.1 ho with ho | ho
        · exact HOK.out o ho
        · rw [List.mem_singleton] at ho
          subst ho
          exact ⟨⟨k, by simp only; congr 2; omega⟩, by simp only; omega, by simp only; omega⟩⟩
      obtain ⟨os5, hos5⟩ : ∃ os5, os5 = os ++ [(⟨700 - k, A', c', [⟨k, 5, 1 + k⟩]⟩ : So)] := ⟨_, rfl⟩
      rw [← hos5] at HB5 HOK'
      rw [← lftB_succ] at HB5
      clear hos5 HB1 HR1 HL1 HF1 HF5 HMAP HOK HBK HROW HF
      go_wp2_with (at_builtin; go_loud (refine app1g rfl _ _ _ rfl 22 (.int .u32 0) 1 4 Tryd.underlying55 info_u32x rfl (by omega) (by omega) w.heap.size (w5.heap.size) rfl (.slice VA k vc) k _ [.int .u32 (700 - k)] rfl rfl rfl (fun u hu => by simp at hu; subst hu; rfl) HR5.out D5.out.size (by omega) ?_; intro v6 w6 h3 h4 h5; have H3 := Lib.hid h3; have H4 := Lib.hid h4; clear h3 h4 h5))
      go_wp2
      go_roundw
      case rel =>
        refine ⟨k + 1, v5, os5, by go_num, by omega, HOK'.out.1, HOK'.out.2, by rw [HS.out]; exact H3.out, HB5.out.fr2 H4.out HR5.out (by decide) (by decide) (by decide), ?_⟩
        exact below_fr D5.out H4.out D5.out.size (fun j e => (HR5.out.lt j e).1)
      case measure => simp [intOf]; omega
    · obtain rfl : n = k := by omega
      have HND : Hid ((os.map So.id).Nodup) := Lib.hid (by rw [HMAP.out]; exact lftB_nodup n)
      have HROW' : Hid (wr.ownsRow w.heap.size 22 1 (.slice VA os.length vc) os.length (nums .u32 (os.map So.id))) := Lib.hid (by rw [HMAP.out, hosl]; exact HROW.out)
      have hos16 : os.length ≤ 16 := by omega
      rw [show n = os.length from hosl.symm]
      generalize lftB n = ids at *
      clear HROW HMAP hlt hk hn16
      go_wp2
      go_loopw [9, 12] (fun a i wq => ∃ (k : Nat) (v : Value) (os : List So), i = .int .i64 k ∧ k ≤ 16 ∧ os.length ≤ 16 ∧ (os.map So.id).Nodup ∧ (∀ o ∈ os, OkB o) ∧ (∃ A c, a = .slice A os.length c ∧ wq.ownsRow w.heap.size 22 1 (.slice A os.length c) os.length (nums .u32 (os.map So.id))) ∧ Bk B0 b g v os ids wq ∧ Below w.heap.size w wq) (fun _ i _ => 16 - (intOf i).toNat)
      case atStart => exact ⟨0, _, os, rfl, by omega, hos16, HND.out, HOK.out, ⟨_, _, rfl, HROW'.out⟩, HBK.out, HF.out⟩
      case round =>
        clear HND HROW' HOK HBK HF hosl hos16
        obtain ⟨k, v, os, rfl, hk16, hos16, hnd, hok, ⟨LA, lc, rfl, hrow⟩, hbk, hf⟩ := hrel
        have HND := Lib.hid hnd
        have HOK := Lib.hid hok
        have HROW := Lib.hid hrow
        have HBK := Lib.hid hbk
        have HF := Lib.hid hf
        clear hnd hok hrow hbk hf
        by_cases hgo : k < l.length ∧ k < 16 ∧ 0 < os.length
        · obtain ⟨hkl, hk1, hpos⟩ := hgo
          obtain ⟨ad, rfl, hadb, hcell⟩ := (RowOf.below HR.out HF.out).num hkl
          have hxb := HI.out (l.getD k 0) (getD_mem hkl)
          generalize l.getD k 0 = x at *
          obtain ⟨xn, rfl⟩ : ∃ xn : Nat, x = xn := ⟨x.toNat, by omega⟩
          obtain ⟨m, hm⟩ : ∃ m, m = xn % os.length := ⟨_, rfl⟩
          have hml : m < os.length := by rw [hm]; exact Nat.mod_lt _ hpos
          have hmod : (xn : Int) % (os.length : Int) = (m : Int) := by rw [hm]; simp
          have hnz : (os.length : Int) ≠ 0 := by omega
          have hx256 : (xn : Int) < 256 := by omega
          obtain ⟨gl, lc, hLA, -, -⟩ := HROW.out.form hpos
          obtain ⟨rfl, -, rfl⟩ := Value.slice.inj hLA
          have hy : wr.cell? ⟨gl, m, none⟩ = some (.int .u32 (os[m]).id) := (HROW.out.cellAt m (by omega)).trans (by simp [nums, hml])
          have HM1 := Lib.hid (idxO_nodup HND.out hml)
          have HM2 := Lib.hid (idxO_gone HND.out hml)
          generalize (os[m]).id = y at *
          have HB1 := HBK
          clear hm hLA hadb hxb
          cases a2
          · have qC := CloseC (k := m) HB1.out (by omega) HM1.out
            go_wp2_with fail
            refine Calls.mono qC ?_
            clear qC
            rintro e w5 ⟨rfl, v5, -, HB5, HF5⟩
            have hrw5 := own_fr HROW.out HF5.out (fun j e e' => by
              rcases e' with e' | e'
              · exact own_blk_ne HROW.out HB1.out.blk (by decide) (e' ▸ e)
              · exact own_ne HROW.out HB1.out.row (by decide) j e e')
            have HR5 := Lib.hid hrw5
            have D5 : Hid (Below w.heap.size w w5) := Lib.hid (HF.out.trans (HF5.out.below (fun j _ e => by
              have h1 := HB1.out.low
              rcases e with e | e
              · omega
              · have := (HB1.out.row.lt j e).1; omega) HF.out.size))
            obtain ⟨os5, hos5⟩ : ∃ os5, os5 = os.eraseIdx m := ⟨_, rfl⟩
            have HOS5 := Lib.hid hos5
            have hl5 : os5.length + 1 = os.length := by rw [hos5, List.length_eraseIdx, if_pos hml]; omega
            rw [← hos5] at HB5 HM2
            clear hrw5 hos5 HF5 HBK HB1 HROW HF HM1 hy hcell
            have qG := GetNo HB5.out (by omega) HM2.out
            go_wp2_with fail
            refine Calls.mono qG ?_
            clear qG
            rintro e w6 ⟨rfl, F6⟩
            have HB6 := Lib.hid ((HB5.out.fr (Fr.of_below F6.out) (fun _ _ _ h => h)).fr ((Fr.refl (fun _ => False) w6).alloc (.cells #[.int .u32 0, .slice none 0 0] 25)) (fun _ _ _ h => h))
            have HR6 := Lib.hid (own_fr (own_fr HR5.out (Fr.of_below F6.out) (fun _ _ h => h)) ((Fr.refl (fun _ => False) w6).alloc (.cells #[.int .u32 0, .slice none 0 0] 25)) (fun _ _ h => h))
            have D6 := Lib.hid ((D5.out.trans (F6.out.mono D5.out.size)).alloc (Nat.le_trans D5.out.size F6.out.size) (.cells #[.int .u32 0, .slice none 0 0] 25))
            clear HB5 HR5 D5 F6
            have qN := CloseNo HB6.out (by omega) HM2.out
            go_wp2_with fail
            generalize w6.alloc (.cells #[.int .u32 0, .slice none 0 0] 25) = W6 at *
            refine Calls.mono qN ?_
            clear qN
            rintro e w7 ⟨rfl, F7⟩
            have HB7 := Lib.hid (HB6.out.fr (Fr.of_below F7.out) (fun _ _ _ h => h))
            have HR7 := Lib.hid (own_fr HR6.out (Fr.of_below F7.out) (fun _ _ h => h))
            have D7 := Lib.hid (D6.out.trans (F7.out.mono D6.out.size))
            clear HB6 HR6 D6 F7
            have qN := CancelE (CloseNo HB7.out (by omega) HM2.out)
            go_wp2_with fail
            refine Calls.mono qN ?_
            clear qN
            rintro e w8 ⟨rfl, F8⟩
            have HB8 := Lib.hid (HB7.out.fr (Fr.of_below F8.out) (fun _ _ _ h => h))
            have hr8 := own_fr HR7.out (Fr.of_below F8.out) (fun _ _ h => h)
            have HR8 := Lib.hid hr8
            have D8 := Lib.hid (D7.out.trans (F8.out.mono D7.out.size))
            obtain ⟨L, hL⟩ : ∃ L, L = os.map So.id := ⟨_, rfl⟩
            have hLl : L.length = os.length := by rw [hL, List.length_map]
            have hcap := ownU_cap hr8
            have hroL : RowOf c32 1 w8 w8.heap.size (some ⟨gl, 0, none⟩) L := row_own (c := c32) (fun _ => rfl) (by rw [hLl, hL, ← nums32_flat]; exact hr8)
            have R1 := Lib.hid (hroL.take_ m)
            obtain ⟨QA, hcut2, hrd⟩ : ∃ QA, (∀ W, (Instr.slice 55 (.slice (some ⟨gl, 0, none⟩) os.length lc) (some (.int .i64 ((m : Int) + 1))) none none).run Tryd.prog W = .ok (.slice QA (os.length - (m + 1)) (lc - (m + 1))) W) ∧ RowOf c32 1 w8 w8.heap.size QA (L.drop (m + 1)) :=
              ⟨_, fun W => u32cut_lo (some ⟨gl, 0, none⟩) os.length lc (m + 1) (by omega) (by omega) (by omega) W, hroL.drop_ (m + 1) (cap := lc) (by omega)⟩
            obtain ⟨L1, hL1⟩ : ∃ L1, L1 = L.take m := ⟨_, rfl⟩
            obtain ⟨L2, hL2⟩ : ∃ L2, L2 = L.drop (m + 1) := ⟨_, rfl⟩
            have hl1 : L1.length = m := by rw [hL1, List.length_take]; omega
            have hl2 : L2.length = os.length - (m + 1) := by rw [hL2, List.length_drop]; omega
            rw [← hL1] at R1
            rw [← hL2] at hrd
            have R2 := Lib.hid hrd
            have HLL : Hid (L1 ++ L2 = os5.map So.id) := Lib.hid (by rw [hL1, hL2, hL, HOS5.out, erase_map, List.eraseIdx_eq_take_drop_succ])
            have hl1' : os5.length = L1.length + L2.length := by omega
            rw [← hl2] at hcut2
            have hcut1 : ∀ W, (Instr.slice 55 (.slice (some ⟨gl, 0, none⟩) os.length lc) none (some (.int .i64 (m : Int))) none).run Tryd.prog W = .ok (.slice (some ⟨gl, 0, none⟩) L1.length lc) W := fun W => by rw [hl1]; exact u32cut_hi (some ⟨gl, 0, none⟩) os.length lc m (by omega) W
            have HL1 := Lib.hid hl1
            have HNN := Lib.hid (And.intro hl5 (And.intro hml hl1'))
            have hm16 : L1.length ≤ 16 ∧ L2.length ≤ 16 := by omega
            obtain ⟨hm1, hm2⟩ := hm16
            clear hL1 hL2 hL hLl hr8 hroL hrd HB7 HR7 D7 F8 hl1 hl2 hl1'
            have k1 : Hid True := Lib.hid trivial
            have hwr : IntKind.i64.wrap ((m : Int) + 1) = (m : Int) + 1 := by rw [IntKind.wrap_i64]; omega
            go_wp2_with fail
            go_region_held_law (fun _ => True) (trivial) (first
              | (refine stepR (c := c32) rfl _ _ _ rfl 22 (.int .u32 0) 1 4 Tryd.underlying55 info_u32x rfl (by omega) (by omega) (fun _ => rfl) (fun y u hu => by simp at hu; subst hu; rfl) w8.heap.size w8.heap.size _ [] L1 _ _ rfl rfl (RowOf.below R1.out ((Below.refl w8.heap.size w8).drew.alloc (Nat.le_refl _) _)) (World.ownsRow_lit w8.drew #[] 0 (Nat.le_refl _) (by decide) rfl) (by simp) (by simp only [List.length_nil]; omega) ?_; intro v9 w9 h3 h4 h5; have ka := k1; clear k1; have G9 : Hid (w9.ownsRow w8.heap.size 22 1 v9 L1.length (L1.flatMap c32)) := Lib.hid h3; have F9 : Hid (Fr0 w8 w9) := Lib.hid (lit_fr (w := w8.drew) h4 (fun k hk => Nat.le_of_eq (Option.some.inj hk))).undrew; clear h3 h4 h5)
              | (refine stepR (c := c32) rfl _ _ _ rfl 22 (.int .u32 0) 1 4 Tryd.underlying55 info_u32x rfl (by omega) (by omega) (fun _ => rfl) (fun y u hu => by simp at hu; subst hu; rfl) w8.heap.size w8.heap.size _ L1 L2 _ _ rfl rfl (RowOf.below R2.out F9.out.below0) G9.out F9.out.size (by omega) ?_; intro v10 w10 h3 h4 h5; have _t := ka; have G10 : Hid (w10.ownsRow w8.heap.size 22 1 v10 (L1 ++ L2).length ((L1 ++ L2).flatMap c32)) := Lib.hid h3; have F10 : Hid (Fr0 w8 w10) := Lib.hid (F9.out.trans h4 (fun j hj e => by have := (G9.out.lt j e).1; omega)); clear h3 h4 h5 ka G9 F9))
            all_goals
              simp only [List.getElem_toArray, List.getElem_cons_succ, List.getElem_cons_zero, List.setIfInBounds_toArray, List.set_cons_succ, List.set_cons_zero]
              have hsz8 := D8.out.size
              obtain ⟨hl5, hml, hl1'⟩ := HNN.out
              have hr10 : w10.ownsRow w.heap.size 22 1 v10 os5.length (nums .u32 (os5.map So.id)) := by
                have := own_weak G10.out hsz8
                rw [← nums32_flat, HLL.out] at this
                rwa [List.length_map] at this
              obtain ⟨A10, c10, rfl, -⟩ := own_form hr10
              have HR10 := Lib.hid hr10
              have HB10 := Lib.hid (HB8.out.fr F10.out (fun _ _ _ h => h))
              have D10 := Lib.hid (D8.out.trans (F10.out.below0.mono hsz8))
              have HND5 : Hid ((os5.map So.id).Nodup) := Lib.hid (by rw [HOS5.out]; exact nodup_erase HND.out m)
              have HOK5 : Hid (∀ o ∈ os5, OkB o) := Lib.hid (by rw [HOS5.out]; exact fun o ho => HOK.out o (List.mem_of_mem_eraseIdx ho))
              have hos5 : os5.length ≤ 16 := by omega
              clear hr10 HNN hl1' G10 F10 HB8 HR8 D8 hsz8 hcut1 hcut2 R1 R2 HL1 HLL hwr hm1 hm2 _t HOS5
              have qO := OpenC HB10.out (by omega)
              go_wp2_with fail
              refine Calls.mono qO ?_
              clear qO
              rintro e w11 ⟨v11, rfl, HO11, F11⟩
              obtain ⟨A11, c11, rfl, -⟩ := own_form HO11.out
              have HR11 := Lib.hid (own_fr HR10.out (Fr.of_below F11.out) (fun _ _ h => h))
              have HB11 := Lib.hid (HB10.out.fr (Fr.of_below F11.out) (fun _ _ _ h => h))
              have D11 := Lib.hid (D10.out.trans (F11.out.mono D10.out.size))
              clear HR10 HB10 D10 F11
              go_wp2
              go_loopw [19] (fun i wx => ∃ j : Nat, i = .int .i64 j ∧ j ≤ os5.length ∧ Below w11.heap.size w11 wx) (fun i _ => os5.length - (intOf i).toNat)
              case atStart => exact ⟨0, rfl, by omega, Below.refl _ _⟩
              case round =>
                obtain ⟨j, rfl, hj, hfx⟩ := hrel
                have FX := Lib.hid hfx
                clear hfx
                have HBX := Lib.hid (HB11.out.fr (Fr.of_below FX.out) (fun _ _ _ h => h))
                by_cases hlt : j < os5.length
                · obtain ⟨g10, c10', e10, -, -⟩ := HR11.out.form (by omega)
                  obtain ⟨rfl, -, rfl⟩ := Value.slice.inj e10
                  obtain ⟨g11, c11', e11, -, -⟩ := HO11.out.form (by omega)
                  obtain ⟨rfl, -, rfl⟩ := Value.slice.inj e11
                  clear e10 e11
                  have x10 : wr.cell? ⟨g10, j, none⟩ = some (.int .u32 (os5[j]).id) := ((own_fr HR11.out (Fr.of_below FX.out) (fun _ _ h => h)).cellAt j (by omega)).trans (by simp [nums, hlt])
                  have x11 : wr.cell? ⟨g11, j, none⟩ = some (.int .u32 (os5[j]).id) := ((own_fr HO11.out (Fr.of_below FX.out) (fun _ _ h => h)).cellAt j (by omega)).trans (by simp [nums, hlt])
                  have hob := HOK5.out _ (List.getElem_mem hlt)
                  have hix := idxO_nodup HND5.out hlt
                  have hgo := List.getElem?_eq_getElem hlt
                  have b10 : g10 < w11.heap.size := (HR11.out.lt g10 rfl).2
                  have b11 : g11 < w11.heap.size := (HO11.out.lt g11 rfl).2
                  generalize os5[j] = o at *
                  obtain ⟨oid, oA, oc, ols⟩ := o
                  obtain ⟨⟨it, hls⟩, hlo, hhi⟩ := hob
                  simp only at hlo hhi x10 x11 hix hls
                  subst hls
                  have qG : Calls Tryd.prog 24 #[.pointer (some ⟨b, 0, none⟩), .int .u32 oid] wr fun e w' => ∃ A' c', e = .returned (.tuple #[.agg #[.int .u32 oid, .slice A' 1 c'], .bool true]) ∧ Hid (MadeL wr.heap.size A' c' [⟨it, 5, 701 - oid⟩] w') ∧ Hid (Below wr.heap.size wr w') := GetC HBX.out (by omega) hgo hix (by simp)
                  clear hix hgo
                  go_wp2_with fail
                  refine Calls.mono qG ?_
                  clear qG
                  rintro e w12 ⟨A12, c12, rfl, HM12, F12⟩
                  obtain ⟨za, rfl, hzb, -, -, z2⟩ := HM12.out.2.1.ln (k := 0) (by simp)
                  have hsx := FX.out.size
                  have h12 := F12.out.size
                  have y10 : (w12.alloc (.cells #[.int .u32 oid, .slice (some za) 1 c12] 25)).cell? ⟨g10, j, none⟩ = some (.int .u32 oid) := (World.cell?_alloc_lt w12 _ _ (by show g10 < w12.heap.size; omega)).trans ((F12.out.cell (p := ⟨g10, j, none⟩) (by show g10 < wr.heap.size; omega)).trans x10)
                  have y11 : (w12.alloc (.cells #[.int .u32 oid, .slice (some za) 1 c12] 25)).cell? ⟨g11, j, none⟩ = some (.int .u32 oid) := (World.cell?_alloc_lt w12 _ _ (by show g11 < w12.heap.size; omega)).trans ((F12.out.cell (p := ⟨g11, j, none⟩) (by show g11 < wr.heap.size; omega)).trans x11)
                  have z2' : (w12.alloc (.cells #[.int .u32 oid, .slice (some za) 1 c12] 25)).cell? ⟨za.block, za.off + 2, none⟩ = some (.int .i64 (701 - oid)) := (World.cell?_alloc_lt w12 _ ⟨za.block, za.off + 2, none⟩ hzb).trans (by simpa [Addr.add] using z2)
                  have hnb := Blk.new w12 25 #[.int .u32 oid, .slice (some za) 1 c12]
                  have n0 := hnb.cell 0
                  have n1 := hnb.cell 1
                  have F13 := Lib.hid ((FX.out.trans (F12.out.mono hsx)).alloc (Nat.le_trans hsx h12) (.cells #[.int .u32 oid, .slice (some za) 1 c12] 25))
                  clear hnb z2 x10 x11 HM12 F12
                  go_wp2_with fail
                  go_quiet (fail)
                  go_wp2
                  go_roundw
                  case rel => exact ⟨j + 1, by go_num, by omega, ⟨F13.out.os, F13.out.tape, F13.out.output, F13.out.size, F13.out.block⟩⟩
                  case measure => simp [intOf]; omega
                · obtain rfl : j = os5.length := by omega
                  go_wp2
                  go_roundw
                  case rel => exact ⟨k + 1, v5, os5, by go_num, by omega, hos5, HND5.out, HOK5.out, ⟨A10, c10, rfl, own_fr HR11.out (Fr.of_below FX.out) (fun _ _ h => h)⟩, HBX.out, D11.out.trans (FX.out.mono D11.out.size)⟩
                  case measure => simp [intOf]; omega
          · have qC := CancelE (CloseC (k := m) HB1.out (by omega) HM1.out)
            go_wp2_with fail
            refine Calls.mono qC ?_
            clear qC
            rintro e w5 ⟨rfl, v5, -, HB5, HF5⟩
            have hrw5 := own_fr HROW.out HF5.out (fun j e e' => by
              rcases e' with e' | e'
              · exact own_blk_ne HROW.out HB1.out.blk (by decide) (e' ▸ e)
              · exact own_ne HROW.out HB1.out.row (by decide) j e e')
            have HR5 := Lib.hid hrw5
            have D5 : Hid (Below w.heap.size w w5) := Lib.hid (HF.out.trans (HF5.out.below (fun j _ e => by
              have h1 := HB1.out.low
              rcases e with e | e
              · omega
              · have := (HB1.out.row.lt j e).1; omega) HF.out.size))
            obtain ⟨os5, hos5⟩ : ∃ os5, os5 = os.eraseIdx m := ⟨_, rfl⟩
            have HOS5 := Lib.hid hos5
            have hl5 : os5.length + 1 = os.length := by rw [hos5, List.length_eraseIdx, if_pos hml]; omega
            rw [← hos5] at HB5 HM2
            clear hrw5 hos5 HF5 HBK HB1 HROW HF HM1 hy hcell
            have qG := GetNo HB5.out (by omega) HM2.out
            go_wp2_with fail
            refine Calls.mono qG ?_
            clear qG
            rintro e w6 ⟨rfl, F6⟩
            have HB6 := Lib.hid ((HB5.out.fr (Fr.of_below F6.out) (fun _ _ _ h => h)).fr ((Fr.refl (fun _ => False) w6).alloc (.cells #[.int .u32 0, .slice none 0 0] 25)) (fun _ _ _ h => h))
            have HR6 := Lib.hid (own_fr (own_fr HR5.out (Fr.of_below F6.out) (fun _ _ h => h)) ((Fr.refl (fun _ => False) w6).alloc (.cells #[.int .u32 0, .slice none 0 0] 25)) (fun _ _ h => h))
            have D6 := Lib.hid ((D5.out.trans (F6.out.mono D5.out.size)).alloc (Nat.le_trans D5.out.size F6.out.size) (.cells #[.int .u32 0, .slice none 0 0] 25))
            clear HB5 HR5 D5 F6
            have qN := CloseNo HB6.out (by omega) HM2.out
            go_wp2_with fail
            generalize w6.alloc (.cells #[.int .u32 0, .slice none 0 0] 25) = W6 at *
            refine Calls.mono qN ?_
            clear qN
            rintro e w7 ⟨rfl, F7⟩
            have HB7 := Lib.hid (HB6.out.fr (Fr.of_below F7.out) (fun _ _ _ h => h))
            have HR7 := Lib.hid (own_fr HR6.out (Fr.of_below F7.out) (fun _ _ h => h))
            have D7 := Lib.hid (D6.out.trans (F7.out.mono D6.out.size))
            clear HB6 HR6 D6 F7
            have qN := CancelE (CloseNo HB7.out (by omega) HM2.out)
            go_wp2_with fail
            refine Calls.mono qN ?_
            clear qN
            rintro e w8 ⟨rfl, F8⟩
            have HB8 := Lib.hid (HB7.out.fr (Fr.of_below F8.out) (fun _ _ _ h => h))
            have hr8 := own_fr HR7.out (Fr.of_below F8.out) (fun _ _ h => h)
            have HR8 := Lib.hid hr8
            have D8 := Lib.hid (D7.out.trans (F8.out.mono D7.out.size))
            obtain ⟨L, hL⟩ : ∃ L, L = os.map So.id := ⟨_, rfl⟩
            have hLl : L.length = os.length := by rw [hL, List.length_map]
            have hcap := ownU_cap hr8
            have hroL : RowOf c32 1 w8 w8.heap.size (some ⟨gl, 0, none⟩) L := row_own (c := c32) (fun _ => rfl) (by rw [hLl, hL, ← nums32_flat]; exact hr8)
            have R1 := Lib.hid (hroL.take_ m)
            obtain ⟨QA, hcut2, hrd⟩ : ∃ QA, (∀ W, (Instr.slice 55 (.slice (some ⟨gl, 0, none⟩) os.length lc) (some (.int .i64 ((m : Int) + 1))) none none).run Tryd.prog W = .ok (.slice QA (os.length - (m + 1)) (lc - (m + 1))) W) ∧ RowOf c32 1 w8 w8.heap.size QA (L.drop (m + 1)) :=
              ⟨_, fun W => u32cut_lo (some ⟨gl, 0, none⟩) os.length lc (m + 1) (by omega) (by omega) (by omega) W, hroL.drop_ (m + 1) (cap := lc) (by omega)⟩
            obtain ⟨L1, hL1⟩ : ∃ L1, L1 = L.take m := ⟨_, rfl⟩
            obtain ⟨L2, hL2⟩ : ∃ L2, L2 = L.drop (m + 1) := ⟨_, rfl⟩
            have hl1 : L1.length = m := by rw [hL1, List.length_take]; omega
            have hl2 : L2.length = os.length - (m + 1) := by rw [hL2, List.length_drop]; omega
            rw [← hL1] at R1
            rw [← hL2] at hrd
            have R2 := Lib.hid hrd
            have HLL : Hid (L1 ++ L2 = os5.map So.id) := Lib.hid (by rw [hL1, hL2, hL, HOS5.out, erase_map, List.eraseIdx_eq_take_drop_succ])
            have hl1' : os5.length = L1.length + L2.length := by omega
            rw [← hl2] at hcut2
            have hcut1 : ∀ W, (Instr.slice 55 (.slice (some ⟨gl, 0, none⟩) os.length lc) none (some (.int .i64 (m : Int))) none).run Tryd.prog W = .ok (.slice (some ⟨gl, 0, none⟩) L1.length lc) W := fun W => by rw [hl1]; exact u32cut_hi (some ⟨gl, 0, none⟩) os.length lc m (by omega) W
            have HL1 := Lib.hid hl1
            have HNN := Lib.hid (And.intro hl5 (And.intro hml hl1'))
            have hm16 : L1.length ≤ 16 ∧ L2.length ≤ 16 := by omega
            obtain ⟨hm1, hm2⟩ := hm16
            clear hL1 hL2 hL hLl hr8 hroL hrd HB7 HR7 D7 F8 hl1 hl2 hl1'
            have k1 : Hid True := Lib.hid trivial
            have hwr : IntKind.i64.wrap ((m : Int) + 1) = (m : Int) + 1 := by rw [IntKind.wrap_i64]; omega
            go_wp2_with fail
            go_region_held_law (fun _ => True) (trivial) (first
              | (refine stepR (c := c32) rfl _ _ _ rfl 22 (.int .u32 0) 1 4 Tryd.underlying55 info_u32x rfl (by omega) (by omega) (fun _ => rfl) (fun y u hu => by simp at hu; subst hu; rfl) w8.heap.size w8.heap.size _ [] L1 _ _ rfl rfl (RowOf.below R1.out ((Below.refl w8.heap.size w8).drew.alloc (Nat.le_refl _) _)) (World.ownsRow_lit w8.drew #[] 0 (Nat.le_refl _) (by decide) rfl) (by simp) (by simp only [List.length_nil]; omega) ?_; intro v9 w9 h3 h4 h5; have ka := k1; clear k1; have G9 : Hid (w9.ownsRow w8.heap.size 22 1 v9 L1.length (L1.flatMap c32)) := Lib.hid h3; have F9 : Hid (Fr0 w8 w9) := Lib.hid (lit_fr (w := w8.drew) h4 (fun k hk => Nat.le_of_eq (Option.some.inj hk))).undrew; clear h3 h4 h5)
              | (refine stepR (c := c32) rfl _ _ _ rfl 22 (.int .u32 0) 1 4 Tryd.underlying55 info_u32x rfl (by omega) (by omega) (fun _ => rfl) (fun y u hu => by simp at hu; subst hu; rfl) w8.heap.size w8.heap.size _ L1 L2 _ _ rfl rfl (RowOf.below R2.out F9.out.below0) G9.out F9.out.size (by omega) ?_; intro v10 w10 h3 h4 h5; have _t := ka; have G10 : Hid (w10.ownsRow w8.heap.size 22 1 v10 (L1 ++ L2).length ((L1 ++ L2).flatMap c32)) := Lib.hid h3; have F10 : Hid (Fr0 w8 w10) := Lib.hid (F9.out.trans h4 (fun j hj e => by have := (G9.out.lt j e).1; omega)); clear h3 h4 h5 ka G9 F9))
            all_goals
              simp only [List.getElem_toArray, List.getElem_cons_succ, List.getElem_cons_zero, List.setIfInBounds_toArray, List.set_cons_succ, List.set_cons_zero]
              have hsz8 := D8.out.size
              obtain ⟨hl5, hml, hl1'⟩ := HNN.out
              have hr10 : w10.ownsRow w.heap.size 22 1 v10 os5.length (nums .u32 (os5.map So.id)) := by
                have := own_weak G10.out hsz8
                rw [← nums32_flat, HLL.out] at this
                rwa [List.length_map] at this
              obtain ⟨A10, c10, rfl, -⟩ := own_form hr10
              have HR10 := Lib.hid hr10
              have HB10 := Lib.hid (HB8.out.fr F10.out (fun _ _ _ h => h))
              have D10 := Lib.hid (D8.out.trans (F10.out.below0.mono hsz8))
              have HND5 : Hid ((os5.map So.id).Nodup) := Lib.hid (by rw [HOS5.out]; exact nodup_erase HND.out m)
              have HOK5 : Hid (∀ o ∈ os5, OkB o) := Lib.hid (by rw [HOS5.out]; exact fun o ho => HOK.out o (List.mem_of_mem_eraseIdx ho))
              have hos5 : os5.length ≤ 16 := by omega
              clear hr10 HNN hl1' G10 F10 HB8 HR8 D8 hsz8 hcut1 hcut2 R1 R2 HL1 HLL hwr hm1 hm2 _t HOS5
              have qO := OpenC HB10.out (by omega)
              go_wp2_with fail
              refine Calls.mono qO ?_
              clear qO
              rintro e w11 ⟨v11, rfl, HO11, F11⟩
              obtain ⟨A11, c11, rfl, -⟩ := own_form HO11.out
              have HR11 := Lib.hid (own_fr HR10.out (Fr.of_below F11.out) (fun _ _ h => h))
              have HB11 := Lib.hid (HB10.out.fr (Fr.of_below F11.out) (fun _ _ _ h => h))
              have D11 := Lib.hid (D10.out.trans (F11.out.mono D10.out.size))
              clear HR10 HB10 D10 F11
              go_wp2
              go_loopw [19] (fun i wx => ∃ j : Nat, i = .int .i64 j ∧ j ≤ os5.length ∧ Below w11.heap.size w11 wx) (fun i _ => os5.length - (intOf i).toNat)
              case atStart => exact ⟨0, rfl, by omega, Below.refl _ _⟩
              case round =>
                obtain ⟨j, rfl, hj, hfx⟩ := hrel
                have FX := Lib.hid hfx
                clear hfx
                have HBX := Lib.hid (HB11.out.fr (Fr.of_below FX.out) (fun _ _ _ h => h))
                by_cases hlt : j < os5.length
                · obtain ⟨g10, c10', e10, -, -⟩ := HR11.out.form (by omega)
                  obtain ⟨rfl, -, rfl⟩ := Value.slice.inj e10
                  obtain ⟨g11, c11', e11, -, -⟩ := HO11.out.form (by omega)
                  obtain ⟨rfl, -, rfl⟩ := Value.slice.inj e11
                  clear e10 e11
                  have x10 : wr.cell? ⟨g10, j, none⟩ = some (.int .u32 (os5[j]).id) := ((own_fr HR11.out (Fr.of_below FX.out) (fun _ _ h => h)).cellAt j (by omega)).trans (by simp [nums, hlt])
                  have x11 : wr.cell? ⟨g11, j, none⟩ = some (.int .u32 (os5[j]).id) := ((own_fr HO11.out (Fr.of_below FX.out) (fun _ _ h => h)).cellAt j (by omega)).trans (by simp [nums, hlt])
                  have hob := HOK5.out _ (List.getElem_mem hlt)
                  have hix := idxO_nodup HND5.out hlt
                  have hgo := List.getElem?_eq_getElem hlt
                  have b10 : g10 < w11.heap.size := (HR11.out.lt g10 rfl).2
                  have b11 : g11 < w11.heap.size := (HO11.out.lt g11 rfl).2
                  generalize os5[j] = o at *
                  obtain ⟨oid, oA, oc, ols⟩ := o
                  obtain ⟨⟨it, hls⟩, hlo, hhi⟩ := hob
                  simp only at hlo hhi x10 x11 hix hls
                  subst hls
                  have qG : Calls Tryd.prog 24 #[.pointer (some ⟨b, 0, none⟩), .int .u32 oid] wr fun e w' => ∃ A' c', e = .returned (.tuple #[.agg #[.int .u32 oid, .slice A' 1 c'], .bool true]) ∧ Hid (MadeL wr.heap.size A' c' [⟨it, 5, 701 - oid⟩] w') ∧ Hid (Below wr.heap.size wr w') := GetC HBX.out (by omega) hgo hix (by simp)
                  clear hix hgo
                  go_wp2_with fail
                  refine Calls.mono qG ?_
                  clear qG
                  rintro e w12 ⟨A12, c12, rfl, HM12, F12⟩
                  obtain ⟨za, rfl, hzb, -, -, z2⟩ := HM12.out.2.1.ln (k := 0) (by simp)
                  have hsx := FX.out.size
                  have h12 := F12.out.size
                  have y10 : (w12.alloc (.cells #[.int .u32 oid, .slice (some za) 1 c12] 25)).cell? ⟨g10, j, none⟩ = some (.int .u32 oid) := (World.cell?_alloc_lt w12 _ _ (by show g10 < w12.heap.size; omega)).trans ((F12.out.cell (p := ⟨g10, j, none⟩) (by show g10 < wr.heap.size; omega)).trans x10)
                  have y11 : (w12.alloc (.cells #[.int .u32 oid, .slice (some za) 1 c12] 25)).cell? ⟨g11, j, none⟩ = some (.int .u32 oid) := (World.cell?_alloc_lt w12 _ _ (by show g11 < w12.heap.size; omega)).trans ((F12.out.cell (p := ⟨g11, j, none⟩) (by show g11 < wr.heap.size; omega)).trans x11)
                  have z2' : (w12.alloc (.cells #[.int .u32 oid, .slice (some za) 1 c12] 25)).cell? ⟨za.block, za.off + 2, none⟩ = some (.int .i64 (701 - oid)) := (World.cell?_alloc_lt w12 _ ⟨za.block, za.off + 2, none⟩ hzb).trans (by simpa [Addr.add] using z2)
                  have hnb := Blk.new w12 25 #[.int .u32 oid, .slice (some za) 1 c12]
                  have n0 := hnb.cell 0
                  have n1 := hnb.cell 1
                  have F13 := Lib.hid ((FX.out.trans (F12.out.mono hsx)).alloc (Nat.le_trans hsx h12) (.cells #[.int .u32 oid, .slice (some za) 1 c12] 25))
                  clear hnb z2 x10 x11 HM12 F12
                  go_wp2_with fail
                  go_quiet (fail)
                  go_wp2
                  go_roundw
                  case rel => exact ⟨j + 1, by go_num, by omega, ⟨F13.out.os, F13.out.tape, F13.out.output, F13.out.size, F13.out.block⟩⟩
                  case measure => simp [intOf]; omega
                · obtain rfl : j = os5.length := by omega
                  go_wp2
                  go_roundw
                  case rel => exact ⟨k + 1, v5, os5, by go_num, by omega, hos5, HND5.out, HOK5.out, ⟨A10, c10, rfl, own_fr HR11.out (Fr.of_below FX.out) (fun _ _ h => h)⟩, HBX.out, D11.out.trans (FX.out.mono D11.out.size)⟩
                  case measure => simp [intOf]; omega
        · rcases (by omega : (¬ k < l.length) ∨ (k < l.length ∧ ¬ k < 16) ∨ (k < l.length ∧ k < 16 ∧ os.length = 0)) with h1 | ⟨h1, h2⟩ | ⟨h1, h2, h3⟩
          all_goals
            go_wp2
            go_ret
            exact ⟨rfl, HF.out⟩
end Go.Proofs.YtigknfkkegccgaaDoor.K
