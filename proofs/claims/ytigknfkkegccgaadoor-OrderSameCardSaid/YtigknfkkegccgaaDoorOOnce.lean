/- OrderOnce: its walk. -/
import Derived.Test.YtigknfkkegccgaaDoorOBc
import Derived.Deep.CutRange
import Derived.Deep.DeepCutAuto
namespace Go.Proofs.YtigknfkkegccgaaDoor.K
open Go.RowKit
set_option linter.unusedVariables false
set_option linter.unusedSimpArgs false
attribute [local go_sem ↓] Go.wp_at_zero Go.wp_at_succ
/-- The flags of all that ever were. -/
def evA (ids : List Int) : Array Value := ((List.range 256).map (fun x : Nat => Value.bool (decide ((x : Int) ∈ ids)))).toArray
theorem evA_get (ids : List Int) (x : Nat) (h : x < 256) : (evA ids)[x]? = some (.bool (decide ((x : Int) ∈ ids))) := by
  unfold evA
  rw [List.getElem?_toArray, List.getElem?_map, List.getElem?_range h]; rfl
theorem evA_put (ids : List Int) (x : Nat) : (evA ids).setIfInBounds x (.bool true) = evA (ids ++ [(x : Int)]) := by
  apply Array.ext_getElem?
  intro i
  rw [Array.getElem?_setIfInBounds]
  have hs : (evA ids).size = 256 := by simp [evA]
  by_cases hi : i < 256
  · rw [evA_get _ i hi, evA_get _ i hi, hs]
    by_cases e : x = i
    · subst e; simp [hi]
    · rw [if_neg e]
      have : (i : Int) ≠ (x : Int) := by omega
      simp [this]
  · have h1 : (evA ids)[i]? = none := Array.getElem?_eq_none (by simp [evA]; omega)
    have h2 : (evA (ids ++ [(x : Int)]))[i]? = none := Array.getElem?_eq_none (by simp [evA]; omega)
    rw [h1, h2, hs]
    by_cases e : x = i
    · subst e; simp [hi]
    · rw [if_neg e]
theorem evA_nil : evA [] = Array.replicate 256 (.bool false) := by
  apply Array.ext_getElem?
  intro i
  by_cases hi : i < 256
  · rw [evA_get _ i hi]; simp [hi]
  · rw [Array.getElem?_eq_none (by simp [evA]; omega), Array.getElem?_eq_none (by simp; omega)]
theorem ever_blk_ne {g p : Nat} {ids : List Int} {t : TypeId} {cs : Array Value} {w : World} (h : Ever g ids w) (h' : Blk w p t cs) : p ≠ g := by
  rintro rfl
  obtain ⟨D, ⟨es, clock, hh, _⟩, _⟩ := h
  unfold Blk at h'
  rw [hh] at h'
  cases h'
/-- A book stays behind a turn of a block of another kind. -/
theorem Bk.far {B b g p : Nat} {v : Value} {os : List So} {ids : List Int} {cs : Array Value} {w w' : World} (h : Bk B b g v os ids w) (k : Fr (fun j => j = p) w w') (hp : Blk w p 58 cs) : Bk B b g v os ids w' :=
  ⟨h.blk.fr k (Blk.ne_ h.blk hp (by decide)), own_fr h.row k (fun j e e' => own_blk_ne h.row hp (by decide) (e' ▸ e)), fun o ho => (h.each o ho).fr k (fun j e e' => own_blk_ne (h.each o ho).1 hp (by decide) (e' ▸ e)), h.ever.fr k (fun e => ever_blk_ne h.ever hp e.symm), h.low⟩
theorem getD_mem {l : List Int} {k : Nat} (h : k < l.length) : l.getD k 0 ∈ l := by
  rw [List.getD_eq_getElem?_getD, List.getElem?_eq_getElem h]; exact List.getElem_mem h
theorem idxO_mem {os : List So} {m : Nat} (h : m < os.length) : ∃ j, idxO (os[m]).id os = some j := by
  cases e : idxO (os[m]).id os with
  | some j => exact ⟨j, rfl⟩
  | none =>
    unfold idxO at e
    rw [List.findIdx?_eq_none_iff] at e
    have := e _ (List.getElem_mem h)
    simp at this
abbrev cB : Bool → List Value := fun x => [.bool x]
set_option maxHeartbeats 8000000 in
set_option maxRecDepth 20000 in
theorem oonce_walk (A Q : Option Addr) (c q : Nat) (l : List Int) (z : List Bool) (w : World) (hr : RowOf c8 1 w w.heap.size A l) (hz : RowOf cB 1 w w.heap.size Q z) (hi : InB l) :
    Calls Tryd.prog 5 #[.slice A l.length c, .slice Q z.length q] w fun e w' => e = .returned (.bool true) ∧ Below w.heap.size w w' := by
  have HR := Lib.hid hr
  have HZ := Lib.hid hz
  have HI := Lib.hid hi
  clear hr hz hi
  go_enter Tryd.func5, Tryd.ntmps5
  go_wp2_with fail
  refine Calls.mono shown14_walk ?_
  rintro e w1 ⟨rfl, F1⟩
  go_wp2_with fail
  refine Calls.mono (NewBookC w1) ?_
  rintro e w2 ⟨b, g, rfl, HB2, HF2⟩
  have B2 := Lib.hid (F1.out.trans (HF2.out.below0.mono F1.out.size))
  have HE2 : Hid (Blk (w2.alloc (.cells Tryd.zeroCells58 58)) w2.heap.size 58 (evA [])) := Lib.hid (by rw [evA_nil]; exact Blk.new w2 _ _)
  have HB3 := Lib.hid (HB2.out.fr ((Fr.refl (fun _ => False) w2).alloc (.cells Tryd.zeroCells58 58)) (fun _ _ _ h => h))
  have B3 := Lib.hid (B2.out.alloc B2.out.size (.cells Tryd.zeroCells58 58))
  have hB0 := F1.out.size
  have hpe : w.heap.size ≤ w2.heap.size := B2.out.size
  have HE2 : Hid (Blk (w2.alloc (.cells Tryd.zeroCells58 58)) w2.heap.size 58 (evA [])) := Lib.hid (by rw [evA_nil]; exact Blk.new w2 _ _)
  have HB3 := Lib.hid (HB2.out.fr ((Fr.refl (fun _ => False) w2).alloc (.cells Tryd.zeroCells58 58)) (fun _ _ _ h => h))
  have B3 := Lib.hid (B2.out.alloc B2.out.size (.cells Tryd.zeroCells58 58))
  have hB0 := F1.out.size
  have hpe : w.heap.size ≤ w2.heap.size := B2.out.size
  have HE2 : Hid (Blk (w2.alloc (.cells Tryd.zeroCells58 58)) w2.heap.size 58 (evA [])) := Lib.hid (by rw [evA_nil]; exact Blk.new w2 _ _)
  have HB3 := Lib.hid (HB2.out.fr ((Fr.refl (fun _ => False) w2).alloc (.cells Tryd.zeroCells58 58)) (fun _ _ _ h => h))
  have B3 := Lib.hid (B2.out.alloc B2.out.size (.cells Tryd.zeroCells58 58))
  have hB0 := F1.out.size
  have hpe : w.heap.size ≤ w2.heap.size := B2.out.size
  have HE2 : Hid (Blk (w2.alloc (.cells Tryd.zeroCells58 58)) w2.heap.size 58 (evA [])) := Lib.hid (by rw [evA_nil]; exact Blk.new w2 _ _)
  have HB3 := Lib.hid (HB2.out.fr ((Fr.refl (fun _ => False) w2).alloc (.cells Tryd.zeroCells58 58)) (fun _ _ _ h => h))
  have B3 := Lib.hid (B2.out.alloc B2.out.size (.cells Tryd.zeroCells58 58))
  have hB0 := F1.out.size
  have hpe : w.heap.size ≤ w2.heap.size := B2.out.size
  have HE2 : Hid (Blk (w2.alloc (.cells Tryd.zeroCells58 58)) w2.heap.size 58 (evA [])) := Lib.hid (by rw [evA_nil]; exact Blk.new w2 _ _)
  have HB3 := Lib.hid (HB2.out.fr ((Fr.refl (fun _ => False) w2).alloc (.cells Tryd.zeroCells58 58)) (fun _ _ _ h => h))
  have B3 := Lib.hid (B2.out.alloc B2.out.size (.cells Tryd.zeroCells58 58))
  have hB0 := F1.out.size
  have hpe : w.heap.size ≤ w2.heap.size := B2.out.size
  go_wp2
  generalize w2.alloc (.cells Tryd.zeroCells58 58) = W3 at *
  generalize w2.heap.size = pe at *
  generalize w1.heap.size = B0 at *
  clear HB2 HF2 B2 F1 w2 w1
  go_loopw [8, 9] (fun o i wr => ∃ (k : Nat) (v : Value) (os : List So) (ids : List Int), i = .int .i64 k ∧ o = .int .i64 os.length ∧ k ≤ l.length ∧ k ≤ 200 ∧ os.length ≤ 16 ∧ ids.length ≤ k ∧ Bk B0 b g v os ids wr ∧ Blk wr pe 58 (evA ids) ∧ Below w.heap.size w wr) (fun _ i _ => 200 - (intOf i).toNat)
  case atStart => exact ⟨0, _, [], [], rfl, rfl, by omega, by omega, by simp, by simp, HB3.out, HE2.out, B3.out⟩
  case round =>
    clear HB3 HE2 B3
    obtain ⟨k, v, os, ids, rfl, rfl, hkl, hk2, hos, hids, hbk, hev, hf⟩ := hrel
    have HBK := Lib.hid hbk
    have HEV0 := Lib.hid hev
    have HF := Lib.hid hf
    clear hbk hev hf
    by_cases hgo : k < l.length ∧ k < 200
    · obtain ⟨hlt, h200⟩ := hgo
      obtain ⟨ad, rfl, hadb, hcell⟩ := (RowOf.below HR.out HF.out).num hlt
      have hxb := HI.out (l.getD k 0) (getD_mem hlt)
      have hadall : ∀ W, Below w.heap.size w W → W.cell? (ad.add k) = some (.int .u8 (l.getD k 0)) := fun W hW => by
        obtain ⟨ad', e', _, hc'⟩ := (RowOf.below HR.out hW).num hlt
        rw [Option.some.inj e']; exact hc'
      generalize l.getD k 0 = x at *
      obtain ⟨xn, rfl⟩ : ∃ xn : Nat, x = xn := ⟨x.toNat, by omega⟩
      have hxn : xn < 256 := by omega
      have hid : (0 : Int) ≤ xn ∧ (xn : Int) < 4294967296 := by omega
      have hx256 : (xn : Int) < 256 := by omega
      have HAD := Lib.hid hadall
      have F1 : Fr0 wr (wr.alloc (.cells #[.int .u16 1, .int .u16 1, .int .i64 1] 51)) := (Fr.refl (fun _ => False) wr).alloc _
      have HB1 := Lib.hid (HBK.out.fr F1 (fun _ _ _ h => h))
      have HE1 := Lib.hid (HEV0.out.alloc (.cells #[.int .u16 1, .int .u16 1, .int .i64 1] 51))
      have HF1 := Lib.hid (HF.out.alloc HF.out.size (.cells #[.int .u16 1, .int .u16 1, .int .i64 1] 51))
      have HL1 : Hid (RowOf cL 3 (wr.alloc (.cells #[.int .u16 1, .int .u16 1, .int .i64 1] 51)) (wr.alloc (.cells #[.int .u16 1, .int .u16 1, .int .i64 1] 51)).heap.size (some ⟨wr.heap.size, 0, none⟩) [⟨1, 1, 1⟩]) := Lib.hid (row_blk1 (Blk.new wr 51 (lvs ⟨1, 1, 1⟩)) (by simp))
      have ok1 : ∀ l ∈ [(⟨1, 1, 1⟩ : Ln)], l.ok := fun l hl => by
        rw [List.mem_singleton] at hl; subst hl
        exact ⟨⟨by decide, by decide⟩, ⟨by decide, by decide⟩, ⟨by decide, by decide⟩⟩
      have right1 : rightO [⟨1, 1, 1⟩] = 0 := by decide
      clear hadall F1 hadb HBK HEV0 hxb
      by_cases hmem : (xn : Int) ∈ ids
      · by_cases h16 : 16 ≤ os.length
        · have qA := AddTwice (c := 1) (id := xn) HB1.out hid HL1.out (Nat.le_refl _) (by simp) (Nat.le_refl _) ok1 right1 hmem
          clear ok1 right1
          go_wp2_with fail
          refine Calls.mono qA ?_
          clear qA
          rintro e w5 ⟨rfl, F5⟩
          have D5 := Lib.hid (HF1.out.trans (F5.out.mono HF1.out.size))
          have HE5 := Lib.hid (HE1.out.below F5.out HE1.out.lt)
          obtain ⟨os2, hos2⟩ : ∃ os2, os2 = os := ⟨_, rfl⟩
          obtain ⟨ids2, hids2⟩ : ∃ ids2, ids2 = ids := ⟨_, rfl⟩
          obtain ⟨v2, hv2⟩ : ∃ v2, v2 = v := ⟨_, rfl⟩
          have HB5 : Hid (Bk B0 b g v2 os2 ids2 w5) := Lib.hid (by rw [hos2, hids2, hv2]; exact HB1.out.fr (Fr.of_below F5.out) (fun _ _ _ h => h))
          have HEV : Hid (Blk w5 pe 58 (evA ids2)) := Lib.hid (by rw [hids2]; exact HE5.out)
          have DV := D5
          have hl2 : os2.length ≤ 16 := by rw [hos2]; exact hos
          have hd2 : ids2.length ≤ k + 1 := by rw [hids2]; omega
          have he5 : w5.cell? ⟨pe, xn, none⟩ = _ := (HE5.out.cell xn).trans (evA_get ids xn hxn)
          have he5f := HE5.out.frozen xn
          rw [show decide ((xn : Int) ∈ ids) = true by simp [hmem]] at he5
          have hcell := HAD.out w5 D5.out
          clear D5 HE5 HB1 HE1 HF1 HL1
          go_upto_region 22 with (fail)
          rw [show os.length = os2.length by rw [hos2]]
          clear hos2 hids2 hv2 he5 he5f hcell
          have HBV := HB5
          clear HB5
          generalize w5 = wq at *
          by_cases hz1 : k < z.length
          · have hzc := HZ.out k z[k] (List.getElem?_eq_getElem hz1)
            obtain ⟨zd, rfl, hzb, -⟩ := hzc
            have hzc : wq.cell? (zd.add k) = some (.bool z[k]) := by
              obtain ⟨zd', e', _, hc'⟩ := (RowOf.below HZ.out DV.out) k z[k] (List.getElem?_eq_getElem hz1)
              rw [Option.some.inj e']
              simpa using hc' 0 _ rfl
            clear hzb
            generalize z[k] = zb at *
            cases zb
            · have qO := OpenC HBV.out (by omega)
              go_wp2_with fail
              refine Calls.mono qO ?_
              clear qO
              rintro e w6 ⟨v6, rfl, HO6, F6⟩
              obtain ⟨A6, c6, rfl, hc6⟩ := own_form HO6.out
              clear hc6
              go_wp2
              go_roundw
              case rel => exact ⟨k + 1, v2, os2, ids2, by go_num, rfl, by omega, by omega, hl2, hd2, HBV.out.fr (Fr.of_below F6.out) (fun _ _ _ h => h), HEV.out.below F6.out HEV.out.lt, DV.out.trans (F6.out.mono DV.out.size)⟩
              case measure => simp [intOf]; omega
            · by_cases ho : 0 < os2.length
              · obtain ⟨m, hm⟩ : ∃ m, m = k % os2.length := ⟨_, rfl⟩
                have hml : m < os2.length := by rw [hm]; exact Nat.mod_lt _ ho
                have hmod : (k : Int) % (os2.length : Int) = (m : Int) := by rw [hm]; simp
                have hnz : (os2.length : Int) ≠ 0 := by omega
                clear hm
                have qO := OpenC HBV.out (by omega)
                go_wp2_with fail
                refine Calls.mono qO ?_
                clear qO
                rintro e w6 ⟨v6, rfl, HO6, F6⟩
                obtain ⟨g6, c6, rfl, -, -⟩ := HO6.out.form ho
                have hy : w6.cell? ⟨g6, m, none⟩ = some (.int .u32 (os2[m]).id) := (HO6.out.cellAt m (by omega)).trans (by simp [nums, hml])
                obtain ⟨j, hj⟩ := idxO_mem hml
                have hHB6 := HBV.out.fr (Fr.of_below F6.out) (fun _ _ _ h => h)
                generalize (os2[m]).id = y at *
                have qC := CloseC (k := j) hHB6 (by omega) hj
                have HB6v := Lib.hid hHB6
                have HIJ := Lib.hid hj
                clear hHB6 hj
                go_wp2_with fail
                refine Calls.mono qC ?_
                clear qC
                rintro e w7 ⟨rfl, v7, -, HB7, HF7⟩
                have D7 : Hid (Below w.heap.size w w7) := Lib.hid ((DV.out.trans (F6.out.mono DV.out.size)).trans (HF7.out.below (fun j _ e => by
                  have h1 := HB6v.out.low
                  rcases e with e | e
                  · omega
                  · have := (HB6v.out.row.lt j e).1; omega) (Nat.le_trans DV.out.size F6.out.size)))
                have HE6 := Lib.hid (HEV.out.below F6.out HEV.out.lt)
                have HE7 : Hid (Blk w7 pe 58 (evA ids2)) := Lib.hid (HE6.out.fr HF7.out (fun e => by
                  rcases e with e | e
                  · exact Blk.ne_ HE6.out HB6v.out.blk (by decide) e
                  · exact own_blk_ne HB6v.out.row HE6.out (by decide) e))
                obtain ⟨os3, hos3⟩ : ∃ os3, os3 = os2.eraseIdx j := ⟨_, rfl⟩
                obtain ⟨hjl, -⟩ := idxO_some HIJ.out
                have hlen3 : (os2.length : Int) - 1 = (os3.length : Int) := by rw [hos3, List.length_eraseIdx, if_pos hjl]; omega
                rw [← hos3] at HB7
                clear hos3 hjl HB6v HIJ HE6 HF7 HO6 hy
                have qO := OpenC HB7.out (by omega)
                go_wp2_with fail
                refine Calls.mono qO ?_
                clear qO
                rintro e w8 ⟨v8, rfl, HO8, F8⟩
                obtain ⟨A8, c8', rfl, hc8⟩ := own_form HO8.out
                clear hc8
                go_wp2
                go_roundw
                case rel => exact ⟨k + 1, v7, os3, ids2, by go_num, rfl, by omega, by omega, by omega, hd2, HB7.out.fr (Fr.of_below F8.out) (fun _ _ _ h => h), HE7.out.below F8.out HE7.out.lt, D7.out.trans (F8.out.mono D7.out.size)⟩
                case measure => simp [intOf]; omega
              · have qO := OpenC HBV.out (by omega)
                go_wp2_with fail
                refine Calls.mono qO ?_
                clear qO
                rintro e w6 ⟨v6, rfl, HO6, F6⟩
                obtain ⟨A6, c6, rfl, hc6⟩ := own_form HO6.out
                clear hc6
                go_wp2
                go_roundw
                case rel => exact ⟨k + 1, v2, os2, ids2, by go_num, rfl, by omega, by omega, hl2, hd2, HBV.out.fr (Fr.of_below F6.out) (fun _ _ _ h => h), HEV.out.below F6.out HEV.out.lt, DV.out.trans (F6.out.mono DV.out.size)⟩
                case measure => simp [intOf]; omega
          · have qO := OpenC HBV.out (by omega)
            go_wp2_with fail
            refine Calls.mono qO ?_
            clear qO
            rintro e w6 ⟨v6, rfl, HO6, F6⟩
            obtain ⟨A6, c6, rfl, hc6⟩ := own_form HO6.out
            clear hc6
            go_wp2
            go_roundw
            case rel => exact ⟨k + 1, v2, os2, ids2, by go_num, rfl, by omega, by omega, hl2, hd2, HBV.out.fr (Fr.of_below F6.out) (fun _ _ _ h => h), HEV.out.below F6.out HEV.out.lt, DV.out.trans (F6.out.mono DV.out.size)⟩
            case measure => simp [intOf]; omega

        · have qA := AddTwice (c := 1) (id := xn) HB1.out hid HL1.out (Nat.le_refl _) (by simp) (Nat.le_refl _) ok1 right1 hmem
          clear ok1 right1
          go_wp2_with fail
          refine Calls.mono qA ?_
          clear qA
          rintro e w5 ⟨rfl, F5⟩
          have D5 := Lib.hid (HF1.out.trans (F5.out.mono HF1.out.size))
          have HE5 := Lib.hid (HE1.out.below F5.out HE1.out.lt)
          obtain ⟨os2, hos2⟩ : ∃ os2, os2 = os := ⟨_, rfl⟩
          obtain ⟨ids2, hids2⟩ : ∃ ids2, ids2 = ids := ⟨_, rfl⟩
          obtain ⟨v2, hv2⟩ : ∃ v2, v2 = v := ⟨_, rfl⟩
          have HB5 : Hid (Bk B0 b g v2 os2 ids2 w5) := Lib.hid (by rw [hos2, hids2, hv2]; exact HB1.out.fr (Fr.of_below F5.out) (fun _ _ _ h => h))
          have HEV : Hid (Blk w5 pe 58 (evA ids2)) := Lib.hid (by rw [hids2]; exact HE5.out)
          have DV := D5
          have hl2 : os2.length ≤ 16 := by rw [hos2]; exact hos
          have hd2 : ids2.length ≤ k + 1 := by rw [hids2]; omega
          have he5 : w5.cell? ⟨pe, xn, none⟩ = _ := (HE5.out.cell xn).trans (evA_get ids xn hxn)
          have he5f := HE5.out.frozen xn
          rw [show decide ((xn : Int) ∈ ids) = true by simp [hmem]] at he5
          have hcell := HAD.out w5 D5.out
          clear D5 HE5 HB1 HE1 HF1 HL1
          go_upto_region 22 with (fail)
          rw [show os.length = os2.length by rw [hos2]]
          clear hos2 hids2 hv2 he5 he5f hcell
          have HBV := HB5
          clear HB5
          generalize w5 = wq at *
          by_cases hz1 : k < z.length
          · have hzc := HZ.out k z[k] (List.getElem?_eq_getElem hz1)
            obtain ⟨zd, rfl, hzb, -⟩ := hzc
            have hzc : wq.cell? (zd.add k) = some (.bool z[k]) := by
              obtain ⟨zd', e', _, hc'⟩ := (RowOf.below HZ.out DV.out) k z[k] (List.getElem?_eq_getElem hz1)
              rw [Option.some.inj e']
              simpa using hc' 0 _ rfl
            clear hzb
            generalize z[k] = zb at *
            cases zb
            · have qO := OpenC HBV.out (by omega)
              go_wp2_with fail
              refine Calls.mono qO ?_
              clear qO
              rintro e w6 ⟨v6, rfl, HO6, F6⟩
              obtain ⟨A6, c6, rfl, hc6⟩ := own_form HO6.out
              clear hc6
              go_wp2
              go_roundw
              case rel => exact ⟨k + 1, v2, os2, ids2, by go_num, rfl, by omega, by omega, hl2, hd2, HBV.out.fr (Fr.of_below F6.out) (fun _ _ _ h => h), HEV.out.below F6.out HEV.out.lt, DV.out.trans (F6.out.mono DV.out.size)⟩
              case measure => simp [intOf]; omega
            · by_cases ho : 0 < os2.length
              · obtain ⟨m, hm⟩ : ∃ m, m = k % os2.length := ⟨_, rfl⟩
                have hml : m < os2.length := by rw [hm]; exact Nat.mod_lt _ ho
                have hmod : (k : Int) % (os2.length : Int) = (m : Int) := by rw [hm]; simp
                have hnz : (os2.length : Int) ≠ 0 := by omega
                clear hm
                have qO := OpenC HBV.out (by omega)
                go_wp2_with fail
                refine Calls.mono qO ?_
                clear qO
                rintro e w6 ⟨v6, rfl, HO6, F6⟩
                obtain ⟨g6, c6, rfl, -, -⟩ := HO6.out.form ho
                have hy : w6.cell? ⟨g6, m, none⟩ = some (.int .u32 (os2[m]).id) := (HO6.out.cellAt m (by omega)).trans (by simp [nums, hml])
                obtain ⟨j, hj⟩ := idxO_mem hml
                have hHB6 := HBV.out.fr (Fr.of_below F6.out) (fun _ _ _ h => h)
                generalize (os2[m]).id = y at *
                have qC := CloseC (k := j) hHB6 (by omega) hj
                have HB6v := Lib.hid hHB6
                have HIJ := Lib.hid hj
                clear hHB6 hj
                go_wp2_with fail
                refine Calls.mono qC ?_
                clear qC
                rintro e w7 ⟨rfl, v7, -, HB7, HF7⟩
                have D7 : Hid (Below w.heap.size w w7) := Lib.hid ((DV.out.trans (F6.out.mono DV.out.size)).trans (HF7.out.below (fun j _ e => by
                  have h1 := HB6v.out.low
                  rcases e with e | e
                  · omega
                  · have := (HB6v.out.row.lt j e).1; omega) (Nat.le_trans DV.out.size F6.out.size)))
                have HE6 := Lib.hid (HEV.out.below F6.out HEV.out.lt)
                have HE7 : Hid (Blk w7 pe 58 (evA ids2)) := Lib.hid (HE6.out.fr HF7.out (fun e => by
                  rcases e with e | e
                  · exact Blk.ne_ HE6.out HB6v.out.blk (by decide) e
                  · exact own_blk_ne HB6v.out.row HE6.out (by decide) e))
                obtain ⟨os3, hos3⟩ : ∃ os3, os3 = os2.eraseIdx j := ⟨_, rfl⟩
                obtain ⟨hjl, -⟩ := idxO_some HIJ.out
                have hlen3 : (os2.length : Int) - 1 = (os3.length : Int) := by rw [hos3, List.length_eraseIdx, if_pos hjl]; omega
                rw [← hos3] at HB7
                clear hos3 hjl HB6v HIJ HE6 HF7 HO6 hy
                have qO := OpenC HB7.out (by omega)
                go_wp2_with fail
                refine Calls.mono qO ?_
                clear qO
                rintro e w8 ⟨v8, rfl, HO8, F8⟩
                obtain ⟨A8, c8', rfl, hc8⟩ := own_form HO8.out
                clear hc8
                go_wp2
                go_roundw
                case rel => exact ⟨k + 1, v7, os3, ids2, by go_num, rfl, by omega, by omega, by omega, hd2, HB7.out.fr (Fr.of_below F8.out) (fun _ _ _ h => h), HE7.out.below F8.out HE7.out.lt, D7.out.trans (F8.out.mono D7.out.size)⟩
                case measure => simp [intOf]; omega
              · have qO := OpenC HBV.out (by omega)
                go_wp2_with fail
                refine Calls.mono qO ?_
                clear qO
                rintro e w6 ⟨v6, rfl, HO6, F6⟩
                obtain ⟨A6, c6, rfl, hc6⟩ := own_form HO6.out
                clear hc6
                go_wp2
                go_roundw
                case rel => exact ⟨k + 1, v2, os2, ids2, by go_num, rfl, by omega, by omega, hl2, hd2, HBV.out.fr (Fr.of_below F6.out) (fun _ _ _ h => h), HEV.out.below F6.out HEV.out.lt, DV.out.trans (F6.out.mono DV.out.size)⟩
                case measure => simp [intOf]; omega
          · have qO := OpenC HBV.out (by omega)
            go_wp2_with fail
            refine Calls.mono qO ?_
            clear qO
            rintro e w6 ⟨v6, rfl, HO6, F6⟩
            obtain ⟨A6, c6, rfl, hc6⟩ := own_form HO6.out
            clear hc6
            go_wp2
            go_roundw
            case rel => exact ⟨k + 1, v2, os2, ids2, by go_num, rfl, by omega, by omega, hl2, hd2, HBV.out.fr (Fr.of_below F6.out) (fun _ _ _ h => h), HEV.out.below F6.out HEV.out.lt, DV.out.trans (F6.out.mono DV.out.size)⟩
            case measure => simp [intOf]; omega

      · by_cases h16 : 16 ≤ os.length
        · have qA := AddFull (c := 1) (id := xn) HB1.out hid HL1.out (Nat.le_refl _) (by simp) (Nat.le_refl _) ok1 right1 hmem (by omega) (by omega) (.inl h16)
          clear ok1 right1
          go_wp2_with fail
          refine Calls.mono qA ?_
          clear qA
          rintro e w5 ⟨rfl, F5⟩
          have D5 := Lib.hid (HF1.out.trans (F5.out.mono HF1.out.size))
          have HE5 := Lib.hid (HE1.out.below F5.out HE1.out.lt)
          obtain ⟨os2, hos2⟩ : ∃ os2, os2 = os := ⟨_, rfl⟩
          obtain ⟨ids2, hids2⟩ : ∃ ids2, ids2 = ids := ⟨_, rfl⟩
          obtain ⟨v2, hv2⟩ : ∃ v2, v2 = v := ⟨_, rfl⟩
          have HB5 : Hid (Bk B0 b g v2 os2 ids2 w5) := Lib.hid (by rw [hos2, hids2, hv2]; exact HB1.out.fr (Fr.of_below F5.out) (fun _ _ _ h => h))
          have HEV : Hid (Blk w5 pe 58 (evA ids2)) := Lib.hid (by rw [hids2]; exact HE5.out)
          have DV := D5
          have hl2 : os2.length ≤ 16 := by rw [hos2]; exact hos
          have hd2 : ids2.length ≤ k + 1 := by rw [hids2]; omega
          have he5 : w5.cell? ⟨pe, xn, none⟩ = _ := (HE5.out.cell xn).trans (evA_get ids xn hxn)
          have he5f := HE5.out.frozen xn
          rw [show decide ((xn : Int) ∈ ids) = false by simp [hmem]] at he5
          have hcell := HAD.out w5 D5.out
          clear D5 HE5 HB1 HE1 HF1 HL1
          go_upto_region 22 with (fail)
          rw [show os.length = os2.length by rw [hos2]]
          clear hos2 hids2 hv2 he5 he5f hcell
          have HBV := HB5
          clear HB5
          generalize w5 = wq at *
          by_cases hz1 : k < z.length
          · have hzc := HZ.out k z[k] (List.getElem?_eq_getElem hz1)
            obtain ⟨zd, rfl, hzb, -⟩ := hzc
            have hzc : wq.cell? (zd.add k) = some (.bool z[k]) := by
              obtain ⟨zd', e', _, hc'⟩ := (RowOf.below HZ.out DV.out) k z[k] (List.getElem?_eq_getElem hz1)
              rw [Option.some.inj e']
              simpa using hc' 0 _ rfl
            clear hzb
            generalize z[k] = zb at *
            cases zb
            · have qO := OpenC HBV.out (by omega)
              go_wp2_with fail
              refine Calls.mono qO ?_
              clear qO
              rintro e w6 ⟨v6, rfl, HO6, F6⟩
              obtain ⟨A6, c6, rfl, hc6⟩ := own_form HO6.out
              clear hc6
              go_wp2
              go_roundw
              case rel => exact ⟨k + 1, v2, os2, ids2, by go_num, rfl, by omega, by omega, hl2, hd2, HBV.out.fr (Fr.of_below F6.out) (fun _ _ _ h => h), HEV.out.below F6.out HEV.out.lt, DV.out.trans (F6.out.mono DV.out.size)⟩
              case measure => simp [intOf]; omega
            · by_cases ho : 0 < os2.length
              · obtain ⟨m, hm⟩ : ∃ m, m = k % os2.length := ⟨_, rfl⟩
                have hml : m < os2.length := by rw [hm]; exact Nat.mod_lt _ ho
                have hmod : (k : Int) % (os2.length : Int) = (m : Int) := by rw [hm]; simp
                have hnz : (os2.length : Int) ≠ 0 := by omega
                clear hm
                have qO := OpenC HBV.out (by omega)
                go_wp2_with fail
                refine Calls.mono qO ?_
                clear qO
                rintro e w6 ⟨v6, rfl, HO6, F6⟩
                obtain ⟨g6, c6, rfl, -, -⟩ := HO6.out.form ho
                have hy : w6.cell? ⟨g6, m, none⟩ = some (.int .u32 (os2[m]).id) := (HO6.out.cellAt m (by omega)).trans (by simp [nums, hml])
                obtain ⟨j, hj⟩ := idxO_mem hml
                have hHB6 := HBV.out.fr (Fr.of_below F6.out) (fun _ _ _ h => h)
                generalize (os2[m]).id = y at *
                have qC := CloseC (k := j) hHB6 (by omega) hj
                have HB6v := Lib.hid hHB6
                have HIJ := Lib.hid hj
                clear hHB6 hj
                go_wp2_with fail
                refine Calls.mono qC ?_
                clear qC
                rintro e w7 ⟨rfl, v7, -, HB7, HF7⟩
                have D7 : Hid (Below w.heap.size w w7) := Lib.hid ((DV.out.trans (F6.out.mono DV.out.size)).trans (HF7.out.below (fun j _ e => by
                  have h1 := HB6v.out.low
                  rcases e with e | e
                  · omega
                  · have := (HB6v.out.row.lt j e).1; omega) (Nat.le_trans DV.out.size F6.out.size)))
                have HE6 := Lib.hid (HEV.out.below F6.out HEV.out.lt)
                have HE7 : Hid (Blk w7 pe 58 (evA ids2)) := Lib.hid (HE6.out.fr HF7.out (fun e => by
                  rcases e with e | e
                  · exact Blk.ne_ HE6.out HB6v.out.blk (by decide) e
                  · exact own_blk_ne HB6v.out.row HE6.out (by decide) e))
                obtain ⟨os3, hos3⟩ : ∃ os3, os3 = os2.eraseIdx j := ⟨_, rfl⟩
                obtain ⟨hjl, -⟩ := idxO_some HIJ.out
                have hlen3 : (os2.length : Int) - 1 = (os3.length : Int) := by rw [hos3, List.length_eraseIdx, if_pos hjl]; omega
                rw [← hos3] at HB7
                clear hos3 hjl HB6v HIJ HE6 HF7 HO6 hy
                have qO := OpenC HB7.out (by omega)
                go_wp2_with fail
                refine Calls.mono qO ?_
                clear qO
                rintro e w8 ⟨v8, rfl, HO8, F8⟩
                obtain ⟨A8, c8', rfl, hc8⟩ := own_form HO8.out
                clear hc8
                go_wp2
                go_roundw
                case rel => exact ⟨k + 1, v7, os3, ids2, by go_num, rfl, by omega, by omega, by omega, hd2, HB7.out.fr (Fr.of_below F8.out) (fun _ _ _ h => h), HE7.out.below F8.out HE7.out.lt, D7.out.trans (F8.out.mono D7.out.size)⟩
                case measure => simp [intOf]; omega
              · have qO := OpenC HBV.out (by omega)
                go_wp2_with fail
                refine Calls.mono qO ?_
                clear qO
                rintro e w6 ⟨v6, rfl, HO6, F6⟩
                obtain ⟨A6, c6, rfl, hc6⟩ := own_form HO6.out
                clear hc6
                go_wp2
                go_roundw
                case rel => exact ⟨k + 1, v2, os2, ids2, by go_num, rfl, by omega, by omega, hl2, hd2, HBV.out.fr (Fr.of_below F6.out) (fun _ _ _ h => h), HEV.out.below F6.out HEV.out.lt, DV.out.trans (F6.out.mono DV.out.size)⟩
                case measure => simp [intOf]; omega
          · have qO := OpenC HBV.out (by omega)
            go_wp2_with fail
            refine Calls.mono qO ?_
            clear qO
            rintro e w6 ⟨v6, rfl, HO6, F6⟩
            obtain ⟨A6, c6, rfl, hc6⟩ := own_form HO6.out
            clear hc6
            go_wp2
            go_roundw
            case rel => exact ⟨k + 1, v2, os2, ids2, by go_num, rfl, by omega, by omega, hl2, hd2, HBV.out.fr (Fr.of_below F6.out) (fun _ _ _ h => h), HEV.out.below F6.out HEV.out.lt, DV.out.trans (F6.out.mono DV.out.size)⟩
            case measure => simp [intOf]; omega

        · have qA := AddC (c := 1) (id := xn) HB1.out hid HL1.out (Nat.le_refl _) ok1 right1 hmem (by omega) (by omega)
          clear ok1 right1
          go_wp2_with fail
          refine Calls.mono qA ?_
          clear qA
          rintro e w5 ⟨rfl, A', c', v2, -, HB5, HF5, -⟩
          have D5 : Hid (Below w.heap.size w w5) := Lib.hid (HF1.out.trans (HF5.out.below (fun j _ e => by
            have h1 := HB1.out.low
            rcases e with e | e | e
            · omega
            · omega
            · have := (HB1.out.row.lt j e).1; omega) HF1.out.size))
          have HE5 : Hid (Blk w5 pe 58 (evA ids)) := Lib.hid (HE1.out.fr HF5.out (fun e => by
            rcases e with e | e | e
            · exact Blk.ne_ HE1.out HB1.out.blk (by decide) e
            · exact ever_blk_ne HB1.out.ever HE1.out e
            · exact own_blk_ne HB1.out.row HE1.out (by decide) e))
          obtain ⟨os2, hos2⟩ : ∃ os2, os2 = os ++ [⟨(xn : Int), A', c', [⟨1, 1, 1⟩]⟩] := ⟨_, rfl⟩
          obtain ⟨ids2, hids2⟩ : ∃ ids2, ids2 = ids ++ [(xn : Int)] := ⟨_, rfl⟩
          rw [← hos2, ← hids2] at HB5
          have hW : Fr (fun j => j = pe) w5 (w5.setCell ⟨pe, xn, none⟩ (.bool true)) := (Fr.refl (fun j => j = pe) w5).setCell (p := ⟨pe, xn, none⟩) (fun _ => rfl) _
          have HEV : Hid (Blk (w5.setCell ⟨pe, xn, none⟩ (.bool true)) pe 58 (evA ids2)) := Lib.hid (by rw [hids2, ← evA_put]; exact HE5.out.set_ xn (.bool true))
          have HB6 : Hid (Bk B0 b g v2 os2 ids2 (w5.setCell ⟨pe, xn, none⟩ (.bool true))) := Lib.hid (HB5.out.far hW HE5.out)
          have DV : Hid (Below w.heap.size w (w5.setCell ⟨pe, xn, none⟩ (.bool true))) := Lib.hid (below_fr D5.out hW D5.out.size (fun j e => by omega))
          have hl2 : os2.length ≤ 16 := by rw [hos2, List.length_append, List.length_singleton]; omega
          have hd2 : ids2.length ≤ k + 1 := by rw [hids2, List.length_append, List.length_singleton]; omega
          have hlen : (os.length : Int) + 1 = (os2.length : Int) := by rw [hos2, List.length_append, List.length_singleton]; omega
          have HLEN := Lib.hid hlen
          have HB6d := HB6
          clear hlen hos2 hids2
          have he5 : w5.cell? ⟨pe, xn, none⟩ = _ := (HE5.out.cell xn).trans (evA_get ids xn hxn)
          have he5f := HE5.out.frozen xn
          rw [show decide ((xn : Int) ∈ ids) = false by simp [hmem]] at he5
          have hcell := HAD.out w5 D5.out
          clear D5 HE5 HB1 HE1 HF1 HL1
          go_upto_region 22 with (fail)
          rw [HLEN.out]
          clear HB6d HLEN he5 he5f HB5 HF5 hcell
          have HBV := HB6
          generalize (w5.setCell ⟨pe, xn, none⟩ (.bool true)) = wq at *
          clear HB6 hW w5
          by_cases hz1 : k < z.length
          · have hzc := HZ.out k z[k] (List.getElem?_eq_getElem hz1)
            obtain ⟨zd, rfl, hzb, -⟩ := hzc
            have hzc : wq.cell? (zd.add k) = some (.bool z[k]) := by
              obtain ⟨zd', e', _, hc'⟩ := (RowOf.below HZ.out DV.out) k z[k] (List.getElem?_eq_getElem hz1)
              rw [Option.some.inj e']
              simpa using hc' 0 _ rfl
            clear hzb
            generalize z[k] = zb at *
            cases zb
            · have qO := OpenC HBV.out (by omega)
              go_wp2_with fail
              refine Calls.mono qO ?_
              clear qO
              rintro e w6 ⟨v6, rfl, HO6, F6⟩
              obtain ⟨A6, c6, rfl, hc6⟩ := own_form HO6.out
              clear hc6
              go_wp2
              go_roundw
              case rel => exact ⟨k + 1, v2, os2, ids2, by go_num, rfl, by omega, by omega, hl2, hd2, HBV.out.fr (Fr.of_below F6.out) (fun _ _ _ h => h), HEV.out.below F6.out HEV.out.lt, DV.out.trans (F6.out.mono DV.out.size)⟩
              case measure => simp [intOf]; omega
            · by_cases ho : 0 < os2.length
              · obtain ⟨m, hm⟩ : ∃ m, m = k % os2.length := ⟨_, rfl⟩
                have hml : m < os2.length := by rw [hm]; exact Nat.mod_lt _ ho
                have hmod : (k : Int) % (os2.length : Int) = (m : Int) := by rw [hm]; simp
                have hnz : (os2.length : Int) ≠ 0 := by omega
                clear hm
                have qO := OpenC HBV.out (by omega)
                go_wp2_with fail
                refine Calls.mono qO ?_
                clear qO
                rintro e w6 ⟨v6, rfl, HO6, F6⟩
                obtain ⟨g6, c6, rfl, -, -⟩ := HO6.out.form ho
                have hy : w6.cell? ⟨g6, m, none⟩ = some (.int .u32 (os2[m]).id) := (HO6.out.cellAt m (by omega)).trans (by simp [nums, hml])
                obtain ⟨j, hj⟩ := idxO_mem hml
                have hHB6 := HBV.out.fr (Fr.of_below F6.out) (fun _ _ _ h => h)
                generalize (os2[m]).id = y at *
                have qC := CloseC (k := j) hHB6 (by omega) hj
                have HB6v := Lib.hid hHB6
                have HIJ := Lib.hid hj
                clear hHB6 hj
                go_wp2_with fail
                refine Calls.mono qC ?_
                clear qC
                rintro e w7 ⟨rfl, v7, -, HB7, HF7⟩
                have D7 : Hid (Below w.heap.size w w7) := Lib.hid ((DV.out.trans (F6.out.mono DV.out.size)).trans (HF7.out.below (fun j _ e => by
                  have h1 := HB6v.out.low
                  rcases e with e | e
                  · omega
                  · have := (HB6v.out.row.lt j e).1; omega) (Nat.le_trans DV.out.size F6.out.size)))
                have HE6 := Lib.hid (HEV.out.below F6.out HEV.out.lt)
                have HE7 : Hid (Blk w7 pe 58 (evA ids2)) := Lib.hid (HE6.out.fr HF7.out (fun e => by
                  rcases e with e | e
                  · exact Blk.ne_ HE6.out HB6v.out.blk (by decide) e
                  · exact own_blk_ne HB6v.out.row HE6.out (by decide) e))
                obtain ⟨os3, hos3⟩ : ∃ os3, os3 = os2.eraseIdx j := ⟨_, rfl⟩
                obtain ⟨hjl, -⟩ := idxO_some HIJ.out
                have hlen3 : (os2.length : Int) - 1 = (os3.length : Int) := by rw [hos3, List.length_eraseIdx, if_pos hjl]; omega
                rw [← hos3] at HB7
                clear hos3 hjl HB6v HIJ HE6 HF7 HO6 hy
                have qO := OpenC HB7.out (by omega)
                go_wp2_with fail
                refine Calls.mono qO ?_
                clear qO
                rintro e w8 ⟨v8, rfl, HO8, F8⟩
                obtain ⟨A8, c8', rfl, hc8⟩ := own_form HO8.out
                clear hc8
                go_wp2
                go_roundw
                case rel => exact ⟨k + 1, v7, os3, ids2, by go_num, rfl, by omega, by omega, by omega, hd2, HB7.out.fr (Fr.of_below F8.out) (fun _ _ _ h => h), HE7.out.below F8.out HE7.out.lt, D7.out.trans (F8.out.mono D7.out.size)⟩
                case measure => simp [intOf]; omega
              · have qO := OpenC HBV.out (by omega)
                go_wp2_with fail
                refine Calls.mono qO ?_
                clear qO
                rintro e w6 ⟨v6, rfl, HO6, F6⟩
                obtain ⟨A6, c6, rfl, hc6⟩ := own_form HO6.out
                clear hc6
                go_wp2
                go_roundw
                case rel => exact ⟨k + 1, v2, os2, ids2, by go_num, rfl, by omega, by omega, hl2, hd2, HBV.out.fr (Fr.of_below F6.out) (fun _ _ _ h => h), HEV.out.below F6.out HEV.out.lt, DV.out.trans (F6.out.mono DV.out.size)⟩
                case measure => simp [intOf]; omega
          · have qO := OpenC HBV.out (by omega)
            go_wp2_with fail
            refine Calls.mono qO ?_
            clear qO
            rintro e w6 ⟨v6, rfl, HO6, F6⟩
            obtain ⟨A6, c6, rfl, hc6⟩ := own_form HO6.out
            clear hc6
            go_wp2
            go_roundw
            case rel => exact ⟨k + 1, v2, os2, ids2, by go_num, rfl, by omega, by omega, hl2, hd2, HBV.out.fr (Fr.of_below F6.out) (fun _ _ _ h => h), HEV.out.below F6.out HEV.out.lt, DV.out.trans (F6.out.mono DV.out.size)⟩
            case measure => simp [intOf]; omega

    · rcases (by omega : (¬ k < l.length) ∨ (k < l.length ∧ ¬ k < 200)) with hlt | ⟨hlt, h200⟩
      all_goals
        go_wp2
        go_ret
        exact ⟨rfl, HF.out⟩
end Go.Proofs.YtigknfkkegccgaaDoor.K
