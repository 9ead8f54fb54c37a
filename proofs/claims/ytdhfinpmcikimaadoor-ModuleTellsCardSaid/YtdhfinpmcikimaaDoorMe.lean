/- The module: Take. -/
import Derived.Test.YtdhfinpmcikimaaDoorMd
namespace Go.Proofs.YtdhfinpmcikimaaDoor.K
open Go.RowKit
set_option linter.unusedVariables false
set_option linter.unusedSimpArgs false
section
variable {m s p g : Nat} {f : Fm} {FA : Option Addr} {fc : Nat} {w : World}
abbrev MS (m s p : Nat) (f : Fm) (FA : Option Addr) (fc : Nat) (w : World) : Prop := w.cell? ⟨m, 0, none⟩ = some (.pointer (some ⟨s, 0, none⟩)) ∧ w.cell? ⟨p, 0, none⟩ = some (.int .u8 f.addr) ∧ w.cell? ⟨p, 1, none⟩ = some (.int .u8 f.kind) ∧ w.cell? ⟨p, 2, none⟩ = some (.int .u8 f.ses) ∧ w.cell? ⟨p, 3, none⟩ = some (.int .u8 f.seq) ∧ w.cell? ⟨p, 4, none⟩ = some (.int .u8 f.ack) ∧ w.cell? ⟨p, 5, none⟩ = some (.slice FA f.B.length fc)
theorem MS.far (h : MS m s p f FA fc w) (h1 : g ≠ m) (h2 : g ≠ p) (i : Nat) (u : Value) : MS m s p f FA fc (w.setCell ⟨g, i, none⟩ u) := by
  obtain ⟨a0, a1, a2, a3, a4, a5, a6⟩ := h
  exact ⟨(World.cell?_setCell_far w _ _ _ h1).trans a0, (World.cell?_setCell_far w _ _ _ h2).trans a1, (World.cell?_setCell_far w _ _ _ h2).trans a2, (World.cell?_setCell_far w _ _ _ h2).trans a3, (World.cell?_setCell_far w _ _ _ h2).trans a4, (World.cell?_setCell_far w _ _ _ h2).trans a5, (World.cell?_setCell_far w _ _ _ h2).trans a6⟩
theorem MS.al (h : MS m s p f FA fc w) (h1 : m < w.heap.size) (h2 : p < w.heap.size) (o : Obj) : MS m s p f FA fc (w.alloc o) := by
  obtain ⟨a0, a1, a2, a3, a4, a5, a6⟩ := h
  exact ⟨(World.cell?_alloc_lt w _ _ h1).trans a0, (World.cell?_alloc_lt w _ _ h2).trans a1, (World.cell?_alloc_lt w _ _ h2).trans a2, (World.cell?_alloc_lt w _ _ h2).trans a3, (World.cell?_alloc_lt w _ _ h2).trans a4, (World.cell?_alloc_lt w _ _ h2).trans a5, (World.cell?_alloc_lt w _ _ h2).trans a6⟩
end
def mtakeD (d : Dp) (sl' : Sl) (cm : List Int) : Dp := if (parseM cm).2.2.2 = 0 then doesS d (decide (0 < sl'.pend.length)) (parseM cm).1 (parseM cm).2.1 (parseM cm).2.2.1 else d
def MTakePost (B m s : Nat) (sl : Sl) (d : Dp) (bt : BS) (a : Int) (f : Fm) (w : World) (e : Ending) (w' : World) : Prop :=
  ∃ an cm ok sl' AA ac A' c', takeS sl f = (an, cm, ok, sl') ∧ e = .returned (.tuple #[.agg (fmv an AA ac), .bool ok]) ∧ Hid (Made w.heap.size AA ac an.B w') ∧ Hid (MoB B m s A' c' sl' (mtakeD d sl' cm) bt a w') ∧ Hid (Fr (fun j => j = m ∨ j = s) w w')
theorem take_cm {sl sl' : Sl} {f an : Fm} {cm : List Int} {ok : Bool} (h : takeS sl f = (an, cm, ok, sl')) : cm = f.B ∨ cm = [] := by
  have hc : ∀ st, cmdS st f = f.B ∨ cmdS st f = [] := fun st => by
    unfold cmdS; split
    · exact .inl rfl
    · exact .inr rfl
  unfold takeS at h
  split at h
  · simp only [Prod.mk.injEq] at h; exact .inr h.2.1.symm
  · split at h
    · simp only [Prod.mk.injEq] at h; exact .inr h.2.1.symm
    · split at h
      · simp only [Prod.mk.injEq] at h; exact .inr h.2.1.symm
      · simp only [Prod.mk.injEq] at h; rw [← h.2.1]; exact hc _
set_option maxHeartbeats 8000000 in
set_option maxRecDepth 20000 in
theorem MTakeC {B m s : Nat} {A FA : Option Addr} {c fc : Nat} {sl : Sl} {d : Dp} {bt : BS} {a : Int} {f : Fm} {w : World} (hm : MoB B m s A c sl d bt a w) (hp : sl.pend.length ≤ 1000) (hr : RowOf c8 1 w w.heap.size FA f.B) (hfl : f.B.length ≤ 1000) (hib : InB f.B) (hne : ∀ ad, FA = some ad → f.B ≠ [] → ad.block ≠ s) :
    Calls Tryd.prog 21 #[.pointer (some ⟨m, 0, none⟩), .agg (fmv f FA fc)] w (MTakePost B m s sl d bt a f w) := by
  have F0 : Fr0 w ((w.alloc (.cells (fmv f FA fc) 54)).alloc (.cells #[.int .u8 0, .int .u8 0, .int .u8 0, .int .u8 0, .int .u8 0, .slice none 0 0] 54)) := ((Fr.refl (fun _ => False) w).alloc _).alloc _
  have HM := Lib.hid (hm.fr0 F0)
  have HBX : Hid (Blk ((w.alloc (.cells (fmv f FA fc) 54)).alloc (.cells #[.int .u8 0, .int .u8 0, .int .u8 0, .int .u8 0, .int .u8 0, .slice none 0 0] 54)) w.heap.size 54 (fmv f FA fc)) := Lib.hid ((Blk.new w _ _).alloc _)
  have HRS : Hid (Blk ((w.alloc (.cells (fmv f FA fc) 54)).alloc (.cells #[.int .u8 0, .int .u8 0, .int .u8 0, .int .u8 0, .int .u8 0, .slice none 0 0] 54)) (w.heap.size + 1) 54 (fmv f0 none 0)) := Lib.hid (Blk.new_at (by simp))
  have HR := Lib.hid (RowOf.now hr F0.below0)
  have HF0 := Lib.hid F0
  have hml : m < w.heap.size := hm.blk.lt
  have hsl : s < w.heap.size := hm.sb.blk.lt
  have hsz : ((w.alloc (.cells (fmv f FA fc) 54)).alloc (.cells #[.int .u8 0, .int .u8 0, .int .u8 0, .int .u8 0, .int .u8 0, .slice none 0 0] 54)).heap.size = w.heap.size + 2 := by simp
  have HSZ := Lib.hid hsz
  have HIB := Lib.hid hib
  clear hm hr F0 hsz hib
  go_enter Tryd.func21, Tryd.ntmps21
  go_upto_region 1 with (fail)
  obtain ⟨W, hW⟩ : ∃ W, W = (w.alloc (.cells (fmv f FA fc) 54)).alloc (.cells #[.int .u8 0, .int .u8 0, .int .u8 0, .int .u8 0, .int .u8 0, .slice none 0 0] 54) := ⟨_, rfl⟩
  rw [← hW] at HM HBX HRS HR HF0 HSZ ⊢
  clear hW
  go_cut [6, 7, 8] (fun s6 s7 s8 wx => ∃ g an cm ok sl' AA ac CA cc A' c', takeS sl f = (an, cm, ok, sl') ∧ s6 = .pointer (some ⟨g, 0, none⟩) ∧ s7 = .slice CA cm.length cc ∧ s8 = .bool ok ∧ w.heap.size + 2 ≤ g ∧ Blk wx g 54 (fmv an AA ac) ∧ Made w.heap.size AA ac an.B wx ∧ Made w.heap.size CA cc cm wx ∧ SlB B s A' c' sl' wx ∧ Fr (fun j => j = s ∨ j = g) W wx)
  case first =>
    have QT : Hid (∀ W', Fr0 W W' → Calls Tryd.prog 35 #[.pointer (some ⟨s, 0, none⟩), .agg (fmv f FA fc)] W' (TakePost B s sl f W')) := Lib.hid (fun W' k => TakeC (HM.out.fr0 k).sb hp (RowOf.now HR.out k.below0) hfl hne)
    have hsW := HSZ.out
    have HS0 : Hid (MS m s w.heap.size f FA fc W) := Lib.hid ⟨HM.out.cells.1, HBX.out.cell 0, HBX.out.cell 1, HBX.out.cell 2, HBX.out.cell 3, HBX.out.cell 4, HBX.out.cell 5⟩
    have hmW : m < W.heap.size := by omega
    have hpW : w.heap.size < W.heap.size := by omega
    have HSA : Hid (MS m s w.heap.size f FA fc (W.alloc (.cells #[.int .u8 0, .int .u8 0, .int .u8 0, .int .u8 0, .int .u8 0, .slice none 0 0] 54))) := Lib.hid (HS0.out.al hmW hpW _)
    have HSD : Hid (MS m s w.heap.size f FA fc W.drew) := Lib.hid HS0.out
    have HSAD : Hid (MS m s w.heap.size f FA fc (W.alloc (.cells #[.int .u8 0, .int .u8 0, .int .u8 0, .int .u8 0, .int .u8 0, .slice none 0 0] 54)).drew) := Lib.hid HSA.out
    have hmp : m ≠ w.heap.size := by omega
    have hsp : s ≠ w.heap.size := by omega
    have hms : m ≠ s := fun e => Blk.ne_ HM.out.blk HM.out.sb.blk (by decide) e
    have k1 : Hid True := Lib.hid trivial
    have HSF : Hid (∀ W1 W2, MS m s w.heap.size f FA fc W1 → Fr (fun j => j = s) W1 W2 → m < W1.heap.size → w.heap.size < W1.heap.size → MS m s w.heap.size f FA fc W2) := Lib.hid (fun W1 W2 h k h1 h2 => ⟨(k.cell (p := ⟨m, 0, none⟩) h1 hms).trans h.1, (k.cell (p := ⟨w.heap.size, 0, none⟩) h2 hsp.symm).trans h.2.1, (k.cell (p := ⟨w.heap.size, 1, none⟩) h2 hsp.symm).trans h.2.2.1, (k.cell (p := ⟨w.heap.size, 2, none⟩) h2 hsp.symm).trans h.2.2.2.1, (k.cell (p := ⟨w.heap.size, 3, none⟩) h2 hsp.symm).trans h.2.2.2.2.1, (k.cell (p := ⟨w.heap.size, 4, none⟩) h2 hsp.symm).trans h.2.2.2.2.2.1, (k.cell (p := ⟨w.heap.size, 5, none⟩) h2 hsp.symm).trans h.2.2.2.2.2.2⟩)
    have hgm : W.heap.size ≠ m := by omega
    have hgp : W.heap.size ≠ w.heap.size := by omega
    clear hsW
    go_wp2_with fail
    go_region_held3 (fun w' => w'.cell? ⟨m, 0, none⟩ = some (.pointer (some ⟨s, 0, none⟩)) ∧ w'.cell? ⟨w.heap.size, 0, none⟩ = some (.int .u8 f.addr) ∧ w'.cell? ⟨w.heap.size, 1, none⟩ = some (.int .u8 f.kind) ∧ w'.cell? ⟨w.heap.size, 2, none⟩ = some (.int .u8 f.ses) ∧ w'.cell? ⟨w.heap.size, 3, none⟩ = some (.int .u8 f.seq) ∧ w'.cell? ⟨w.heap.size, 4, none⟩ = some (.int .u8 f.ack) ∧ w'.cell? ⟨w.heap.size, 5, none⟩ = some (.slice FA f.B.length fc)) (first | (with_reducible exact HSD.out) | (with_reducible exact HSAD.out) | (with_reducible exact HS3.out) | (with_reducible exact HS3.out.al hm3 hp3 _) | (with_reducible exact HS4.out) | (with_reducible exact (HS4.out.far hgm hgp _ _)) | (with_reducible exact ((HS4.out.far hgm hgp _ _).far hgm hgp _ _)) | (with_reducible exact (((HS4.out.far hgm hgp _ _).far hgm hgp _ _).far hgm hgp _ _)) | (with_reducible exact ((((HS4.out.far hgm hgp _ _).far hgm hgp _ _).far hgm hgp _ _).far hgm hgp _ _)) | (with_reducible exact (((((HS4.out.far hgm hgp _ _).far hgm hgp _ _).far hgm hgp _ _).far hgm hgp _ _).far hgm hgp _ _)) | (with_reducible exact ((((((HS4.out.far hgm hgp _ _).far hgm hgp _ _).far hgm hgp _ _).far hgm hgp _ _).far hgm hgp _ _).far hgm hgp _ _))) (first
      | (go_at_call 35; refine Calls.mono (QT.out W.drew (by exact (Fr.refl (fun _ => False) _).drew)) ?_; rintro e w3 ⟨an, cm, ok, sl', AA, ac, CA, cc, A', c', hTK, rfl, HA3, HC3, HB3, HF3⟩; have HS3 := Lib.hid (HSF.out _ _ HSD.out HF3.out hmW hpW); have hm3 : m < w3.heap.size := Nat.lt_of_lt_of_le hmW HF3.out.size; have hp3 : w.heap.size < w3.heap.size := Nat.lt_of_lt_of_le hpW HF3.out.size; have ka := k1)
      | (go_at_call 35; refine Calls.mono (QT.out (W.alloc (.cells #[.int .u8 0, .int .u8 0, .int .u8 0, .int .u8 0, .int .u8 0, .slice none 0 0] 54)).drew (by exact ((Fr.refl (fun _ => False) _).alloc _).drew)) ?_; rintro e w3 ⟨an, cm, ok, sl', AA, ac, CA, cc, A', c', hTK, rfl, HA3, HC3, HB3, HF3⟩; have HS4 := Lib.hid (HSF.out _ _ HSAD.out HF3.out (by simp; omega) (by simp; omega)); have hsW : s ≠ W.heap.size := (by omega : s ≠ W.heap.size); have zk := (show Blk (W.alloc (.cells #[.int .u8 0, .int .u8 0, .int .u8 0, .int .u8 0, .int .u8 0, .slice none 0 0] 54)).drew W.heap.size 54 (fmv f0 none 0) from Blk.new W 54 _).fr HF3.out (fun e => hsW e.symm); obtain ⟨d0, e0, d1, e1, d2, e2, d3, e3, d4, e4, d5, e5⟩ := stF_facts zk an AA ac; have hz : W.heap.size < w3.heap.size := zk.lt; have HZK := Lib.hid zk; clear zk))
    all_goals first
      | (have F3' := Fr.undrew HF3.out
         have hsz0 := HF0.out.size
         have FA3 : Fr0 w3 (w3.alloc (.cells (fmv an AA ac) 54)) := (Fr.refl (fun _ => False) w3).alloc _
         have HG1 : Hid (Blk (w3.alloc (.cells (fmv an AA ac) 54)) w3.heap.size 54 (fmv an AA ac)) := Lib.hid (Blk.new w3 _ _)
         have HG2 : Hid (Made w.heap.size AA ac an.B (w3.alloc (.cells (fmv an AA ac) 54))) := Lib.hid (made_fr ⟨own_weak HA3.out.1 hsz0, HA3.out.2.1, HA3.out.2.2⟩ FA3 (fun _ _ h => h))
         have HG3 : Hid (Made w.heap.size CA cc cm (w3.alloc (.cells (fmv an AA ac) 54))) := Lib.hid (made_fr ⟨own_weak HC3.out.1 hsz0, HC3.out.2.1, HC3.out.2.2⟩ FA3 (fun _ _ h => h))
         have HG4 : Hid (SlB B s A' c' sl' (w3.alloc (.cells (fmv an AA ac) 54))) := Lib.hid (HB3.out.fr FA3 (fun _ _ _ h => h))
         have HG5 : Hid (Fr (fun j => j = s ∨ j = w3.heap.size) W (w3.alloc (.cells (fmv an AA ac) 54))) := Lib.hid ((F3'.mono (fun _ _ e => .inl e)).trans FA3 (fun _ _ h => h.elim))
         have hg6 : w.heap.size + 2 ≤ w3.heap.size := by have := F3'.size; have := HSZ.out; omega
         have HTK := Lib.hid hTK
         clear F3' FA3 hTK
         go_wp2_with fail
         go_meet
         exact ⟨w3.heap.size, an, cm, ok, sl', AA, ac, CA, cc, A', c', HTK.out, rfl, rfl, rfl, hg6, HG1.out, HG2.out, HG3.out, HG4.out, HG5.out⟩)
      | (have F3' : Fr (fun j => j = s) W w3 := (((Fr.refl (fun _ => False) W).alloc (.cells #[.int .u8 0, .int .u8 0, .int .u8 0, .int .u8 0, .int .u8 0, .slice none 0 0] 54)).drew.mono (S' := fun j => j = s) (fun _ _ h => h.elim)).trans HF3.out (fun _ _ e => e)
         have hsz0 := HF0.out.size
         have hsz1 : w.heap.size ≤ (W.alloc (.cells #[.int .u8 0, .int .u8 0, .int .u8 0, .int .u8 0, .int .u8 0, .slice none 0 0] 54)).drew.heap.size := by simp; omega
         have FS := stF_fr w3 W.heap.size an AA ac
         have zk := HZK.out
         have HG1 : Hid (Blk (stF w3 W.heap.size an AA ac) W.heap.size 54 (fmv an AA ac)) := Lib.hid (stF_blk zk)
         have HG2 : Hid (Made w.heap.size AA ac an.B (stF w3 W.heap.size an AA ac)) := Lib.hid (made_fr ⟨own_weak HA3.out.1 hsz1, HA3.out.2.1, HA3.out.2.2⟩ FS (fun j e e' => own_blk_ne HA3.out.1 zk (by decide) (e' ▸ e)))
         have HG3 : Hid (Made w.heap.size CA cc cm (stF w3 W.heap.size an AA ac)) := Lib.hid (made_fr ⟨own_weak HC3.out.1 hsz1, HC3.out.2.1, HC3.out.2.2⟩ FS (fun j e e' => own_blk_ne HC3.out.1 zk (by decide) (e' ▸ e)))
         have HG4 : Hid (SlB B s A' c' sl' (stF w3 W.heap.size an AA ac)) := Lib.hid (HB3.out.res FS (by omega) (fun j e e' => own_blk_ne HB3.out.made.1 zk (by decide) (e' ▸ e)))
         have HG5 : Hid (Fr (fun j => j = s ∨ j = W.heap.size) W (stF w3 W.heap.size an AA ac)) := Lib.hid ((F3'.mono (fun _ _ e => .inl e)).trans FS (fun _ _ e => .inr e))
         have hg6 : w.heap.size + 2 ≤ W.heap.size := by have := HSZ.out; omega
         have HTK := Lib.hid hTK
         clear F3' FS hTK zk d0 e0 d1 e1 d2 e2 d3 e3 d4 e4 d5 e5
         go_wp2_with fail
         go_meet
         exact ⟨W.heap.size, an, cm, ok, sl', AA, ac, CA, cc, A', c', HTK.out, rfl, rfl, rfl, hg6, HG1.out, HG2.out, HG3.out, HG4.out, HG5.out⟩)
  case rest =>
    obtain ⟨g, an, cm, ok, sl', AA, ac, CA, cc, A', c', htk, rfl, rfl, rfl, hg, hbg, hma, hmc, hsb, hfr⟩ := hcut
    have HTK := Lib.hid htk
    have hmgs : ∀ j, j < w.heap.size + 2 → j ≠ s → ¬ (j = s ∨ j = g) := fun j h1 h2 e => by
      rcases e with e | e
      · exact h2 e
      · omega
    have hms : m ≠ s := fun e => Blk.ne_ HM.out.blk HM.out.sb.blk (by decide) e
    have HM2 : Hid (MoB B m s A' c' sl' d bt a wc) := Lib.hid ⟨HM.out.blk.fr hfr (hmgs m (by omega) hms), hsb, HM.out.low, HM.out.wf⟩
    have HRS2 := Lib.hid (HRS.out.fr hfr (hmgs (w.heap.size + 1) (by omega) (by omega)))
    have HFW : Hid (Fr (fun j => j = m ∨ j = s) w wc) := Lib.hid ((HF0.out.mono (S' := fun j => j = m ∨ j = s) (fun _ _ h => h.elim)).trans hfr (fun j hj e => by
      rcases e with e | e
      · exact .inr e
      · omega))
    have hib2 : InB cm := by
      rcases take_cm htk with e | e
      · rw [e]; exact HIB.out
      · rw [e]; intro x hx; cases hx
    have hcl : cm.length ≤ 1000 := by
      rcases take_cm htk with e | e
      · rw [e]; exact hfl
      · rw [e]; simp
    have qP := ParseCmdC (c := cc) hmc.2.1 hib2 hcl
    have HBG := Lib.hid hbg
    have HMA := Lib.hid hma
    obtain ⟨pm, hpm⟩ : ∃ pm, pm = parseM cm := ⟨_, rfl⟩
    rw [← hpm] at qP
    have HD2 : Hid (mtakeD d sl' cm = if pm.2.2.2 = 0 then doesS d (decide (0 < sl'.pend.length)) pm.1 pm.2.1 pm.2.2.1 else d) := Lib.hid (by rw [hpm]; rfl)
    obtain ⟨pk, pt, pq, pe⟩ := pm
    simp only at qP HD2
    clear htk hmgs hib2 hcl hbg hma hmc hsb hfr hpm HM HRS HR HBX HF0 HSZ HIB
    go_wp2_with fail
    refine Calls.mono qP ?_
    clear qP
    rintro e w4 ⟨rfl, F4⟩
    have F5 := F4.out.alloc (.cells #[.int .u8 pk, .int .u16 pt, .int .u16 pq] 24)
    have HM5 := Lib.hid (HM2.out.fr0 F5)
    have HBG5 := Lib.hid (HBG.out.fr F5 (fun h => h))
    have HMA5 := Lib.hid (made_fr HMA.out F5 (fun _ _ h => h))
    have HRS5 := Lib.hid (HRS2.out.fr F5 (fun h => h))
    have HFW5 := Lib.hid (HFW.out.trans F5 (fun _ _ h => h.elim))
    clear F5 HM2 HBG HMA HRS2 HFW F4
    by_cases he : pe = 0
    · subst he
      rw [if_pos rfl] at HD2
      have qD := MdoesC (k := pk) (t := pt) (q := pq) HM5.out
      go_wp2_with fail
      generalize w4.alloc (.cells #[.int .u8 pk, .int .u16 pt, .int .u16 pq] 24) = w5 at *
      refine Calls.mono qD ?_
      clear qD
      rintro e w6 ⟨rfl, HM6, F6⟩
      have HM6' : Hid (MoB B m s A' c' sl' (mtakeD d sl' cm) bt a w6) := Lib.hid (by rw [HD2.out]; exact HM6.out)
      have HBG6 := Lib.hid (HBG5.out.fr F6.out (by omega))
      have HMA6 := Lib.hid (made_fr HMA5.out F6.out (fun j e e' => own_blk_ne HMA5.out.1 HM5.out.blk (by decide) (e' ▸ e)))
      have HRS6 := Lib.hid (HRS5.out.fr F6.out (by omega))
      have HFW6 := Lib.hid (HFW5.out.trans F6.out (fun _ _ e => .inl e))
      clear HM6 HM5 HBG5 HMA5 HRS5 HFW5 F6 HD2
      have hr6 := HRS6.out
      have l0 : w6.cell? ⟨g, 0, none⟩ = some (.int .u8 an.addr) := HBG6.out.cell 0
      have l1 : w6.cell? ⟨g, 1, none⟩ = some (.int .u8 an.kind) := HBG6.out.cell 1
      have l2 : w6.cell? ⟨g, 2, none⟩ = some (.int .u8 an.ses) := HBG6.out.cell 2
      have l3 : w6.cell? ⟨g, 3, none⟩ = some (.int .u8 an.seq) := HBG6.out.cell 3
      have l4 : w6.cell? ⟨g, 4, none⟩ = some (.int .u8 an.ack) := HBG6.out.cell 4
      have l5 : w6.cell? ⟨g, 5, none⟩ = some (.slice AA an.B.length ac) := HBG6.out.cell 5
      obtain ⟨d0, e0, d1, e1, d2, e2, d3, e3, d4, e4, d5, e5⟩ := stF_facts hr6 an AA ac
      have hF7 := stF_fr w6 (w.heap.size + 1) an AA ac
      have HB7 := Lib.hid (stF_blk (f := an) (A := AA) (c := ac) hr6)
      have HMA7 := Lib.hid (made_fr HMA6.out hF7 (fun j e e' => own_blk_ne HMA6.out.1 hr6 (by decide) (e' ▸ e)))
      have HM7 := Lib.hid (show MoB B m s A' c' sl' (mtakeD d sl' cm) bt a (stF w6 (w.heap.size + 1) an AA ac) from ⟨HM6'.out.blk.fr hF7 (by omega), HM6'.out.sb.res hF7 (by omega) (fun j e e' => own_blk_ne HM6'.out.sb.made.1 hr6 (by decide) (e' ▸ e)), HM6'.out.low, HM6'.out.wf⟩)
      have HFW7 := Lib.hid (HFW6.out.trans hF7 (fun j hj e => absurd e (by omega)))
      clear hr6 hF7 HM6' HBG6 HMA6 HRS6 HFW6
      go_wp2
      refine bodyPost_ret_by (results_row_tmp rfl _ _ (w.heap.size + 1) 54 _ (0, 0) _ rfl HB7.out Tryd.underlying54 rfl (by kernel_rfl)) rfl ?_
      exact ⟨an, cm, ok, sl', AA, ac, A', c', HTK.out, rfl, HMA7, HM7, HFW7⟩
    · rw [if_neg he] at HD2
      have be : (pe == 0) = false := by simp [he]
      have HM6' : Hid (MoB B m s A' c' sl' (mtakeD d sl' cm) bt a (w4.alloc (.cells #[.int .u8 pk, .int .u16 pt, .int .u16 pq] 24))) := Lib.hid (by rw [HD2.out]; exact HM5.out)
      have HBG6 := HBG5
      have HMA6 := HMA5
      have HRS6 := HRS5
      have HFW6 := HFW5
      clear HM5 HBG5 HMA5 HRS5 HFW5 HD2 he
      have hr6 := HRS6.out
      have l0 : (w4.alloc (.cells #[.int .u8 pk, .int .u16 pt, .int .u16 pq] 24)).cell? ⟨g, 0, none⟩ = some (.int .u8 an.addr) := HBG6.out.cell 0
      have l1 : (w4.alloc (.cells #[.int .u8 pk, .int .u16 pt, .int .u16 pq] 24)).cell? ⟨g, 1, none⟩ = some (.int .u8 an.kind) := HBG6.out.cell 1
      have l2 : (w4.alloc (.cells #[.int .u8 pk, .int .u16 pt, .int .u16 pq] 24)).cell? ⟨g, 2, none⟩ = some (.int .u8 an.ses) := HBG6.out.cell 2
      have l3 : (w4.alloc (.cells #[.int .u8 pk, .int .u16 pt, .int .u16 pq] 24)).cell? ⟨g, 3, none⟩ = some (.int .u8 an.seq) := HBG6.out.cell 3
      have l4 : (w4.alloc (.cells #[.int .u8 pk, .int .u16 pt, .int .u16 pq] 24)).cell? ⟨g, 4, none⟩ = some (.int .u8 an.ack) := HBG6.out.cell 4
      have l5 : (w4.alloc (.cells #[.int .u8 pk, .int .u16 pt, .int .u16 pq] 24)).cell? ⟨g, 5, none⟩ = some (.slice AA an.B.length ac) := HBG6.out.cell 5
      obtain ⟨d0, e0, d1, e1, d2, e2, d3, e3, d4, e4, d5, e5⟩ := stF_facts hr6 an AA ac
      have hF7 := stF_fr (w4.alloc (.cells #[.int .u8 pk, .int .u16 pt, .int .u16 pq] 24)) (w.heap.size + 1) an AA ac
      have HB7 := Lib.hid (stF_blk (f := an) (A := AA) (c := ac) hr6)
      have HMA7 := Lib.hid (made_fr HMA6.out hF7 (fun j e e' => own_blk_ne HMA6.out.1 hr6 (by decide) (e' ▸ e)))
      have HM7 := Lib.hid (show MoB B m s A' c' sl' (mtakeD d sl' cm) bt a (stF (w4.alloc (.cells #[.int .u8 pk, .int .u16 pt, .int .u16 pq] 24)) (w.heap.size + 1) an AA ac) from ⟨HM6'.out.blk.fr hF7 (by omega), HM6'.out.sb.res hF7 (by omega) (fun j e e' => own_blk_ne HM6'.out.sb.made.1 hr6 (by decide) (e' ▸ e)), HM6'.out.low, HM6'.out.wf⟩)
      have HFW7 := Lib.hid (HFW6.out.trans hF7 (fun j hj e => absurd e (by omega)))
      clear hr6 hF7 HM6' HBG6 HMA6 HRS6 HFW6
      go_wp2
      refine bodyPost_ret_by (results_row_tmp rfl _ _ (w.heap.size + 1) 54 _ (0, 0) _ rfl HB7.out Tryd.underlying54 rfl (by kernel_rfl)) rfl ?_
      exact ⟨an, cm, ok, sl', AA, ac, A', c', HTK.out, rfl, HMA7, HM7, HFW7⟩
end Go.Proofs.YtdhfinpmcikimaaDoor.K
