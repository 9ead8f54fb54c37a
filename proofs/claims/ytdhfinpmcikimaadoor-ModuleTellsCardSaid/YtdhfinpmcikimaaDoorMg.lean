/- A line: opened, tells. -/
import Derived.Test.YtdhfinpmcikimaaDoorMf
import Derived.Test.YtdhfinpmcikimaaDoorStr
namespace Go.Proofs.YtdhfinpmcikimaaDoor.K
open Go.RowKit
set_option linter.unusedVariables false
set_option linter.unusedSimpArgs false
theorem rowE_none (w : World) : RowOf c8 1 w w.heap.size none [] := fun i x hx => by simp at hx
theorem none_ne (s : Nat) : ∀ ad : Addr, (none : Option Addr) = some ad → ad.block ≠ s := fun ad e => by cases e
theorem open_take : takeS ⟨0, 0, 0, 3, []⟩ ⟨3, 1, 1, 0, 0, []⟩ = (⟨3, 4, 1, 0, 0, []⟩, [], true, ⟨1, 0, 0, 3, []⟩) := by rfl
theorem mtakeD_nil (d : Dp) (sl : Sl) : mtakeD d sl [] = d := by unfold mtakeD parseM; simp
set_option maxHeartbeats 2000000 in
theorem OpenedC (w : World) : Calls Tryd.prog 16 #[] w fun e w' => ∃ l m s A c, e = .returned (.pointer (some ⟨l, 0, none⟩)) ∧ Hid (LiB w.heap.size l m s A c ⟨1, 0, 0, 3, []⟩ ⟨false, false, 0, 0, 0⟩ z4 0 0 w') ∧ Hid (Fr0 w w') := by
  go_enter Tryd.func16, Tryd.ntmps16
  go_wp2_with fail
  refine Calls.mono (MNewC 3 w) ?_
  rintro e w1 ⟨m, s, rfl, H1, F1⟩
  have qT := MTakeC (f := ⟨3, 1, 1, 0, 0, []⟩) (FA := none) (fc := 0) H1.out (by simp) (rowE_none w1) (by simp) (fun x hx => by cases hx) (fun ad e => by cases e)
  go_wp2_with fail
  refine Calls.mono qT ?_
  clear qT
  rintro e w2 ⟨an, cm, ok, sl', AA, ac, A', c', hTK, rfl, HA, HM, HF⟩
  rw [open_take] at hTK
  simp only [Prod.mk.injEq] at hTK
  obtain ⟨rfl, rfl, rfl, rfl⟩ := hTK
  rw [mtakeD_nil] at HM
  have hmlow := H1.out.low
  have hslow := H1.out.sb.low
  have HF2 : Hid (Fr0 w w2) := Lib.hid (F1.out.trans HF.out (fun j hj e => by omega))
  have hsz := HF2.out.size
  clear H1 F1 HF HA
  have F4 : Fr0 w2 ((w2.alloc (.cells (fmv ⟨3, 4, 1, 0, 0, []⟩ AA ac) 54)).alloc (.cells #[.pointer (some ⟨m, 0, none⟩), .int .u8 0, .int .u8 0] 47)) := ((Fr.refl (fun _ => False) w2).alloc _).alloc _
  have HL : Hid (LiB w.heap.size (w2.heap.size + 1) m s A' c' ⟨1, 0, 0, 3, []⟩ ⟨false, false, 0, 0, 0⟩ z4 0 0 ((w2.alloc (.cells (fmv ⟨3, 4, 1, 0, 0, []⟩ AA ac) 54)).alloc (.cells #[.pointer (some ⟨m, 0, none⟩), .int .u8 0, .int .u8 0] 47))) := Lib.hid ⟨Blk.new_at (by simp), HM.out.fr0 F4, by omega⟩
  have HF4 := Lib.hid (HF2.out.trans F4 (fun _ _ h => h))
  clear F4 HM HF2
  go_wp2
  go_ret
  exact ⟨w2.heap.size + 1, m, s, A', c', rfl, HL, HF4⟩
def tellF (seq ack : Int) (b : List Int) : Fm := if 0 < b.length then ⟨3, 2, 1, seq, ack, b⟩ else ⟨3, 3, 1, 0, ack, []⟩
theorem MoB.beside {B m s l : Nat} {A : Option Addr} {c : Nat} {sl : Sl} {d : Dp} {bt : BS} {a : Int} {w w' : World} (h : MoB B m s A c sl d bt a w) (k : Fr (fun j => j = l) w w') (h1 : m ≠ l) (h2 : s ≠ l) (h3 : ∀ j, (Value.slice A sl.pend.length c).ownBlock = some j → j ≠ l) : MoB B m s A c sl d bt a w' :=
  ⟨h.blk.fr k h1, ⟨h.sb.blk.fr k h2, made_fr h.sb.made k h3, h.sb.low, h.sb.bits⟩, h.low, h.wf⟩
structure Tl where
  out : List Int
  sl : Sl
  d : Dp
  seq : Int
  ack : Int
def tellsL (sl : Sl) (d : Dp) (seq ack : Int) (b : List Int) : Tl :=
  let r := takeS sl (tellF seq ack b)
  let sq := if 0 < b.length then 1 - seq else seq
  if r.2.2.1 = false ∨ r.1.B.length = 0 ∨ r.1.seq ≠ ack then ⟨[], r.2.2.2, mtakeD d r.2.2.2 r.2.1, sq, ack⟩ else ⟨r.1.B, r.2.2.2, mtakeD d r.2.2.2 r.2.1, sq, 1 - ack⟩
theorem strE_nil : strOfNums [] = ByteArray.mk #[] := rfl
set_option maxHeartbeats 8000000 in
set_option maxRecDepth 20000 in
theorem TellsC {B l m s : Nat} {A BA : Option Addr} {c bc : Nat} {sl : Sl} {d : Dp} {bt : BS} {seq ack : Int} {b : List Int} {w : World} (hl : LiB B l m s A c sl d bt seq ack w) (hp : sl.pend.length ≤ 1000) (hr : RowOf c8 1 w w.heap.size BA b) (hbl : b.length ≤ 1000) (hib : InB b) (hne : ∀ ad, BA = some ad → ad.block ≠ s ∧ ad.block ≠ l) (hsq : seq = 0 ∨ seq = 1) (hak : ack = 0 ∨ ack = 1) :
    Calls Tryd.prog 17 #[.pointer (some ⟨l, 0, none⟩), .slice BA b.length bc] w fun e w' => e = .returned (.string (strOfNums (tellsL sl d seq ack b).out)) ∧ ∃ A' c', Hid (LiB B l m s A' c' (tellsL sl d seq ack b).sl (tellsL sl d seq ack b).d bt (tellsL sl d seq ack b).seq (tellsL sl d seq ack b).ack w') ∧ Hid (Fr (fun j => j = m ∨ j = s ∨ j = l) w w') := by
  have hml : m < w.heap.size := hl.mo.blk.lt
  have hsl : s < w.heap.size := hl.mo.sb.blk.lt
  have hll : l < w.heap.size := hl.blk.lt
  have hlm : l ≠ m := fun e => Blk.ne_ hl.blk hl.mo.blk (by decide) e
  have hls : l ≠ s := fun e => Blk.ne_ hl.blk hl.mo.sb.blk (by decide) e
  have HLM : Hid (l ≠ m ∧ l ≠ s) := Lib.hid ⟨hlm, hls⟩
  have HBITS : Hid ((seq = 0 ∨ seq = 1) ∧ (ack = 0 ∨ ack = 1)) := Lib.hid ⟨hsq, hak⟩
  have F0 : Fr0 w (w.alloc (.cells (fmv ⟨3, 3, 1, 0, ack, []⟩ none 0) 54)) := (Fr.refl (fun _ => False) w).alloc _
  have l2 : w.cell? ⟨l, 2, none⟩ = some (.int .u8 ack) := hl.blk.cell 2
  have l2' := hl.fr0 F0
  have l1 : (w.alloc (.cells (fmv ⟨3, 3, 1, 0, ack, []⟩ none 0) 54)).cell? ⟨l, 1, none⟩ = some (.int .u8 seq) := l2'.blk.cell 1
  have HL := Lib.hid hl
  have HR := Lib.hid hr
  have HNE := Lib.hid hne
  have HIB := Lib.hid hib
  clear hl hr hne hib F0 l2' hlm hls hsq hak l1
  go_enter Tryd.func17, Tryd.ntmps17
  go_upto_if 15 with (fail)
  go_cut [] (fun wx => ∃ FA fc, Blk wx w.heap.size 54 (fmv (tellF seq ack b) FA fc) ∧ RowOf c8 1 wx wx.heap.size FA (tellF seq ack b).B ∧ (∀ ad, FA = some ad → ad.block ≠ s) ∧ wx.heap.size = w.heap.size + 1 ∧ LiB B l m s A c sl d bt (if 0 < b.length then 1 - seq else seq) ack wx ∧ Fr (fun j => j = l) w wx)
  case first =>
    by_cases hb : 0 < b.length
    · have hbI : (0 : Int) < (b.length : Int) := by omega
      have HTF : Hid (tellF seq ack b = ⟨3, 2, 1, seq, ack, b⟩) := Lib.hid (by unfold tellF; exact if_pos hb)
      have HSQ : Hid ((if 0 < b.length then 1 - seq else seq) = 1 - seq) := Lib.hid (if_pos hb)
      have g1 : w.cell? ⟨l, 1, none⟩ = some (.int .u8 seq) := HL.out.blk.cell 1
      have f1 : w.frozen? ⟨l, 1, none⟩ = false := HL.out.blk.frozen 1
      have hwr : IntKind.u8.wrap (1 - seq) = 1 - seq := by rw [IntKind.wrap_u8]; have := HBITS.out.1; omega
      have hb2 : Blk (w.setCell ⟨l, 1, none⟩ (.int .u8 (1 - seq))) l 47 #[.pointer (some ⟨m, 0, none⟩), .int .u8 (1 - seq), .int .u8 ack] := by simpa using HL.out.blk.set_ 1 (.int .u8 (1 - seq))
      have hF2 : Fr (fun j => j = l) w (w.setCell ⟨l, 1, none⟩ (.int .u8 (1 - seq))) := (Fr.refl (fun j => j = l) w).setCell (p := ⟨l, 1, none⟩) (fun _ => rfl) _
      have hsw : (w.setCell ⟨l, 1, none⟩ (.int .u8 (1 - seq))).heap.size = w.heap.size := by simp [World.setCell]
      have hl2 : LiB B l m s A c sl d bt (1 - seq) ack (w.setCell ⟨l, 1, none⟩ (.int .u8 (1 - seq))) := ⟨hb2, HL.out.mo.beside hF2 (fun e => HLM.out.1 e.symm) (fun e => HLM.out.2 e.symm) (fun j e e' => own_blk_ne HL.out.mo.sb.made.1 HL.out.blk (by decide) (e' ▸ e)), HL.out.low⟩
      have F1 : Fr0 (w.setCell ⟨l, 1, none⟩ (.int .u8 (1 - seq))) ((w.setCell ⟨l, 1, none⟩ (.int .u8 (1 - seq))).alloc (.cells #[.int .u8 3, .int .u8 2, .int .u8 1, .int .u8 seq, .int .u8 ack, .slice BA b.length bc] 54)) := (Fr.refl (fun _ => False) _).alloc _
      have HB2 := Lib.hid (hl2.fr0 F1)
      have HX2 : Hid (Blk ((w.setCell ⟨l, 1, none⟩ (.int .u8 (1 - seq))).alloc (.cells #[.int .u8 3, .int .u8 2, .int .u8 1, .int .u8 seq, .int .u8 ack, .slice BA b.length bc] 54)) w.heap.size 54 (fmv ⟨3, 2, 1, seq, ack, b⟩ BA bc)) := Lib.hid (Blk.new_at hsw.symm)
      have HR2 := Lib.hid (rowS_fr (rowS_fr HR.out hF2 (fun ad e _ => (HNE.out ad e).2)) F1 (fun _ _ _ h => h))
      have HF2 := Lib.hid (hF2.trans F1 (fun _ _ h => h.elim))
      have HSZ2 : Hid (((w.setCell ⟨l, 1, none⟩ (.int .u8 (1 - seq))).alloc (.cells #[.int .u8 3, .int .u8 2, .int .u8 1, .int .u8 seq, .int .u8 ack, .slice BA b.length bc] 54)).heap.size = w.heap.size + 1) := Lib.hid (by simp [hsw])
      have hl1 := hl2
      clear F1 hl1 hl2 hb2 hF2 hsw hb
      go_wp2
      go_meet
      rw [HTF.out, HSQ.out]
      exact ⟨BA, bc, HX2.out, HR2.out, fun ad e => (HNE.out ad e).1, HSZ2.out, HB2.out, HF2.out⟩
    · have hbI : ¬ (0 : Int) < (b.length : Int) := by omega
      have HTF : Hid (tellF seq ack b = ⟨3, 3, 1, 0, ack, []⟩) := Lib.hid (by unfold tellF; exact if_neg hb)
      have HSQ : Hid ((if 0 < b.length then 1 - seq else seq) = seq) := Lib.hid (if_neg hb)
      have F1 : Fr0 w (w.alloc (.cells (fmv ⟨3, 3, 1, 0, ack, []⟩ none 0) 54)) := (Fr.refl (fun _ => False) w).alloc _
      have HF1 := Lib.hid F1
      clear F1 hb
      go_wp2
      go_meet
      rw [HTF.out, HSQ.out]
      exact ⟨none, 0, Blk.new w _ _, rowE_none _, none_ne s, by simp, HL.out.fr0 HF1.out, HF1.out.mono (fun _ _ h => h.elim)⟩
  case rest =>
    obtain ⟨FA, fc, hbx, hrow, hne, hsz, hl, hfr⟩ := hcut
    obtain ⟨f, hf⟩ : ∃ f, f = tellF seq ack b := ⟨_, rfl⟩
    rw [← hf] at hbx hrow
    obtain ⟨sq, hsq⟩ : ∃ sq, sq = (if 0 < b.length then 1 - seq else seq) := ⟨_, rfl⟩
    rw [← hsq] at hl
    have HTL : Hid (tellsL sl d seq ack b = (if (takeS sl f).2.2.1 = false ∨ (takeS sl f).1.B.length = 0 ∨ (takeS sl f).1.seq ≠ ack then ⟨[], (takeS sl f).2.2.2, mtakeD d (takeS sl f).2.2.2 (takeS sl f).2.1, sq, ack⟩ else ⟨(takeS sl f).1.B, (takeS sl f).2.2.2, mtakeD d (takeS sl f).2.2.2 (takeS sl f).2.1, sq, 1 - ack⟩)) := Lib.hid (by rw [hf, hsq]; rfl)
    have hflen : f.B.length ≤ 1000 := by
      rw [hf]; unfold tellF; split
      · exact hbl
      · simp
    have hfib : InB f.B := by
      rw [hf]; unfold tellF; split
      · exact HIB.out
      · intro x hx; cases hx
    have HL2 := Lib.hid hl
    have HBX := Lib.hid hbx
    have HROW := Lib.hid hrow
    have HFIB := Lib.hid hfib
    have HSZ := Lib.hid hsz
    have HFW := Lib.hid hfr
    have HNE2 := Lib.hid hne
    clear hf hsq hbx hrow hne hsz hl hfr hfib HL HR HNE HIB l2
    go_upto_region 7 with (fail)
    go_cut [6, 7] (fun s6 s7 wx => ∃ g an cm ok sl' AA ac A' c', takeS sl f = (an, cm, ok, sl') ∧ s6 = .pointer (some ⟨g, 0, none⟩) ∧ s7 = .bool ok ∧ w.heap.size + 1 ≤ g ∧ Blk wx g 54 (fmv an AA ac) ∧ Made w.heap.size AA ac an.B wx ∧ MoB B m s A' c' sl' (mtakeD d sl' cm) bt 3 wx ∧ Fr (fun j => (j = m ∨ j = s) ∨ j = g) wc wx)
    case first =>
      have QT : Hid (∀ W', Fr0 wc W' → Calls Tryd.prog 21 #[.pointer (some ⟨m, 0, none⟩), .agg (fmv f FA fc)] W' (MTakePost B m s sl d bt 3 f W')) := Lib.hid (fun W' k => MTakeC (HL2.out.mo.fr0 k) hp (RowOf.now HROW.out k.below0) hflen HFIB.out (fun ad e _ => HNE2.out ad e))
      have hsW := HSZ.out
      have HS0 : Hid (MS l m w.heap.size f FA fc wc) := Lib.hid ⟨HL2.out.blk.cell 0, HBX.out.cell 0, HBX.out.cell 1, HBX.out.cell 2, HBX.out.cell 3, HBX.out.cell 4, HBX.out.cell 5⟩
      have hmW : l < wc.heap.size := by omega
      have hpW : w.heap.size < wc.heap.size := by omega
      have HSA : Hid (MS l m w.heap.size f FA fc (wc.alloc (.cells #[.int .u8 0, .int .u8 0, .int .u8 0, .int .u8 0, .int .u8 0, .slice none 0 0] 54))) := Lib.hid (HS0.out.al hmW hpW _)
      have HSD : Hid (MS l m w.heap.size f FA fc wc.drew) := Lib.hid HS0.out
      have HSAD : Hid (MS l m w.heap.size f FA fc (wc.alloc (.cells #[.int .u8 0, .int .u8 0, .int .u8 0, .int .u8 0, .int .u8 0, .slice none 0 0] 54)).drew) := Lib.hid HSA.out
      have h1 := HLM.out.1
      have h2 := HLM.out.2
      have HSF : Hid (∀ W1 W2, MS l m w.heap.size f FA fc W1 → Fr (fun j => j = m ∨ j = s) W1 W2 → l < W1.heap.size → w.heap.size < W1.heap.size → MS l m w.heap.size f FA fc W2) := Lib.hid (fun W1 W2 h k q1 q2 => by
        have n1 : ¬ (l = m ∨ l = s) := by omega
        have n2 : ¬ (w.heap.size = m ∨ w.heap.size = s) := by omega
        exact ⟨(k.cell (p := ⟨l, 0, none⟩) q1 n1).trans h.1, (k.cell (p := ⟨w.heap.size, 0, none⟩) q2 n2).trans h.2.1, (k.cell (p := ⟨w.heap.size, 1, none⟩) q2 n2).trans h.2.2.1, (k.cell (p := ⟨w.heap.size, 2, none⟩) q2 n2).trans h.2.2.2.1, (k.cell (p := ⟨w.heap.size, 3, none⟩) q2 n2).trans h.2.2.2.2.1, (k.cell (p := ⟨w.heap.size, 4, none⟩) q2 n2).trans h.2.2.2.2.2.1, (k.cell (p := ⟨w.heap.size, 5, none⟩) q2 n2).trans h.2.2.2.2.2.2⟩)
      have hgm : wc.heap.size ≠ l := by omega
      have hgp : wc.heap.size ≠ w.heap.size := by omega
      clear hsW
      go_wp2_with fail
      go_region_held3 (fun w' => w'.cell? ⟨l, 0, none⟩ = some (.pointer (some ⟨m, 0, none⟩)) ∧ w'.cell? ⟨w.heap.size, 0, none⟩ = some (.int .u8 f.addr) ∧ w'.cell? ⟨w.heap.size, 1, none⟩ = some (.int .u8 f.kind) ∧ w'.cell? ⟨w.heap.size, 2, none⟩ = some (.int .u8 f.ses) ∧ w'.cell? ⟨w.heap.size, 3, none⟩ = some (.int .u8 f.seq) ∧ w'.cell? ⟨w.heap.size, 4, none⟩ = some (.int .u8 f.ack) ∧ w'.cell? ⟨w.heap.size, 5, none⟩ = some (.slice FA f.B.length fc)) (first | (with_reducible exact HSD.out) | (with_reducible exact HSAD.out) | (with_reducible exact HS3.out) | (with_reducible exact HS3.out.al hm3 hp3 _) | (with_reducible exact HS4.out) | (with_reducible exact (HS4.out.far hgm hgp _ _)) | (with_reducible exact ((HS4.out.far hgm hgp _ _).far hgm hgp _ _)) | (with_reducible exact (((HS4.out.far hgm hgp _ _).far hgm hgp _ _).far hgm hgp _ _)) | (with_reducible exact ((((HS4.out.far hgm hgp _ _).far hgm hgp _ _).far hgm hgp _ _).far hgm hgp _ _)) | (with_reducible exact (((((HS4.out.far hgm hgp _ _).far hgm hgp _ _).far hgm hgp _ _).far hgm hgp _ _).far hgm hgp _ _)) | (with_reducible exact ((((((HS4.out.far hgm hgp _ _).far hgm hgp _ _).far hgm hgp _ _).far hgm hgp _ _).far hgm hgp _ _).far hgm hgp _ _))) (first
        | (go_at_call 21; refine Calls.mono (QT.out wc.drew (by exact (Fr.refl (fun _ => False) _).drew)) ?_; rintro e w3 ⟨an, cm, ok, sl', AA, ac, A', c', hTK, rfl, HA3, HB3, HF3⟩; have HS3 := Lib.hid (HSF.out _ _ HSD.out HF3.out hmW hpW); have hm3 : l < w3.heap.size := Nat.lt_of_lt_of_le hmW HF3.out.size; have hp3 : w.heap.size < w3.heap.size := Nat.lt_of_lt_of_le hpW HF3.out.size)
        | (go_at_call 21; refine Calls.mono (QT.out (wc.alloc (.cells #[.int .u8 0, .int .u8 0, .int .u8 0, .int .u8 0, .int .u8 0, .slice none 0 0] 54)).drew (by exact ((Fr.refl (fun _ => False) _).alloc _).drew)) ?_; rintro e w3 ⟨an, cm, ok, sl', AA, ac, A', c', hTK, rfl, HA3, HB3, HF3⟩; have HS4 := Lib.hid (HSF.out _ _ HSAD.out HF3.out (by simp; omega) (by simp; omega)); have hsW : ¬ (wc.heap.size = m ∨ wc.heap.size = s) := (by omega); have zk := (show Blk (wc.alloc (.cells #[.int .u8 0, .int .u8 0, .int .u8 0, .int .u8 0, .int .u8 0, .slice none 0 0] 54)).drew wc.heap.size 54 (fmv f0 none 0) from Blk.new wc 54 _).fr HF3.out hsW; obtain ⟨d0, e0, d1, e1, d2, e2, d3, e3, d4, e4, d5, e5⟩ := stF_facts zk an AA ac; have hz : wc.heap.size < w3.heap.size := zk.lt; have HZK := Lib.hid zk; clear zk))
      all_goals first
        | (have F3' := Fr.undrew HF3.out
           have hsz0 : w.heap.size ≤ wc.heap.size := by omega
           have FA3 : Fr0 w3 (w3.alloc (.cells (fmv an AA ac) 54)) := (Fr.refl (fun _ => False) w3).alloc _
           have HG1 : Hid (Blk (w3.alloc (.cells (fmv an AA ac) 54)) w3.heap.size 54 (fmv an AA ac)) := Lib.hid (Blk.new w3 _ _)
           have HG2 : Hid (Made w.heap.size AA ac an.B (w3.alloc (.cells (fmv an AA ac) 54))) := Lib.hid (made_fr ⟨own_weak HA3.out.1 hsz0, HA3.out.2.1, HA3.out.2.2⟩ FA3 (fun _ _ h => h))
           have HG4 : Hid (MoB B m s A' c' sl' (mtakeD d sl' cm) bt 3 (w3.alloc (.cells (fmv an AA ac) 54))) := Lib.hid (HB3.out.fr0 FA3)
           have HG5 : Hid (Fr (fun j => (j = m ∨ j = s) ∨ j = w3.heap.size) wc (w3.alloc (.cells (fmv an AA ac) 54))) := Lib.hid ((F3'.mono (fun _ _ e => .inl e)).trans FA3 (fun _ _ h => h.elim))
           have hg6 : w.heap.size + 1 ≤ w3.heap.size := by have := F3'.size; have := HSZ.out; omega
           have HTK := Lib.hid hTK
           clear F3' FA3 hTK
           go_wp2_with fail
           go_meet
           exact ⟨w3.heap.size, an, cm, ok, sl', AA, ac, A', c', HTK.out, rfl, rfl, hg6, HG1.out, HG2.out, HG4.out, HG5.out⟩)
        | (have F3' : Fr (fun j => j = m ∨ j = s) wc w3 := (((Fr.refl (fun _ => False) wc).alloc (.cells #[.int .u8 0, .int .u8 0, .int .u8 0, .int .u8 0, .int .u8 0, .slice none 0 0] 54)).drew.mono (S' := fun j => j = m ∨ j = s) (fun _ _ h => h.elim)).trans HF3.out (fun _ _ e => e)
           have hsz1 : w.heap.size ≤ (wc.alloc (.cells #[.int .u8 0, .int .u8 0, .int .u8 0, .int .u8 0, .int .u8 0, .slice none 0 0] 54)).drew.heap.size := by simp; omega
           have FS := stF_fr w3 wc.heap.size an AA ac
           have zk := HZK.out
           have HG1 : Hid (Blk (stF w3 wc.heap.size an AA ac) wc.heap.size 54 (fmv an AA ac)) := Lib.hid (stF_blk zk)
           have HG2 : Hid (Made w.heap.size AA ac an.B (stF w3 wc.heap.size an AA ac)) := Lib.hid (made_fr ⟨own_weak HA3.out.1 hsz1, HA3.out.2.1, HA3.out.2.2⟩ FS (fun j e e' => own_blk_ne HA3.out.1 zk (by decide) (e' ▸ e)))
           have HG4 : Hid (MoB B m s A' c' sl' (mtakeD d sl' cm) bt 3 (stF w3 wc.heap.size an AA ac)) := Lib.hid (HB3.out.beside FS (by omega) (by omega) (fun j e e' => own_blk_ne HB3.out.sb.made.1 zk (by decide) (e' ▸ e)))
           have HG5 : Hid (Fr (fun j => (j = m ∨ j = s) ∨ j = wc.heap.size) wc (stF w3 wc.heap.size an AA ac)) := Lib.hid ((F3'.mono (fun _ _ e => .inl e)).trans FS (fun _ _ e => .inr e))
           have hg6 : w.heap.size + 1 ≤ wc.heap.size := by have := HSZ.out; omega
           have HTK := Lib.hid hTK
           clear F3' FS hTK zk d0 e0 d1 e1 d2 e2 d3 e3 d4 e4 d5 e5
           go_wp2_with fail
           go_meet
           exact ⟨wc.heap.size, an, cm, ok, sl', AA, ac, A', c', HTK.out, rfl, rfl, hg6, HG1.out, HG2.out, HG4.out, HG5.out⟩)
    case rest =>
      obtain ⟨g, an, cm, ok, sl', AA, ac, A', c', htk, rfl, rfl, hg, hbg, hma, hmo, hfr2⟩ := hcut
      rw [htk] at HTL
      simp only at HTL
      have hlg : ¬ ((l = m ∨ l = s) ∨ l = g) := by have := HLM.out; omega
      rename World => wd
      have HLB : Hid (Blk wd l 47 #[.pointer (some ⟨m, 0, none⟩), .int .u8 sq, .int .u8 ack]) := Lib.hid (HL2.out.blk.fr hfr2 hlg)
      have hlg2 : l ≠ g := fun e => hlg (.inr e)
      have HLW : Hid (LiB B l m s A' c' sl' (mtakeD d sl' cm) bt sq ack wd) := Lib.hid ⟨HLB.out, hmo, HL2.out.low⟩
      have HFD : Hid (Fr (fun j => j = m ∨ j = s ∨ j = l) w wd) := Lib.hid ((HFW.out.mono (fun _ _ e => .inr (.inr e))).trans hfr2 (fun j hj e => by
        rcases e with (e | e) | e
        · exact .inl e
        · exact .inr (.inl e)
        · omega))
      have HMA := Lib.hid hma
      have g3 : wd.cell? ⟨g, 3, none⟩ = some (.int .u8 an.seq) := hbg.cell 3
      have g5 : wd.cell? ⟨g, 5, none⟩ = some (.slice AA an.B.length ac) := hbg.cell 5
      have l2 : wd.cell? ⟨l, 2, none⟩ = some (.int .u8 ack) := HLB.out.cell 2
      have HBG := Lib.hid hbg
      have HTL2 := HTL
      clear hbg hma hmo hfr2 htk hlg HL2 HBX HROW HFIB HSZ HFW HNE2
      cases ok
      · have HT : Hid (tellsL sl d seq ack b = ⟨[], sl', mtakeD d sl' cm, sq, ack⟩) := Lib.hid (HTL.out.trans (if_pos (.inl rfl)))
        clear HTL2
        go_wp2_with fail
        go_region
        go_wp2
        go_ret
        rw [HT.out]
        exact ⟨by rw [str_nil]; rfl, A', c', Lib.hid (HLW.out.fr0 ((Fr.refl (fun _ => False) _).drew)), Lib.hid HFD.out.drew⟩
      · by_cases hB : an.B.length = 0
        · have HT : Hid (tellsL sl d seq ack b = ⟨[], sl', mtakeD d sl' cm, sq, ack⟩) := Lib.hid (HTL.out.trans (if_pos (.inr (.inl hB))))
          have bB : ((an.B.length : Int) == 0) = true := by rw [hB]; rfl
          clear hB HTL2
          go_wp2_with fail
          go_region
          go_wp2
          go_ret
          rw [HT.out]
          exact ⟨by rw [str_nil]; rfl, A', c', Lib.hid (HLW.out.fr0 ((Fr.refl (fun _ => False) _).drew)), Lib.hid HFD.out.drew⟩
        · by_cases hq : an.seq = ack
          · have HT : Hid (tellsL sl d seq ack b = ⟨an.B, sl', mtakeD d sl' cm, sq, 1 - ack⟩) := Lib.hid (HTL.out.trans (if_neg (fun h => by
              rcases h with h | h | h
              · cases h
              · exact hB h
              · exact h hq)))
            have bB : ((an.B.length : Int) == 0) = false := beq_eq_false_iff_ne.2 (by omega)
            have bq : (an.seq != ack) = false := by simp [hq]
            have f2 : wd.frozen? ⟨l, 2, none⟩ = false := HLB.out.frozen 2
            have hwr : IntKind.u8.wrap (1 - ack) = 1 - ack := by rw [IntKind.wrap_u8]; have := HBITS.out.2; omega
            have hb2 : Blk (wd.setCell ⟨l, 2, none⟩ (.int .u8 (1 - ack))) l 47 #[.pointer (some ⟨m, 0, none⟩), .int .u8 sq, .int .u8 (1 - ack)] := by simpa using HLB.out.set_ 2 (.int .u8 (1 - ack))
            have hF2 : Fr (fun j => j = l) wd (wd.setCell ⟨l, 2, none⟩ (.int .u8 (1 - ack))) := (Fr.refl (fun j => j = l) wd).setCell (p := ⟨l, 2, none⟩) (fun _ => rfl) _
            have HL3 : Hid (LiB B l m s A' c' sl' (mtakeD d sl' cm) bt sq (1 - ack) (wd.setCell ⟨l, 2, none⟩ (.int .u8 (1 - ack)))) := Lib.hid ⟨hb2, HLW.out.mo.beside hF2 (fun e => HLM.out.1 e.symm) (fun e => HLM.out.2 e.symm) (fun j e e' => own_blk_ne HLW.out.mo.sb.made.1 HLB.out (by decide) (e' ▸ e)), HLW.out.low⟩
            have HF3 := Lib.hid (HFD.out.trans hF2 (fun _ _ e => .inr (.inr e)))
            have hm3 := made_fr HMA.out hF2 (fun j e e' => own_blk_ne HMA.out.1 HLB.out (by decide) (e' ▸ e))
            have g5' : (wd.setCell ⟨l, 2, none⟩ (.int .u8 (1 - ack))).cell? ⟨g, 5, none⟩ = some (.slice AA an.B.length ac) := (World.cell?_setCell_far wd _ _ _ hlg2).trans g5
            have s3 : (convert 26 9 (.slice AA an.B.length ac)).run Tryd.prog (wd.setCell ⟨l, 2, none⟩ (.int .u8 (1 - ack))).drew = .ok (.string (strOfNums an.B)) (wd.setCell ⟨l, 2, none⟩ (.int .u8 (1 - ack))).drew := str_row hm3.2.1
            have s3' : (convert 26 9 (.slice AA an.B.length ac)).run Tryd.prog (wd.drew.setCell ⟨l, 2, none⟩ (.int .u8 (1 - ack))) = .ok (.string (strOfNums an.B)) (wd.drew.setCell ⟨l, 2, none⟩ (.int .u8 (1 - ack))) := s3
            clear hb2 hF2 hm3 HTL2 hq
            go_wp2_with fail
            go_region
            go_wp2
            go_ret
            rw [HT.out]
            exact ⟨rfl, A', c', Lib.hid (HL3.out.fr0 ((Fr.refl (fun _ => False) _).drew)), Lib.hid HF3.out.drew⟩
          · have HT : Hid (tellsL sl d seq ack b = ⟨[], sl', mtakeD d sl' cm, sq, ack⟩) := Lib.hid (HTL.out.trans (if_pos (.inr (.inr hq))))
            have bB : ((an.B.length : Int) == 0) = false := beq_eq_false_iff_ne.2 (by omega)
            have bq : (an.seq != ack) = true := by simp [hq]
            clear hB HTL2
            go_wp2_with fail
            go_region
            go_wp2
            go_ret
            rw [HT.out]
            exact ⟨by rw [str_nil]; rfl, A', c', Lib.hid (HLW.out.fr0 ((Fr.refl (fun _ => False) _).drew)), Lib.hid HFD.out.drew⟩
end Go.Proofs.YtdhfinpmcikimaaDoor.K
