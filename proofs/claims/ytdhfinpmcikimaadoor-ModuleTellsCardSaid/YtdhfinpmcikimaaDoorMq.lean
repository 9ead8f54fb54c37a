/- The document's module: Reset, Take. -/
import Derived.Test.YtdhfinpmcikimaaDoorMp
import Derived.Deep.RegionHeld3
namespace Go.Proofs.YtdhfinpmcikimaaDoor.K
open Go.RowKit
set_option linter.unusedVariables false
set_option linter.unusedSimpArgs false
section
variable {B R r : Nat} {d : Dp} {st : Sl} {w w' : World}
set_option maxHeartbeats 2000000 in
theorem RResetC11 (h : RMo B R r d st w) (hB : B ≤ w.heap.size) : Calls Tryd.prog 31 #[.pointer (some ⟨R, 0, none⟩)] w fun e w' => ∃ r', e = .returned (.tuple #[]) ∧ Hid (RMo B R r' ⟨false, false, 0, 0, 0⟩ ⟨0, 0, 0, st.addr, []⟩ w') ∧ Hid (Fr (fun j => j = R) w w') := by
  have H := Lib.hid h
  have c0 := h.cells.1
  have a0 : w.cell? ⟨r, 0, none⟩ = some (.int .u8 st.addr) := h.sb.cell 0
  have HB := Lib.hid hB
  clear h hB
  go_enter Tryd.func31, Tryd.ntmps31
  go_wp2_with fail
  refine Calls.mono (RNewC08 st.addr w) ?_
  rintro e w1 ⟨rfl, H1, F1⟩
  have hm1 := H.out.blk.fr F1.out (fun h => h)
  have hT : w1.there R 0 6 := fun j hj => ⟨by rw [Nat.zero_add, hm1.cell j]; simpa using hj, by rw [Nat.zero_add]; exact hm1.frozen j⟩
  have HT := Lib.hid hT
  have HM1 := Lib.hid hm1
  have HLT : Hid (R < w.heap.size) := Lib.hid H.out.blk.lt
  have hsz : (Tryd.prog.info? 80).map (·.size) = some (6 : Nat) := by kernel_rfl
  have hone : (#[.pointer (some ⟨w.heap.size, 0, none⟩), .bool false, .bool false, .int .u16 0, .int .u16 0, .int .u16 0] : Array Value).all (·.oneCell') = true := by simp [Value.oneCell']
  clear c0 a0 hm1 hT
  go_wp2_with (refine Go.wpList_store_mid rfl 80 (.tmp 12) (.tmp 11) rfl R 0 #[.pointer (some ⟨w.heap.size, 0, none⟩), .bool false, .bool false, .int .u16 0, .int .u16 0, .int .u16 0] rfl rfl HT.out hsz hone ?_)
  go_end0
  rw [setCells_put]
  have hF := putAll_fr R w1 [.pointer (some ⟨w.heap.size, 0, none⟩), .bool false, .bool false, .int .u16 0, .int .u16 0, .int .u16 0] 0 w1 (Fr.refl _ _)
  have hB := putAll_blk R 80 [.pointer (some ⟨w.heap.size, 0, none⟩), .bool false, .bool false, .int .u16 0, .int .u16 0, .int .u16 0] 0 w1 _ HM1.out rfl
  have hne : w.heap.size ≠ R := by have := HLT.out; omega
  exact ⟨rfl, ⟨w.heap.size, Lib.hid ⟨hB, H1.out.fr hF hne, H.out.low.1, HB.out⟩⟩, Lib.hid ((F1.out.mono (fun _ _ e => e.elim)).trans hF (fun j hj e => e))⟩
structure RQ (B R r g : Nat) (d : Dp) (st : Sl) (an : Fm) (w0 w : World) : Prop where
  mo : RMo B R r d st w
  ans : Blk w g 70 (rfv an)
  res : Blk w (w0.heap.size + 1) 70 (rfv f0)
  fr : Fr (fun j => j = R ∨ j = r) w0 w
  gl : w0.heap.size + 2 ≤ g
  lt : R < w0.heap.size ∧ r < w0.heap.size
theorem RQ.next {g : Nat} {an : Fm} {w0 : World} (h : RQ B R r g d st an w0 w) (k : Fr0 w w') : RQ B R r g d st an w0 w' := ⟨h.mo.fr0 k, h.ans.fr k (fun h => h), h.res.fr k (fun h => h), h.fr.trans k (fun _ _ e => e.elim), h.gl, h.lt⟩
/-- All but S is stored. -/
theorem RQ.put {g : Nat} {an : Fm} {w0 : World} (h : RQ B R r g d st an w0 w) (d' : Dp) :
    (w.cell? ⟨R, 1, none⟩ = some (.bool d.lit) ∧ w.frozen? ⟨R, 1, none⟩ = false ∧
    (w.setCell ⟨R, 1, none⟩ (.bool d'.lit)).cell? ⟨R, 2, none⟩ = some (.bool d.latched) ∧ (w.setCell ⟨R, 1, none⟩ (.bool d'.lit)).frozen? ⟨R, 2, none⟩ = false ∧
    ((w.setCell ⟨R, 1, none⟩ (.bool d'.lit)).setCell ⟨R, 2, none⟩ (.bool d'.latched)).cell? ⟨R, 3, none⟩ = some (.int .u16 d.tok) ∧ ((w.setCell ⟨R, 1, none⟩ (.bool d'.lit)).setCell ⟨R, 2, none⟩ (.bool d'.latched)).frozen? ⟨R, 3, none⟩ = false ∧
    (((w.setCell ⟨R, 1, none⟩ (.bool d'.lit)).setCell ⟨R, 2, none⟩ (.bool d'.latched)).setCell ⟨R, 3, none⟩ (.int .u16 d'.tok)).cell? ⟨R, 4, none⟩ = some (.int .u16 d.qty) ∧ (((w.setCell ⟨R, 1, none⟩ (.bool d'.lit)).setCell ⟨R, 2, none⟩ (.bool d'.latched)).setCell ⟨R, 3, none⟩ (.int .u16 d'.tok)).frozen? ⟨R, 4, none⟩ = false ∧
    ((((w.setCell ⟨R, 1, none⟩ (.bool d'.lit)).setCell ⟨R, 2, none⟩ (.bool d'.latched)).setCell ⟨R, 3, none⟩ (.int .u16 d'.tok)).setCell ⟨R, 4, none⟩ (.int .u16 d'.qty)).cell? ⟨R, 5, none⟩ = some (.int .u16 d.most) ∧ ((((w.setCell ⟨R, 1, none⟩ (.bool d'.lit)).setCell ⟨R, 2, none⟩ (.bool d'.latched)).setCell ⟨R, 3, none⟩ (.int .u16 d'.tok)).setCell ⟨R, 4, none⟩ (.int .u16 d'.qty)).frozen? ⟨R, 5, none⟩ = false) ∧
    RQ B R r g d' st an w0 (((((w.setCell ⟨R, 1, none⟩ (.bool d'.lit)).setCell ⟨R, 2, none⟩ (.bool d'.latched)).setCell ⟨R, 3, none⟩ (.int .u16 d'.tok)).setCell ⟨R, 4, none⟩ (.int .u16 d'.qty)).setCell ⟨R, 5, none⟩ (.int .u16 d'.most)) := by
  have b1 := h.mo.blk
  have b2 := b1.set_ 1 (.bool d'.lit)
  have b3 := b2.set_ 2 (.bool d'.latched)
  have b4 := b3.set_ 3 (.int .u16 d'.tok)
  have b5 := b4.set_ 4 (.int .u16 d'.qty)
  have b6 := b5.set_ 5 (.int .u16 d'.most)
  have hF : Fr (fun j => j = R) w (((((w.setCell ⟨R, 1, none⟩ (.bool d'.lit)).setCell ⟨R, 2, none⟩ (.bool d'.latched)).setCell ⟨R, 3, none⟩ (.int .u16 d'.tok)).setCell ⟨R, 4, none⟩ (.int .u16 d'.qty)).setCell ⟨R, 5, none⟩ (.int .u16 d'.most)) :=
    (((((Fr.refl (fun j => j = R) w).setCell (p := ⟨R, 1, none⟩) (fun _ => rfl) _).setCell (p := ⟨R, 2, none⟩) (fun _ => rfl) _).setCell (p := ⟨R, 3, none⟩) (fun _ => rfl) _).setCell (p := ⟨R, 4, none⟩) (fun _ => rfl) _).setCell (p := ⟨R, 5, none⟩) (fun _ => rfl) _
  have hl := h.lt
  have hg := h.gl
  refine ⟨⟨b1.cell 1, b1.frozen 1, b2.cell 2, b2.frozen 2, b3.cell 3, b3.frozen 3, b4.cell 4, b4.frozen 4, b5.cell 5, b5.frozen 5⟩, ⟨⟨by simpa using b6, h.mo.sb.fr hF (fun e => h.mo.ne e.symm), h.mo.low⟩, h.ans.fr hF (by omega), h.res.fr hF (by omega), h.fr.trans hF (fun _ _ e => .inl e), hg, hl⟩⟩
def RTakePost11 (B R r : Nat) (d : Dp) (st : Sl) (f : Fm) (w : World) (e : Ending) (w' : World) : Prop :=
  ∃ an cm ok st', takeS st f = (an, cm, ok, st') ∧ e = .returned (.tuple #[.agg (rfv an), .bool ok]) ∧ Hid (RMo B R r (mtakeD d st' cm) st' w') ∧ Hid (Fr (fun j => j = R ∨ j = r) w w')
/-- The world ahead of the slave's Take: the frame in its box. -/
abbrev RS (R r p : Nat) (f : Fm) (w : World) : Prop := w.cell? ⟨R, 0, none⟩ = some (.pointer (some ⟨r, 0, none⟩)) ∧ w.cell? ⟨p, 0, none⟩ = some (.int .u8 f.addr) ∧ w.cell? ⟨p, 1, none⟩ = some (.int .u8 f.kind) ∧ w.cell? ⟨p, 2, none⟩ = some (.int .u8 f.ses) ∧ w.cell? ⟨p, 3, none⟩ = some (.int .u8 f.seq) ∧ w.cell? ⟨p, 4, none⟩ = some (.int .u8 f.ack) ∧ w.cell? ⟨p, 5, none⟩ = some (.string (strOfNums f.B))
theorem RS.far {p g : Nat} {f : Fm} (h : RS R r p f w) (h1 : g ≠ R) (h2 : g ≠ p) (i : Nat) (u : Value) : RS R r p f (w.setCell ⟨g, i, none⟩ u) := by
  obtain ⟨a0, a1, a2, a3, a4, a5, a6⟩ := h
  exact ⟨(World.cell?_setCell_far w _ _ _ h1).trans a0, (World.cell?_setCell_far w _ _ _ h2).trans a1, (World.cell?_setCell_far w _ _ _ h2).trans a2, (World.cell?_setCell_far w _ _ _ h2).trans a3, (World.cell?_setCell_far w _ _ _ h2).trans a4, (World.cell?_setCell_far w _ _ _ h2).trans a5, (World.cell?_setCell_far w _ _ _ h2).trans a6⟩
theorem RS.al {p : Nat} {f : Fm} (h : RS R r p f w) (h1 : R < w.heap.size) (h2 : p < w.heap.size) (o : Obj) : RS R r p f (w.alloc o) := by
  obtain ⟨a0, a1, a2, a3, a4, a5, a6⟩ := h
  exact ⟨(World.cell?_alloc_lt w _ _ h1).trans a0, (World.cell?_alloc_lt w _ _ h2).trans a1, (World.cell?_alloc_lt w _ _ h2).trans a2, (World.cell?_alloc_lt w _ _ h2).trans a3, (World.cell?_alloc_lt w _ _ h2).trans a4, (World.cell?_alloc_lt w _ _ h2).trans a5, (World.cell?_alloc_lt w _ _ h2).trans a6⟩
theorem results_rtake11 {w : World} {g : Nat} {f : Fm} {v5 : Value} {tm : Array Value} (h : Blk w g 70 (rfv f)) (h2 : tm.getD 4 undef = .pointer (some ⟨g, 0, none⟩)) (h5 : tm.getD 5 undef = v5) :
    (results Tryd.f24 tm).run Tryd.prog w = .ok (.tuple #[.agg (rfv f), v5]) w := by
  obtain ⟨k0, k1, k2, k3, k4, k5⟩ := h.fm
  rw [Array.getD_eq_getD_getElem?] at h2 h5
  simp [results, Tryd.results24, go_sem, h2, h5, k0, k1, k2, k3, k4, k5]
set_option maxHeartbeats 8000000 in
set_option maxRecDepth 20000 in
theorem RTakeC11 {f : Fm} (h : RMo B R r d st w) (hbt : (st.tells = 0 ∨ st.tells = 1) ∧ (st.next = 0 ∨ st.next = 1)) (hib : InB f.B) (hfl : f.B.length ≤ 1000) :
    Calls Tryd.prog 24 #[.pointer (some ⟨R, 0, none⟩), .agg (rfv f)] w (RTakePost11 B R r d st f w) := by
  have F0 : Fr0 w ((w.alloc (.cells (rfv f) 70)).alloc (.cells #[.int .u8 0, .int .u8 0, .int .u8 0, .int .u8 0, .int .u8 0, .string (ByteArray.mk #[])] 70)) := ((Fr.refl (fun _ => False) w).alloc _).alloc _
  have HM := Lib.hid (h.fr0 F0)
  have HBX : Hid (Blk ((w.alloc (.cells (rfv f) 70)).alloc (.cells #[.int .u8 0, .int .u8 0, .int .u8 0, .int .u8 0, .int .u8 0, .string (ByteArray.mk #[])] 70)) w.heap.size 70 (rfv f)) := Lib.hid ((Blk.new w _ _).alloc _)
  have HRS : Hid (Blk ((w.alloc (.cells (rfv f) 70)).alloc (.cells #[.int .u8 0, .int .u8 0, .int .u8 0, .int .u8 0, .int .u8 0, .string (ByteArray.mk #[])] 70)) (w.heap.size + 1) 70 (rfv f0)) := Lib.hid (Blk.new_at (by simp))
  have HF0 := Lib.hid F0
  have hml : R < w.heap.size := h.blk.lt
  have hsl : r < w.heap.size := h.sb.lt
  have hsz : ((w.alloc (.cells (rfv f) 70)).alloc (.cells #[.int .u8 0, .int .u8 0, .int .u8 0, .int .u8 0, .int .u8 0, .string (ByteArray.mk #[])] 70)).heap.size = w.heap.size + 2 := by simp
  have HSZ := Lib.hid hsz
  have HIB := Lib.hid hib
  clear h F0 hsz hib
  change Calls Tryd.prog 24 #[.pointer (some ⟨R, 0, none⟩), .agg #[.int .u8 f.addr, .int .u8 f.kind, .int .u8 f.ses, .int .u8 f.seq, .int .u8 f.ack, .string (strOfNums f.B)]] w _
  go_enter Tryd.func24, Tryd.ntmps24
  go_upto_region 1 with (fail)
  obtain ⟨W, hW⟩ : ∃ W, W = (w.alloc (.cells (rfv f) 70)).alloc (.cells #[.int .u8 0, .int .u8 0, .int .u8 0, .int .u8 0, .int .u8 0, .string (ByteArray.mk #[])] 70) := ⟨_, rfl⟩
  rw [← hW] at HM HBX HRS HF0 HSZ ⊢
  clear hW
  go_cut [6, 7, 8] (fun s6 s7 s8 wx => ∃ g an cm ok st', takeS st f = (an, cm, ok, st') ∧ s6 = .pointer (some ⟨g, 0, none⟩) ∧ s7 = .string (strOfNums cm) ∧ s8 = .bool ok ∧ w.heap.size + 2 ≤ g ∧ Blk wx g 70 (rfv an) ∧ Blk wx r 95 (rsv st') ∧ Fr (fun j => j = r ∨ j = g) W wx)
  case first =>
    have QT : Hid (∀ W', Fr0 W W' → Calls Tryd.prog 39 #[.pointer (some ⟨r, 0, none⟩), .agg #[.int .u8 f.addr, .int .u8 f.kind, .int .u8 f.ses, .int .u8 f.seq, .int .u8 f.ack, .string (strOfNums f.B)]] W' (RTakePost r st f W')) := Lib.hid (fun W' k => RTakeC08 (HM.out.fr0 k).sb hbt)
    have hsW := HSZ.out
    have HS0 : Hid (RS R r w.heap.size f W) := Lib.hid ⟨HM.out.cells.1, HBX.out.cell 0, HBX.out.cell 1, HBX.out.cell 2, HBX.out.cell 3, HBX.out.cell 4, HBX.out.cell 5⟩
    have hmW : R < W.heap.size := by omega
    have hpW : w.heap.size < W.heap.size := by omega
    have HSA : Hid (RS R r w.heap.size f (W.alloc (.cells #[.int .u8 0, .int .u8 0, .int .u8 0, .int .u8 0, .int .u8 0, .string (ByteArray.mk #[])] 70))) := Lib.hid (HS0.out.al hmW hpW _)
    have HSD : Hid (RS R r w.heap.size f W.drew) := Lib.hid HS0.out
    have HSAD : Hid (RS R r w.heap.size f (W.alloc (.cells #[.int .u8 0, .int .u8 0, .int .u8 0, .int .u8 0, .int .u8 0, .string (ByteArray.mk #[])] 70)).drew) := Lib.hid HSA.out
    have hsp : r ≠ w.heap.size := by omega
    have hms : R ≠ r := HM.out.ne
    have k1 : Hid True := Lib.hid trivial
    have HSF : Hid (∀ W1 W2, RS R r w.heap.size f W1 → Fr (fun j => j = r) W1 W2 → R < W1.heap.size → w.heap.size < W1.heap.size → RS R r w.heap.size f W2) := Lib.hid (fun W1 W2 h k h1 h2 => ⟨(k.cell (p := ⟨R, 0, none⟩) h1 hms).trans h.1, (k.cell (p := ⟨w.heap.size, 0, none⟩) h2 hsp.symm).trans h.2.1, (k.cell (p := ⟨w.heap.size, 1, none⟩) h2 hsp.symm).trans h.2.2.1, (k.cell (p := ⟨w.heap.size, 2, none⟩) h2 hsp.symm).trans h.2.2.2.1, (k.cell (p := ⟨w.heap.size, 3, none⟩) h2 hsp.symm).trans h.2.2.2.2.1, (k.cell (p := ⟨w.heap.size, 4, none⟩) h2 hsp.symm).trans h.2.2.2.2.2.1, (k.cell (p := ⟨w.heap.size, 5, none⟩) h2 hsp.symm).trans h.2.2.2.2.2.2⟩)
    have hgm : W.heap.size ≠ R := by omega
    have hgp : W.heap.size ≠ w.heap.size := by omega
    clear hsW
    go_wp2_with fail
    go_region_held3 (fun w' => w'.cell? ⟨R, 0, none⟩ = some (.pointer (some ⟨r, 0, none⟩)) ∧ w'.cell? ⟨w.heap.size, 0, none⟩ = some (.int .u8 f.addr) ∧ w'.cell? ⟨w.heap.size, 1, none⟩ = some (.int .u8 f.kind) ∧ w'.cell? ⟨w.heap.size, 2, none⟩ = some (.int .u8 f.ses) ∧ w'.cell? ⟨w.heap.size, 3, none⟩ = some (.int .u8 f.seq) ∧ w'.cell? ⟨w.heap.size, 4, none⟩ = some (.int .u8 f.ack) ∧ w'.cell? ⟨w.heap.size, 5, none⟩ = some (.string (strOfNums f.B))) (first | (with_reducible exact HSD.out) | (with_reducible exact HSAD.out) | (with_reducible exact HS3.out) | (with_reducible exact HS3.out.al hm3 hp3 _) | (with_reducible exact HS4.out) | (with_reducible exact (HS4.out.far hgm hgp _ _)) | (with_reducible exact ((HS4.out.far hgm hgp _ _).far hgm hgp _ _)) | (with_reducible exact (((HS4.out.far hgm hgp _ _).far hgm hgp _ _).far hgm hgp _ _)) | (with_reducible exact ((((HS4.out.far hgm hgp _ _).far hgm hgp _ _).far hgm hgp _ _).far hgm hgp _ _)) | (with_reducible exact (((((HS4.out.far hgm hgp _ _).far hgm hgp _ _).far hgm hgp _ _).far hgm hgp _ _).far hgm hgp _ _)) | (with_reducible exact ((((((HS4.out.far hgm hgp _ _).far hgm hgp _ _).far hgm hgp _ _).far hgm hgp _ _).far hgm hgp _ _).far hgm hgp _ _))) (first
      | (go_at_call 39; refine Calls.mono (QT.out W.drew (by exact (Fr.refl (fun _ => False) _).drew)) ?_; rintro e w3 ⟨an, cm, ok, st', hTK, rfl, HB3, HF3⟩; have HS3 := Lib.hid (HSF.out _ _ HSD.out HF3.out hmW hpW); have hm3 : R < w3.heap.size := Nat.lt_of_lt_of_le hmW HF3.out.size; have hp3 : w.heap.size < w3.heap.size := Nat.lt_of_lt_of_le hpW HF3.out.size; have ka := k1)
      | (go_at_call 39; refine Calls.mono (QT.out (W.alloc (.cells #[.int .u8 0, .int .u8 0, .int .u8 0, .int .u8 0, .int .u8 0, .string (ByteArray.mk #[])] 70)).drew (by exact ((Fr.refl (fun _ => False) _).alloc _).drew)) ?_; rintro e w3 ⟨an, cm, ok, st', hTK, rfl, HB3, HF3⟩; have HS4 := Lib.hid (HSF.out _ _ HSAD.out HF3.out (by simp; omega) (by simp; omega)); have hsW : r ≠ W.heap.size := (by omega : r ≠ W.heap.size); have zk := (show Blk (W.alloc (.cells #[.int .u8 0, .int .u8 0, .int .u8 0, .int .u8 0, .int .u8 0, .string (ByteArray.mk #[])] 70)).drew W.heap.size 70 (rfv f0) from Blk.new W 70 _).fr HF3.out (fun e => hsW e.symm); obtain ⟨⟨d0, e0, d1, e1, d2, e2, d3, e3, d4, e4, d5, e5⟩, zb, zf⟩ := stR_facts zk an; have hz : W.heap.size < w3.heap.size := zk.lt; have HZK := Lib.hid zk; clear zk zb zf))
    all_goals first
      | (have F3' := Fr.undrew HF3.out
         have FA3 : Fr0 w3 (w3.alloc (.cells (rfv an) 70)) := (Fr.refl (fun _ => False) w3).alloc _
         have HG1 : Hid (Blk (w3.alloc (.cells (rfv an) 70)) w3.heap.size 70 (rfv an)) := Lib.hid (Blk.new w3 _ _)
         have HG4 : Hid (Blk (w3.alloc (.cells (rfv an) 70)) r 95 (rsv st')) := Lib.hid (HB3.out.fr FA3 (fun h => h))
         have HG5 : Hid (Fr (fun j => j = r ∨ j = w3.heap.size) W (w3.alloc (.cells (rfv an) 70))) := Lib.hid ((F3'.mono (fun _ _ e => .inl e)).trans FA3 (fun _ _ h => h.elim))
         have hg6 : w.heap.size + 2 ≤ w3.heap.size := by have := F3'.size; have := HSZ.out; omega
         have HTK := Lib.hid hTK
         clear F3' FA3 hTK
         go_wp2_with fail
         go_meet
         exact ⟨w3.heap.size, an, cm, ok, st', HTK.out, rfl, rfl, rfl, hg6, HG1.out, HG4.out, HG5.out⟩)
      | (have F3' : Fr (fun j => j = r) W w3 := (((Fr.refl (fun _ => False) W).alloc (.cells #[.int .u8 0, .int .u8 0, .int .u8 0, .int .u8 0, .int .u8 0, .string (ByteArray.mk #[])] 70)).drew.mono (S' := fun j => j = r) (fun _ _ h => h.elim)).trans HF3.out (fun _ _ e => e)
         obtain ⟨_, zb, FS⟩ := stR_facts HZK.out an
         have HG1 : Hid (Blk (stR w3 W.heap.size an) W.heap.size 70 (rfv an)) := Lib.hid zb
         have HG4 : Hid (Blk (stR w3 W.heap.size an) r 95 (rsv st')) := Lib.hid (HB3.out.fr FS (by omega))
         have HG5 : Hid (Fr (fun j => j = r ∨ j = W.heap.size) W (stR w3 W.heap.size an)) := Lib.hid ((F3'.mono (fun _ _ e => .inl e)).trans FS (fun _ _ e => .inr e))
         have hg6 : w.heap.size + 2 ≤ W.heap.size := by have := HSZ.out; omega
         have HTK := Lib.hid hTK
         clear F3' FS zb hTK d0 e0 d1 e1 d2 e2 d3 e3 d4 e4 d5 e5
         go_wp2_with fail
         go_meet
         exact ⟨W.heap.size, an, cm, ok, st', HTK.out, rfl, rfl, rfl, hg6, HG1.out, HG4.out, HG5.out⟩)
  case rest =>
    obtain ⟨g, an, cm, ok, st', htk, rfl, rfl, rfl, hg, hbg, hsb, hfr⟩ := hcut
    have HTK := Lib.hid htk
    have hne : R ≠ r := HM.out.ne
    have HQ : Hid (RQ B R r g d st' an w wc) := Lib.hid ⟨⟨HM.out.blk.fr hfr (by omega), hsb, HM.out.low⟩, hbg, HRS.out.fr hfr (by omega), (HF0.out.mono (S' := fun j => j = R ∨ j = r) (fun _ _ e => e.elim)).trans hfr (fun j hj e => by omega), hg, hml, hsl⟩
    have hib2 : InB cm := by
      rcases take_cm htk with e | e
      · rw [e]; exact HIB.out
      · rw [e]; intro x hx; cases hx
    have hcl : cm.length ≤ 1000 := by
      rcases take_cm htk with e | e
      · rw [e]; exact hfl
      · rw [e]; simp
    have qP := RParseC11 wc hib2 hcl
    obtain ⟨pm, hpm⟩ : ∃ pm, pm = parseM cm := ⟨_, rfl⟩
    unfold RPPost at qP
    rw [← hpm] at qP
    have HD2 : Hid (mtakeD d st' cm = if pm.2.2.2 = 0 then doesS d (decide (0 < st'.pend.length)) pm.1 pm.2.1 pm.2.2.1 else d) := Lib.hid (by rw [hpm]; rfl)
    obtain ⟨pk, pt, pq, pe⟩ := pm
    simp only at qP HD2
    clear htk hne hib2 hcl hbg hsb hfr hpm HM HRS HBX HF0 HSZ HIB
    go_wp2_with fail
    refine Calls.mono qP ?_
    clear qP
    rintro e w4 ⟨rfl, F4⟩
    have HQ4 := Lib.hid (HQ.out.next F4.out)
    clear HQ F4
    go_upto_region 3 with (fail)
    go_cut [13] (fun s13 wx => s13 = .bool (sameD d pt) ∧ RQ B R r g d st' an w wx)
    case first =>
      have c1 := HQ4.out.mo.cells.2.1
      have c3 := HQ4.out.mo.cells.2.2.2.1
      cases hl : d.lit
      · rw [hl] at c1
        have HS : Hid (sameD d pt = false) := Lib.hid (by unfold sameD; rw [hl]; rfl)
        clear hl
        go_wp2
        go_meet
        exact ⟨by rw [HS.out], HQ4.out⟩
      · rw [hl] at c1
        by_cases ht : d.tok = pt
        · have HS : Hid (sameD d pt = true) := Lib.hid (by unfold sameD; rw [hl]; simp [ht])
          have hb : (d.tok == pt) = true := by simp [ht]
          clear hl ht
          go_wp2
          go_meet
          exact ⟨by rw [HS.out], HQ4.out⟩
        · have HS : Hid (sameD d pt = false) := Lib.hid (by unfold sameD; rw [hl]; simp [ht])
          have hb : (d.tok == pt) = false := by simp [ht]
          clear hl ht
          go_wp2
          go_meet
          exact ⟨by rw [HS.out], HQ4.out⟩
    case rest =>
      clear HQ4
      obtain ⟨rfl, hq⟩ := hcut
      have HQ5 := Lib.hid hq
      clear hq
      obtain ⟨sm, hsm⟩ : ∃ sm, sm = sameD d pt := ⟨_, rfl⟩
      have HSM := Lib.hid hsm
      rw [← hsm]
      clear hsm
      obtain ⟨lb, hlb⟩ : ∃ lb, lb = decide (pe = 0 ∧ pk = 1 ∧ (sm = false ∨ (d.latched = true ∧ st'.pend.length = 0))) := ⟨_, rfl⟩
      have HLB := Lib.hid hlb
      clear hlb
      go_upto_region 4 with (fail)
      go_cut [68] (fun s68 wx => s68 = .bool lb ∧ RQ B R r g d st' an w wx)
      case first =>
        have c0 := HQ5.out.mo.cells.1
        have c2 := HQ5.out.mo.cells.2.2.1
        have a4 := HQ5.out.mo.sb.cell 4
        have hE := strE (l := st'.pend)
        generalize hsp : strOfNums st'.pend = sp at *
        by_cases h0 : pe = 0
        · have n0 : (pe == 0) = true := by simp [h0]
          by_cases h1 : pk = 1
          · have n1 : (pk == 1) = true := by simp [h1]
            cases sm
            · have HL : Hid (lb = true) := Lib.hid (by rw [HLB.out]; exact decide_eq_true ⟨h0, h1, .inl rfl⟩)
              clear h0 h1
              go_wp2
              go_meet
              exact ⟨by rw [HL.out], HQ5.out⟩
            · cases hla : d.latched
              · have HL : Hid (lb = false) := Lib.hid (by rw [HLB.out, hla]; simp)
                rw [hla] at c2
                clear h0 h1 hla
                go_wp2
                go_meet
                exact ⟨by rw [HL.out], HQ5.out⟩
              · have HL : Hid (lb = sp.toList.isEmpty) := Lib.hid (by rw [HLB.out, hla, hE]; simp [h0, h1])
                rw [hla] at c2
                clear h0 h1 hla hE
                go_wp2
                go_meet
                exact ⟨by rw [HL.out], HQ5.out⟩
          · have n1 : (pk == 1) = false := by simp [h1]
            have HL : Hid (lb = false) := Lib.hid (by rw [HLB.out]; exact decide_eq_false (fun h => h1 h.2.1))
            clear h0 h1
            go_wp2
            go_meet
            exact ⟨by rw [HL.out], HQ5.out⟩
        · have n0 : (pe == 0) = false := by simp [h0]
          have HL : Hid (lb = false) := Lib.hid (by rw [HLB.out]; exact decide_eq_false (fun h => h0 h.1))
          clear h0
          go_wp2
          go_meet
          exact ⟨by rw [HL.out], HQ5.out⟩
      case rest =>
        clear HQ5
        obtain ⟨rfl, hq⟩ := hcut
        have HQ6 := Lib.hid hq
        clear hq
        go_upto_if 68 with (fail)
        go_cut [] (fun wx => RQ B R r g (if lb then ⟨true, false, pt, pq, pq⟩ else d) st' an w wx)
        case first =>
          obtain ⟨⟨a0, a1, a2, a3, a4, a5, a6, a7, a8, a9⟩, hP⟩ := HQ6.out.put ⟨true, false, pt, pq, pq⟩
          have HP := Lib.hid hP
          clear hP
          cases hc : lb
          · clear a0 a1 a2 a3 a4 a5 a6 a7 a8 a9
            go_wp2
            go_meet
            rw [hc, if_neg (by decide)]
            exact HQ6.out
          · go_wp2
            go_meet
            rw [hc, if_pos rfl]
            exact HP.out
        case rest =>
          clear HQ6
          obtain ⟨d2, hd2⟩ : ∃ d2, d2 = (if lb then ⟨true, false, pt, pq, pq⟩ else d : Dp) := ⟨_, rfl⟩
          rw [← hd2] at hcut
          have HQ7 := Lib.hid hcut
          obtain ⟨cb, hcb⟩ : ∃ cb, cb = decide (pe = 0 ∧ pk = 2 ∧ sm = true) := ⟨_, rfl⟩
          have HCB := Lib.hid hcb
          have HD3 := Lib.hid hd2
          clear hcut hd2 hcb
          go_upto_region 10 with (fail)
          go_cut [95] (fun s95 wx => s95 = .bool cb ∧ RQ B R r g d2 st' an w wx)
          case first =>
            by_cases h0 : pe = 0
            · have n0 : (pe == 0) = true := by simp [h0]
              by_cases h1 : pk = 2
              · have n1 : (pk == 2) = true := by simp [h1]
                have HL : Hid (cb = sm) := Lib.hid (by rw [HCB.out]; simp [h0, h1])
                clear h0 h1
                go_wp2
                go_meet
                exact ⟨by rw [HL.out], HQ7.out⟩
              · have n1 : (pk == 2) = false := by simp [h1]
                have HL : Hid (cb = false) := Lib.hid (by rw [HCB.out]; exact decide_eq_false (fun h => h1 h.2.1))
                clear h0 h1
                go_wp2
                go_meet
                exact ⟨by rw [HL.out], HQ7.out⟩
            · have n0 : (pe == 0) = false := by simp [h0]
              have HL : Hid (cb = false) := Lib.hid (by rw [HCB.out]; exact decide_eq_false (fun h => h0 h.1))
              clear h0
              go_wp2
              go_meet
              exact ⟨by rw [HL.out], HQ7.out⟩
          case rest =>
            clear HQ7
            obtain ⟨rfl, hq⟩ := hcut
            have HQ8 := Lib.hid hq
            clear hq
            go_upto_if 95 with (fail)
            go_cut [] (fun wx => RQ B R r g (if cb then ⟨false, false, 0, 0, 0⟩ else d2) st' an w wx)
            case first =>
              obtain ⟨⟨a0, a1, a2, a3, a4, a5, a6, a7, a8, a9⟩, hP⟩ := HQ8.out.put ⟨false, false, 0, 0, 0⟩
              have HP := Lib.hid hP
              clear hP
              cases hc : cb
              · clear a0 a1 a2 a3 a4 a5 a6 a7 a8 a9
                go_wp2
                go_meet
                rw [hc, if_neg (by decide)]
                exact HQ8.out
              · go_wp2
                go_meet
                rw [hc, if_pos rfl]
                exact HP.out
            case rest =>
              clear HQ8
              have HE : Hid ((if cb then ⟨false, false, 0, 0, 0⟩ else d2 : Dp) = mtakeD d st' cm) := Lib.hid (by
                rw [HD2.out, HCB.out, HD3.out, HLB.out, HSM.out]
                unfold doesS
                by_cases h0 : pe = 0
                · by_cases h1 : pk = 1
                  · subst h1
                    simp [h0]
                  · by_cases h2 : pk = 2
                    · subst h2; simp [h0]
                    · simp [h0, h1, h2]
                · simp [h0])
              rw [HE.out] at hcut
              have HQ9 := Lib.hid hcut
              obtain ⟨l0, l1, l2, l3, l4, l5⟩ := HQ9.out.ans.fm
              obtain ⟨⟨d0, e0, d1, e1, d2', e2, d3, e3, d4, e4, d5, e5⟩, hB, hF⟩ := stR_facts HQ9.out.res an
              have hl1 := HQ9.out.lt
              have HB := Lib.hid hB
              have HM2 := Lib.hid (HQ9.out.mo.fr hF (by omega) (by omega))
              have HF2 := Lib.hid (HQ9.out.fr.trans hF (fun j hj e => by omega))
              clear hB hF hcut HE HD2 HCB HD3 HLB HSM HQ9
              go_wp2
              refine bodyPost_ret (results_rtake11 HB.out rfl rfl) rfl ?_
              exact ⟨an, cm, ok, st', HTK.out, rfl, HM2, HF2⟩
end
end Go.Proofs.YtdhfinpmcikimaaDoor.K
