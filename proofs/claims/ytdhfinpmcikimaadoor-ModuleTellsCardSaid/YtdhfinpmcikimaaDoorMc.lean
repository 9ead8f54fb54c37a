/- The module: a button that is pressed. -/
import Derived.Test.YtdhfinpmcikimaaDoorMb
namespace Go.Proofs.YtdhfinpmcikimaaDoor.K
open Go.RowKit
set_option linter.unusedVariables false
set_option linter.unusedSimpArgs false
theorem max_two (ats : Array TypeId) (ty : TypeId) (a b : Value) : Builtin.max_ ats ty #[a, b] = (Builtin.max2 a b >>= fun s => pure s) := by simp only [Builtin.max_, List.foldlM_cons, List.foldlM_nil]
theorem max2_max (k k' : IntKind) (x y : Int) : Builtin.max2 (.int k x) (.int k' y) = pure (.int k (max x y)) := by
  simp only [Builtin.max2]; congr 2; split <;> omega
attribute [local go_sem] max2_max max_two
/-- The map of what each button tells, at h. -/
structure Kn (h : Nat) (w : World) : Prop where
  cell : w.cell? ⟨0, 0, none⟩ = some (.map (some h))
  map : ∃ es clk, w.heap[h]? = some (.map es clk) ∧ ∀ W : World, W.heap[h]? = some (.map es clk) → (Instr.lookup 129 (.map (some h)) (.int .i64 0) false).run Tryd.prog W = .ok (.int .u8 1) W ∧ (Instr.lookup 129 (.map (some h)) (.int .i64 3) false).run Tryd.prog W = .ok (.int .u8 2) W
theorem Kn.lt {h : Nat} {w : World} (k : Kn h w) : 0 < w.heap.size ∧ h < w.heap.size := by
  obtain ⟨es, clk, hh, _⟩ := k.map
  refine ⟨?_, (Array.getElem?_eq_some_iff.1 hh).1⟩
  have hc := k.cell
  rcases Nat.lt_or_ge 0 w.heap.size with h' | h'
  · exact h'
  · simp [World.cell?, Array.getElem?_eq_none h'] at hc
theorem Kn.fr {h : Nat} {S : Nat → Prop} {w w' : World} (k : Kn h w) (f : Fr S w w') (h1 : ¬ S 0) (h2 : ¬ S h) : Kn h w' := by
  obtain ⟨es, clk, hh, hl⟩ := k.map
  exact ⟨(f.cell (p := ⟨0, 0, none⟩) k.lt.1 h1).trans k.cell, es, clk, (f.block h k.lt.2 h2).trans hh, hl⟩
theorem Kn.fr0 {h : Nat} {w w' : World} (k : Kn h w) (f : Fr0 w w') : Kn h w' := k.fr f (fun h => h) (fun h => h)
theorem Kn.looks {h : Nat} {w : World} (k : Kn h w) : (Instr.lookup 129 (.map (some h)) (.int .i64 0) false).run Tryd.prog w = .ok (.int .u8 1) w ∧ (Instr.lookup 129 (.map (some h)) (.int .i64 3) false).run Tryd.prog w = .ok (.int .u8 2) w := by
  obtain ⟨es, clk, hh, hl⟩ := k.map
  exact hl w hh
theorem Kn.apart {h B m s : Nat} {A : Option Addr} {c : Nat} {sl : Sl} {d : Dp} {bt : BS} {a : Int} {w : World} (k : Kn h w) (hm : MoB B m s A c sl d bt a w) : (0 ≠ m ∧ h ≠ m) ∧ (0 ≠ s ∧ h ≠ s) := by
  obtain ⟨es, clk, hh, _⟩ := k.map
  refine ⟨⟨fun e => ?_, fun e => ?_⟩, fun e => ?_, fun e => ?_⟩
  · have h1 := hm.cells.1
    rw [← e, k.cell] at h1
    cases h1
  · have h1 : w.heap[m]? = some (.cells (mdv s d bt a) 86 (0, 0)) := hm.blk
    rw [← e, hh] at h1
    cases h1
  · have h1 : w.cell? ⟨s, 0, none⟩ = some (.int .u8 sl.num) := hm.sb.blk.cell 0
    rw [← e, k.cell] at h1
    cases h1
  · have h1 : w.heap[s]? = some (.cells (slv sl A c) 121 (0, 0)) := hm.sb.blk
    rw [← e, hh] at h1
    cases h1
structure DpOk (d : Dp) : Prop where
  t : 0 ≤ d.tok ∧ d.tok < 65536
  q : 0 ≤ d.qty ∧ d.qty < 65536
  m : 0 ≤ d.most ∧ d.most < 65536
def latS (d : Dp) (sl : Sl) (k : Int) : Dp × Sl := (⟨d.lit, decide (offN sl (bytesM k d.tok d.qty) = 0), d.tok, d.qty, d.most⟩, offS sl (bytesM k d.tok d.qty))
def qtyS (d : Dp) (q : Int) : Dp := ⟨d.lit, d.latched, d.tok, q, d.most⟩
def pressS (d : Dp) (sl : Sl) (b : Int) : Dp × Sl :=
  if b = 1 then (if d.qty < d.most then qtyS d (d.qty + 1) else d, sl)
  else if b = 2 then (qtyS d (max d.qty 1 - 1), sl)
  else if b = 0 then latS d sl 1
  else if b = 3 then latS d sl 2
  else (d, sl)
theorem mQty {m s : Nat} {d : Dp} {bt : BS} {a : Int} {w : World} (h : Blk w m 86 (mdv s d bt a)) (q : Int) : w.cell? ⟨m, 4, none⟩ = some (.int .u16 d.qty) ∧ w.frozen? ⟨m, 4, none⟩ = false ∧ Blk (w.setCell ⟨m, 4, none⟩ (.int .u16 q)) m 86 (mdv s (qtyS d q) bt a) ∧ Fr (fun j => j = m) w (w.setCell ⟨m, 4, none⟩ (.int .u16 q)) := by
  refine ⟨h.cell 4, h.frozen 4, ?_, (Fr.refl (fun j => j = m) w).setCell (p := ⟨m, 4, none⟩) (fun _ => rfl) _⟩
  have h2 := h.set_ 4 (.int .u16 q)
  unfold mdv at h2 ⊢
  rw [enc_pre _ _ _ _ (by simp)] at h2
  exact h2
theorem mLat {m s : Nat} {d : Dp} {bt : BS} {a : Int} {w : World} (h : Blk w m 86 (mdv s d bt a)) (b : Bool) : w.cell? ⟨m, 2, none⟩ = some (.bool d.latched) ∧ w.frozen? ⟨m, 2, none⟩ = false ∧ Blk (w.setCell ⟨m, 2, none⟩ (.bool b)) m 86 (mdv s ⟨d.lit, b, d.tok, d.qty, d.most⟩ bt a) ∧ Fr (fun j => j = m) w (w.setCell ⟨m, 2, none⟩ (.bool b)) := by
  refine ⟨h.cell 2, h.frozen 2, ?_, (Fr.refl (fun j => j = m) w).setCell (p := ⟨m, 2, none⟩) (fun _ => rfl) _⟩
  have h2 := h.set_ 2 (.bool b)
  unfold mdv at h2 ⊢
  rw [enc_pre _ _ _ _ (by simp)] at h2
  exact h2
theorem SlOfferE {B s n : Nat} {A BA : Option Addr} {c bc : Nat} {st : Sl} {l : List Int} {w : World} (hn : l.length = n) (h : SlB B s A c st w) (hr : RowOf c8 1 w w.heap.size BA l) (hl : l.length ≤ 1000) (hp : st.pend.length ≤ 1000) :
    Calls Tryd.prog 58 #[.pointer (some ⟨s, 0, none⟩), .slice BA n bc] w fun e w' => e = .returned (.int .i64 (offN st l)) ∧ ∃ A' c', Hid (SlB B s A' c' (offS st l) w') ∧ Hid (Fr (fun j => j = s) w w') := by
  subst hn
  exact SlOfferC h hr hl hp
section
variable {B m s h : Nat} {A : Option Addr} {c : Nat} {sl : Sl} {d : Dp} {bt : BS} {a b : Int} {w : World}
def PressMPost (B m s : Nat) (sl : Sl) (d : Dp) (bt : BS) (a b : Int) (w : World) (e : Ending) (w' : World) : Prop :=
  e = .returned (.tuple #[]) ∧ ∃ A' c', Hid (MoB B m s A' c' (pressS d sl b).2 (pressS d sl b).1 bt a w') ∧ Hid (Fr (fun j => j = m ∨ j = s) w w')
set_option maxHeartbeats 2000000 in
set_option maxRecDepth 20000 in
theorem press_plus (hm : MoB B m s A c sl d bt a w) (hd : DpOk d) : Calls Tryd.prog 42 #[.pointer (some ⟨m, 0, none⟩), .int .i64 1] w (PressMPost B m s sl d bt a 1 w) := by
  have HM := Lib.hid hm
  obtain ⟨_, _, _, _, k4, k5, _⟩ := hm.cells
  obtain ⟨q1, q2⟩ := hd.q
  have q3 := hd.m.2
  by_cases hq : d.qty < d.most
  · have HP : Hid (pressS d sl 1 = (qtyS d (d.qty + 1), sl)) := Lib.hid (by unfold pressS; rw [if_pos rfl, if_pos hq])
    have hw : IntKind.u16.wrap (d.qty + 1) = d.qty + 1 := by rw [IntKind.wrap_u16]; omega
    obtain ⟨a0, a1, hb, hF⟩ := mQty hm.blk (d.qty + 1)
    have HB := Lib.hid hb
    have HF := Lib.hid hF
    have bq : decide (d.qty < d.most) = true := decide_eq_true hq
    clear hb hF hm hd
    go_enter Tryd.func42, Tryd.ntmps42
    go_wp2_with fail
    go_region
    go_wp2
    go_end0
    exact ⟨rfl, A, c, Lib.hid (by rw [HP.out]; exact (HM.out.own HF.out HB.out HM.out.wf).fr0 ((Fr.refl (fun _ => False) _).drew)), Lib.hid ((HF.out.mono (fun _ _ e => .inl e)).drew)⟩
  · have HP : Hid (pressS d sl 1 = (d, sl)) := Lib.hid (by unfold pressS; rw [if_pos rfl, if_neg hq])
    have bq : decide (d.qty < d.most) = false := decide_eq_false hq
    clear hm hd
    go_enter Tryd.func42, Tryd.ntmps42
    go_wp2_with fail
    go_region
    go_wp2
    go_end0
    exact ⟨rfl, A, c, Lib.hid (by rw [HP.out]; exact HM.out.fr0 ((Fr.refl (fun _ => False) _).drew)), Lib.hid (Fr.drew (Fr.refl _ _))⟩
set_option maxHeartbeats 2000000 in
set_option maxRecDepth 20000 in
theorem press_minus (hm : MoB B m s A c sl d bt a w) (hd : DpOk d) : Calls Tryd.prog 42 #[.pointer (some ⟨m, 0, none⟩), .int .i64 2] w (PressMPost B m s sl d bt a 2 w) := by
  have HM := Lib.hid hm
  obtain ⟨_, _, _, _, k4, k5, _⟩ := hm.cells
  obtain ⟨q1, q2⟩ := hd.q
  obtain ⟨mx, hmx⟩ : ∃ mx, mx = max d.qty 1 - 1 := ⟨_, rfl⟩
  have HP : Hid (pressS d sl 2 = (qtyS d mx, sl)) := Lib.hid (by unfold pressS; rw [if_neg (by decide), if_pos rfl, hmx])
  have hw : IntKind.u16.wrap (max d.qty 1 - 1) = mx := by rw [IntKind.wrap_u16, hmx]; omega
  obtain ⟨a0, a1, hb, hF⟩ := mQty hm.blk mx
  have HB := Lib.hid hb
  have HF := Lib.hid hF
  clear hb hF hm hd hmx
  go_enter Tryd.func42, Tryd.ntmps42
  go_wp2
  go_end0
  exact ⟨rfl, A, c, Lib.hid (by rw [HP.out]; exact HM.out.own HF.out HB.out HM.out.wf), Lib.hid (HF.out.mono (fun _ _ e => .inl e))⟩
set_option maxHeartbeats 2000000 in
set_option maxRecDepth 20000 in
theorem press_other (hm : MoB B m s A c sl d bt a w) (h0 : b ≠ 0) (h1 : b ≠ 1) (h2 : b ≠ 2) (h3 : b ≠ 3) : Calls Tryd.prog 42 #[.pointer (some ⟨m, 0, none⟩), .int .i64 b] w (PressMPost B m s sl d bt a b w) := by
  have HM := Lib.hid hm
  have HP : Hid (pressS d sl b = (d, sl)) := Lib.hid (by unfold pressS; rw [if_neg h1, if_neg h2, if_neg h0, if_neg h3])
  have b0 : (b == 0) = false := by simp [h0]
  have b1 : (b == 1) = false := by simp [h1]
  have b2 : (b == 2) = false := by simp [h2]
  have b3 : (b == 3) = false := by simp [h3]
  clear hm h0 h1 h2 h3
  go_enter Tryd.func42, Tryd.ntmps42
  go_wp2
  go_end0
  exact ⟨rfl, A, c, Lib.hid (by rw [HP.out]; exact HM.out), Lib.hid (Fr.refl _ _)⟩
theorem pS0 {B m s h : Nat} {A : Option Addr} {c : Nat} {sl : Sl} {d : Dp} {bt : BS} {a : Int} {w : World} (hm : MoB B m s A c sl d bt a w) (hk : Kn h w) : (w.cell? ⟨m, 0, none⟩ = some (.pointer (some ⟨s, 0, none⟩)) ∧ w.cell? ⟨m, 3, none⟩ = some (.int .u16 d.tok) ∧ w.cell? ⟨m, 4, none⟩ = some (.int .u16 d.qty)) ∧ w.cell? ⟨0, 0, none⟩ = some (.map (some h)) ∧ (Instr.lookup 129 (.map (some h)) (.int .i64 0) false).run Tryd.prog w = .ok (.int .u8 1) w :=
  ⟨⟨hm.cells.1, hm.cells.2.2.2.1, hm.cells.2.2.2.2.1⟩, hk.cell, hk.looks.1⟩
set_option maxHeartbeats 4000000 in
set_option maxRecDepth 20000 in
theorem press_lat0 (hm : MoB B m s A c sl d bt a w) (hd : DpOk d) (hk : Kn h w) (hp : sl.pend.length ≤ 1000) : Calls Tryd.prog 42 #[.pointer (some ⟨m, 0, none⟩), .int .i64 0] w (PressMPost B m s sl d bt a 0 w) := by
  have HM := Lib.hid hm
  have HK := Lib.hid hk
  have HP : Hid (pressS d sl 0 = latS d sl 1) := Lib.hid (by unfold pressS; simp)
  have HE := Lib.hid (fun W => EvBytesC (k := 1) (t := d.tok) (q := d.qty) W ⟨by decide, by decide⟩ hd.t hd.q)
  have hs0 := pS0 hm hk
  have HAP := Lib.hid (hk.apart hm)
  have hms : m ≠ s := fun e => Blk.ne_ hm.blk hm.sb.blk (by decide) e
  clear hm hk hd
  go_enter Tryd.func42, Tryd.ntmps42
  go_wp2_with fail
  go_region_held_law (fun w' => (w'.cell? ⟨m, 0, none⟩ = some (.pointer (some ⟨s, 0, none⟩)) ∧ w'.cell? ⟨m, 3, none⟩ = some (.int .u16 d.tok) ∧ w'.cell? ⟨m, 4, none⟩ = some (.int .u16 d.qty)) ∧ w'.cell? ⟨0, 0, none⟩ = some (.map (some h)) ∧ (Instr.lookup 129 (.map (some h)) (.int .i64 0) false).run Tryd.prog w' = .ok (.int .u8 1) w') (first | exact pS0 (HM.out.fr0 ((Fr.refl (fun _ => False) _).drew)) (HK.out.fr0 ((Fr.refl (fun _ => False) _).drew)) | exact hs3 | exact hs4 | exact hs5) (first
    | (go_simp; go_at_call 11; refine Calls.mono (HE.out _) ?_; rintro e w3 ⟨A3, c3, rfl, H3, F3⟩; have F3' := Lib.hid (Fr.undrew F3.out); have HM3 := Lib.hid (HM.out.fr0 F3'.out); have HK3 := Lib.hid (HK.out.fr0 F3'.out); have hs3 := pS0 HM3.out HK3.out)
    | (go_simp; go_at_call 58; refine Calls.mono (SlOfferE (n := 5) (bytesM_len _ _ _) HM3.out.sb H3.out.2.1 (by rw [bytesM_len]; omega) hp) ?_; rintro e w4 ⟨rfl, A4, c4, H4, F4⟩; have HM4 := Lib.hid (HM3.out.slave F4.out H4.out); have HK4 := Lib.hid (HK3.out.fr F4.out HAP.out.2.1 HAP.out.2.2); have hs4 := pS0 HM4.out HK4.out; obtain ⟨a0, a1, hb, hF⟩ := mLat HM4.out.blk (offN sl (bytesM 1 d.tok d.qty) == 0); have HM5 := Lib.hid (HM4.out.own (d' := ⟨d.lit, offN sl (bytesM 1 d.tok d.qty) == 0, d.tok, d.qty, d.most⟩) hF hb HM4.out.wf); have HK5 := Lib.hid (HK4.out.fr hF HAP.out.1.1 HAP.out.1.2); have hs5 := pS0 HM5.out HK5.out; have HF5 := Lib.hid hF; clear hb hF))
  go_wp2
  go_end0
  refine ⟨rfl, A4, c4, Lib.hid ?_, Lib.hid (((F3'.out.mono (fun _ _ h => h.elim)).trans (F4.out.mono (fun _ _ e => .inr e)) (fun _ _ e => e)).trans (HF5.out.mono (fun _ _ e => .inl e)) (fun _ _ e => e))⟩
  rw [HP.out]
  have := HM5.out
  rw [show (offN sl (bytesM 1 d.tok d.qty) == 0) = decide (offN sl (bytesM 1 d.tok d.qty) = 0) by rw [Bool.eq_iff_iff]; simp] at this
  exact this
theorem pS3 {B m s h : Nat} {A : Option Addr} {c : Nat} {sl : Sl} {d : Dp} {bt : BS} {a : Int} {w : World} (hm : MoB B m s A c sl d bt a w) (hk : Kn h w) : (w.cell? ⟨m, 0, none⟩ = some (.pointer (some ⟨s, 0, none⟩)) ∧ w.cell? ⟨m, 3, none⟩ = some (.int .u16 d.tok) ∧ w.cell? ⟨m, 4, none⟩ = some (.int .u16 d.qty)) ∧ w.cell? ⟨0, 0, none⟩ = some (.map (some h)) ∧ (Instr.lookup 129 (.map (some h)) (.int .i64 3) false).run Tryd.prog w = .ok (.int .u8 2) w :=
  ⟨⟨hm.cells.1, hm.cells.2.2.2.1, hm.cells.2.2.2.2.1⟩, hk.cell, hk.looks.2⟩
set_option maxHeartbeats 4000000 in
set_option maxRecDepth 20000 in
theorem press_lat3 (hm : MoB B m s A c sl d bt a w) (hd : DpOk d) (hk : Kn h w) (hp : sl.pend.length ≤ 1000) : Calls Tryd.prog 42 #[.pointer (some ⟨m, 0, none⟩), .int .i64 3] w (PressMPost B m s sl d bt a 3 w) := by
  have HM := Lib.hid hm
  have HK := Lib.hid hk
  have HP : Hid (pressS d sl 3 = latS d sl 2) := Lib.hid (by unfold pressS; simp)
  have HE := Lib.hid (fun W => EvBytesC (k := 2) (t := d.tok) (q := d.qty) W ⟨by decide, by decide⟩ hd.t hd.q)
  have hs0 := pS3 hm hk
  have HAP := Lib.hid (hk.apart hm)
  have hms : m ≠ s := fun e => Blk.ne_ hm.blk hm.sb.blk (by decide) e
  clear hm hk hd
  go_enter Tryd.func42, Tryd.ntmps42
  go_wp2_with fail
  go_region_held_law (fun w' => (w'.cell? ⟨m, 0, none⟩ = some (.pointer (some ⟨s, 0, none⟩)) ∧ w'.cell? ⟨m, 3, none⟩ = some (.int .u16 d.tok) ∧ w'.cell? ⟨m, 4, none⟩ = some (.int .u16 d.qty)) ∧ w'.cell? ⟨0, 0, none⟩ = some (.map (some h)) ∧ (Instr.lookup 129 (.map (some h)) (.int .i64 3) false).run Tryd.prog w' = .ok (.int .u8 2) w') (first | exact pS3 (HM.out.fr0 ((Fr.refl (fun _ => False) _).drew)) (HK.out.fr0 ((Fr.refl (fun _ => False) _).drew)) | exact hs3 | exact hs4 | exact hs5) (first
    | (go_simp; go_at_call 11; refine Calls.mono (HE.out _) ?_; rintro e w3 ⟨A3, c3, rfl, H3, F3⟩; have F3' := Lib.hid (Fr.undrew F3.out); have HM3 := Lib.hid (HM.out.fr0 F3'.out); have HK3 := Lib.hid (HK.out.fr0 F3'.out); have hs3 := pS3 HM3.out HK3.out)
    | (go_simp; go_at_call 58; refine Calls.mono (SlOfferE (n := 5) (bytesM_len _ _ _) HM3.out.sb H3.out.2.1 (by rw [bytesM_len]; omega) hp) ?_; rintro e w4 ⟨rfl, A4, c4, H4, F4⟩; have HM4 := Lib.hid (HM3.out.slave F4.out H4.out); have HK4 := Lib.hid (HK3.out.fr F4.out HAP.out.2.1 HAP.out.2.2); have hs4 := pS3 HM4.out HK4.out; obtain ⟨a0, a1, hb, hF⟩ := mLat HM4.out.blk (offN sl (bytesM 2 d.tok d.qty) == 0); have HM5 := Lib.hid (HM4.out.own (d' := ⟨d.lit, offN sl (bytesM 2 d.tok d.qty) == 0, d.tok, d.qty, d.most⟩) hF hb HM4.out.wf); have HK5 := Lib.hid (HK4.out.fr hF HAP.out.1.1 HAP.out.1.2); have hs5 := pS3 HM5.out HK5.out; have HF5 := Lib.hid hF; clear hb hF))
  go_wp2
  go_end0
  refine ⟨rfl, A4, c4, Lib.hid ?_, Lib.hid (((F3'.out.mono (fun _ _ h => h.elim)).trans (F4.out.mono (fun _ _ e => .inr e)) (fun _ _ e => e)).trans (HF5.out.mono (fun _ _ e => .inl e)) (fun _ _ e => e))⟩
  rw [HP.out]
  have := HM5.out
  rw [show (offN sl (bytesM 2 d.tok d.qty) == 0) = decide (offN sl (bytesM 2 d.tok d.qty) = 0) by rw [Bool.eq_iff_iff]; simp] at this
  exact this
theorem MpressC (hm : MoB B m s A c sl d bt a w) (hd : DpOk d) (hk : Kn h w) (hp : sl.pend.length ≤ 1000) : Calls Tryd.prog 42 #[.pointer (some ⟨m, 0, none⟩), .int .i64 b] w (PressMPost B m s sl d bt a b w) := by
  by_cases h1 : b = 1
  · subst h1; exact press_plus hm hd
  · by_cases h2 : b = 2
    · subst h2; exact press_minus hm hd
    · by_cases h0 : b = 0
      · subst h0; exact press_lat0 hm hd hk hp
      · by_cases h3 : b = 3
        · subst h3; exact press_lat3 hm hd hk hp
        · exact press_other hm h0 h1 h2 h3
end
end Go.Proofs.YtdhfinpmcikimaaDoor.K
