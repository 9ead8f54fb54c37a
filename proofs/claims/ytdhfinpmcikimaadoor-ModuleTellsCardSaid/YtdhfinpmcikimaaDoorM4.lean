/- The slave: Take. -/
import Derived.Test.YtdhfinpmcikimaaDoorM3
import Derived.Test.YtdhfinpmcikimaaDoorSh1
import Derived.Deep.RegionHeld3
import Derived.Deep.RegionHeldLaw
namespace Go.Proofs.YtdhfinpmcikimaaDoor.K
open Go.RowKit
set_option linter.unusedVariables false
set_option linter.unusedSimpArgs false
def f0 : Fm := ⟨0, 0, 0, 0, 0, []⟩
/-- What was heard. -/
def hearS (st : Sl) (f : Fm) : Sl := if 0 < st.pend.length ∧ f.ack ≠ st.tells then ⟨st.num, 1 - st.tells, st.next, st.addr, []⟩ else st
def nextS (st : Sl) (f : Fm) : Sl := if f.kind = 2 ∧ f.seq = st.next then ⟨st.num, st.tells, 1 - st.next, st.addr, st.pend⟩ else st
def cmdS (st : Sl) (f : Fm) : List Int := if f.kind = 2 ∧ f.seq = st.next then f.B else []
def ansS (st : Sl) : Fm := ⟨st.addr, 5, st.num, st.tells, st.next, st.pend⟩
def takeS (st : Sl) (f : Fm) : Fm × List Int × Bool × Sl :=
  if f.addr ≠ st.addr ∨ f.kind < 1 ∨ 3 < f.kind then (f0, [], false, st)
  else if f.kind = 1 then (⟨st.addr, 4, f.ses, 0, 0, []⟩, [], true, ⟨f.ses, 0, 0, st.addr, st.pend⟩)
  else if ¬ (st.num ≠ 0 ∧ f.ses = st.num) then (⟨st.addr, 5, st.num, 0, 0, []⟩, [], true, st)
  else (ansS (nextS (hearS st f) f), cmdS (hearS st f) f, true, nextS (hearS st f) f)
theorem results_take {w : World} {g : Nat} {f : Fm} {A : Option Addr} {c : Nat} {v5 v6 : Value} {tm : Array Value} (h : Blk w g 54 (fmv f A c)) (h2 : tm.getD 4 undef = .pointer (some ⟨g, 0, none⟩)) (h5 : tm.getD 5 undef = v5) (h6 : tm.getD 6 undef = v6) :
    (results Tryd.f35 tm).run Tryd.prog w = .ok (.tuple #[.agg (fmv f A c), v5, v6]) w := by
  have k0 : w.cell? ⟨g, 0, none⟩ = some (.int .u8 f.addr) := h.cell 0
  have k1 : w.cell? ⟨g, 1, none⟩ = some (.int .u8 f.kind) := h.cell 1
  have k2 : w.cell? ⟨g, 2, none⟩ = some (.int .u8 f.ses) := h.cell 2
  have k3 : w.cell? ⟨g, 3, none⟩ = some (.int .u8 f.seq) := h.cell 3
  have k4 : w.cell? ⟨g, 4, none⟩ = some (.int .u8 f.ack) := h.cell 4
  have k5 : w.cell? ⟨g, 5, none⟩ = some (.slice A f.B.length c) := h.cell 5
  rw [Array.getD_eq_getD_getElem?] at h2 h5 h6
  simp [results, Tryd.results35, go_sem, h2, h5, h6, k0, k1, k2, k3, k4, k5]
/-- Where Take ends. -/
def TakePost (B s : Nat) (st : Sl) (f : Fm) (w : World) (e : Ending) (w' : World) : Prop :=
  ∃ an cm ok st' AA ac CA cc A' c', takeS st f = (an, cm, ok, st') ∧ e = .returned (.tuple #[.agg (fmv an AA ac), .slice CA cm.length cc, .bool ok]) ∧ Hid (Made w.heap.size AA ac an.B w') ∧ Hid (Made w.heap.size CA cc cm w') ∧ Hid (SlB B s A' c' st' w') ∧ Hid (Fr (fun j => j = s) w w')
/-- The world at Take's first test. -/
structure TW (B s : Nat) (A : Option Addr) (c : Nat) (st : Sl) (f : Fm) (FA : Option Addr) (fc : Nat) (w W : World) : Prop where
  sb : SlB B s A c st W
  box : Blk W w.heap.size 54 (fmv f FA fc)
  res : Blk W (w.heap.size + 1) 54 #[.int .u8 0, .int .u8 0, .int .u8 0, .int .u8 0, .int .u8 0, .slice none 0 0]
  row : RowOf c8 1 W W.heap.size FA f.B
  fr : Fr (fun j => j = s) w W
  lt : s < w.heap.size
  ne : ∀ ad, FA = some ad → f.B ≠ [] → ad.block ≠ s
theorem rowS_fr {α : Type} {cc : α → List Value} {size : Nat} {S : Nat → Prop} {w w' : World} {A : Option Addr} {l : List α} (h : RowOf cc size w w.heap.size A l) (k : Fr S w w') (hn : ∀ ad, A = some ad → l ≠ [] → ¬ S ad.block) : RowOf cc size w' w'.heap.size A l := by
  intro i x hx
  obtain ⟨ad, e, hb, hcc⟩ := h i x hx
  refine ⟨ad, e, Nat.lt_of_lt_of_le hb k.size, fun j u hu => ?_⟩
  rw [k.cell (p := ad.add (i * size + j)) (by rw [block_of_add]; exact hb) (by rw [block_of_add]; exact hn ad e (fun h => by rw [h] at hx; simp at hx))]
  exact hcc j u hu
theorem made_fr {B : Nat} {A : Option Addr} {c : Nat} {l : List Int} {S : Nat → Prop} {w w' : World} (h : Made B A c l w) (k : Fr S w w') (hn : ∀ j, (Value.slice A l.length c).ownBlock = some j → ¬ S j) : Made B A c l w' := by
  obtain ⟨A', c', e, hm⟩ := made_of (own_fr h.1 k hn)
  injection e with e1 _ e3
  subst e1 e3
  exact hm
theorem SlB.res {B s p : Nat} {A : Option Addr} {c : Nat} {st : Sl} {W W' : World} (h : SlB B s A c st W) (k : Fr (fun j => j = p) W W') (hp : s < p) (hn : ∀ j, (Value.slice A st.pend.length c).ownBlock = some j → j ≠ p) : SlB B s A c st W' :=
  ⟨h.blk.fr k (by omega), made_fr h.made k hn, h.low, h.bits⟩
theorem TW.put {B s : Nat} {A A' : Option Addr} {c c' : Nat} {st st' : Sl} {f : Fm} {FA : Option Addr} {fc : Nat} {w W W' : World} (h : TW B s A c st f FA fc w W) (k : Fr (fun j => j = s) W W') (hs : SlB B s A' c' st' W') : TW B s A' c' st' f FA fc w W' := by
  have hl := h.lt
  exact ⟨hs, h.box.fr k (by omega), h.res.fr k (by omega), rowS_fr h.row k h.ne, h.fr.trans k (fun _ _ e => e), h.lt, h.ne⟩
theorem TW.next {B s : Nat} {A : Option Addr} {c : Nat} {st : Sl} {f : Fm} {FA : Option Addr} {fc : Nat} {w W W' : World} (h : TW B s A c st f FA fc w W) (k : Fr0 W W') : TW B s A c st f FA fc w W' := h.put (k.mono (fun _ _ h => h.elim)) (h.sb.fr k (fun _ _ _ h => h))
theorem tw_new {B s : Nat} {A : Option Addr} {c : Nat} {st : Sl} {f : Fm} {FA : Option Addr} {fc : Nat} {w : World} (h : SlB B s A c st w) (hr : RowOf c8 1 w w.heap.size FA f.B) (hne : ∀ ad, FA = some ad → f.B ≠ [] → ad.block ≠ s) : TW B s A c st f FA fc w ((w.alloc (.cells (fmv f FA fc) 54)).alloc (.cells #[.int .u8 0, .int .u8 0, .int .u8 0, .int .u8 0, .int .u8 0, .slice none 0 0] 54)) := by
  have F : Fr0 w ((w.alloc (.cells (fmv f FA fc) 54)).alloc (.cells #[.int .u8 0, .int .u8 0, .int .u8 0, .int .u8 0, .int .u8 0, .slice none 0 0] 54)) := ((Fr.refl (fun _ => False) w).alloc _).alloc _
  exact ⟨h.fr F (fun _ _ _ h => h), (Blk.new w _ _).alloc _, Blk.new_at (by simp), RowOf.now hr F.below0, F.mono (fun _ _ h => h.elim), h.blk.lt, hne⟩
theorem take_end {B s g : Nat} {st : Sl} {f : Fm} {w W' : World} {an : Fm} {cm : List Int} {ok : Bool} {st' : Sl} {AA CA A' : Option Addr} {ac cc c' : Nat} {tm : Array Value} (hk : Blk W' g 54 (fmv an AA ac)) (h4 : tm.getD 4 undef = .pointer (some ⟨g, 0, none⟩)) (h5 : tm.getD 5 undef = .slice CA cm.length cc) (h6 : tm.getD 6 undef = .bool ok)
    (hT : takeS st f = (an, cm, ok, st')) (hA : Made w.heap.size AA ac an.B W') (hC : Made w.heap.size CA cc cm W') (hS : SlB B s A' c' st' W') (hF : Fr (fun j => j = s) w W') : bodyPost Tryd.prog Tryd.f35 (TakePost B s st f w) .ret ⟨tm, []⟩ W' := by
  refine bodyPost_ret (results_take hk h4 h5 h6) rfl ?_
  exact ⟨an, cm, ok, st', AA, ac, CA, cc, A', c', hT, rfl, Lib.hid hA, Lib.hid hC, Lib.hid hS, Lib.hid hF⟩
theorem stF_facts {w : World} {g : Nat} {t : TypeId} {f1 : Fm} {A1 : Option Addr} {c1 : Nat} (h : Blk w g t (fmv f1 A1 c1)) (f : Fm) (A : Option Addr) (c : Nat) :
    w.cell? ⟨g, 0, none⟩ = some (.int .u8 f1.addr) ∧ w.frozen? ⟨g, 0, none⟩ = false ∧
    (w.setCell ⟨g, 0, none⟩ (.int .u8 f.addr)).cell? ⟨g, 1, none⟩ = some (.int .u8 f1.kind) ∧ (w.setCell ⟨g, 0, none⟩ (.int .u8 f.addr)).frozen? ⟨g, 1, none⟩ = false ∧
    ((w.setCell ⟨g, 0, none⟩ (.int .u8 f.addr)).setCell ⟨g, 1, none⟩ (.int .u8 f.kind)).cell? ⟨g, 2, none⟩ = some (.int .u8 f1.ses) ∧ ((w.setCell ⟨g, 0, none⟩ (.int .u8 f.addr)).setCell ⟨g, 1, none⟩ (.int .u8 f.kind)).frozen? ⟨g, 2, none⟩ = false ∧
    (((w.setCell ⟨g, 0, none⟩ (.int .u8 f.addr)).setCell ⟨g, 1, none⟩ (.int .u8 f.kind)).setCell ⟨g, 2, none⟩ (.int .u8 f.ses)).cell? ⟨g, 3, none⟩ = some (.int .u8 f1.seq) ∧ (((w.setCell ⟨g, 0, none⟩ (.int .u8 f.addr)).setCell ⟨g, 1, none⟩ (.int .u8 f.kind)).setCell ⟨g, 2, none⟩ (.int .u8 f.ses)).frozen? ⟨g, 3, none⟩ = false ∧
    ((((w.setCell ⟨g, 0, none⟩ (.int .u8 f.addr)).setCell ⟨g, 1, none⟩ (.int .u8 f.kind)).setCell ⟨g, 2, none⟩ (.int .u8 f.ses)).setCell ⟨g, 3, none⟩ (.int .u8 f.seq)).cell? ⟨g, 4, none⟩ = some (.int .u8 f1.ack) ∧ ((((w.setCell ⟨g, 0, none⟩ (.int .u8 f.addr)).setCell ⟨g, 1, none⟩ (.int .u8 f.kind)).setCell ⟨g, 2, none⟩ (.int .u8 f.ses)).setCell ⟨g, 3, none⟩ (.int .u8 f.seq)).frozen? ⟨g, 4, none⟩ = false ∧
    (((((w.setCell ⟨g, 0, none⟩ (.int .u8 f.addr)).setCell ⟨g, 1, none⟩ (.int .u8 f.kind)).setCell ⟨g, 2, none⟩ (.int .u8 f.ses)).setCell ⟨g, 3, none⟩ (.int .u8 f.seq)).setCell ⟨g, 4, none⟩ (.int .u8 f.ack)).cell? ⟨g, 5, none⟩ = some (.slice A1 f1.B.length c1) ∧ (((((w.setCell ⟨g, 0, none⟩ (.int .u8 f.addr)).setCell ⟨g, 1, none⟩ (.int .u8 f.kind)).setCell ⟨g, 2, none⟩ (.int .u8 f.ses)).setCell ⟨g, 3, none⟩ (.int .u8 f.seq)).setCell ⟨g, 4, none⟩ (.int .u8 f.ack)).frozen? ⟨g, 5, none⟩ = false := by
  have b0 := h
  have b1 := b0.set_ 0 (.int .u8 f.addr)
  have b2 := b1.set_ 1 (.int .u8 f.kind)
  have b3 := b2.set_ 2 (.int .u8 f.ses)
  have b4 := b3.set_ 3 (.int .u8 f.seq)
  have b5 := b4.set_ 4 (.int .u8 f.ack)
  exact ⟨b0.cell 0, b0.frozen 0, b1.cell 1, b1.frozen 1, b2.cell 2, b2.frozen 2, b3.cell 3, b3.frozen 3, b4.cell 4, b4.frozen 4, b5.cell 5, b5.frozen 5⟩
theorem st3_facts {w : World} {s : Nat} {t : TypeId} {v0 v1 v2 v3 v4 : Value} (h : Blk w s t #[v0, v1, v2, v3, v4]) (u0 u1 u2 : Value) :
    w.cell? ⟨s, 0, none⟩ = some v0 ∧ w.frozen? ⟨s, 0, none⟩ = false ∧ (w.setCell ⟨s, 0, none⟩ u0).cell? ⟨s, 1, none⟩ = some v1 ∧ (w.setCell ⟨s, 0, none⟩ u0).frozen? ⟨s, 1, none⟩ = false ∧
    ((w.setCell ⟨s, 0, none⟩ u0).setCell ⟨s, 1, none⟩ u1).cell? ⟨s, 2, none⟩ = some v2 ∧ ((w.setCell ⟨s, 0, none⟩ u0).setCell ⟨s, 1, none⟩ u1).frozen? ⟨s, 2, none⟩ = false ∧
    Blk (((w.setCell ⟨s, 0, none⟩ u0).setCell ⟨s, 1, none⟩ u1).setCell ⟨s, 2, none⟩ u2) s t #[u0, u1, u2, v3, v4] ∧ Fr (fun j => j = s) w (((w.setCell ⟨s, 0, none⟩ u0).setCell ⟨s, 1, none⟩ u1).setCell ⟨s, 2, none⟩ u2) := by
  have b1 := h.set_ 0 u0
  have b2 := b1.set_ 1 u1
  exact ⟨h.cell 0, h.frozen 0, b1.cell 1, b1.frozen 1, b2.cell 2, b2.frozen 2, by simpa using b2.set_ 2 u2, (((Fr.refl (fun j => j = s) w).setCell (p := ⟨s, 0, none⟩) (fun _ => rfl) _).setCell (p := ⟨s, 1, none⟩) (fun _ => rfl) _).setCell (p := ⟨s, 2, none⟩) (fun _ => rfl) _⟩
section
variable {B s : Nat} {A FA : Option Addr} {c fc : Nat} {st : Sl} {f : Fm} {w : World}
set_option maxHeartbeats 1000000 in
theorem TakeNo (h : SlB B s A c st w) (hr : RowOf c8 1 w w.heap.size FA f.B) (hne : ∀ ad, FA = some ad → f.B ≠ [] → ad.block ≠ s) (hno : f.addr ≠ st.addr ∨ f.kind < 1 ∨ 3 < f.kind) :
    Calls Tryd.prog 35 #[.pointer (some ⟨s, 0, none⟩), .agg (fmv f FA fc)] w (TakePost B s st f w) := by
  have ht : takeS st f = (f0, [], false, st) := by unfold takeS; rw [if_pos hno]
  have htw := tw_new (fc := fc) h hr hne
  have HT := Lib.hid ht
  have HTW := Lib.hid htw
  have p0 : ((w.alloc (.cells #[.int .u8 f.addr, .int .u8 f.kind, .int .u8 f.ses, .int .u8 f.seq, .int .u8 f.ack, .slice FA f.B.length fc] 54)).alloc (.cells #[.int .u8 0, .int .u8 0, .int .u8 0, .int .u8 0, .int .u8 0, .slice none 0 0] 54)).cell? ⟨s, 3, none⟩ = some (.int .u8 st.addr) := htw.sb.blk.cell 3
  clear ht htw h hr
  by_cases h1 : f.addr = st.addr
  · have b1 : (f.addr != st.addr) = false := by simp [h1]
    by_cases h2 : f.kind < 1
    · clear h1 hno
      go_enter Tryd.func35, Tryd.ntmps35
      go_wp2_with fail
      go_region
      go_wp2
      exact take_end (an := f0) (cm := []) HTW.out.res.drew rfl rfl rfl HT.out (made_nil _ _) (made_nil _ _) (HTW.out.sb.fr ((Fr.refl (fun _ => False) _).drew) (fun _ _ _ h => h)) HTW.out.fr.drew
    · have h3 : 3 < f.kind := by omega
      have b2 : decide (f.kind < 1) = false := decide_eq_false h2
      have b3 : decide (3 < f.kind) = true := decide_eq_true h3
      clear h1 hno
      go_enter Tryd.func35, Tryd.ntmps35
      go_wp2_with fail
      go_region
      go_wp2
      exact take_end (an := f0) (cm := []) HTW.out.res.drew rfl rfl rfl HT.out (made_nil _ _) (made_nil _ _) (HTW.out.sb.fr ((Fr.refl (fun _ => False) _).drew) (fun _ _ _ h => h)) HTW.out.fr.drew
  · have b1 : (f.addr != st.addr) = true := by simp [h1]
    have htriv : True := trivial
    by_cases hx : True
    · clear h1 hno
      go_enter Tryd.func35, Tryd.ntmps35
      go_wp2_with fail
      go_region
      go_wp2
      exact take_end (an := f0) (cm := []) HTW.out.res.drew rfl rfl rfl HT.out (made_nil _ _) (made_nil _ _) (HTW.out.sb.fr ((Fr.refl (fun _ => False) _).drew) (fun _ _ _ h => h)) HTW.out.fr.drew
    · exact absurd trivial hx
set_option maxHeartbeats 2000000 in
theorem TakeOpen (h : SlB B s A c st w) (hr : RowOf c8 1 w w.heap.size FA f.B) (hne : ∀ ad, FA = some ad → f.B ≠ [] → ad.block ≠ s) (ha : f.addr = st.addr) (hk : f.kind = 1) :
    Calls Tryd.prog 35 #[.pointer (some ⟨s, 0, none⟩), .agg (fmv f FA fc)] w (TakePost B s st f w) := by
  have ht : takeS st f = (⟨st.addr, 4, f.ses, 0, 0, []⟩, [], true, ⟨f.ses, 0, 0, st.addr, st.pend⟩) := by unfold takeS; rw [if_neg (by omega), if_pos hk]
  obtain ⟨fa, fk, fs, fq, fx, fB⟩ := f
  obtain ⟨n, t, x, a, pd⟩ := st
  simp only at ha hk
  subst ha hk
  have HT := Lib.hid ht
  have HTW := Lib.hid (tw_new (fc := fc) h hr hne)
  have s3 : ((w.alloc (.cells #[.int .u8 fa, .int .u8 1, .int .u8 fs, .int .u8 fq, .int .u8 fx, .slice FA fB.length fc] 54)).alloc (.cells #[.int .u8 0, .int .u8 0, .int .u8 0, .int .u8 0, .int .u8 0, .slice none 0 0] 54)).cell? ⟨s, 3, none⟩ = some (.int .u8 fa) := HTW.out.sb.blk.cell 3
  have b1 : (fa != fa) = false := by simp
  clear ht h hr
  go_enter Tryd.func35, Tryd.ntmps35
  go_wp2_with fail
  go_region
  have HTW1 : Hid (TW B s A c ⟨n, t, x, fa, pd⟩ ⟨fa, 1, fs, fq, fx, fB⟩ FA fc w ((w.alloc (.cells #[.int .u8 fa, .int .u8 1, .int .u8 fs, .int .u8 fq, .int .u8 fx, .slice FA fB.length fc] 54)).alloc (.cells #[.int .u8 0, .int .u8 0, .int .u8 0, .int .u8 0, .int .u8 0, .slice none 0 0] 54)).drew) := Lib.hid (HTW.out.next ((Fr.refl (fun _ => False) _).drew))
  clear HTW s3
  generalize ((w.alloc (.cells #[.int .u8 fa, .int .u8 1, .int .u8 fs, .int .u8 fq, .int .u8 fx, .slice FA fB.length fc] 54)).alloc (.cells #[.int .u8 0, .int .u8 0, .int .u8 0, .int .u8 0, .int .u8 0, .slice none 0 0] 54)).drew = W1 at *
  have p1 : W1.cell? ⟨w.heap.size, 1, none⟩ = some (.int .u8 1) := HTW1.out.box.cell 1
  have p2 : W1.cell? ⟨w.heap.size, 2, none⟩ = some (.int .u8 fs) := HTW1.out.box.cell 2
  have hsb : Blk W1 s 121 #[.int .u8 n, .int .u8 t, .int .u8 x, .int .u8 fa, .slice A pd.length c] := HTW1.out.sb.blk
  obtain ⟨a0, a1, a2, a3, a4, a5, hb2, hF2⟩ := st3_facts hsb (.int .u8 fs) (.int .u8 0) (.int .u8 0)
  have hm2 : Made B A c pd (((W1.setCell ⟨s, 0, none⟩ (.int .u8 fs)).setCell ⟨s, 1, none⟩ (.int .u8 0)).setCell ⟨s, 2, none⟩ (.int .u8 0)) := made_fr HTW1.out.sb.made hF2 (fun j e e' => own_blk_ne HTW1.out.sb.made.1 hsb (by decide) (e' ▸ e))
  have HSB2 : Hid (TW B s A c ⟨fs, 0, 0, fa, pd⟩ ⟨fa, 1, fs, fq, fx, fB⟩ FA fc w (((W1.setCell ⟨s, 0, none⟩ (.int .u8 fs)).setCell ⟨s, 1, none⟩ (.int .u8 0)).setCell ⟨s, 2, none⟩ (.int .u8 0))) := Lib.hid (HTW1.out.put hF2 ⟨hb2, hm2, HTW1.out.sb.low, .inl rfl, .inl rfl⟩)
  have qA := SlAnswerC 4 HSB2.out.sb
  clear hsb hb2 hF2 hm2 HTW1
  go_wp2_with fail
  generalize ((W1.setCell ⟨s, 0, none⟩ (.int .u8 fs)).setCell ⟨s, 1, none⟩ (.int .u8 0)).setCell ⟨s, 2, none⟩ (.int .u8 0) = W2 at *
  refine Calls.mono qA ?_
  clear qA
  rintro e w3 ⟨rfl, F3⟩
  have HT3 := Lib.hid (HSB2.out.next F3.out)
  have hr3 : Blk w3 (w.heap.size + 1) 54 (fmv f0 none 0) := HT3.out.res
  obtain ⟨d0, e0, d1, e1, d2, e2, d3, e3, d4, e4, d5, e5⟩ := stF_facts hr3 ⟨fa, 4, fs, 0, 0, []⟩ none 0
  have HR3 := Lib.hid (stF_blk (f := ⟨fa, 4, fs, 0, 0, []⟩) (A := none) (c := 0) hr3)
  have HF3 := Lib.hid (stF_fr w3 (w.heap.size + 1) ⟨fa, 4, fs, 0, 0, []⟩ none 0)
  have hlt3 := HT3.out.lt
  clear hr3 HSB2 F3
  go_wp2
  exact take_end (an := ⟨fa, 4, fs, 0, 0, []⟩) (cm := []) HR3.out rfl rfl rfl HT.out (made_nil _ _) (made_nil _ _) (HT3.out.sb.res HF3.out (by omega) (fun j e e' => own_blk_ne HT3.out.sb.made.1 HT3.out.res (by decide) (e' ▸ e))) (HT3.out.fr.trans HF3.out (fun j hj e => by omega))
end
end Go.Proofs.YtdhfinpmcikimaaDoor.K
