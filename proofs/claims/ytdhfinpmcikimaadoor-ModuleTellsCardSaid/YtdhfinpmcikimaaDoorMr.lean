/- ModuleTells: both modules, and the buttons, beside blocks that stay. -/
import Derived.Test.YtdhfinpmcikimaaDoorMq
import Derived.Test.YtdhfinpmcikimaaDoorOpen15
namespace Go.Proofs.YtdhfinpmcikimaaDoor.K
open Go.RowKit
set_option linter.unusedVariables false
set_option linter.unusedSimpArgs false
theorem putAll_cells (m : Nat) (t : TypeId) (vs : List Value) (w : World) (cs : Array Value) (h : Blk w m t cs) (hs : vs.length = cs.size) : Blk (putAll w m 0 vs) m t vs.toArray := by
  have := putAll_blk m t vs 0 w cs h (by omega)
  simpa using this
set_option maxHeartbeats 1000000 in
set_option maxRecDepth 20000 in
theorem BResetC11 {g : Nat} {bt : BS} {w : World} (h : Blk w g 66 (enc [] [] bt)) : Calls Tryd.prog 32 #[.pointer (some ⟨g, 0, none⟩)] w fun e w' => e = .returned (.tuple #[]) ∧ Hid (Blk w' g 66 (enc [] [] z4)) ∧ Hid (Fr1 g w w') := by
  have hb : Blk w g 66 #[.bool (bt 0).down, .bool (bt 0).told, .int .i64 (bt 0).since, .bool (bt 1).down, .bool (bt 1).told, .int .i64 (bt 1).since, .bool (bt 2).down, .bool (bt 2).told, .int .i64 (bt 2).since, .bool (bt 3).down, .bool (bt 3).told, .int .i64 (bt 3).since] := h
  have hT : w.there g 0 12 := fun j hj => ⟨by rw [Nat.zero_add, hb.cell j]; simpa using hj, by rw [Nat.zero_add]; exact hb.frozen j⟩
  have HT := Lib.hid hT
  have HB := Lib.hid hb
  have hsz : (Tryd.prog.info? 66).map (·.size) = some (12 : Nat) := by kernel_rfl
  have hone : (#[.bool false, .bool false, .int .i64 0, .bool false, .bool false, .int .i64 0, .bool false, .bool false, .int .i64 0, .bool false, .bool false, .int .i64 0] : Array Value).all (·.oneCell') = true := by simp [Value.oneCell']
  clear hT hb h
  go_enter Tryd.func32, Tryd.ntmps32
  go_wp2_with (refine Go.wpList_store_mid rfl 66 (.tmp 4) (.tmp 3) rfl g 0 #[.bool false, .bool false, .int .i64 0, .bool false, .bool false, .int .i64 0, .bool false, .bool false, .int .i64 0, .bool false, .bool false, .int .i64 0] rfl rfl HT.out hsz hone ?_)
  go_end0
  rw [setCells_put]
  exact ⟨rfl, Lib.hid (putAll_cells g 66 _ w _ HB.out rfl), Lib.hid (putAll_fr g w _ 0 w (Fr.refl _ _))⟩
set_option maxHeartbeats 1000000 in
theorem eqlRF (f : Fm) (W : World) : (binOp .eql 70 (.agg #[.int .u8 f.addr, .int .u8 f.kind, .int .u8 f.ses, .int .u8 f.seq, .int .u8 f.ack, .string (strOfNums f.B)]) (.agg #[.int .u8 f.addr, .int .u8 f.kind, .int .u8 f.ses, .int .u8 f.seq, .int .u8 f.ack, .string (strOfNums f.B)])).run Tryd.prog W = .ok (.bool true) W := by
  have hp : Tryd.prog.stoodInHeld 70 = false := by kernel_rfl
  have hu := Tryd.underlying70
  rw [run_eql_struct]
  generalize hF : (#[.int .u8 f.addr, .int .u8 f.kind, .int .u8 f.ses, .int .u8 f.seq, .int .u8 f.ack, .string (strOfNums f.B)] : Array Value) = xs
  rw [run_equalIn_agg _ _ _ _ _ (by unfold Program.fieldsOf; rw [hu]) hp]
  unfold Program.fieldsOf
  rw [hu]
  subst hF
  simp [go_sem, Tryd.underlying9, Tryd.underlying5]
abbrev Ty5 (t : TypeId) : Prop := t ≠ 86 ∧ t ≠ 121 ∧ t ≠ 66 ∧ t ≠ 80 ∧ t ≠ 95 ∧ t ≠ 5
/-- Both, beside K. -/
structure TI (K : List (Nat × TypeId × Array Value)) (h m s o R r : Nat) (A : Option Addr) (c : Nat) (sl : Sl) (d : Dp) (bt bt2 : BS) (sl2 : Sl) (d2 : Dp) (w0 wr : World) : Prop where
  mo : MoB w0.heap.size m s A c sl d bt 3 wr
  own : Blk wr o 66 (enc [] [] bt2)
  lo : w0.heap.size ≤ o
  ref : RMo w0.heap.size R r d2 sl2 wr
  kn : Kn h wr
  kl : 0 < w0.heap.size ∧ h < w0.heap.size
  fr : Fr0 w0 wr
  ex : ∀ q ∈ K, Ty5 q.2.1 ∧ Blk wr q.1 q.2.1 q.2.2
section
variable {K : List (Nat × TypeId × Array Value)} {h m s o R r : Nat} {A : Option Addr} {c : Nat} {sl : Sl} {d : Dp} {bt bt2 : BS} {sl2 : Sl} {d2 : Dp} {w0 wr w1 : World}
theorem TI.next (t : TI K h m s o R r A c sl d bt bt2 sl2 d2 w0 wr) (k : Fr0 wr w1) : TI K h m s o R r A c sl d bt bt2 sl2 d2 w0 w1 :=
  ⟨t.mo.fr0 k, t.own.fr k (fun h => h), t.lo, t.ref.fr0 k, t.kn.fr0 k, t.kl, t.fr.trans k (fun _ _ h => h), fun q hq => ⟨(t.ex q hq).1, (t.ex q hq).2.fr k (fun h => h)⟩⟩
theorem TI.plus (t : TI K h m s o R r A c sl d bt bt2 sl2 d2 w0 wr) {g : Nat} {ty : TypeId} {cs : Array Value} (hb : Blk wr g ty cs) (ht : Ty5 ty) : TI ((g, ty, cs) :: K) h m s o R r A c sl d bt bt2 sl2 d2 w0 wr :=
  ⟨t.mo, t.own, t.lo, t.ref, t.kn, t.kl, t.fr, fun q hq => by
    rcases List.mem_cons.1 hq with e | e
    · subst e; exact ⟨ht, hb⟩
    · exact t.ex q e⟩
theorem MoB.apart {S : Nat → Prop} {B m s : Nat} {A : Option Addr} {c : Nat} {sl : Sl} {d : Dp} {bt : BS} {a : Int} (h : MoB B m s A c sl d bt a wr) (k : Fr S wr w1) (h1 : ¬ S m) (h2 : ¬ S s) (h3 : ∀ j, (Value.slice A sl.pend.length c).ownBlock = some j → ¬ S j) : MoB B m s A c sl d bt a w1 :=
  ⟨h.blk.fr k h1, ⟨h.sb.blk.fr k h2, made_fr h.sb.made k h3, h.sb.low, h.sb.bits⟩, h.low, h.wf⟩
/-- The first of the blocks beside is turned. -/
theorem TI.turn {g : Nat} {ty : TypeId} {cs cs' : Array Value} (t : TI ((g, ty, cs) :: K) h m s o R r A c sl d bt bt2 sl2 d2 w0 wr) (hn : ∀ q ∈ K, q.1 ≠ g) (k : Fr (fun j => j = g) wr w1) (hb : Blk w1 g ty cs') (hg : w0.heap.size ≤ g) : TI ((g, ty, cs') :: K) h m s o R r A c sl d bt bt2 sl2 d2 w0 w1 := by
  obtain ⟨ht, hb0⟩ := t.ex _ List.mem_cons_self
  simp only at ht hb0
  have hkl := t.kl
  exact ⟨t.mo.apart k (fun e => Blk.ne_ t.mo.blk hb0 (Ne.symm ht.1) e) (fun e => Blk.ne_ t.mo.sb.blk hb0 (Ne.symm ht.2.1) e) (fun j hj e => own_blk_ne t.mo.sb.made.1 hb0 (Ne.symm ht.2.2.2.2.2) (e ▸ hj)), t.own.fr k (fun e => Blk.ne_ t.own hb0 (Ne.symm ht.2.2.1) e), t.lo, t.ref.fr k (fun e => Blk.ne_ t.ref.blk hb0 (Ne.symm ht.2.2.2.1) e) (fun e => Blk.ne_ t.ref.sb hb0 (Ne.symm ht.2.2.2.2.1) e), t.kn.fr k (by omega) (by omega), t.kl, t.fr.trans k (fun j hj e => by omega), fun q hq => by
    rcases List.mem_cons.1 hq with e | e
    · subst e; exact ⟨ht, hb⟩
    · exact ⟨(t.ex q (List.mem_cons_of_mem _ e)).1, (t.ex q (List.mem_cons_of_mem _ e)).2.fr k (hn q e)⟩⟩
theorem TI.drop (t : TI K h m s o R r A c sl d bt bt2 sl2 d2 w0 wr) : TI [] h m s o R r A c sl d bt bt2 sl2 d2 w0 wr :=
  ⟨t.mo, t.own, t.lo, t.ref, t.kn, t.kl, t.fr, fun q hq => by cases hq⟩
theorem TI.mod (t : TI K h m s o R r A c sl d bt bt2 sl2 d2 w0 wr) {s' : Nat} {A' : Option Addr} {c' : Nat} {sl' : Sl} {d' : Dp} {bt' : BS} (hm : MoB w0.heap.size m s' A' c' sl' d' bt' 3 w1) (k : Fr (fun j => j = m ∨ j = s) wr w1) : TI K h m s' o R r A' c' sl' d' bt' bt2 sl2 d2 w0 w1 := by
  have hlow := t.mo.low
  have hsl := t.mo.sb.low
  have hkl := t.kl
  refine ⟨hm, t.own.fr k ?_, t.lo, t.ref.fr k ?_ ?_, t.kn.fr k (by omega) (by omega), t.kl, t.fr.trans k (fun j hj e => by omega), fun q hq => ⟨(t.ex q hq).1, (t.ex q hq).2.fr k ?_⟩⟩
  · rintro (e | e)
    · exact Blk.ne_ t.own t.mo.blk (by decide) e
    · exact Blk.ne_ t.own t.mo.sb.blk (by decide) e
  · rintro (e | e)
    · exact Blk.ne_ t.ref.blk t.mo.blk (by decide) e
    · exact Blk.ne_ t.ref.blk t.mo.sb.blk (by decide) e
  · rintro (e | e)
    · exact Blk.ne_ t.ref.sb t.mo.blk (by decide) e
    · exact Blk.ne_ t.ref.sb t.mo.sb.blk (by decide) e
  · rintro (e | e)
    · exact Blk.ne_ (t.ex q hq).2 t.mo.blk (t.ex q hq).1.1 e
    · exact Blk.ne_ (t.ex q hq).2 t.mo.sb.blk (t.ex q hq).1.2.1 e
theorem TI.rf (t : TI K h m s o R r A c sl d bt bt2 sl2 d2 w0 wr) {r' : Nat} {sl2' : Sl} {d2' : Dp} (hm : RMo w0.heap.size R r' d2' sl2' w1) (k : Fr (fun j => j = R ∨ j = r) wr w1) : TI K h m s o R r' A c sl d bt bt2 sl2' d2' w0 w1 := by
  have hlow := t.ref.low
  have hkl := t.kl
  refine ⟨t.mo.apart k ?_ ?_ ?_, t.own.fr k ?_, t.lo, hm, t.kn.fr k (by omega) (by omega), t.kl, t.fr.trans k (fun j hj e => by omega), fun q hq => ⟨(t.ex q hq).1, (t.ex q hq).2.fr k ?_⟩⟩
  · rintro (e | e)
    · exact Blk.ne_ t.mo.blk t.ref.blk (by decide) e
    · exact Blk.ne_ t.mo.blk t.ref.sb (by decide) e
  · rintro (e | e)
    · exact Blk.ne_ t.mo.sb.blk t.ref.blk (by decide) e
    · exact Blk.ne_ t.mo.sb.blk t.ref.sb (by decide) e
  · rintro j hj (e | e)
    · exact own_blk_ne t.mo.sb.made.1 t.ref.blk (by decide) (e ▸ hj)
    · exact own_blk_ne t.mo.sb.made.1 t.ref.sb (by decide) (e ▸ hj)
  · rintro (e | e)
    · exact Blk.ne_ t.own t.ref.blk (by decide) e
    · exact Blk.ne_ t.own t.ref.sb (by decide) e
  · rintro (e | e)
    · exact Blk.ne_ (t.ex q hq).2 t.ref.blk (t.ex q hq).1.2.2.2.1 e
    · exact Blk.ne_ (t.ex q hq).2 t.ref.sb (t.ex q hq).1.2.2.2.2.1 e
theorem TI.bs (t : TI K h m s o R r A c sl d bt bt2 sl2 d2 w0 wr) {bt2' : BS} (hb : Blk w1 o 66 (enc [] [] bt2')) (k : Fr1 o wr w1) : TI K h m s o R r A c sl d bt bt2' sl2 d2 w0 w1 := by
  have hlow := t.lo
  have hkl := t.kl
  exact ⟨t.mo.apart k (fun e => Blk.ne_ t.mo.blk t.own (by decide) e) (fun e => Blk.ne_ t.mo.sb.blk t.own (by decide) e) (fun j hj e => own_blk_ne t.mo.sb.made.1 t.own (by decide) (e ▸ hj)), hb, t.lo, t.ref.fr k (fun e => Blk.ne_ t.ref.blk t.own (by decide) e) (fun e => Blk.ne_ t.ref.sb t.own (by decide) e), t.kn.fr k (by omega) (by omega), t.kl, t.fr.trans k (fun j hj e => by omega), fun q hq => ⟨(t.ex q hq).1, (t.ex q hq).2.fr k (fun e => Blk.ne_ (t.ex q hq).2 t.own (t.ex q hq).1.2.2.1 e)⟩⟩
end
/-- The frame of a step. -/
def fmQ (x : Sq) : Fm := if x.own then ⟨3, x.f.kind, 1, x.f.seq, x.f.ack, x.f.B.take (min x.f.B.length 40)⟩ else ⟨x.f.addr, x.f.kind, x.f.ses, x.f.seq, x.f.ack, x.f.B.take (min x.f.B.length 40)⟩
theorem fmq_row {w : World} {x : Sq} (h : RowOf c8 1 w w.heap.size x.A x.f.B) : RowOf c8 1 w w.heap.size x.A (fmQ x).B := by
  have e : (fmQ x).B = x.f.B.take (min x.f.B.length 40) := by unfold fmQ; split <;> rfl
  rw [e]
  exact h.take_ _
theorem fmq_in {x : Sq} (h : InB x.f.B) : InB (fmQ x).B := by
  have e : (fmQ x).B = x.f.B.take (min x.f.B.length 40) := by unfold fmQ; split <;> rfl
  rw [e]
  exact fun y hy => h y (List.mem_of_mem_take hy)
theorem num2_lt {l : List Int} (h : InB l) (hl : l.length = 2) : 0 ≤ num l ∧ num l < 65536 := by
  match l, hl with
  | [a, b], _ =>
    have ha := h a (by simp)
    have hb := h b (by simp)
    have : num [a, b] = a * 256 + b := by simp [num]
    rw [this]
    omega
theorem mtake_ok {d : Dp} {sl : Sl} {cm : List Int} (hd : DpOk d) (hi : InB cm) : DpOk (mtakeD d sl cm) := by
  unfold mtakeD
  split
  · rename_i he
    by_cases h5 : cm.length < 5
    · unfold parseM at he; rw [if_pos h5] at he; simp at he
    · by_cases hk : cm.length = 5 ∧ (num (cm.take 1) = 1 ∨ num (cm.take 1) = 2)
      · have e : parseM cm = (num (cm.take 1), num ((cm.drop 1).take 2), num ((cm.drop 3).take 2), 0) := by unfold parseM; rw [if_neg h5, if_pos hk]
        rw [e]
        have t := num2_lt (l := (cm.drop 1).take 2) (fun y hy => hi y (List.mem_of_mem_drop (List.mem_of_mem_take hy))) (by rw [List.length_take, List.length_drop]; omega)
        have q := num2_lt (l := (cm.drop 3).take 2) (fun y hy => hi y (List.mem_of_mem_drop (List.mem_of_mem_take hy))) (by rw [List.length_take, List.length_drop]; omega)
        simp only
        unfold doesS
        split
        · exact ⟨t, q, q⟩
        · split
          · exact ⟨by decide, by decide, by decide⟩
          · exact hd
      · unfold parseM at he; rw [if_neg h5, if_neg hk] at he; simp at he
  · exact hd
theorem take_pend {sl sl' : Sl} {f an : Fm} {cm : List Int} {ok : Bool} (h : takeS sl f = (an, cm, ok, sl')) (hp : sl.pend.length ≤ 1000) : sl'.pend.length ≤ 1000 := by
  have hh : (hearS sl f).pend.length ≤ 1000 := by
    unfold hearS; split
    · simp
    · exact hp
  have hn : (nextS (hearS sl f) f).pend.length ≤ 1000 := by
    unfold nextS; split
    · exact hh
    · exact hh
  unfold takeS at h
  split at h
  · cases h; exact hp
  · split at h
    · cases h; exact hp
    · split at h
      · cases h; exact hp
      · cases h; exact hn
theorem take_addr {sl sl' : Sl} {f an : Fm} {cm : List Int} {ok : Bool} (h : takeS sl f = (an, cm, ok, sl')) : sl'.addr = sl.addr := by
  have hh : (hearS sl f).addr = sl.addr := by unfold hearS; split <;> rfl
  have hn : (nextS (hearS sl f) f).addr = sl.addr := by
    unfold nextS; split
    · exact hh
    · exact hh
  unfold takeS at h
  split at h
  · cases h; rfl
  · split at h
    · cases h; rfl
    · split at h
      · cases h; rfl
      · cases h; exact hn
theorem step_addr (p : Dp × Sl) (b : Int) : (stepP p b).2.addr = p.2.addr := by
  have ho : ∀ l, (offS p.2 l).addr = p.2.addr := fun l => by unfold offS; split <;> rfl
  unfold stepP pressS latS
  split
  · split
    · split <;> rfl
    · split
      · rfl
      · split
        · exact ho _
        · split
          · exact ho _
          · rfl
  · rfl
theorem tick_addr (p : Dp × Sl) (l : List Int) : (tickF p l).2.addr = p.2.addr := by
  unfold tickF
  induction l generalizing p with
  | nil => rfl
  | cons b l ih => rw [List.foldl_cons, ih, step_addr]
theorem sq_elem {w : World} {B : Nat} {A : Option Addr} {l : List Sq} (h : RowOf cQ 10 w B A l) {i : Nat} (hi : i < l.length) : ∃ ad, A = some ad ∧ ∀ j u, (cQ l[i])[j]? = some u → w.cell? (ad.add (i * 10 + j)) = some u := by
  obtain ⟨ad, e, _, hc⟩ := h i l[i] (List.getElem?_eq_getElem hi)
  exact ⟨ad, e, hc⟩
end Go.Proofs.YtdhfinpmcikimaaDoor.K
