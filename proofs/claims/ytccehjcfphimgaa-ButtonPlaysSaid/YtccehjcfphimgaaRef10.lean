/- What the document's buttons (lamplightref10) do. -/
import Derived.Test.YtccehjcfphimgaaMoved
import Derived.Deep.RegionHeld3
namespace Go.Proofs.Ytccehjcfphimgaa
open Go.RowKit
set_option linter.unusedVariables false
set_option linter.unusedSimpArgs false

theorem flatMap_at {α : Type} {c : α → List Value} {size : Nat} (hc : ∀ x, (c x).length = size) : ∀ (l : List α) (i : Nat) (x : α), l[i]? = some x → ∀ j u, (c x)[j]? = some u → (l.flatMap c)[i * size + j]? = some u := by
  intro l
  induction l with
  | nil => intro i x h; simp at h
  | cons y l ih =>
    intro i x h j u hu
    rw [List.flatMap_cons]
    cases i with
    | zero =>
      simp at h; subst h
      have hj : j < (c y).length := (List.getElem?_eq_some_iff.1 hu).1
      rw [List.getElem?_append_left (by omega), Nat.zero_mul, Nat.zero_add]
      exact hu
    | succ i =>
      simp at h
      rw [List.getElem?_append_right (by rw [hc, Nat.succ_mul]; omega), hc, show (i + 1) * size + j - size = i * size + j by rw [Nat.succ_mul]; omega]
      exact ih i x h j u hu
theorem own_rowOf {α : Type} {c : α → List Value} {size base : Nat} {e : TypeId} {w : World} {A : Option Addr} {cap : Nat} {l : List α} (hc : ∀ x, (c x).length = size)
    (h : w.ownsRow base e size (.slice A l.length cap) l.length (l.flatMap c)) : RowOf c size w w.heap.size A l := by
  intro i x hx
  have hi : i < l.length := (List.getElem?_eq_some_iff.1 hx).1
  obtain ⟨g, cap', hv, _, hlt⟩ := h.form (by omega)
  have hA : A = some ⟨g, 0, none⟩ := by injection hv
  subst hA
  exact ⟨_, rfl, hlt, fun j u hu => h.cells (g := g) rfl _ _ (flatMap_at hc l i x hx j u hu)⟩
/-- Two rows of elements of different types lie in different blocks. -/
theorem own_row_ne {w : World} {b b' : Nat} {e e' : TypeId} {s s' n n' : Nat} {v v' : Value} {xs xs' : List Value} (h : w.ownsRow b e s v n xs) (h' : w.ownsRow b' e' s' v' n' xs') (hne : e ≠ e') {k : Nat} (hk : v.ownBlock = some k) : v'.ownBlock ≠ some k := by
  rcases h.2 with ⟨rfl, _⟩ | ⟨g, cap, cur, rfl, _, hh, _⟩
  · simp [Value.ownBlock] at hk
  · have : g = k := by simpa [Value.ownBlock] using hk
    subst this
    exact own_blk_ne h' hh (Ne.symm hne)

/-- Blocks of the call's own whose elements are of such types. -/
def TS (w0 : World) (T : TypeId → Prop) (w : World) (k : Nat) : Prop := w0.heap.size ≤ k ∧ ∃ cs t fz, w.heap[k]? = some (.cells cs t fz) ∧ T t
theorem TS.trans {w0 w w1 w2 : World} {T : TypeId → Prop} (h : Fr (TS w0 T w) w w1) (k : Fr (TS w0 T w1) w1 w2) : Fr (TS w0 T w) w w2 :=
  ⟨k.os.trans h.os, k.tape.trans h.tape, k.output.trans h.output, Nat.le_trans h.size k.size, fun i hi hn => by
    have e := h.block i hi hn
    rw [← e]
    exact k.block i (Nat.lt_of_lt_of_le hi h.size) (fun ⟨h1, cs, t, fz, h2, h3⟩ => hn ⟨h1, cs, t, fz, by rw [← e]; exact h2, h3⟩)⟩
theorem TS.blk {w0 w w1 : World} {T : TypeId → Prop} {g : Nat} {t : TypeId} {cs : Array Value} (h : Fr (TS w0 T w) w w1) (hb : Blk w g t cs) (ht : ¬ T t) : Blk w1 g t cs :=
  hb.fr h (fun ⟨_, cs', t', fz, h2, h3⟩ => by unfold Blk at hb; rw [hb] at h2; injection h2 with h2; injection h2 with _ h2; exact ht (h2 ▸ h3))
theorem TS.own {w0 w w1 : World} {T : TypeId → Prop} {base n size : Nat} {e : TypeId} {v : Value} {xs : List Value} (h : Fr (TS w0 T w) w w1) (ho : w.ownsRow base e size v n xs) (ht : ¬ T e) : w1.ownsRow base e size v n xs := by
  rcases ho.2 with ⟨rfl, rfl⟩ | ⟨g, cap, cur, rfl, hg, hh, r⟩
  · exact ⟨ho.1, Or.inl ⟨rfl, rfl⟩⟩
  · exact ⟨ho.1, Or.inr ⟨g, cap, cur, rfl, hg, TS.blk h hh ht, r⟩⟩
theorem TS.own0 {w0 w w1 : World} {T : TypeId → Prop} (h : Fr (TS w0 T w) w w1) (hf : Fr0 w0 w) : Fr0 w0 w1 := hf.trans h (fun j hj ⟨h1, _⟩ => by omega)
theorem TS.of0 {w0 w w1 : World} {T : TypeId → Prop} (h : Fr0 w w1) : Fr (TS w0 T w) w w1 := h.mono (fun _ _ h => h.elim)

structure Evt where
  btn : Int
  told : Bool
  down : Bool
  now : Int
def Evt.c (e : Evt) : List Value := [.int .i64 e.btn, .bool e.told, .bool e.down, .int .i64 e.now]
structure Sn where
  q : Int
  d : Bool
  t : Bool
def snStep (b : Int) (s : Sn) (e : Evt) : Sn :=
  if e.btn = b then (if e.told then ⟨s.q, s.d, true⟩ else if e.down && !s.d then ⟨e.now, e.down, false⟩ else ⟨s.q, e.down, s.t⟩) else s
def snOf (b : Int) (es : List Evt) : Sn := es.foldl (snStep b) ⟨0, false, false⟩
theorem snOf_snoc (b : Int) (es : List Evt) (e : Evt) : snOf b (es ++ [e]) = snStep b (snOf b es) e := by simp [snOf]
theorem snOf_take {b : Int} {es : List Evt} {k : Nat} (h : k < es.length) : snOf b (es.take (k + 1)) = snStep b (snOf b (es.take k)) es[k] := by
  rw [List.take_succ_eq_append_getElem h, snOf_snoc]

/-- The document's buttons in memory. -/
structure Ref (w0 w : World) (g : Nat) (es : List Evt) : Prop where
  ex : ∃ A c, Blk w g 33 #[.slice A es.length c] ∧ w.ownsRow w0.heap.size 57 4 (.slice A es.length c) es.length (es.flatMap Evt.c)
  base : w0.heap.size ≤ g
  fr : Fr0 w0 w
theorem Ref.fr1 {w0 w w' : World} {g g' : Nat} {es : List Evt} {s : BS} (h : Ref w0 w g es) (hb : Blk w g' 29 (enc s)) (hg' : w0.heap.size ≤ g') (hf : Fr1 g' w w') : Ref w0 w' g es := by
  obtain ⟨A, c, h1, h2⟩ := h.ex
  exact ⟨⟨A, c, h1.fr hf (fun e => Blk.ne_ h1 hb (by decide) e), own_keep h2 hb (by decide) hf⟩, h.base, h.fr.trans hf (fun j hj e => by omega)⟩
theorem Ref.fr0 {w0 w w' : World} {g : Nat} {es : List Evt} (h : Ref w0 w g es) (hf : Fr0 w w') : Ref w0 w' g es := by
  obtain ⟨A, c, h1, h2⟩ := h.ex
  exact ⟨⟨A, c, h1.fr hf (fun h => h), own_fr h2 hf (fun _ _ h => h)⟩, h.base, h.fr.trans hf (fun _ _ h => h)⟩
theorem Ref.drew {w0 w : World} {g : Nat} {es : List Evt} (h : Ref w0 w g es) : Ref w0 w.drew g es := h.fr0 (Fr.refl _ w).drew

def SincePost (b : Int) (es : List Evt) (w : World) (e : Ending) (w' : World) : Prop :=
  e = .returned (.tuple #[.int .i64 (snOf b es).q, .bool (snOf b es).d, .bool (snOf b es).t]) ∧ Hid (Fr0 w w')
set_option maxHeartbeats 1000000 in
theorem Since_any {w0 w : World} {g : Nat} {es : List Evt} (h : Ref w0 w g es) (b : Int) (hn : es.length ≤ 1000000) :
    Calls Try.prog 17 #[.pointer (some ⟨g, 0, none⟩), .int .i64 b] w (SincePost b es w) := by
  obtain ⟨A, c, hb, ho⟩ := h.ex
  have HRow := Lib.hid (own_rowOf (c := Evt.c) (fun x => rfl) ho)
  have HBk := Lib.hid hb
  clear hb ho h
  go_enter Try.func17, Try.ntmps17
  go_wp2
  go_loopw [7, 8, 9, 10] (fun d t q i wr => ∃ k : Nat, k ≤ es.length ∧ i = .int .i64 k ∧ q = .int .i64 (snOf b (es.take k)).q ∧ d = .bool (snOf b (es.take k)).d ∧ t = .bool (snOf b (es.take k)).t ∧ Fr0 w wr) (fun _ _ _ i _ => es.length - (intOf i).toNat)
  case atStart => exact ⟨0, by omega, rfl, rfl, rfl, rfl, Fr.refl _ _⟩
  case round =>
    obtain ⟨k, hk, rfl, rfl, rfl, rfl, hf⟩ := hrel
    have HF := Lib.hid hf
    have hcell : wr.cell? ⟨g, 0, none⟩ = some (.slice A es.length c) := by rw [(HBk.out.fr hf (fun h => h)).cell]; rfl
    clear hf
    by_cases hlt : k < es.length
    · obtain ⟨ad, rfl, hlb, hc⟩ := HRow.out k es[k] (List.getElem?_eq_getElem hlt)
      have HS := Lib.hid (snOf_take (b := b) hlt)
      generalize es[k] = ev at *
      generalize snOf b (es.take k) = sn at *
      obtain ⟨bt, tl, dn, nw⟩ := ev
      obtain ⟨q, d, t⟩ := sn
      have hw : ∀ p : Addr, p.block < w.heap.size → wr.cell? p = w.cell? p := fun p hp => HF.out.below0.cell hp
      have k0 : wr.cell? (ad.add (k * 4)) = some (.int .i64 bt) := (hw _ (by rw [block_of_add]; exact hlb)).trans (hc 0 _ rfl)
      have k1 : wr.cell? ⟨(ad.add (k * 4)).block, (ad.add (k * 4)).off + 1, none⟩ = some (.bool tl) := by
        rw [← add_field ad (k * 4) 1 (by omega)]; exact (hw _ (by rw [block_of_add]; exact hlb)).trans (hc 1 _ rfl)
      have k2 : wr.cell? ⟨(ad.add (k * 4)).block, (ad.add (k * 4)).off + 2, none⟩ = some (.bool dn) := by
        rw [← add_field ad (k * 4) 2 (by omega)]; exact (hw _ (by rw [block_of_add]; exact hlb)).trans (hc 2 _ rfl)
      have k3 : wr.cell? ⟨(ad.add (k * 4)).block, (ad.add (k * 4)).off + 3, none⟩ = some (.int .i64 nw) := by
        rw [← add_field ad (k * 4) 3 (by omega)]; exact (hw _ (by rw [block_of_add]; exact hlb)).trans (hc 3 _ rfl)
      have HFn := Lib.hid (fun o => HF.out.alloc o)
      clear hw hc hlb
      by_cases e1 : bt = b
      · subst e1
        dsimp only
        cases tl <;> cases dn <;> cases d
        all_goals
          go_wp2
          go_roundw
          case rel => exact ⟨k + 1, by omega, by go_num, by rw [HS.out]; simp [snStep], by rw [HS.out]; simp [snStep], by rw [HS.out]; simp [snStep], HFn.out _⟩
          case measure => simp [intOf]; omega
      · have e2 : (bt == b) = false := by simp [e1]
        have e3 := Lib.hid e1
        dsimp only
        clear e1
        go_wp2
        go_roundw
        case rel => exact ⟨k + 1, by omega, by go_num, by rw [HS.out]; simp [snStep, e3.out], by rw [HS.out]; simp [snStep, e3.out], by rw [HS.out]; simp [snStep, e3.out], HFn.out _⟩
        case measure => simp [intOf]; omega
    · obtain rfl : k = es.length := by omega
      have HT := Lib.hid (show es.take es.length = es from List.take_length)
      go_wp2
      go_ret3
      exact ⟨by rw [HT.out]; rfl, HF.out⟩

/-- What an operation of the document's buttons may turn. -/
def TR (t : TypeId) : Prop := t = 57 ∨ t = 33
theorem info_event : (Try.prog.info? 57).map (fun i => (i.zero, i.size, i.bytes)) = some (some (.agg #[.int .i64 0, .bool false, .bool false, .int .i64 0]), 4, 24) := by kernel_rfl
/-- An event more, the row just written anew. -/
theorem Ref.push {w0 w w1 : World} {g : Nat} {es : List Evt} {A : Option Addr} {c : Nat} {v1 : Value} {ev : Evt} (hb : Blk w g 33 #[.slice A es.length c]) (ho : w.ownsRow w0.heap.size 57 4 (.slice A es.length c) es.length (es.flatMap Evt.c))
    (hg : w0.heap.size ≤ g) (hf : Fr0 w0 w) (h1 : w1.ownsRow w0.heap.size 57 4 v1 (es.length + 1) (es.flatMap Evt.c ++ ev.c)) (h2 : Fr (fun k => (Value.slice A es.length c).ownBlock = some k) w w1) :
    ∃ A1 c1, v1 = .slice A1 (es.length + 1) c1 ∧ Ref w0 (w1.setCell ⟨g, 0, none⟩ v1) g (es ++ [ev]) ∧ Fr (TS w0 TR w) w (w1.setCell ⟨g, 0, none⟩ v1) ∧ w1.cell? ⟨g, 0, none⟩ = some (.slice A es.length c) ∧ w1.frozen? ⟨g, 0, none⟩ = false := by
  obtain ⟨A1, c1, rfl, _⟩ := own_form h1
  have hb1 := hb.fr h2 (own_blk_ne ho hb (by decide))
  have hfr : Fr (TS w0 TR w) w w1 := h2.mono (fun j _ hj => by
    rcases ho.2 with ⟨he, _⟩ | ⟨g', cap, cur, he, hg', hh, _⟩
    · rw [he] at hj; simp [Value.ownBlock] at hj
    · rw [he] at hj
      obtain rfl : g' = j := by simpa [Value.ownBlock] using hj
      exact ⟨hg', cur, _, _, hh, Or.inl rfl⟩)
  refine ⟨A1, c1, rfl, ⟨⟨A1, c1, ?_, ?_⟩, hg, ?_⟩, ?_, hb1.cell 0, hb1.frozen 0⟩
  · have := hb1.set_ 0 (.slice A1 (es.length + 1) c1)
    simpa using this
  · have e : (es ++ [ev]).flatMap Evt.c = es.flatMap Evt.c ++ ev.c := by simp
    rw [e, List.length_append]
    exact own_fr (S := fun k => k = g) h1 (fr1_set 0 _) (fun j hj e => by subst e; exact own_blk_ne h1 hb1 (by decide) hj)
  · exact (hf.trans h2 (fun j hj h => by have := ho.lt j h; omega)).setCell (fun h => by have : g < w0.heap.size := h; omega) _
  · exact hfr.setCell (p := ⟨g, 0, none⟩) (fun _ => ⟨hg, _, _, _, hb, Or.inr rfl⟩) _
def evsSet (es : List Evt) (n : Int) (d : Bool) (now : Int) : List Evt := if okN n then es ++ [⟨n, false, d, now⟩] else es
def RSetPost (w0 : World) (g : Nat) (es : List Evt) (n : Int) (d : Bool) (now : Int) (w : World) (e : Ending) (w' : World) : Prop :=
  e = .returned (.bool (okN n)) ∧ Hid (Ref w0 w' g (evsSet es n d now) ∧ Fr (TS w0 TR w) w w')
theorem RSet_any {w0 w : World} {g : Nat} {es : List Evt} (h : Ref w0 w g es) (n : Int) (d : Bool) (now : Int) (hn : es.length ≤ 1000000) :
    Calls Try.prog 12 #[.pointer (some ⟨g, 0, none⟩), .int .i64 n, .bool d, .int .i64 now] w (RSetPost w0 g es n d now w) := by
  cases ho : okN n
  · have H := Lib.hid (show RSetPost w0 g es n d now w (.returned (.bool false)) w from ⟨by rw [ho], by rw [evsSet, ho]; exact h, Fr.refl _ _⟩)
    have hq : n < 0 ∨ (0 ≤ n ∧ 3 < n) := by simp [okN] at ho; omega
    clear ho h
    rcases hq with hq | ⟨hq0, hq⟩
    all_goals
      go_enter Try.func12, Try.ntmps12
      go_wp2
      go_ret
      exact H.out
  · obtain ⟨k, rfl, hk⟩ := okN_nat ho
    obtain ⟨A, c, hb, hw⟩ := h.ex
    have hcell := hb.cell 0
    have HH := Lib.hid (fun w1 v1 => Ref.push (w1 := w1) (v1 := v1) (ev := ⟨k, false, d, now⟩) hb hw h.base h.fr)
    have H := Lib.hid (show ∀ w', Ref w0 w' g (es ++ [⟨k, false, d, now⟩]) → Fr (TS w0 TR w) w w' → RSetPost w0 g es k d now w (.returned (.bool true)) w' from
      fun w' h1 h2 => ⟨by rw [ho], by rw [evsSet, ho, if_pos rfl]; exact h1, h2⟩)
    have HW := Lib.hid hw
    have HZ := Lib.hid h.fr.size
    have h3 : ¬ (3 : Int) < (k : Int) := by omega
    clear ho h hb hw hk
    go_enter Try.func12, Try.ntmps12
    go_wp2_with (at_builtin; refine app1 rfl _ _ _ rfl 57 _ 4 24 Try.underlying31 info_event rfl (by omega) (by omega) _ _ _ _ (Evt.c ⟨k, false, d, now⟩) rfl rfl rfl (by simp [Evt.c, Value.oneCell']) HW.out HZ.out (by omega) ?_; intro v1 w1 h1 h2 _; obtain ⟨A1, c1, rfl, h4, h5, h6, h7⟩ := HH.out w1 v1 h1 h2; have H4 := Lib.hid h4; have H5 := Lib.hid h5; clear h1 h2 h4 h5)
    go_ret
    exact H.out _ H4.out H5.out

def WfE (es : List Evt) : Prop := ∀ e ∈ es, I64 e.now
theorem wfe_sn {es : List Evt} (h : WfE es) (b : Int) : I64 (snOf b es).q := by
  unfold snOf
  have key : ∀ (l : List Evt) (s : Sn), (∀ e ∈ l, I64 e.now) → I64 s.q → I64 (l.foldl (snStep b) s).q := by
    intro l
    induction l with
    | nil => intro s _ hs; exact hs
    | cons e l ih =>
      intro s hl hs
      refine ih _ (fun x hx => hl x (List.mem_cons_of_mem _ hx)) ?_
      unfold snStep
      split
      · split
        · exact hs
        · split
          · exact hl e List.mem_cons_self
          · exact hs
      · exact hs
  exact key es _ h (by unfold I64; dsimp only; omega)
/-- Is it pressed, by what was set and told? -/
def rTells (es : List Evt) (n : Nat) (now : Int) : Bool := (snOf n es).d && !(snOf n es).t && decide ((snOf n es).q ≤ now) && decide (3 ≤ now - (snOf n es).q)
def rPrs (es : List Evt) (now : Int) : Nat → List Evt × List Int
  | 0 => (es, [])
  | k + 1 => if rTells (rPrs es now k).1 k now then ((rPrs es now k).1 ++ [⟨k, true, false, 0⟩], (rPrs es now k).2 ++ [(k : Int)]) else rPrs es now k
theorem rPrs_len (es : List Evt) (now : Int) (k : Nat) : (rPrs es now k).1.length ≤ es.length + k ∧ (rPrs es now k).2.length ≤ k := by
  induction k with
  | zero => simp [rPrs]
  | succ k ih =>
    simp only [rPrs]
    split <;> (try simp only [List.length_append, List.length_cons, List.length_nil]) <;> omega
theorem rPrs_wf {es : List Evt} (h : WfE es) (now : Int) (k : Nat) : WfE (rPrs es now k).1 := by
  induction k with
  | zero => exact h
  | succ k ih =>
    simp only [rPrs]
    split
    · intro e he
      rcases List.mem_append.1 he with he | he
      · exact ih e he
      · simp at he; subst he; show I64 0; unfold I64; omega
    · exact ih

def RPrsPost (w0 : World) (g : Nat) (es : List Evt) (now : Int) (w : World) (e : Ending) (w' : World) : Prop :=
  ∃ A c, e = .returned (.slice A (rPrs es now 4).2.length c) ∧ Hid (Ref w0 w' g (rPrs es now 4).1 ∧ w'.ownsRow w.heap.size 3 1 (.slice A (rPrs es now 4).2.length c) (rPrs es now 4).2.length (nums .i64 (rPrs es now 4).2) ∧ Fr (TS w0 TR w) w w')
structure RPrsRel (w0 : World) (g : Nat) (es : List Evt) (now : Int) (w : World) (k : Nat) (v : Value) (wr : World) : Prop where
  ref : Ref w0 wr g (rPrs es now k).1
  own : wr.ownsRow w.heap.size 3 1 v (rPrs es now k).2.length (nums .i64 (rPrs es now k).2)
  fr : Fr (TS w0 TR w) w wr
theorem Since_at {w0 w : World} {g : Nat} {es : List Evt} (h : Ref w0 w g es) (b : Int) (sn : Sn) (hs : snOf b es = sn) (hn : es.length ≤ 1000000) :
    Calls Try.prog 17 #[.pointer (some ⟨g, 0, none⟩), .int .i64 b] w fun e w' => e = .returned (.tuple #[.int .i64 sn.q, .bool sn.d, .bool sn.t]) ∧ Hid (Fr0 w w') := by
  subst hs
  exact Since_any h b hn
theorem Ref.frT {w0 w w1 : World} {T : TypeId → Prop} {g : Nat} {es : List Evt} (h : Ref w0 w g es) (hf : Fr (TS w0 T w) w w1) (h1 : ¬ T 33) (h2 : ¬ T 57) : Ref w0 w1 g es := by
  obtain ⟨A, c, hb, ho⟩ := h.ex
  exact ⟨⟨A, c, TS.blk hf hb h1, TS.own hf ho h2⟩, h.base, TS.own0 hf h.fr⟩
theorem row_TS {w0 w w1 : World} {base n size : Nat} {e : TypeId} {v : Value} {xs : List Value} (ho : w1.ownsRow base e size v n xs) (hb : base ≤ w1.heap.size) {g : Nat} {es : List Evt} (hr : Ref w0 w g es) (hw : w.heap.size ≤ base) {j : Nat} (hj : v.ownBlock = some j) : TS w0 (fun t => t = e) w1 j := by
  rcases ho.2 with ⟨rfl, _⟩ | ⟨g', cap, cur, rfl, hg, hh, _⟩
  · simp [Value.ownBlock] at hj
  · obtain rfl : g' = j := by simpa [Value.ownBlock] using hj
    exact ⟨Nat.le_trans hr.fr.size (Nat.le_trans hw hg), cur, e, (0, 0), hh, rfl⟩
theorem not_TR_int : ¬ TR 3 := by unfold TR; decide
set_option maxHeartbeats 2000000 in
theorem RPressed_any {w0 w : World} {g : Nat} {es : List Evt} (h : Ref w0 w g es) (now : Int) (hn : es.length ≤ 999990) (hw : WfE es) (hnow : I64 now) :
    Calls Try.prog 15 #[.pointer (some ⟨g, 0, none⟩), .int .i64 now] w (RPrsPost w0 g es now w) := by
  have HR0 := Lib.hid h
  have HW := Lib.hid hw
  have HN := Lib.hid hnow
  have hmk : ∀ wx : World, (Instr.buildSlice 39 0 #[]).run Try.prog wx = .ok (.slice (some ⟨wx.heap.size, 0, none⟩) 0 0) (wx.alloc (.cells #[] 3)) := fun _ => by kernel_rfl
  clear h hw hnow
  go_enter Try.func15, Try.ntmps15
  have H0 : Hid (RPrsRel w0 g es now w 0 (.slice (some ⟨w.heap.size, 0, none⟩) 0 0) (w.alloc (.cells #[] 3))) := Lib.hid
    ⟨HR0.out.fr0 ((Fr.refl _ w).alloc _), ⟨rfl, Or.inr ⟨w.heap.size, 0, #[], rfl, Nat.le_refl _, Blk.new w _ _, Nat.le_refl _, by simp, rfl, rfl⟩⟩, TS.of0 ((Fr.refl _ w).alloc _)⟩
  go_wp2
  clear hmk
  go_loopw [5, 6] (fun v i wr => ∃ k : Nat, k ≤ 4 ∧ i = .int .i64 k ∧ RPrsRel w0 g es now w k v wr) (fun _ i _ => 4 - (intOf i).toNat)
  case atStart => exact ⟨0, by omega, rfl, H0.out⟩
  case round =>
    obtain ⟨k, hk, rfl, hR⟩ := hrel
    have HR := Lib.hid hR
    clear hR H0
    by_cases hlt : k < 4
    · have hlen := rPrs_len es now k
      obtain ⟨hl1, hl2⟩ := hlen
      have hq0 := wfe_sn (rPrs_wf HW.out now k) (k : Int)
      obtain ⟨sn, hsn⟩ : ∃ sn, snOf (k : Int) (rPrs es now k).1 = sn := ⟨_, rfl⟩
      rw [hsn] at hq0
      have HQ := Lib.hid hq0
      have HSN := Lib.hid hsn
      clear hq0 hsn
      obtain ⟨q, d, t⟩ := sn
      have hno : Hid (rTells (rPrs es now k).1 k now = false → rPrs es now (k + 1) = rPrs es now k) := Lib.hid (fun h => by simp [rPrs, h])
      have hyes : Hid (rTells (rPrs es now k).1 k now = true → rPrs es now (k + 1) = ((rPrs es now k).1 ++ [⟨k, true, false, 0⟩], (rPrs es now k).2 ++ [(k : Int)])) := Lib.hid (fun h => by simp [rPrs, h])
      have htell : Hid (rTells (rPrs es now k).1 k now = (d && !t && decide (q ≤ now) && decide (3 ≤ now - q))) := Lib.hid (by unfold rTells; rw [HSN.out])
      have key : Hid (∀ w1, Fr0 wr w1 → rTells (rPrs es now k).1 k now = false → RPrsRel w0 g es now w (k + 1) u5 w1) := Lib.hid (fun w1 hf h => by
        have e := hno.out h
        refine ⟨by rw [e]; exact HR.out.ref.fr0 hf, by rw [e]; exact own_fr HR.out.own hf (fun _ _ h => h), TS.trans HR.out.fr (TS.of0 hf)⟩)
      have hdiff : q ≤ now → IntKind.u64.wrap (IntKind.u64.wrap now - IntKind.u64.wrap q) = now - q := fun h => u64_diff now q HN.out HQ.out h
      have hcases : (d = false ∨ t = true ∨ now < q) ∨ (d = true ∧ t = false ∧ q ≤ now) := by
        cases d <;> cases t <;> simp <;> omega
      have ct := Since_at HR.out.ref (k : Int) ⟨q, d, t⟩ HSN.out (by omega)
      have CT := Lib.hid ct
      clear ct
      rcases hcases with hc | ⟨rfl, rfl, hqn⟩
      · have HF : Hid (rTells (rPrs es now k).1 k now = false) := Lib.hid (by
          rw [htell.out]
          rcases hc with h | h | h
          · simp [h]
          · simp [h]
          · have : ¬ q ≤ now := by omega
            simp [this])
        clear hdiff
        rcases hc with rfl | rfl | hc
        · go_wp2_with fail
          (with_reducible refine CT.out.mono ?_)
          rintro e w1 ⟨rfl, F1⟩
          go_wp2
          go_roundw
          case rel => exact ⟨k + 1, by omega, by go_num, key.out _ F1.out HF.out⟩
          case measure => simp [intOf]; omega
        · cases d
          all_goals
            go_wp2_with fail
            (with_reducible refine CT.out.mono ?_)
            rintro e w1 ⟨rfl, F1⟩
            go_wp2
            go_roundw
            case rel => exact ⟨k + 1, by omega, by go_num, key.out _ F1.out HF.out⟩
            case measure => simp [intOf]; omega
        · have hc' : ¬ q ≤ now := by omega
          cases d <;> cases t
          all_goals
            go_wp2_with fail
            (with_reducible refine CT.out.mono ?_)
            rintro e w1 ⟨rfl, F1⟩
            go_wp2
            go_roundw
            case rel => exact ⟨k + 1, by omega, by go_num, key.out _ F1.out HF.out⟩
            case measure => simp [intOf]; omega
      · have hd := hdiff hqn
        clear hdiff
        by_cases h3 : 3 ≤ now - q
        · have HF : Hid (rTells (rPrs es now k).1 k now = true) := Lib.hid (by rw [htell.out]; simp [hqn, h3])
          have hlt3 : 3 ≤ IntKind.u64.wrap (IntKind.u64.wrap now - IntKind.u64.wrap q) := by rw [hd]; exact h3
          have E := Lib.hid (hyes.out HF.out)
          clear hd h3
          go_wp2_with fail
          (with_reducible refine CT.out.mono ?_)
          rintro e w1 ⟨rfl, F1⟩
          have R1 := Lib.hid (HR.out.ref.fr0 F1.out)
          have ho1 := Lib.hid (own_fr HR.out.own F1.out (fun _ _ h => h))
          have hz := Lib.hid (Nat.le_trans HR.out.fr.size F1.out.size)
          have T1 := Lib.hid (TS.trans HR.out.fr (TS.of0 (w0 := w0) (T := TR) F1.out))
          have tok1 : True := trivial
          go_wp2_with (first | (at_builtin; have _t := tok1; refine app1 rfl _ _ _ rfl 3 (.int .i64 0) 1 8 Try.underlying39 info_int rfl (by omega) (by omega) _ _ _ _ [.int .i64 k] rfl rfl rfl (by simp [Value.oneCell']) ho1.out hz.out (by omega) ?_; intro v2 w2 h3 h4 _; clear tok1; have H3 := Lib.hid h3; have H4 := Lib.hid h4; clear h3 h4; have FT : Hid (Fr (TS w0 (fun t => t = 3) w1) w1 w2) := Lib.hid (H4.out.mono (fun j _ hj => (row_TS ho1.out hz.out HR0.out (Nat.le_refl _) hj))); have R2 := Lib.hid (R1.out.frT FT.out (by decide) (by decide)); obtain ⟨A2, d2, hb2, hw2⟩ := R2.out.ex; have hcell := hb2.cell 0; have HH := Lib.hid (fun w1 v1 => Ref.push (w1 := w1) (v1 := v1) (ev := ⟨k, true, false, 0⟩) hb2 hw2 R2.out.base R2.out.fr); have HW2 := Lib.hid hw2; have HZ2 := Lib.hid R2.out.fr.size; clear hb2 hw2) | (at_builtin; refine app1 rfl _ _ _ rfl 57 _ 4 24 Try.underlying31 info_event rfl (by omega) (by omega) _ _ _ _ (Evt.c ⟨k, true, false, 0⟩) rfl rfl rfl (by simp [Evt.c, Value.oneCell']) HW2.out HZ2.out (by omega) ?_; intro v1 w3 h1 h2 _; obtain ⟨A3, c3, rfl, h4, h5, h6, h7⟩ := HH.out w3 v1 h1 h2; have H5 := Lib.hid h4; have H6 := Lib.hid h5; clear h1 h2 h4 h5))
          have T2 := Lib.hid (T1.out.trans H4.out (fun j hj hv => by have := ho1.out.lt j hv; omega))
          go_roundw
          case rel => exact ⟨k + 1, by omega, by go_num, by rw [E.out]; exact H5.out, by rw [E.out, nums_snoc, List.length_append]; exact TS.own H6.out H3.out not_TR_int, TS.trans T2.out H6.out⟩
          case measure => simp [intOf]; omega
        · have HF : Hid (rTells (rPrs es now k).1 k now = false) := Lib.hid (by rw [htell.out]; simp [hqn, h3])
          have hlt3 : ¬ 3 ≤ IntKind.u64.wrap (IntKind.u64.wrap now - IntKind.u64.wrap q) := by rw [hd]; exact h3
          clear hd h3
          go_wp2_with fail
          (with_reducible refine CT.out.mono ?_)
          rintro e w1 ⟨rfl, F1⟩
          go_wp2
          go_roundw
          case rel => exact ⟨k + 1, by omega, by go_num, key.out _ F1.out HF.out⟩
          case measure => simp [intOf]; omega
    · obtain rfl : k = 4 := by omega
      obtain ⟨A, c, hv, _⟩ := own_form HR.out.own
      subst hv
      go_wp2
      go_ret
      exact ⟨A, c, rfl, HR.out.ref, HR.out.own, HR.out.fr⟩
end Go.Proofs.Ytccehjcfphimgaa
