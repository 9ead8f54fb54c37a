/- Texts of this claim in one, 3 of 3, each with its own head. -/
import Derived.Test.YtkihoonjekccgaaDoorZ2
import Derived.Deep.RegionHeldLaw
import Derived.Deep.MidRow
import Derived.Deep.CutBlock
import Derived.Deep.DeepCutAuto
import Derived.Deep.Cut
/- The walk of ResyncTells. -/
namespace Go.Proofs.YtkihoonjekccgaaDoor.K
open Go.RowKit
set_option linter.unusedVariables false
set_option linter.unusedSimpArgs false
attribute [local go_sem] min2_min min_two
attribute [local go_sem ↓] Go.wp_at_zero Go.wp_at_succ
theorem feed_few : ∀ (l : List Int) (s : Ds), (feedD l s).2.length ≤ l.length := by
  intro l
  induction l with
  | nil => intro s; simp [feedD]
  | cons c l ih =>
    intro s
    have h := ih (stepD c s).1
    have h1 : (stepD c s).2.length ≤ 1 := by
      unfold stepD endD
      split
      · split
        · simp
        · split <;> simp
      · simp
    simp only [feedD, List.length_append, List.length_cons]
    omega
theorem row_onef {w : World} {x : Fx} {B : Nat} (hB : w.heap.size < B) : RowOf cF 6 (w.alloc (.cells (cF x).toArray 35)) B (some ⟨w.heap.size, 0, none⟩) [x] := by
  intro i y hy
  match i, hy with
  | 0, hy =>
    simp at hy
    subst hy
    refine ⟨_, rfl, hB, fun j u hu => ?_⟩
    rw [add_plain]
    have := (Blk.new w 35 (cF x).toArray).cell (0 + (0 * 6 + j))
    rw [this, List.getElem?_toArray]
    simpa using hu
/-- Rows that lie out of a stretch of blocks. -/
def Gb (R U : Nat) (v : Value) (xs : List Fx) : Prop := (∀ j, v.ownBlock = some j → j < R ∨ U ≤ j) ∧ ∀ x ∈ xs, ∀ a, x.2.1 = some a → a.block < R ∨ U ≤ a.block
/-- Frames that were told, those from k on as they were. -/
structure XS (R U : Nat) (A : Option Addr) (m c : Nat) (xs : List Fx) (k : Nat) (w : World) : Prop where
  row : w.ownsRow R 35 6 (.slice A m c) m (xs.flatMap cF)
  ub : ∀ j, (Value.slice A m c).ownBlock = some j → j < U
  each : ∀ i, k ≤ i → ∀ (h : i < xs.length), Made R (xs[i]).2.1 (xs[i]).2.2 (xs[i]).1.B w ∧ ∀ a, (xs[i]).2.1 = some a → a.block < U
theorem XS.of {R U m c : Nat} {A : Option Addr} {xs : List Fx} {w : World} (h : OutF R (.slice A m c) xs w) (hU : w.heap.size ≤ U) : XS R U A m c xs 0 w :=
  ⟨by have := h.row; rwa [h.nilrow] at this, fun j e => by have := (h.row.lt j e).2; omega, fun i _ hi => ⟨h.each _ (List.getElem_mem hi), fun a e => by have := (made_lt (h.each _ (List.getElem_mem hi)) a e).2; omega⟩⟩
theorem XS.fr {R U m c k : Nat} {A : Option Addr} {xs : List Fx} {S : Nat → Prop} {w w' : World} (h : XS R U A m c xs k w) (f : Fr S w w') (hS : ∀ j, R ≤ j → j < U → ¬ S j) : XS R U A m c xs k w' :=
  ⟨own_fr h.row f (fun j e => hS j (h.row.lt j e).1 (h.ub j e)), h.ub, fun i hk hi => by
    obtain ⟨h1, h2⟩ := h.each i hk hi
    exact ⟨h1.fr f (fun j e => by
      have hb := (h1.1.lt j e).1
      have : ∃ a, (xs[i]).2.1 = some a ∧ a.block = j := by
        cases hA : (xs[i]).2.1 with
        | none => rw [hA] at e; simp [Value.ownBlock] at e
        | some a => rw [hA] at e; exact ⟨a, rfl, by simpa [Value.ownBlock] using e⟩
      obtain ⟨a, ha, rfl⟩ := this
      exact hS _ hb (h2 a ha)), h2⟩⟩
/-- The bytes of the k-th are written over. -/
theorem XS.step {R U m c k : Nat} {A : Option Addr} {xs : List Fx} {w w' : World} (h : XS R U A m c xs k w) (hk : k < xs.length) (ha : xs.Pairwise fun x y => ∀ a b, x.2.1 = some a → y.2.1 = some b → a.block < b.block)
    (f : Fr (fun j => ∃ a, (xs[k]).2.1 = some a ∧ a.block = j) w w') : XS R U A m c xs (k + 1) w' := by
  have blk : ∀ (x : Fx) j, (Value.slice x.2.1 x.1.B.length x.2.2).ownBlock = some j → ∃ a, x.2.1 = some a ∧ a.block = j := fun x j e => by
    cases hA : x.2.1 with
    | none => rw [hA] at e; simp [Value.ownBlock] at e
    | some a => rw [hA] at e; exact ⟨a, rfl, by simpa [Value.ownBlock] using e⟩
  refine ⟨own_fr h.row f (fun j e => ?_), h.ub, fun i hki hi => ?_⟩
  · rintro ⟨a, h1, rfl⟩
    have hm := (h.each k (Nat.le_refl _) hk).1
    exact own_ne h.row hm.1 (by decide) _ e (by rw [h1]; rfl)
  · obtain ⟨h1, h2⟩ := h.each i (by omega) hi
    refine ⟨h1.fr f (fun j e => ?_), h2⟩
    obtain ⟨b, hb, rfl⟩ := blk _ _ e
    rintro ⟨a, ha2, e2⟩
    have := (List.pairwise_iff_getElem.1 ha) k i hk hi (by omega) a b ha2 hb
    omega
theorem FxC.fr {S : Nat → Prop} {i : Nat} {w w' : World} {ad : Addr} {x : Fx} (h : FxC w ad i x) (f : Fr S w w') (ha : ad.block < w.heap.size) (hn : ¬ S ad.block) : FxC w' ad i x := by
  obtain ⟨h0, h1, h2, h3, h4, h5⟩ := h
  have e : (ad.add (i * 6)).block = ad.block := block_of_add _ _
  have c0 : w'.cell? (ad.add (i * 6)) = w.cell? (ad.add (i * 6)) := f.cell (by rw [e]; exact ha) (by rw [e]; exact hn)
  have c : ∀ o, w'.cell? ⟨(ad.add (i * 6)).block, o, none⟩ = w.cell? ⟨(ad.add (i * 6)).block, o, none⟩ := fun o => f.cell (by show (ad.add (i * 6)).block < _; rw [e]; exact ha) (by show ¬ S (ad.add (i * 6)).block; rw [e]; exact hn)
  exact ⟨c0.trans h0, (c _).trans h1, (c _).trans h2, (c _).trans h3, (c _).trans h4, (c _).trans h5⟩
theorem OutF.fr2 {B : Nat} {v : Value} {xs : List Fx} {S : Nat → Prop} {w w' : World} (h : OutF B v xs w) (k : Fr S w w') (hv : ∀ j, v.ownBlock = some j → ¬ S j) (hx : ∀ x ∈ xs, ∀ a, x.2.1 = some a → ¬ S a.block) : OutF B v xs w' :=
  ⟨own_fr h.row k hv, fun p hp => (h.each p hp).fr k (fun j e => by
    cases hA : p.2.1 with
    | none => rw [hA] at e; simp [Value.ownBlock] at e
    | some a => rw [hA] at e; have : a.block = j := by simpa [Value.ownBlock] using e
                subst this; exact hx p hp a hA), h.apart⟩
theorem OutF.to {B m : Nat} {v : Value} {xs : List Fx} {F : List Fp} {w : World} (h : OutF B v xs w) (hx : xs.map (·.1) = F) (hm : F.length = m) : ∃ A c, v = .slice A m c ∧ OutF B (.slice A m c) xs w := by
  obtain ⟨A, c, e, _⟩ := out_form h
  have : xs.length = m := by rw [← hm, ← hx, List.length_map]
  subst this
  subst e
  exact ⟨A, c, rfl, h⟩
theorem Gb.of {B R U : Nat} {v : Value} {xs : List Fx} {w : World} (h : OutF B v xs w) (hR : w.heap.size ≤ R) : Gb R U v xs :=
  ⟨fun j e => .inl (by have := (h.row.lt j e).2; omega), fun x hx a e => .inl (by have := h.lt x hx a e; omega)⟩
set_option maxHeartbeats 8000000 in
set_option maxRecDepth 20000 in
theorem rtells_walk (P : Option Addr) (pc : Nat) (qs : List Part) (w : World) (hT : Turns w) (hin : In2 w.heap.size P qs w) (hq : qs.length ≤ 9223372036854775807) :
    Calls Tryd.prog 3 #[.slice P qs.length pc] w fun e w' => e = .returned (.bool true) ∧ Below w.heap.size w w' := by
  have HTB : Hid (∀ w' : World, Below w.heap.size w w' → Turns w') := Lib.hid (fun w' b => hT.below b hT.lt)
  have HT := Lib.hid hT
  have HIN := Lib.hid hin
  clear hT hin
  go_enter Tryd.func3, Tryd.ntmps3
  go_wp2_with fail
  refine Calls.mono (shown5_walk HT.out) ?_
  rintro e w1 ⟨rfl, H1⟩
  have hs1 := H1.out.size
  go_wp2
  obtain ⟨W0, hW0⟩ : ∃ W0, w1.alloc (.cells Tryd.zeroCells30 30) = W0 := ⟨_, rfl⟩
  have HG0 : Hid (DecB W0 w1.heap.size d0) := Lib.hid (hW0 ▸ dec_zero w1)
  have hg0 : w1.heap.size < W0.heap.size := HG0.out.lt
  have HB0 : Hid (Below w.heap.size w W0) := Lib.hid (hW0 ▸ H1.out.alloc hs1 _)
  rw [hW0]
  clear hW0 H1
  obtain ⟨g, hg⟩ : ∃ g, w1.heap.size = g := ⟨_, rfl⟩
  rw [hg] at HG0 hs1 hg0 ⊢
  clear hg
  go_loopw [5, 6, 7] (fun t v i wr => ∃ (k : Nat) (T : List Int) (xs : List Fx), i = .int .i64 k ∧ t = .string (strOfNums T) ∧ k ≤ qs.length ∧ k ≤ 20 ∧ T.length ≤ 100 * k ∧ InB T ∧ OutF W0.heap.size v xs wr ∧ xs.map (·.1) = (feedD T d0).2 ∧ DecB wr g (feedD T d0).1 ∧ Below w.heap.size w wr ∧ W0.heap.size ≤ wr.heap.size) (fun _ _ i _ => qs.length - (intOf i).toNat)
  case atStart => exact ⟨0, [], [], rfl, by rw [str_nil]; rfl, by omega, by omega, by simp, (fun x hx => by cases hx), OutF.nil _ _, rfl, HG0.out, HB0.out, Nat.le_refl _⟩
  case round =>
    obtain ⟨k, T, xs, rfl, rfl, hk, hk5, htl, hti, ho, hx, hd, hb, hgs⟩ := hrel
    have HTI := Lib.hid hti
    have HO := Lib.hid ho
    have HX := Lib.hid hx
    have HD := Lib.hid hd
    have HB := Lib.hid hb
    have hgr : g < wr.heap.size := hd.lt
    have hsz := hb.size
    clear hti ho hx hd hb
    obtain ⟨wt, hwt⟩ : ∃ wt : World, wt = wr := ⟨_, rfl⟩
    subst hwt
    by_cases hgo : k < qs.length ∧ k < 20
    · obtain ⟨hlt, h5⟩ := hgo
      have hi := HIN.out.below HB.out
      obtain ⟨ad, rfl, hbd, hcell⟩ := hi.row.one (g := fun p => .slice p.1 p.2.2.length p.2.1) (fun _ => rfl) hlt
      obtain ⟨e1, e2, e3, e4⟩ := hi.each qs[k] (List.getElem_mem hlt)
      clear hi
      generalize qs[k] = q at *
      obtain ⟨qA, qc', ql⟩ := q
      simp only at hcell e1 e2 e3 e4
      obtain ⟨n, hn, hn1, hn2⟩ := min_nat ql.length 100
      have hcut := fun W => bcut_hi qA ql.length qc' n (by omega) W
      have hmin : min (ql.length : Int) 100 = (n : Int) := hn
      obtain ⟨l, hl⟩ : ∃ l, l = ql.take n := ⟨_, rfl⟩
      have hln : n = l.length := by rw [hl, List.length_take]; omega
      subst hln
      have HR := Lib.hid (hl ▸ e1.take_ l.length : RowOf c8 1 wt w.heap.size qA l)
      have HI := Lib.hid (hl ▸ e2.take_ l.length : InB l)
      have hcd : wt.drew.cell? (ad.add k) = some (.slice qA ql.length qc') := hcell
      have i3 : l.length ≤ qc' := by omega
      clear hl hn e1 e2 e3 e4
      have hne := World.new_ne wt.drew (ad.add k) hcd
      go_upto_region 8 with (fail)
      go_cut [8] (fun s8 wx => ∃ (A2 : Option Addr) (c2 : Nat), s8 = .slice A2 l.length c2 ∧ Made wt.heap.size A2 c2 l wx ∧ Fr0 wt wx)
      case first =>
        go_wp2_with fail
        go_region_held_law (fun w' => w'.cell? (ad.add k) = some (.slice qA ql.length qc')) (first | go_keep | exact hk2) ((refine stepR (c := c8) rfl _ _ _ rfl 5 (.int .u8 0) 1 1 Tryd.underlying32 info_u8 rfl (by omega) (by omega) (fun _ => rfl) (fun y u hu => by simp at hu; subst hu; rfl) wt.heap.size w.heap.size _ [] l _ _ rfl rfl (RowOf.below HR.out ((Below.refl w.heap.size wt).drew.alloc hsz _)) (World.ownsRow_lit wt.drew #[] 0 (Nat.le_refl _) (by decide) rfl) (by simp) (by simp only [List.length_nil]; omega) ?_; intro v2 w2 h3 h4 h5; have hk2 : w2.cell? (ad.add k) = some (.slice qA ql.length qc') := (h4.cell (p := ad.add k) (by rw [block_of_add]; simp; omega) (by rw [block_of_add]; intro e; have := Option.some.inj e; simp at this; omega)).trans ((World.cell?_alloc_lt wt.drew _ (ad.add k) (by rw [block_of_add]; show ad.block < wt.heap.size; omega)).trans hcd); have G2 := Lib.hid (made_of (B := wt.heap.size) (v := v2) (l := l) (by rw [nums_flat]; exact h3)); have F2 : Hid (Fr0 wt w2) := Lib.hid (lit_fr (w := wt.drew) h4 (fun k hk => Nat.le_of_eq (Option.some.inj hk))).undrew; clear h3 h4 h5))
        all_goals
          obtain ⟨A2, c2, rfl, hm2⟩ := G2.out
          go_wp2_with fail
          rename_i hdst
          obtain rfl := Option.some.inj hdst
          go_meet
          exact ⟨A2, c2, rfl, hm2, F2.out⟩
      case rest =>
        obtain ⟨A2, c2, rfl, hm2, hf2⟩ := hcut
        have HM2 := Lib.hid hm2
        have HF2 := Lib.hid hf2
        have hs2 := hf2.size
        have hml := made_lt hm2
        have HML := Lib.hid hml
        have HB2 := Lib.hid (fr0_below HB.out hf2 (Nat.le_refl _))
        have HD2 := Lib.hid (HD.out.fr hf2 (fun h => h))
        have HO2 := Lib.hid (HO.out.fr hf2 (fun _ _ _ h => h))
        have HOLT := Lib.hid (And.intro (fun j e => (HO.out.row.lt j e).2) HO.out.lt)
        have s3 : (convert 32 9 (.slice A2 l.length c2)).run Tryd.prog wc = .ok (.string (strOfNums l)) wc := str_row hm2.2.1
        have hss : (strOfNums T).size + (strOfNums l).size ≤ 9223372036854775807 := by rw [str_size, str_size]; omega
        have happ := str_append T l
        have hok := feed_ok T d0_ok (by omega) HTI.out
        have hff := feed_app T l d0
        obtain ⟨⟨S, F⟩, hSF⟩ : ∃ SF, feedD T d0 = SF := ⟨_, rfl⟩
        obtain ⟨⟨S', F'⟩, hSF'⟩ : ∃ SF, feedD l S = SF := ⟨_, rfl⟩
        rw [hSF] at hok HX HD2 hff
        simp only at hok HX HD2 hff
        rw [hSF'] at hff
        simp only at hff
        have HFF := Lib.hid hff
        have HSF' := Lib.hid hSF'
        have HOK := Lib.hid hok
        have hfew := feed_few l S
        rw [hSF'] at hfew
        simp only at hfew
        obtain ⟨m, hm⟩ : ∃ m, F'.length = m := ⟨_, rfl⟩
        have hfr := feed_right l hok (by omega) HI.out
        rw [hSF'] at hfr
        have HFR := Lib.hid hfr
        clear hfr
        rw [hm] at hfew
        have HM := Lib.hid hm
        have hxl : xs.length ≤ 2000 := by
          have := feed_few T d0
          rw [hSF, ← HX.out, List.length_map] at this
          omega
        clear hm2 hf2 hml hok hff hSF hSF' hm HO HD HB
        obtain ⟨w2, hw2⟩ : ∃ w2 : World, w2 = wc := ⟨_, rfl⟩
        subst hw2
        go_wp2_with fail
        clear s3 hss happ
        refine Calls.mono (FeedE (w := w2) (K := 4000) rfl HSF'.out HM.out HD2.out (HOK.out.mono (by omega)) (by decide) (HTB.out _ HB2.out) HI.out (by omega) HM2.out.2.1 (fun ad e => by have := HML.out ad e; omega)) ?_
        rintro e w5 ⟨A5, c5, xs5, rfl, O5, X5, G5, F5⟩
        have hs5 := F5.out.size
        have HB5 := Lib.hid (fr1_below HB2.out F5.out hs1 (Nat.le_refl _))
        have HO5 := Lib.hid (HO2.out.fr F5.out (fun j hj _ e => by omega))
        have HM5 := Lib.hid (HM2.out.fr F5.out (fun j e => by have := (HM2.out.1.lt j e).1; omega))
        have hm5 := O5.out.nilrow
        have hap := O5.out.apart
        have HAP := Lib.hid hap
        have HX5 := Lib.hid (XS.of (U := w5.heap.size) O5.out (Nat.le_refl _))
        have HM5L := Lib.hid hm5
        clear hm5 hap O5 F5 HM2 HO2 HD2 HB2
        go_wp2
        go_loopw [10] (fun i wz => ∃ (q : Nat) (zs : List Value), i = .int .i64 q ∧ q ≤ l.length ∧ wz.ownsRow wt.heap.size 5 1 (.slice A2 l.length c2) l.length zs ∧ Fr (fun j => wt.heap.size ≤ j ∧ j < w2.heap.size) w5 wz) (fun i _ => l.length - (intOf i).toNat)
        case atStart => exact ⟨0, _, rfl, by omega, HM5.out.1, Fr.refl _ _⟩
        case round =>
          obtain ⟨q, zs, rfl, hql, hzo, hzf⟩ := hrel
          have HZF := Lib.hid hzf
          have hsz5 := hzf.size
          by_cases hq2 : q < l.length
          · obtain ⟨gp, y, rfl, hgp0, hgp1, hyc, hyf, hst⟩ := own_put4 hzo hq2
            have HST := Lib.hid hst
            have hgp2 := (HML.out _ rfl).2
            simp only at hgp2
            clear hzo hzf hst
            go_wp2
            go_roundw
            case rel => exact ⟨q + 1, _, by go_num, by omega, HST.out _, HZF.out.setCell (p := ⟨gp, q, none⟩) (fun _ => ⟨hgp0, hgp2⟩) _⟩
            case measure => simp [intOf]; omega
          · obtain rfl : q = l.length := by omega
            obtain ⟨w6, hw6⟩ : ∃ w6 : World, w6 = wr := ⟨_, rfl⟩
            subst hw6
            have HO6 := Lib.hid (HO5.out.fr2 HZF.out (fun j e => by have := HOLT.out.1 j e; omega) (fun x hx a e => by have := HOLT.out.2 x hx a e; omega))
            have HX6 := Lib.hid (HX5.out.fr HZF.out (fun j h1 h2 => by omega))
            have HD6 := Lib.hid (G5.out.fr HZF.out (by omega))
            have HB6 := Lib.hid (below_fr HB5.out HZF.out HB5.out.size (fun j e => by omega))
            have HGB : Hid (Gb w2.heap.size w5.heap.size u6 xs) := Lib.hid ⟨fun j e => .inl (by have := HOLT.out.1 j e; omega), fun x hx a e => .inl (by have := HOLT.out.2 x hx a e; omega)⟩
            clear hzo hzf HZF HO5 HX5 G5 HB5 HM5
            go_wp2
            go_loopw [6, 11] (fun v i wz => ∃ (q : Nat) (ys : List Fx), i = .int .i64 q ∧ q ≤ m ∧ OutF W0.heap.size v (xs ++ ys) wz ∧ ys.map (·.1) = F'.take q ∧ Gb w2.heap.size w5.heap.size v (xs ++ ys) ∧ XS w2.heap.size w5.heap.size A5 m c5 xs5 q wz ∧ DecB wz g S' ∧ Below w.heap.size w wz ∧ w5.heap.size ≤ wz.heap.size) (fun _ i _ => m - (intOf i).toNat)
            case atStart => exact ⟨0, [], rfl, by omega, by rw [List.append_nil]; exact HO6.out, rfl, by rw [List.append_nil]; exact HGB.out, HX6.out, HD6.out, HB6.out, hsz5⟩
            case round =>
              obtain ⟨q, ys, rfl, hqm, ho, hys, hgb, hxs, hd, hb, h5z⟩ := hrel
              have HO := Lib.hid ho
              have HYS := Lib.hid hys
              have HG := Lib.hid hgb
              have HXS := Lib.hid hxs
              have HD := Lib.hid hd
              have HB := Lib.hid hb
              have hsbz := hb.size
              have hgz : W0.heap.size ≤ wr.heap.size := by omega
              clear ho hys hgb hxs hd hb
              obtain ⟨wz, hwz⟩ : ∃ wz : World, wz = wr := ⟨_, rfl⟩
              subst hwz
              by_cases hq3 : q < m
              · have hq5 : q < xs5.length := by rw [HM5L.out]; exact hq3
                have hys20 : (xs ++ ys).length ≤ 5000 := by
                  have := congrArg List.length HYS.out
                  rw [List.length_map, List.length_take] at this
                  rw [List.length_append]; omega
                have hrow : RowOf cF 6 wz wz.heap.size A5 xs5 := by
                  have := HXS.out.row
                  rw [← HM5L.out] at this
                  exact row_own (fun _ => rfl) this
                obtain ⟨adx, rfl, hbx, hc⟩ := fx_at hrow hq5
                obtain ⟨hmx, hmu⟩ := HXS.out.each q (Nat.le_refl _) hq5
                have hstep := fun w' => HXS.out.step (w' := w') hq5 HAP.out
                have hft : F'.take (q + 1) = F'.take q ++ [(xs5[q]).1] := by
                  have hqF : q < F'.length := by rw [HM.out]; exact hq3
                  rw [List.take_succ_eq_append_getElem hqF]
                  congr 2
                  have := X5.out
                  subst this
                  simp
                obtain ⟨⟨⟨fa, fk, fs, fq, fx, fm⟩, B1, b1⟩, hxq⟩ : ∃ x, xs5[q] = x := ⟨_, rfl⟩
                rw [hxq] at hc hmx hmu hft
                simp only at hmx hmu hft
                have HXQ := Lib.hid hxq
                have HFT := Lib.hid hft
                have HMX := Lib.hid hmx
                have HMU := Lib.hid hmu
                have HC := Lib.hid hc
                have HAX : Hid (w2.heap.size ≤ adx.block ∧ adx.block < w5.heap.size) := Lib.hid ⟨(HXS.out.row.lt adx.block rfl).1, HXS.out.ub adx.block rfl⟩
                obtain ⟨c0, c1, c2', c3, c4, c5'⟩ := hc
                simp only at c0 c1 c2' c3 c4 c5'
                have hfml : fm.length ≤ 24 := by
                  have hmem : (⟨fa, fk, fs, fq, fx, fm⟩ : Fp) ∈ F' := List.mem_of_mem_take (i := q + 1) (by rw [HFT.out]; simp)
                  have := (right_of (HFR.out _ hmem).1).2.2.2.2.2.2
                  simpa using this
                clear hrow hmx hmu hstep hft hxq
                go_upto_region 18 with (fail)
                go_cut [6] (fun s6 wx => ∃ (A9 : Option Addr) (c9 : Nat), OutF W0.heap.size s6 (xs ++ ys ++ [(⟨fa, fk, fs, fq, fx, fm⟩, A9, c9)]) wx ∧ Gb w2.heap.size w5.heap.size s6 (xs ++ ys ++ [(⟨fa, fk, fs, fq, fx, fm⟩, A9, c9)]) ∧ Fr (fun j => u6.ownBlock = some j) wz wx)
                case first =>
                  have d0' : wz.drew.cell? (adx.add (q * 6)) = some (.int .u8 fa) := c0
                  have d1' : wz.drew.cell? ⟨(adx.add (q * 6)).block, (adx.add (q * 6)).off + 1, none⟩ = some (.int .u8 fk) := c1
                  have d2' : wz.drew.cell? ⟨(adx.add (q * 6)).block, (adx.add (q * 6)).off + 2, none⟩ = some (.int .u8 fs) := c2'
                  have d3' : wz.drew.cell? ⟨(adx.add (q * 6)).block, (adx.add (q * 6)).off + 3, none⟩ = some (.int .u8 fq) := c3
                  have d4' : wz.drew.cell? ⟨(adx.add (q * 6)).block, (adx.add (q * 6)).off + 4, none⟩ = some (.int .u8 fx) := c4
                  have d5' : wz.drew.cell? ⟨(adx.add (q * 6)).block, (adx.add (q * 6)).off + 5, none⟩ = some (.slice B1 fm.length b1) := c5'
                  have m0 := World.new_ne wz.drew _ d0'
                  have m1 := World.new_ne wz.drew _ d1'
                  go_wp2_with fail
                  go_region_held_law (fun w' => (w'.cell? (adx.add (q * 6)) = some (.int .u8 fa) ∧ w'.cell? ⟨(adx.add (q * 6)).block, (adx.add (q * 6)).off + 1, none⟩ = some (.int .u8 fk) ∧ w'.cell? ⟨(adx.add (q * 6)).block, (adx.add (q * 6)).off + 2, none⟩ = some (.int .u8 fs) ∧ w'.cell? ⟨(adx.add (q * 6)).block, (adx.add (q * 6)).off + 3, none⟩ = some (.int .u8 fq) ∧ w'.cell? ⟨(adx.add (q * 6)).block, (adx.add (q * 6)).off + 4, none⟩ = some (.int .u8 fx) ∧ w'.cell? ⟨(adx.add (q * 6)).block, (adx.add (q * 6)).off + 5, none⟩ = some (.slice B1 fm.length b1))) (first | go_keep | exact hk2 | exact hk3) (first
                    | (refine stepR (c := c8) rfl _ _ _ rfl 5 (.int .u8 0) 1 1 Tryd.underlying32 info_u8 rfl (by omega) (by omega) (fun _ => rfl) (fun y u hu => by simp at hu; subst hu; rfl) wz.heap.size wz.heap.size _ [] fm B1 b1 rfl rfl (RowOf.below HMX.out.2.1 ((Below.refl wz.heap.size wz).drew.alloc (Nat.le_refl _) _)) (World.ownsRow_lit wz.drew #[] 0 (Nat.le_refl _) (by decide) rfl) (by simp) (by simp only [List.length_nil]; omega) ?_; intro v2 w7 h3 h4 h5; have F7 : Hid (Fr0 wz w7) := Lib.hid (lit_fr (w := wz.drew) h4 (fun k hk => Nat.le_of_eq (Option.some.inj hk))).undrew; obtain ⟨A9, c9, rfl, hm9⟩ := made_of (B := wz.heap.size) (v := v2) (l := fm) (by rw [nums_flat]; exact h3); have HM9 := Lib.hid hm9; have hk2 := HC.out.below F7.out.below0 hbx; unfold FxC at hk2; simp only at hk2; have n0 := World.new_ne w7 _ hk2.1; have hs7 := F7.out.size; clear h3 h4 h5 hm9)
                    | (refine stepR (c := cF) rfl _ _ _ rfl 35 (.agg #[.int .u8 0, .int .u8 0, .int .u8 0, .int .u8 0, .int .u8 0, .slice none 0 0]) 6 32 Tryd.underlying31 info_frame rfl (by omega) (by omega) (fun _ => rfl) (fun y u hu => by simp only [cF, List.mem_cons, List.not_mem_nil, or_false] at hu; rcases hu with rfl | rfl | rfl | rfl | rfl | rfl <;> rfl) W0.heap.size (w7.heap.size + 1) u6 (xs ++ ys) [(⟨fa, fk, fs, fq, fx, fm⟩, A9, c9)] (some ⟨w7.heap.size, 0, none⟩) 1 rfl (by show Value.slice (some ⟨w7.heap.size, 0, none⟩) 1 1 = _; rfl) (row_onef (w := w7) (x := (⟨fa, fk, fs, fq, fx, fm⟩, A9, c9)) (Nat.lt_succ_self _)) ((HO.out.fr F7.out (fun _ _ _ h => h)).row.alloc _) (by simp; omega) (by simp only [List.length_singleton]; omega) ?_; intro v8 w8 h3 h4 h5; have F78 : Hid (Fr0 wz (w7.alloc (.cells (cF (⟨fa, fk, fs, fq, fx, fm⟩, A9, c9)).toArray 35))) := Lib.hid (F7.out.alloc _); have O8 : Hid (OutF W0.heap.size v8 (xs ++ ys ++ [(⟨fa, fk, fs, fq, fx, fm⟩, A9, c9)]) w8) := Lib.hid (OutF.add (x := (⟨fa, fk, fs, fq, fx, fm⟩, A9, c9)) (HO.out.fr F78.out (fun _ _ _ h => h)) ((HM9.out.fr ((Fr.refl (fun _ => False) w7).alloc _) (fun _ _ h => h)).low (by omega)) (fun y hy a b e1 e2 => by have := HO.out.lt y hy a e1; have := (made_lt HM9.out b e2).1; omega) h3 h4); have G8 : Hid (Gb w2.heap.size w5.heap.size v8 (xs ++ ys ++ [(⟨fa, fk, fs, fq, fx, fm⟩, A9, c9)])) := Lib.hid ⟨fun j e => (h5 j e).elim (fun e => HG.out.1 j e) (fun e => .inr (by simp at e; omega)), fun x hx a e => (List.mem_append.1 hx).elim (fun hx => HG.out.2 x hx a e) (fun hx => by obtain rfl := List.mem_singleton.1 hx; exact .inr (by have := (made_lt HM9.out a e).1; omega))⟩; have F8 : Hid (Fr (fun j => u6.ownBlock = some j) wz w8) := Lib.hid ((F78.out.mono (fun _ _ h => h.elim)).trans h4 (fun _ _ h => h)); have hk3 := HC.out.fr F8.out hbx (fun e => by have := HG.out.1 _ e; have := HAX.out; omega); unfold FxC at hk3; simp only at hk3; clear h3 h4 h5))
                  rename_i hq1
                  clear hq1 hk2 hk3 m0 m1 n0 d0' d1' d2' d3' d4' d5' c0 c1 c2' c3 c4 c5'
                  go_wp2_with fail
                  repeat (rename_i hdst; first | (obtain rfl := Option.some.inj hdst) | (revert hdst; fail_if_success skip))
                  go_meet
                  exact ⟨A9, c9, O8.out, G8.out, F8.out⟩
                case rest =>
                  obtain ⟨A9, c9, ho9, hg9, hf9⟩ := hcut
                  have HO9 := Lib.hid ho9
                  have HG9 := Lib.hid hg9
                  have HF9 := Lib.hid hf9
                  have hs9 := hf9.size
                  obtain ⟨w9, hw9⟩ : ∃ w9 : World, w9 = wc := ⟨_, rfl⟩
                  subst hw9
                  have HXS9 := Lib.hid (HXS.out.fr hf9 (fun j h1 h2 e => by have := HG.out.1 j e; omega))
                  have HD9 := Lib.hid (HD.out.fr hf9 (fun e => by have := (HO.out.row.lt _ e).1; omega))
                  have HB9 := Lib.hid (below_fr HB.out hf9 HB.out.size (fun j e => by have := (HO.out.row.lt _ e).1; omega))
                  have hmx9 : Made w2.heap.size B1 b1 fm w9 := by have := (HXS9.out.each q (Nat.le_refl _) hq5).1; rwa [HXQ.out] at this
                  have hc9 := HC.out.fr hf9 hbx (fun e => by have := HG.out.1 _ e; have := HAX.out; omega)
                  have HC9 := Lib.hid hc9
                  have HMX9 := Lib.hid hmx9
                  have hnx : ∀ a, B1 = some a → a.block ≠ adx.block := fun a e e2 => own_ne HXS9.out.row hmx9.1 (by decide) adx.block rfl (by rw [e, ← e2]; rfl)
                  have HNX := Lib.hid hnx
                  have hbx9 : adx.block < w9.heap.size := by omega
                  have HSTP : Hid (∀ w', Fr (fun j => ∃ a, B1 = some a ∧ a.block = j) w9 w' → XS w2.heap.size w5.heap.size (some adx) m c5 xs5 (q + 1) w') := Lib.hid (fun w' f => HXS9.out.step hq5 HAP.out (by rw [HXQ.out]; exact f))
                  have i1 : (0 : Int) ≤ (q : Int) := by omega
                  have i2 : (q : Int) < (m : Int) := by omega
                  clear ho9 hg9 hf9 hmx9 hc9 hnx c0 c1 c2' c3 c4 c5' HO HG HF9 HXS HD HB HC HMX
                  go_wp2
                  go_loopw [12] (fun i wv => ∃ (p : Nat) (zs : List Value), i = .int .i64 p ∧ p ≤ fm.length ∧ wv.ownsRow w2.heap.size 5 1 (.slice B1 fm.length b1) fm.length zs ∧ Fr (fun j => ∃ a, B1 = some a ∧ a.block = j) w9 wv) (fun i _ => fm.length - (intOf i).toNat)
                  case atStart => exact ⟨0, _, rfl, by omega, HMX9.out.1, Fr.refl _ _⟩
                  case round =>
                    obtain ⟨p, zs, rfl, hp, hzo, hzf⟩ := hrel
                    have HZF := Lib.hid hzf
                    have hszv := hzf.size
                    have hcv := HC9.out.fr hzf hbx9 (fun ⟨a, e1, e2⟩ => HNX.out a e1 e2)
                    have c5v : wr.cell? ⟨(adx.add (q * 6)).block, (adx.add (q * 6)).off + 5, none⟩ = some (.slice B1 fm.length b1) := hcv.2.2.2.2.2
                    by_cases hp2 : p < fm.length
                    · obtain ⟨gp, y, rfl, hgp0, hgp1, hyc, hyf, hst⟩ := own_put4 hzo hp2
                      have HST := Lib.hid hst
                      clear hzo hzf hst hcv
                      go_wp2
                      go_roundw
                      case rel => exact ⟨p + 1, _, by go_num, by omega, HST.out _, HZF.out.setCell (p := ⟨gp, p, none⟩) (fun _ => ⟨_, rfl, rfl⟩) _⟩
                      case measure => simp [intOf]; omega
                    · obtain rfl : p = fm.length := by omega
                      have HX10 := Lib.hid (HSTP.out _ hzf)
                      have HO10 := Lib.hid (HO9.out.fr2 hzf (fun j e ⟨a, e1, e2⟩ => by have := HG9.out.1 j e; have := made_lt HMX9.out a e1; have := HMU.out a e1; omega) (fun x hx a e ⟨a', e1, e2⟩ => by have := HG9.out.2 x hx a e; have := made_lt HMX9.out a' e1; have := HMU.out a' e1; omega))
                      have HD10 := Lib.hid (HD9.out.fr hzf (fun ⟨a, e1, e2⟩ => by have := made_lt HMX9.out a e1; omega))
                      have HB10 := Lib.hid (below_fr HB9.out hzf HB9.out.size (fun j ⟨a, e1, e2⟩ => by have := made_lt HMX9.out a e1; omega))
                      clear hzo hzf hcv
                      go_wp2
                      go_roundw
                      case rel => exact ⟨q + 1, ys ++ [(⟨fa, fk, fs, fq, fx, fm⟩, A9, c9)], by go_num, by omega, by rw [← List.append_assoc]; exact HO10.out, by rw [HFT.out, List.map_append, HYS.out]; rfl, by rw [← List.append_assoc]; exact HG9.out, HX10.out, HD10.out, HB10.out, by omega⟩
                      case measure => simp [intOf]; omega
              · obtain rfl : q = m := by omega
                have HYS' : Hid ((xs ++ ys).map (·.1) = (feedD (T ++ l) d0).2) := Lib.hid (by rw [HFF.out, List.map_append, HX.out, HYS.out, ← HM.out, List.take_length])
                have HD' : Hid (DecB wz g (feedD (T ++ l) d0).1) := Lib.hid (by rw [HFF.out]; exact HD.out)
                have HTL : Hid ((T ++ l).length ≤ 100 * (k + 1)) := Lib.hid (by rw [List.length_append]; omega)
                have HTI' : Hid (InB (T ++ l)) := Lib.hid (fun x hx => (List.mem_append.1 hx).elim (HTI.out x) (HI.out x))
                go_wp2
                go_roundw
                case rel => exact ⟨k + 1, T ++ l, xs ++ ys, by go_num, rfl, by omega, by omega, HTL.out, HTI'.out, HO.out, HYS'.out, HD'.out, HB.out, hgz⟩
                case measure => simp [intOf]; omega
    · rcases (by omega : (¬ k < qs.length) ∨ (k < qs.length ∧ ¬ k < 20)) with hlt | ⟨hlt, h5⟩
      all_goals
        obtain ⟨⟨⟨Sn, Sh, So⟩, F⟩, hSF⟩ : ∃ SF, feedD T d0 = SF := ⟨_, rfl⟩
        rw [hSF] at HX HD
        simp only at HX HD
        obtain ⟨b0, b1, b2, b3, b4, b5, b6, b7, b8, b9, b10, b11, rfl⟩ := twelve HD.out.len
        obtain ⟨hl, hhl⟩ : ∃ hl, Sh.length = hl := ⟨_, rfl⟩
        obtain ⟨m, hm⟩ : ∃ m, F.length = m := ⟨_, rfl⟩
        have hfm := feed_few T d0
        rw [hSF] at hfm
        simp only at hfm
        rw [hm] at hfm
        have HM := Lib.hid hm
        have HSF := Lib.hid hSF
        have HHL : Hid ((⟨[b0, b1, b2, b3, b4, b5, b6, b7, b8, b9, b10, b11], Sh, So⟩ : Ds).held.length = hl) := Lib.hid hhl
        have HHL2 := Lib.hid hhl
        obtain ⟨A1, c1, rfl, ho1⟩ := HO.out.to HX.out hm
        have HO1 := Lib.hid ho1
        clear hSF hhl hm ho1 HO
        go_wp2_with fail
        refine Calls.mono (AllE HTI.out (by omega) HSF.out HM.out HHL2.out wt) ?_
        rintro e w2 ⟨A2, c2, rfl, R2, D2⟩
        go_upto_region 24 with (fail)
        obtain ⟨W3, hW3⟩ : ∃ W3, w2.alloc (.cells #[.slice A2 m c2, .int .i64 b0, .int .i64 b1, .int .i64 b2, .int .i64 b3, .int .i64 b4, .int .i64 b5, .int .i64 b6, .int .i64 b7, .int .i64 b8, .int .i64 b9, .int .i64 b10, .int .i64 b11, .int .i64 hl] 38) = W3 := ⟨_, rfl⟩
        have hk3 : Blk W3 w2.heap.size 38 #[.slice A2 m c2, .int .i64 b0, .int .i64 b1, .int .i64 b2, .int .i64 b3, .int .i64 b4, .int .i64 b5, .int .i64 b6, .int .i64 b7, .int .i64 b8, .int .i64 b9, .int .i64 b10, .int .i64 b11, .int .i64 hl] := hW3 ▸ Blk.new w2 _ _
        have f3 : Fr0 wt W3 := (Fr.of_below D2.out).trans (hW3 ▸ (Fr.refl (fun _ => False) w2).alloc _) (fun _ _ h => h)
        have f32 : Fr0 w2 W3 := hW3 ▸ (Fr.refl (fun _ => False) w2).alloc _
        have HB3 := Lib.hid (fr0_below HB.out f3 (Nat.le_refl _))
        have R3 := Lib.hid (R2.out.now f32.below0)
        have HO3 := Lib.hid (HO1.out.fr f3 (fun _ _ _ h => h))
        have HD3 := Lib.hid (HD.out.fr f3 (fun h => h))
        rw [hW3]
        obtain ⟨gx, hgx⟩ : ∃ gx, w2.heap.size = gx := ⟨_, rfl⟩
        rw [hgx] at hk3 ⊢
        have HK3 := Lib.hid hk3
        have hgl := hk3.lt
        have d1 : Hid (∀ w', Below W3.heap.size W3 w' → DecB w' g ⟨[b0, b1, b2, b3, b4, b5, b6, b7, b8, b9, b10, b11], Sh, So⟩) := Lib.hid (fun w' b => HD3.out.fr (Fr.of_below b) (fun h => h))
        have d2 : Hid (∀ w', Below W3.heap.size W3 w' → OutF W0.heap.size (.slice A1 m c1) xs w') := Lib.hid (fun w' b => HO3.out.fr (Fr.of_below b) (fun _ _ _ h => h))
        have d3 : Hid (∀ w', Below W3.heap.size W3 w' → RowOf cR 6 w' w'.heap.size A2 F) := Lib.hid (fun w' b => R3.out.now b)
        have sNew : Hid (∀ w', Below W3.heap.size W3 w' → (Below W3.heap.size W3 w' ∧ w'.cell? ⟨gx, 0, none⟩ = some (.slice A2 m c2) ∧ w'.cell? ⟨gx, 13, none⟩ = some (.int .i64 hl) ∧ w'.rangeAt gx 1 [.int .i64 b0, .int .i64 b1, .int .i64 b2, .int .i64 b3, .int .i64 b4, .int .i64 b5, .int .i64 b6, .int .i64 b7, .int .i64 b8, .int .i64 b9, .int .i64 b10, .int .i64 b11])) := Lib.hid (fun w' b => by
          have hk := HK3.out.below b hgl
          exact ⟨b, hk.cell 0, hk.cell 13, fun i v h => by
            rw [hk.cell (1 + i)]
            match i, h with
            | 0, h | 1, h | 2, h | 3, h | 4, h | 5, h | 6, h | 7, h | 8, h | 9, h | 10, h | 11, h => exact h
            | i + 12, h => simp at h⟩)
        have bb : Hid (Below W3.heap.size W3 W3.drew) := Lib.hid (Below.refl _ W3).drew
        have eN := eqlN b0 b1 b2 b3 b4 b5 b6 b7 b8 b9 b10 b11
        have eN2 : ∀ W, (binOp .eql 25 (n12 [b0, b1, b2, b3, b4, b5, b6, b7, b8, b9, b10, b11]) (.agg #[.int .i64 b0, .int .i64 b1, .int .i64 b2, .int .i64 b3, .int .i64 b4, .int .i64 b5, .int .i64 b6, .int .i64 b7, .int .i64 b8, .int .i64 b9, .int .i64 b10, .int .i64 b11])).run Tryd.prog W = .ok (.bool true) W := fun W => eqlN b0 b1 b2 b3 b4 b5 b6 b7 b8 b9 b10 b11 W
        have hu := Tryd.underlying25
        have hsz12 : (Tryd.prog.info? 25).map (·.size) = some ([.int .i64 b0, .int .i64 b1, .int .i64 b2, .int .i64 b3, .int .i64 b4, .int .i64 b5, .int .i64 b6, .int .i64 b7, .int .i64 b8, .int .i64 b9, .int .i64 b10, .int .i64 b11] : List Value).length := by kernel_rfl
        clear hW3 hk3 f3 f32 hgx D2 R2 HO1 HB HD R3 HO3 HD3 HK3 hgl
        go_wp2_with fail
        go_region_held3 (fun w' => Below W3.heap.size W3 w' ∧ w'.cell? ⟨gx, 0, none⟩ = some (.slice A2 m c2) ∧ w'.cell? ⟨gx, 13, none⟩ = some (.int .i64 hl) ∧ w'.rangeAt gx 1 [.int .i64 b0, .int .i64 b1, .int .i64 b2, .int .i64 b3, .int .i64 b4, .int .i64 b5, .int .i64 b6, .int .i64 b7, .int .i64 b8, .int .i64 b9, .int .i64 b10, .int .i64 b11]) (exact sNew.out _ bb.out) ((first
          | (go_at_call 12; refine Calls.mono (same5C (d2.out _ (And.left (by assumption))) HX.out HM.out (d3.out _ (And.left (by assumption))) (by omega)) ?_; rintro ee wq ⟨rfl, D⟩; have bo : Below W3.heap.size W3 _ := And.left (by assumption); have bb : Hid (Below W3.heap.size W3 wq) := Lib.hid (bo.trans (D.out.mono bo.size)); clear bo D)
          | (go_at_call 13; refine Calls.mono (errC (d1.out _ (And.left (by assumption)))) ?_; rintro ee wq ⟨rfl, D⟩; have bo : Below W3.heap.size W3 _ := And.left (by assumption); have bb : Hid (Below W3.heap.size W3 wq) := Lib.hid (bo.trans (D.out.mono bo.size)); clear bo D)
          | (go_at_call 14; refine Calls.mono (heldE (d1.out _ (And.left (by assumption))) HHL.out) ?_; rintro ee wq ⟨rfl, rfl⟩)))
        have HBQ := Lib.hid (HB3.out.trans (bb.out.mono HB3.out.size))
        rename_i hq1
        clear hq1
        go_wp2
        go_ret
        exact ⟨rfl, HBQ.out⟩
end Go.Proofs.YtkihoonjekccgaaDoor.K
