/- The walk of CrcTells. -/
import Derived.Test.YtimlkmblfjoigaaDoorCrf
import Derived.Test.YtimlkmblfjoigaaDoorPt1
import Derived.Test.YtimlkmblfjoigaaDoorCSame
import Derived.Test.YtimlkmblfjoigaaDoorCw
namespace Go.Proofs.YtimlkmblfjoigaaDoor.K
open Go.RowKit
set_option linter.unusedVariables false
set_option linter.unusedSimpArgs false
attribute [local go_sem ↓] Go.wp_at_zero Go.wp_at_succ
theorem max_two (ats : Array TypeId) (ty : TypeId) (a b : Value) : Builtin.max_ ats ty #[a, b] = (Builtin.max2 a b >>= fun s => pure s) := by simp only [Builtin.max_, List.foldlM_cons, List.foldlM_nil]
theorem max2_max (k k' : IntKind) (x y : Int) : Builtin.max2 (.int k x) (.int k' y) = pure (.int k (max x y)) := by
  simp only [Builtin.max2]; congr 2; split <;> omega
attribute [local go_sem] min2_min min_two max2_max max_two
/-- Parts of the call's own, of at most n bytes each. -/
structure OwnP (n B : Nat) (v : Value) (ps : List Part) (w : World) : Prop where
  row : w.ownsRow B 23 1 v ps.length (ps.flatMap cP)
  each : ∀ p ∈ ps, Made B p.1 p.2.1 p.2.2 w ∧ p.2.2.length ≤ n ∧ InB p.2.2
theorem OwnP.fr {n B : Nat} {v : Value} {ps : List Part} {S : Nat → Prop} {w w' : World} (h : OwnP n B v ps w) (k : Fr S w w') (hS : ∀ j, B ≤ j → j < w.heap.size → ¬ S j) : OwnP n B v ps w' :=
  ⟨own_fr h.row k (fun j e => by have := h.row.lt j e; exact hS j this.1 this.2), fun p hp => by
    obtain ⟨h1, h2, h3⟩ := h.each p hp
    exact ⟨h1.fr k (fun j e => by have := h1.1.lt j e; exact hS j this.1 this.2), h2, h3⟩⟩
theorem OwnP.add {n B : Nat} {v v1 : Value} {ps : List Part} {p : Part} {w w1 : World} (h : OwnP n B v ps w) (hp : Made B p.1 p.2.1 p.2.2 w) (h50 : p.2.2.length ≤ n) (hi : InB p.2.2)
    (h1 : w1.ownsRow B 23 1 v1 (ps ++ [p]).length ((ps ++ [p]).flatMap cP)) (hf : Fr (fun k => v.ownBlock = some k) w w1) : OwnP n B v1 (ps ++ [p]) w1 :=
  ⟨h1, fun q hq => by
    rcases List.mem_append.1 hq with hq | hq
    · obtain ⟨a1, a2, a3⟩ := h.each q hq
      exact ⟨a1.fr hf (fun j e e2 => own_ne a1.1 h.row (by decide) j e e2), a2, a3⟩
    · obtain rfl : q = p := by simpa using hq
      exact ⟨hp.fr hf (fun j e e2 => own_ne hp.1 h.row (by decide) j e e2), h50, hi⟩⟩
theorem Same.refl' (w : World) : Same w w := ⟨rfl, rfl, rfl, rfl⟩
theorem CBitsP {n pc : Nat} {Q : Option Addr} {ps : List Part} {x : Int} {w w1 : World} (hn : ps.length = n) (hs : Same w w1) (hT : Turns w) (hP : RowOf cP 1 w w.heap.size Q ps) (h : Parts w ps) (hl : n ≤ 140737488355328) (hx : crcN (flat ps) = x) :
    Calls Tryd.prog 15 #[.slice Q n pc] w1 fun e w' => e = .returned (.int .u16 x) ∧ Hid (Below w.heap.size w w') := by
  subst hx hn
  refine (CBitsC (pc := pc) (B := w.heap.size) (ps := ps) (hs.turns hT) hl (hs.row hP) (fun p hp => ⟨hs.row (h p hp).1, (h p hp).2⟩)).mono ?_
  rintro e w2 ⟨rfl, rfl⟩
  exact ⟨rfl, Lib.hid (hs.below (Below.refl _ _))⟩
theorem CTableP {n pc : Nat} {Q : Option Addr} {ps : List Part} {x : Int} {w w1 : World} (hn : ps.length = n) (hs : Same w w1) (hT : Turns w) (hP : RowOf cP 1 w w.heap.size Q ps) (h : Parts w ps) (hl : n ≤ 140737488355328) (hx : crcN (flat ps) = x) :
    Calls Tryd.prog 16 #[.slice Q n pc] w1 fun e w' => e = .returned (.int .u16 x) ∧ Hid (Below w.heap.size w w') := by
  subst hx hn
  refine (CTableC (pc := pc) (B := w.heap.size) (ps := ps) (hs.turns hT) hl (hs.row hP) (fun p hp => ⟨hs.row (h p hp).1, (h p hp).2⟩)).mono ?_
  rintro e w2 ⟨rfl, rfl⟩
  exact ⟨rfl, Lib.hid (hs.below (Below.refl _ _))⟩
theorem SealedE {l m : List Int} {w w1 : World} (hm : l ++ be (crcN l) 2 = m) (hs : Same w w1) (hi : InB l) (hl : l.length ≤ 3000) : Calls Tryd.prog 14 #[.string (strOfNums l)] w1 fun e w' => e = .returned (.string (strOfNums m)) ∧ Hid (Below w.heap.size w w') := by
  subst hm
  refine (SealedRC l w1 hi hl).mono ?_
  rintro e w2 ⟨rfl, H⟩
  exact ⟨rfl, Lib.hid (hs.below (hs.size ▸ H.out))⟩
/-- Valid is what is sealed. -/
theorem valid_sealed {l : List Int} (hi : InB l) (h2 : 2 ≤ l.length) : valid l = decide (l.take (l.length - 2) ++ be (crcN (l.take (l.length - 2))) 2 = l) := by
  obtain ⟨p, a, b, rfl⟩ : ∃ p a b, l = p ++ [a, b] := by
    refine ⟨l.take (l.length - 2), l[l.length - 2]'(by omega), l[l.length - 1]'(by omega), ?_⟩
    have h1 : l.drop (l.length - 2) = [l[l.length - 2]'(by omega), l[l.length - 1]'(by omega)] := by
      rw [List.drop_eq_getElem_cons (by omega), List.drop_eq_getElem_cons (by omega)]
      simp only [show l.length - 2 + 1 = l.length - 1 by omega, show l.length - 1 + 1 = l.length by omega, List.drop_length]
    rw [← h1, List.take_append_drop]
  have ha := hi a (by simp)
  have hb := hi b (by simp)
  have hc := crcN_bound p
  unfold valid
  have hl : (p ++ [a, b]).length - 2 = p.length := by simp
  rw [hl, List.drop_left, List.take_left, be_two _ hc.1 hc.2, Bool.eq_iff_iff]
  simp only [decide_eq_true_eq, List.append_cancel_left_eq, List.cons.injEq, and_true]
  have hn : num [a, b] = a * 256 + b := by simp [num]
  rw [hn]
  constructor
  · rintro ⟨_, h⟩; omega
  · rintro ⟨h3, h4⟩; exact ⟨h2, by omega⟩
theorem flat_take_le' (ps : List Part) (n : Nat) : (flat (ps.take n)).length ≤ (flat ps).length := by
  have : flat (ps.take n) ++ flat (ps.drop n) = flat ps := by rw [← flat_app, List.take_append_drop]
  rw [← this, List.length_append]; omega
theorem vcases (l : List Int) : (2 ≤ l.length ∧ valid l = true) ∨ (2 ≤ l.length ∧ valid l = false) ∨ (l.length < 2 ∧ valid l = false) := by
  by_cases h : 2 ≤ l.length
  · cases hv : valid l
    · exact .inr (.inl ⟨h, rfl⟩)
    · exact .inl ⟨h, rfl⟩
  · refine .inr (.inr ⟨by omega, ?_⟩)
    unfold valid
    simp [h]
set_option maxHeartbeats 8000000 in
set_option maxRecDepth 10000 in
theorem ctells_walk (P : Option Addr) (pc : Nat) (qs : List Part) (A : Option Addr) (c : Nat) (zs : List Int) (hc : zs.length ≤ c) (hcm : c ≤ 9223372036854775807) (w : World) (hT : Turns w) (hin : In2 w.heap.size P qs w) (hq : qs.length ≤ 9223372036854775807) (h0 : RowOf c8 1 w w.heap.size A zs) (b0 : InB zs) :
    Calls Tryd.prog 3 #[.slice P qs.length pc, .slice A zs.length c] w fun e w' => e = .returned (.bool true) ∧ Below w.heap.size w w' := by
  have HIN := Lib.hid hin
  obtain ⟨n, hn, hn1, hn2⟩ := min_nat zs.length 60
  have hzcut := fun W => bcut_hi A zs.length c n (by omega) W
  obtain ⟨l, hl⟩ : ∃ l, l = zs.take n := ⟨_, rfl⟩
  have hln : n = l.length := by rw [hl, List.length_take]; omega
  subst hln
  have HZR := Lib.hid (hl ▸ h0.take_ l.length : RowOf c8 1 w w.heap.size A l)
  have HZI := Lib.hid (hl ▸ b0.take_ l.length : InB l)
  have hzmin : min (zs.length : Int) 60 = (l.length : Int) := hn
  have HTB : Hid (∀ w' : World, Below w.heap.size w w' → Turns w') := Lib.hid (fun w' b => hT.below b hT.lt)
  clear h0 b0 hl hc hin hn
  go_enter Tryd.func3, Tryd.ntmps3
  go_wp2_with fail
  refine (shown2_walk hT).mono ?_
  rintro e w1 ⟨rfl, H1⟩
  go_wp2
  go_loopw [6, 7, 8] (fun v s i wr => ∃ (k : Nat) (ps : List Part), i = .int .i64 k ∧ s = .string (strOfNums (flat ps)) ∧ k ≤ qs.length ∧ k ≤ 5 ∧ ps.length = k ∧ OwnP 60 w.heap.size v ps wr ∧ Below w.heap.size w wr) (fun _ _ i _ => qs.length - (intOf i).toNat)
  case atStart => exact ⟨0, [], rfl, by rw [show flat [] = [] from rfl, str_nil]; rfl, by omega, by omega, rfl, ⟨own_nil _ _ _ _, by simp⟩, H1.out⟩
  case round =>
    obtain ⟨k, ps, rfl, rfl, hk, hk5, hpl, hown, hb⟩ := hrel
    have HOWN := Lib.hid hown
    have HB := Lib.hid hb
    have HPL := Lib.hid hpl
    clear hown hb hpl
    by_cases hgo : k < qs.length ∧ k < 5
    · obtain ⟨hlt, h5⟩ := hgo
      clear hzcut hzmin
      have hi := HIN.out.below HB.out
      obtain ⟨ad, rfl, hbd, hcell⟩ := hi.row.one (g := fun p => .slice p.1 p.2.2.length p.2.1) (fun _ => rfl) hlt
      obtain ⟨e1, e2, e3, e4⟩ := hi.each qs[k] (List.getElem_mem hlt)
      clear hi
      generalize qs[k] = q at *
      obtain ⟨qA, qc, ql⟩ := q
      simp only at hcell e1 e2 e3 e4
      obtain ⟨n, hn, hn1, hn2⟩ := min_nat ql.length 60
      have hcut := fun W => bcut_hi qA ql.length qc n (by omega) W
      have hmin : min (ql.length : Int) 60 = (n : Int) := hn
      obtain ⟨l2, hl⟩ : ∃ l, l = ql.take n := ⟨_, rfl⟩
      have hln : n = l2.length := by rw [hl, List.length_take]; omega
      subst hln
      have HR := Lib.hid (hl ▸ e1.take_ l2.length : RowOf c8 1 wr w.heap.size qA l2)
      have HI := Lib.hid (hl ▸ e2.take_ l2.length : InB l2)
      have hcd : wr.drew.cell? (ad.add k) = some (.slice qA ql.length qc) := hcell
      have hsz := HB.out.size
      clear hl hn e1 e2 e3 e4
      have hne := World.new_ne wr.drew (ad.add k) hcd
      go_wp2_with fail
      go_region_held_law (fun w' => w'.cell? (ad.add k) = some (.slice qA ql.length qc)) (first | go_keep | exact hk2) ((refine stepR (c := c8) rfl _ _ _ rfl 5 (.int .u8 0) 1 1 Tryd.underlying23 info_u8 rfl (by omega) (by omega) (fun _ => rfl) (fun y u hu => by simp at hu; subst hu; rfl) wr.heap.size w.heap.size _ [] l2 _ _ rfl rfl (RowOf.below HR.out ((Below.refl w.heap.size wr).drew.alloc hsz _)) (World.ownsRow_lit wr.drew #[] 0 (Nat.le_refl _) (by decide) rfl) (by simp) (by simp only [List.length_nil]; omega) ?_; intro v2 w2 h3 h4 h5; have hk2 : w2.cell? (ad.add k) = some (.slice qA ql.length qc) := (h4.cell (p := ad.add k) (by rw [block_of_add]; simp; omega) (by rw [block_of_add]; intro e; have := Option.some.inj e; simp at this; omega)).trans ((World.cell?_alloc_lt wr.drew _ (ad.add k) (by rw [block_of_add]; show ad.block < wr.heap.size; omega)).trans hcd); have G2 := Lib.hid (made_of (B := wr.heap.size) (v := v2) (l := l2) (by rw [nums_flat]; exact h3)); have F2 : Hid (Fr0 wr w2) := Lib.hid (lit_fr (w := wr.drew) h4 (fun k hk => Nat.le_of_eq (Option.some.inj hk))).undrew; clear h3 h4 h5))
      all_goals
        obtain ⟨A2, c2, rfl, hm2⟩ := G2.out
        have hs2 := F2.out.size
        have HM2 : Hid (Made w.heap.size A2 c2 l2 w2) := Lib.hid (hm2.low hsz)
        have HO2 : Hid (OwnP 60 w.heap.size u6 ps w2) := Lib.hid (HOWN.out.fr F2.out (fun _ _ _ h => h))
        have HB2 : Hid (Below w.heap.size w w2) := Lib.hid (fr0_below HB.out F2.out (Nat.le_refl _))
        have hps := HPL.out
        have hfl : (flat ps).length ≤ 300 := by have := flat_le (n := 60) (fun p hp => ((HOWN.out.each p hp).2.1)); omega
        clear hm2 G2 hne hcut hmin hk2 hcd
        have HROW := Lib.hid HO2.out.row
        go_wp2_with (at_builtin; (refine app1 rfl _ _ _ rfl 23 (.slice none 0 0) 1 24 Tryd.underlying22 info_bytes rfl (by omega) (by omega) w.heap.size u6 ps.length (ps.flatMap cP) [.slice A2 l2.length c2] rfl rfl rfl (fun u hu => by obtain rfl := List.mem_singleton.1 hu; rfl) HROW.out (by omega) (by omega) ?_; intro v3 w3 h3 h4 h5; have HO3 : Hid (OwnP 60 w.heap.size v3 (ps ++ [(A2, c2, l2)]) w3) := Lib.hid (HO2.out.add (p := (A2, c2, l2)) HM2.out hn2 HI.out (by rw [List.length_append, List.flatMap_append]; exact h3) h4); have HB3 : Hid (Below w.heap.size w w3) := Lib.hid (below_fr HB2.out h4 (by omega) (fun j e => (HROW.out.lt j e).1)); have s3 := str_row (c := c2) (HO3.out.each (A2, c2, l2) (List.mem_append_right ps (List.mem_singleton_self _))).1.2.1; have hss : (strOfNums (flat ps)).size + (strOfNums l2).size ≤ 9223372036854775807 := (by rw [str_size, str_size]; omega); have happ := str_append (flat ps) l2; clear h3 h4 h5))
        go_roundw
        case rel => exact ⟨k + 1, ps ++ [(A2, c2, l2)], by go_num, by rw [flat_app, show flat [(A2, c2, l2)] = l2 by simp [flat]], by omega, by omega, by simp; omega, HO3.out, HB3.out⟩
        case measure => simp [intOf]; omega
    · have hps5 : ps.length ≤ 5 := by have := HPL.out; omega
      obtain ⟨Q, qc, rfl, hqc⟩ := own_form HOWN.out.row
      have HPR : Hid (RowOf cP 1 wr wr.heap.size Q ps) := Lib.hid (row_own (c := cP) (fun _ => rfl) HOWN.out.row)
      have HPP : Hid (Parts wr ps) := Lib.hid (fun p hp => ⟨(HOWN.out.each p hp).1.2.1, (HOWN.out.each p hp).2.2, by have := (HOWN.out.each p hp).2.1; omega⟩)
      have HFI := Lib.hid (flat_inB (fun p hp => (HOWN.out.each p hp).2.2))
      have hfl : (flat ps).length ≤ 300 := by have := flat_le (n := 60) (fun p hp => ((HOWN.out.each p hp).2.1)); omega
      have hsz := HB.out.size
      obtain ⟨X, hX⟩ : ∃ X, crcN (flat ps) = X := ⟨_, rfl⟩
      have HX := Lib.hid hX
      have hSum := SumRC (flat ps) wr HFI.out (by omega)
      rw [hX] at hSum
      have HSum := Lib.hid hSum
      have HPL5 : Hid (ps.length = k) := HPL
      obtain ⟨N, hN⟩ : ∃ N, ps.length = N := ⟨_, rfl⟩
      have HN := Lib.hid hN
      rw [hN] at hps5 hqc ⊢
      obtain ⟨M, hM⟩ : ∃ M, l.length + 2 = M := ⟨_, rfl⟩
      obtain ⟨m, hm⟩ : ∃ m, l ++ be (crcN l) 2 = m := ⟨_, rfl⟩
      have HML : Hid (m.length = M) := Lib.hid (by rw [← hm, List.length_append, be_length]; exact hM)
      have HM := Lib.hid hM
      have HMD := Lib.hid hm
      clear hX hSum HOWN HPL hN hM hm HIN
      rcases (by omega : (¬ k < qs.length) ∨ (k < qs.length ∧ ¬ k < 5)) with hlt | ⟨hlt, h5⟩
      all_goals
        clear hgo
        go_wp2_with fail
        (with_reducible refine HSum.out.mono ?_)
        rintro e w2 ⟨rfl, H2⟩
        have HR2 := Lib.hid ((HZR.out.below HB.out).more_ hsz)
        have HR2 := Lib.hid (HR2.out.now H2.out)
        have hw2 := H2.out.size
        rcases vcases l with ⟨hv2, hv⟩ | ⟨hv2, hv⟩ | ⟨hv2, hv⟩
        · obtain ⟨j, hj⟩ : ∃ j, j = l.length - 2 := ⟨_, rfl⟩
          have hmax : max ((l.length : Int) - 2) 0 = (j : Int) := by omega
          have hv2i : (2 : Int) ≤ (l.length : Int) := by omega
          have hsc := fun W => scut_hi l j (by omega) W
          have hvs := valid_sealed HZI.out hv2
          rw [hv, ← hj] at hvs
          have HVS := Lib.hid (of_decide_eq_true hvs.symm)
          have HV := Lib.hid hv
          clear hvs hj hv
          go_wp2_with (at_builtin; refine appR (c := c8) rfl _ _ _ rfl 5 (.int .u8 0) 1 1 Tryd.underlying23 info_u8 rfl (by omega) (by omega) (fun _ => rfl) (fun y u hu => by simp at hu; subst hu; rfl) w2.heap.size w2.heap.size _ [] l _ _ rfl rfl (RowOf.below HR2.out ((Below.refl _ w2).alloc (Nat.le_refl _) _)) (World.ownsRow_lit w2 #[] 0 (Nat.le_refl _) (by decide) rfl) (by simp) (by simp only [List.length_nil]; omega) ?_; intro v2 w3 h3 h4 h5; have F3 := Lib.hid (lit_fr h4 (fun k hk => Nat.le_of_eq (Option.some.inj hk))); obtain ⟨A1, c1, rfl, hm1⟩ := made_of (B := w2.heap.size) (v := v2) (l := l) (by rw [nums_flat]; exact h3); have HM1 := Lib.hid hm1; have hs2 : (convert 23 9 (.slice A1 l.length c1)).run Tryd.prog w3 = .ok (.string (strOfNums l)) w3 := str_row hm1.2.1; clear h3 h4 h5 hm1)
          have BR3 := Lib.hid (H2.out.trans (F3.out.below0.mono hw2))
          have hw3 := F3.out.size
          have hwB := HB.out.size
          clear F3 H2 HR2
          refine Calls.mono (SealedE HVS.out (Same.refl' w3) (HZI.out.take_ j) (by rw [List.length_take]; omega)) ?_
          rintro e w4 ⟨rfl, H4⟩
          have BR4 := Lib.hid (BR3.out.trans (H4.out.mono BR3.out.size))
          have HM4 := Lib.hid (HM1.out.below H4.out (Nat.le_refl _))
          clear hsc H4 BR3 HVS
          have hBW : Below w.heap.size w w4 := HB.out.trans (BR4.out.mono hwB)
          have HBW := Lib.hid hBW
          have hT4 := HTB.out _ hBW
          have hPR4 := HPR.out.now BR4.out
          have HPR4 := Lib.hid hPR4
          have HPP4 := Lib.hid (HPP.out.below BR4.out)
          have HMR4 := Lib.hid HM4.out.2.1
          have hc1 := HM4.out.2.2
          have hcm1 := made_cap HM4.out
          have hMM : l.length + 4 ≤ 140737488355328 := by omega
          have k1 : Hid True := Lib.hid trivial
          clear hBW hPR4 hs2
          go_wp2_with fail
          go_region_held (fun _ => True) (trivial) (first
            | (go_at_call 15; have _t := k1; refine Calls.mono (CBitsP (w := w4) (x := X) HN.out ⟨rfl, rfl, rfl, rfl⟩ hT4 HPR4.out HPP4.out (by omega) HX.out) ?_; rintro e w5 ⟨rfl, H5⟩; have B5 := H5; have hT5 := hT4.below H5.out hT4.lt; have k2 := k1; clear k1 H5)
            | (go_at_call 16; have _t := k2; refine Calls.mono (CTableP (w := w5) (x := X) HN.out ⟨rfl, rfl, rfl, rfl⟩ hT5 (HPR4.out.now B5.out) (HPP4.out.below B5.out) (by omega) HX.out) ?_; rintro e w6 ⟨rfl, H6⟩; have B6 := Lib.hid (B5.out.trans (H6.out.mono B5.out.size)); have hT6 := hT4.below B6.out hT4.lt; have k3 := k2; clear k2 H6)
            | (go_at_call 17; have _t := k3; refine Calls.mono (CValidE (w := w6) (l := l) rfl HV.out ⟨rfl, rfl, rfl, rfl⟩ hT6 (HMR4.out.now B6.out) HZI.out (by omega) hc1 hcm1) ?_; rintro e w7 ⟨rfl, H7⟩; have B7 := Lib.hid (B6.out.trans (H7.out.mono B6.out.size)); have hT7 := hT4.below B7.out hT4.lt; have k4 := k3; clear k3 H7)
            | (go_at_call 18; have _t := k4; refine Calls.mono (CAppendE (w := w7) rfl HM.out HMD.out ⟨rfl, rfl, rfl, rfl⟩ hT7 (HMR4.out.now B7.out) (fun ad e => Nat.lt_of_lt_of_le (made_lt HM4.out ad e).2 B7.out.size) HZI.out hMM) ?_; rintro e w8 ⟨A8, c8, rfl, H8, F8⟩; have B8 := Lib.hid (B7.out.trans (F8.out.mono B7.out.size)); have s8 : ∀ n, (convert 23 9 (.slice A8 M c8)).run Tryd.prog (w8.drewN n) = .ok (.string (strOfNums m)) (w8.drewN n) := (fun n => str_n HML.out (H8.out.2.1.drewN_ n)); have s8a : (convert 23 9 (.slice A8 M c8)).run Tryd.prog w8 = .ok (.string (strOfNums m)) w8 := str_n HML.out H8.out.2.1; have HR8 := Lib.hid H8.out.2.1; have k5 := k4; clear k4 H8 F8)
            | (go_at_call 14; have _t := k5; refine Calls.mono (SealedE (w := w8) HMD.out ⟨rfl, rfl, rfl, rfl⟩ HZI.out (by omega)) ?_; rintro e w9 ⟨rfl, H9⟩; have B9 := Lib.hid (B8.out.trans (H9.out.mono B8.out.size)); have HR9 := HR8.out.now H9.out; have s9 : ∀ n, (convert 23 9 (.slice A8 M c8)).run Tryd.prog (w9.drewN n) = .ok (.string (strOfNums m)) (w9.drewN n) := (fun n => str_n HML.out (HR9.drewN_ n)); have s9a : (convert 23 9 (.slice A8 M c8)).run Tryd.prog w9 = .ok (.string (strOfNums m)) w9 := str_n HML.out HR9; clear k5 H9 HR9 HR8)
            | (go_at_call 14; have _t := k4; refine Calls.mono (SealedE (w := w7) HMD.out ⟨rfl, rfl, rfl, rfl⟩ HZI.out (by omega)) ?_; rintro e w8 ⟨rfl, H8⟩; have B8 := Lib.hid (B7.out.trans (H8.out.mono B7.out.size)); have hT8 := hT4.below B8.out hT4.lt; have k6 := k4; clear k4 H8)
            | (go_at_call 18; have _t := k6; refine Calls.mono (CAppendE (w := w8) rfl HM.out HMD.out ⟨rfl, rfl, rfl, rfl⟩ hT8 (HMR4.out.now B8.out) (fun ad e => Nat.lt_of_lt_of_le (made_lt HM4.out ad e).2 B8.out.size) HZI.out hMM) ?_; rintro e w9 ⟨A8, c8, rfl, H8, F8⟩; have B9 := Lib.hid (B8.out.trans (F8.out.mono B8.out.size)); have s8 : ∀ n, (convert 23 9 (.slice A8 M c8)).run Tryd.prog (w9.drewN n) = .ok (.string (strOfNums m)) (w9.drewN n) := (fun n => str_n HML.out (H8.out.2.1.drewN_ n)); have s8a : (convert 23 9 (.slice A8 M c8)).run Tryd.prog w9 = .ok (.string (strOfNums m)) w9 := str_n HML.out H8.out.2.1; clear k6 H8 F8))
          all_goals
            have HBW9 := Lib.hid (HBW.out.trans (B9.out.mono HBW.out.size))
            have HPR9 := Lib.hid (HPR4.out.now B9.out)
            have HPP9 := Lib.hid (HPP4.out.below B9.out)
            have hs9 : (convert 23 9 (.slice A1 l.length c1)).run Tryd.prog w9 = .ok (.string (strOfNums l)) w9 := str_row (HMR4.out.now B9.out)
            go_wp2
            go_loop [13, 14] (fun s i => ∃ t : Nat, t ≤ N ∧ i = .int .i64 t ∧ s = .string (strOfNums (flat (ps.take t)))) (fun _ i => N - (intOf i).toNat)
            case atStart => exact ⟨0, by omega, rfl, by rw [List.take_zero, show flat [] = [] from rfl, str_nil]; rfl⟩
            case round =>
              obtain ⟨t, ht, rfl, rfl⟩ := hrel
              by_cases htN : t < N
              · have htl : t < ps.length := by rw [HN.out]; exact htN
                obtain ⟨ad, rfl, _, hcell⟩ := HPR9.out.one (g := pv) (fun _ => rfl) htl
                have hs := (HPP9.out _ (List.getElem_mem htl)).1
                have hf1 := flat_take ps t htl
                have hle := flat_take_le' ps (t + 1)
                rw [hf1, List.length_append] at hle
                have HFT := Lib.hid hf1
                clear hf1
                generalize ps[t] = q at *
                obtain ⟨qA, qc', ql⟩ := q
                have s1 := str_row (c := qc') hs
                have happ := str_append (flat (ps.take t)) ql
                have hss : (strOfNums (flat (ps.take t))).size + (strOfNums ql).size ≤ 9223372036854775807 := by rw [str_size, str_size]; simp only at hle; omega
                clear hs hle
                go_wp2
                go_round
                case rel => exact ⟨t + 1, by omega, by go_num, by rw [HFT.out]⟩
                case measure => simp [intOf]; omega
              · obtain rfl : t = N := by omega
                have e : ps.take t = ps := by rw [← HN.out, List.take_length]
                rw [e]
                clear e
                go_wp2
                go_ret
                exact ⟨rfl, HBW9.out⟩
        · obtain ⟨j, hj⟩ : ∃ j, j = l.length - 2 := ⟨_, rfl⟩
          have hmax : max ((l.length : Int) - 2) 0 = (j : Int) := by omega
          have hv2i : (2 : Int) ≤ (l.length : Int) := by omega
          have hsc := fun W => scut_hi l j (by omega) W
          have hvs := valid_sealed HZI.out hv2
          rw [hv, ← hj] at hvs
          obtain ⟨m2, hm2⟩ : ∃ m2, l.take j ++ be (crcN (l.take j)) 2 = m2 := ⟨_, rfl⟩
          have hm2i : InB m2 := fun x hx => by rw [← hm2] at hx; exact (List.mem_append.1 hx).elim (fun h => HZI.out x (List.mem_of_mem_take h)) (be_inB _ _ x)
          rw [hm2] at hvs
          have hm2n : ((strOfNums m2).toList == (strOfNums l).toList) = false := by rw [str_eq hm2i HZI.out]; exact hvs.symm
          have HVS := Lib.hid hm2
          have HV := Lib.hid hv
          clear hvs hj hv hm2 hm2i
          go_wp2_with (at_builtin; refine appR (c := c8) rfl _ _ _ rfl 5 (.int .u8 0) 1 1 Tryd.underlying23 info_u8 rfl (by omega) (by omega) (fun _ => rfl) (fun y u hu => by simp at hu; subst hu; rfl) w2.heap.size w2.heap.size _ [] l _ _ rfl rfl (RowOf.below HR2.out ((Below.refl _ w2).alloc (Nat.le_refl _) _)) (World.ownsRow_lit w2 #[] 0 (Nat.le_refl _) (by decide) rfl) (by simp) (by simp only [List.length_nil]; omega) ?_; intro v2 w3 h3 h4 h5; have F3 := Lib.hid (lit_fr h4 (fun k hk => Nat.le_of_eq (Option.some.inj hk))); obtain ⟨A1, c1, rfl, hm1⟩ := made_of (B := w2.heap.size) (v := v2) (l := l) (by rw [nums_flat]; exact h3); have HM1 := Lib.hid hm1; have hs2 : (convert 23 9 (.slice A1 l.length c1)).run Tryd.prog w3 = .ok (.string (strOfNums l)) w3 := str_row hm1.2.1; clear h3 h4 h5 hm1)
          have BR3 := Lib.hid (H2.out.trans (F3.out.below0.mono hw2))
          have hw3 := F3.out.size
          have hwB := HB.out.size
          clear F3 H2 HR2
          refine Calls.mono (SealedE HVS.out (Same.refl' w3) (HZI.out.take_ j) (by rw [List.length_take]; omega)) ?_
          rintro e w4 ⟨rfl, H4⟩
          have BR4 := Lib.hid (BR3.out.trans (H4.out.mono BR3.out.size))
          have HM4 := Lib.hid (HM1.out.below H4.out (Nat.le_refl _))
          clear hsc H4 BR3 HVS
          have hBW : Below w.heap.size w w4 := HB.out.trans (BR4.out.mono hwB)
          have HBW := Lib.hid hBW
          have hT4 := HTB.out _ hBW
          have hPR4 := HPR.out.now BR4.out
          have HPR4 := Lib.hid hPR4
          have HPP4 := Lib.hid (HPP.out.below BR4.out)
          have HMR4 := Lib.hid HM4.out.2.1
          have hc1 := HM4.out.2.2
          have hcm1 := made_cap HM4.out
          have hMM : l.length + 4 ≤ 140737488355328 := by omega
          have k1 : Hid True := Lib.hid trivial
          clear hBW hPR4 hs2
          go_wp2_with fail
          go_region_held (fun _ => True) (trivial) (first
            | (go_at_call 15; have _t := k1; refine Calls.mono (CBitsP (w := w4) (x := X) HN.out ⟨rfl, rfl, rfl, rfl⟩ hT4 HPR4.out HPP4.out (by omega) HX.out) ?_; rintro e w5 ⟨rfl, H5⟩; have B5 := H5; have hT5 := hT4.below H5.out hT4.lt; have k2 := k1; clear k1 H5)
            | (go_at_call 16; have _t := k2; refine Calls.mono (CTableP (w := w5) (x := X) HN.out ⟨rfl, rfl, rfl, rfl⟩ hT5 (HPR4.out.now B5.out) (HPP4.out.below B5.out) (by omega) HX.out) ?_; rintro e w6 ⟨rfl, H6⟩; have B6 := Lib.hid (B5.out.trans (H6.out.mono B5.out.size)); have hT6 := hT4.below B6.out hT4.lt; have k3 := k2; clear k2 H6)
            | (go_at_call 17; have _t := k3; refine Calls.mono (CValidE (w := w6) (l := l) rfl HV.out ⟨rfl, rfl, rfl, rfl⟩ hT6 (HMR4.out.now B6.out) HZI.out (by omega) hc1 hcm1) ?_; rintro e w7 ⟨rfl, H7⟩; have B7 := Lib.hid (B6.out.trans (H7.out.mono B6.out.size)); have hT7 := hT4.below B7.out hT4.lt; have k4 := k3; clear k3 H7)
            | (go_at_call 18; have _t := k4; refine Calls.mono (CAppendE (w := w7) rfl HM.out HMD.out ⟨rfl, rfl, rfl, rfl⟩ hT7 (HMR4.out.now B7.out) (fun ad e => Nat.lt_of_lt_of_le (made_lt HM4.out ad e).2 B7.out.size) HZI.out hMM) ?_; rintro e w8 ⟨A8, c8, rfl, H8, F8⟩; have B8 := Lib.hid (B7.out.trans (F8.out.mono B7.out.size)); have s8 : ∀ n, (convert 23 9 (.slice A8 M c8)).run Tryd.prog (w8.drewN n) = .ok (.string (strOfNums m)) (w8.drewN n) := (fun n => str_n HML.out (H8.out.2.1.drewN_ n)); have s8a : (convert 23 9 (.slice A8 M c8)).run Tryd.prog w8 = .ok (.string (strOfNums m)) w8 := str_n HML.out H8.out.2.1; have HR8 := Lib.hid H8.out.2.1; have k5 := k4; clear k4 H8 F8)
            | (go_at_call 14; have _t := k5; refine Calls.mono (SealedE (w := w8) HMD.out ⟨rfl, rfl, rfl, rfl⟩ HZI.out (by omega)) ?_; rintro e w9 ⟨rfl, H9⟩; have B9 := Lib.hid (B8.out.trans (H9.out.mono B8.out.size)); have HR9 := HR8.out.now H9.out; have s9 : ∀ n, (convert 23 9 (.slice A8 M c8)).run Tryd.prog (w9.drewN n) = .ok (.string (strOfNums m)) (w9.drewN n) := (fun n => str_n HML.out (HR9.drewN_ n)); have s9a : (convert 23 9 (.slice A8 M c8)).run Tryd.prog w9 = .ok (.string (strOfNums m)) w9 := str_n HML.out HR9; clear k5 H9 HR9 HR8)
            | (go_at_call 14; have _t := k4; refine Calls.mono (SealedE (w := w7) HMD.out ⟨rfl, rfl, rfl, rfl⟩ HZI.out (by omega)) ?_; rintro e w8 ⟨rfl, H8⟩; have B8 := Lib.hid (B7.out.trans (H8.out.mono B7.out.size)); have hT8 := hT4.below B8.out hT4.lt; have k6 := k4; clear k4 H8)
            | (go_at_call 18; have _t := k6; refine Calls.mono (CAppendE (w := w8) rfl HM.out HMD.out ⟨rfl, rfl, rfl, rfl⟩ hT8 (HMR4.out.now B8.out) (fun ad e => Nat.lt_of_lt_of_le (made_lt HM4.out ad e).2 B8.out.size) HZI.out hMM) ?_; rintro e w9 ⟨A8, c8, rfl, H8, F8⟩; have B9 := Lib.hid (B8.out.trans (F8.out.mono B8.out.size)); have s8 : ∀ n, (convert 23 9 (.slice A8 M c8)).run Tryd.prog (w9.drewN n) = .ok (.string (strOfNums m)) (w9.drewN n) := (fun n => str_n HML.out (H8.out.2.1.drewN_ n)); have s8a : (convert 23 9 (.slice A8 M c8)).run Tryd.prog w9 = .ok (.string (strOfNums m)) w9 := str_n HML.out H8.out.2.1; clear k6 H8 F8))
          all_goals
            have HBW9 := Lib.hid (HBW.out.trans (B9.out.mono HBW.out.size))
            have HPR9 := Lib.hid (HPR4.out.now B9.out)
            have HPP9 := Lib.hid (HPP4.out.below B9.out)
            have hs9 : (convert 23 9 (.slice A1 l.length c1)).run Tryd.prog w9 = .ok (.string (strOfNums l)) w9 := str_row (HMR4.out.now B9.out)
            go_wp2
            go_loop [13, 14] (fun s i => ∃ t : Nat, t ≤ N ∧ i = .int .i64 t ∧ s = .string (strOfNums (flat (ps.take t)))) (fun _ i => N - (intOf i).toNat)
            case atStart => exact ⟨0, by omega, rfl, by rw [List.take_zero, show flat [] = [] from rfl, str_nil]; rfl⟩
            case round =>
              obtain ⟨t, ht, rfl, rfl⟩ := hrel
              by_cases htN : t < N
              · have htl : t < ps.length := by rw [HN.out]; exact htN
                obtain ⟨ad, rfl, _, hcell⟩ := HPR9.out.one (g := pv) (fun _ => rfl) htl
                have hs := (HPP9.out _ (List.getElem_mem htl)).1
                have hf1 := flat_take ps t htl
                have hle := flat_take_le' ps (t + 1)
                rw [hf1, List.length_append] at hle
                have HFT := Lib.hid hf1
                clear hf1
                generalize ps[t] = q at *
                obtain ⟨qA, qc', ql⟩ := q
                have s1 := str_row (c := qc') hs
                have happ := str_append (flat (ps.take t)) ql
                have hss : (strOfNums (flat (ps.take t))).size + (strOfNums ql).size ≤ 9223372036854775807 := by rw [str_size, str_size]; simp only at hle; omega
                clear hs hle
                go_wp2
                go_round
                case rel => exact ⟨t + 1, by omega, by go_num, by rw [HFT.out]⟩
                case measure => simp [intOf]; omega
              · obtain rfl : t = N := by omega
                have e : ps.take t = ps := by rw [← HN.out, List.take_length]
                rw [e]
                clear e
                go_wp2
                go_ret
                exact ⟨rfl, HBW9.out⟩
        · have hv2i : (l.length : Int) < 2 := by omega
          have HV := Lib.hid hv
          clear hv
          go_wp2_with (at_builtin; refine appR (c := c8) rfl _ _ _ rfl 5 (.int .u8 0) 1 1 Tryd.underlying23 info_u8 rfl (by omega) (by omega) (fun _ => rfl) (fun y u hu => by simp at hu; subst hu; rfl) w2.heap.size w2.heap.size _ [] l _ _ rfl rfl (RowOf.below HR2.out ((Below.refl _ w2).alloc (Nat.le_refl _) _)) (World.ownsRow_lit w2 #[] 0 (Nat.le_refl _) (by decide) rfl) (by simp) (by simp only [List.length_nil]; omega) ?_; intro v2 w3 h3 h4 h5; have F3 := Lib.hid (lit_fr h4 (fun k hk => Nat.le_of_eq (Option.some.inj hk))); obtain ⟨A1, c1, rfl, hm1⟩ := made_of (B := w2.heap.size) (v := v2) (l := l) (by rw [nums_flat]; exact h3); have HM1 := Lib.hid hm1; have hs2 : (convert 23 9 (.slice A1 l.length c1)).run Tryd.prog w3 = .ok (.string (strOfNums l)) w3 := str_row hm1.2.1; clear h3 h4 h5 hm1)
          have BR3 := Lib.hid (H2.out.trans (F3.out.below0.mono hw2))
          have hw3 := F3.out.size
          have hwB := HB.out.size
          clear F3 H2 HR2
          obtain ⟨w4, rfl⟩ : ∃ w4, w4 = w3 := ⟨_, rfl⟩
          have BR4 := BR3
          have HM4 := HM1
          clear BR3
          have hBW : Below w.heap.size w w4 := HB.out.trans (BR4.out.mono hwB)
          have HBW := Lib.hid hBW
          have hT4 := HTB.out _ hBW
          have hPR4 := HPR.out.now BR4.out
          have HPR4 := Lib.hid hPR4
          have HPP4 := Lib.hid (HPP.out.below BR4.out)
          have HMR4 := Lib.hid HM4.out.2.1
          have hc1 := HM4.out.2.2
          have hcm1 := made_cap HM4.out
          have hMM : l.length + 4 ≤ 140737488355328 := by omega
          have k1 : Hid True := Lib.hid trivial
          clear hBW hPR4 hs2
          go_wp2_with fail
          go_region_held (fun _ => True) (trivial) (first
            | (go_at_call 15; have _t := k1; refine Calls.mono (CBitsP (w := w4) (x := X) HN.out ⟨rfl, rfl, rfl, rfl⟩ hT4 HPR4.out HPP4.out (by omega) HX.out) ?_; rintro e w5 ⟨rfl, H5⟩; have B5 := H5; have hT5 := hT4.below H5.out hT4.lt; have k2 := k1; clear k1 H5)
            | (go_at_call 16; have _t := k2; refine Calls.mono (CTableP (w := w5) (x := X) HN.out ⟨rfl, rfl, rfl, rfl⟩ hT5 (HPR4.out.now B5.out) (HPP4.out.below B5.out) (by omega) HX.out) ?_; rintro e w6 ⟨rfl, H6⟩; have B6 := Lib.hid (B5.out.trans (H6.out.mono B5.out.size)); have hT6 := hT4.below B6.out hT4.lt; have k3 := k2; clear k2 H6)
            | (go_at_call 17; have _t := k3; refine Calls.mono (CValidE (w := w6) (l := l) rfl HV.out ⟨rfl, rfl, rfl, rfl⟩ hT6 (HMR4.out.now B6.out) HZI.out (by omega) hc1 hcm1) ?_; rintro e w7 ⟨rfl, H7⟩; have B7 := Lib.hid (B6.out.trans (H7.out.mono B6.out.size)); have hT7 := hT4.below B7.out hT4.lt; have k4 := k3; clear k3 H7)
            | (go_at_call 18; have _t := k4; refine Calls.mono (CAppendE (w := w7) rfl HM.out HMD.out ⟨rfl, rfl, rfl, rfl⟩ hT7 (HMR4.out.now B7.out) (fun ad e => Nat.lt_of_lt_of_le (made_lt HM4.out ad e).2 B7.out.size) HZI.out hMM) ?_; rintro e w8 ⟨A8, c8, rfl, H8, F8⟩; have B8 := Lib.hid (B7.out.trans (F8.out.mono B7.out.size)); have s8 : ∀ n, (convert 23 9 (.slice A8 M c8)).run Tryd.prog (w8.drewN n) = .ok (.string (strOfNums m)) (w8.drewN n) := (fun n => str_n HML.out (H8.out.2.1.drewN_ n)); have s8a : (convert 23 9 (.slice A8 M c8)).run Tryd.prog w8 = .ok (.string (strOfNums m)) w8 := str_n HML.out H8.out.2.1; have HR8 := Lib.hid H8.out.2.1; have k5 := k4; clear k4 H8 F8)
            | (go_at_call 14; have _t := k5; refine Calls.mono (SealedE (w := w8) HMD.out ⟨rfl, rfl, rfl, rfl⟩ HZI.out (by omega)) ?_; rintro e w9 ⟨rfl, H9⟩; have B9 := Lib.hid (B8.out.trans (H9.out.mono B8.out.size)); have HR9 := HR8.out.now H9.out; have s9 : ∀ n, (convert 23 9 (.slice A8 M c8)).run Tryd.prog (w9.drewN n) = .ok (.string (strOfNums m)) (w9.drewN n) := (fun n => str_n HML.out (HR9.drewN_ n)); have s9a : (convert 23 9 (.slice A8 M c8)).run Tryd.prog w9 = .ok (.string (strOfNums m)) w9 := str_n HML.out HR9; clear k5 H9 HR9 HR8)
            | (go_at_call 14; have _t := k4; refine Calls.mono (SealedE (w := w7) HMD.out ⟨rfl, rfl, rfl, rfl⟩ HZI.out (by omega)) ?_; rintro e w8 ⟨rfl, H8⟩; have B8 := Lib.hid (B7.out.trans (H8.out.mono B7.out.size)); have hT8 := hT4.below B8.out hT4.lt; have k6 := k4; clear k4 H8)
            | (go_at_call 18; have _t := k6; refine Calls.mono (CAppendE (w := w8) rfl HM.out HMD.out ⟨rfl, rfl, rfl, rfl⟩ hT8 (HMR4.out.now B8.out) (fun ad e => Nat.lt_of_lt_of_le (made_lt HM4.out ad e).2 B8.out.size) HZI.out hMM) ?_; rintro e w9 ⟨A8, c8, rfl, H8, F8⟩; have B9 := Lib.hid (B8.out.trans (F8.out.mono B8.out.size)); have s8 : ∀ n, (convert 23 9 (.slice A8 M c8)).run Tryd.prog (w9.drewN n) = .ok (.string (strOfNums m)) (w9.drewN n) := (fun n => str_n HML.out (H8.out.2.1.drewN_ n)); have s8a : (convert 23 9 (.slice A8 M c8)).run Tryd.prog w9 = .ok (.string (strOfNums m)) w9 := str_n HML.out H8.out.2.1; clear k6 H8 F8))
          all_goals
            have HBW9 := Lib.hid (HBW.out.trans (B9.out.mono HBW.out.size))
            have HPR9 := Lib.hid (HPR4.out.now B9.out)
            have HPP9 := Lib.hid (HPP4.out.below B9.out)
            have hs9 : (convert 23 9 (.slice A1 l.length c1)).run Tryd.prog w9 = .ok (.string (strOfNums l)) w9 := str_row (HMR4.out.now B9.out)
            go_wp2
            go_loop [13, 14] (fun s i => ∃ t : Nat, t ≤ N ∧ i = .int .i64 t ∧ s = .string (strOfNums (flat (ps.take t)))) (fun _ i => N - (intOf i).toNat)
            case atStart => exact ⟨0, by omega, rfl, by rw [List.take_zero, show flat [] = [] from rfl, str_nil]; rfl⟩
            case round =>
              obtain ⟨t, ht, rfl, rfl⟩ := hrel
              by_cases htN : t < N
              · have htl : t < ps.length := by rw [HN.out]; exact htN
                obtain ⟨ad, rfl, _, hcell⟩ := HPR9.out.one (g := pv) (fun _ => rfl) htl
                have hs := (HPP9.out _ (List.getElem_mem htl)).1
                have hf1 := flat_take ps t htl
                have hle := flat_take_le' ps (t + 1)
                rw [hf1, List.length_append] at hle
                have HFT := Lib.hid hf1
                clear hf1
                generalize ps[t] = q at *
                obtain ⟨qA, qc', ql⟩ := q
                have s1 := str_row (c := qc') hs
                have happ := str_append (flat (ps.take t)) ql
                have hss : (strOfNums (flat (ps.take t))).size + (strOfNums ql).size ≤ 9223372036854775807 := by rw [str_size, str_size]; simp only at hle; omega
                clear hs hle
                go_wp2
                go_round
                case rel => exact ⟨t + 1, by omega, by go_num, by rw [HFT.out]⟩
                case measure => simp [intOf]; omega
              · obtain rfl : t = N := by omega
                have e : ps.take t = ps := by rw [← HN.out, List.take_length]
                rw [e]
                clear e
                go_wp2
                go_ret
                exact ⟨rfl, HBW9.out⟩
end Go.Proofs.YtimlkmblfjoigaaDoor.K
