/- The walk of ResyncApart. -/
import Derived.Test.YtkihoonjekccgaaDoorG9
import Derived.Deep.DrawnRows
import Derived.Deep.RegionHeld3
namespace Go.Proofs.YtkihoonjekccgaaDoor.K
open Go.RowKit
set_option linter.unusedVariables false
set_option linter.unusedSimpArgs false
attribute [local go_sem] min2_min min_two
attribute [local go_sem ↓] Go.wp_at_zero Go.wp_at_succ
abbrev cB : Bool → List Value := fun x => [.bool x]
theorem feed_few : ∀ (l : List Int) (s : Ds), (feedD l s).2.length ≤ l.length := by
  intro l
  induction l with
  | nil => intro s; simp [feedD]
  | cons c l ih =>
    intro s
    have h := ih (stepD c s).1
    have h1 : (stepD c s).2.length ≤ 1 := by
      unfold stepD endD
      split
      · split
        · simp
        · split <;> simp
      · simp
    simp only [feedD, List.length_append, List.length_cons]
    omega
set_option maxHeartbeats 4000000 in
set_option maxRecDepth 20000 in
theorem rapart_walk (P : Option Addr) (pc : Nat) (qs : List Part) (Q : Option Addr) (qc : Nat) (bs : List Bool) (w : World) (hT : Turns w) (hin : In2 w.heap.size P qs w) (hq : qs.length ≤ 9223372036854775807) (hB : RowOf cB 1 w w.heap.size Q bs) (hb : bs.length ≤ 9223372036854775807) :
    Calls Tryd.prog 8 #[.slice P qs.length pc, .slice Q bs.length qc] w fun e w' => e = .returned (.bool true) ∧ Below w.heap.size w w' := by
  have HTB : Hid (∀ w' : World, Below w.heap.size w w' → Turns w') := Lib.hid (fun w' b => hT.below b hT.lt)
  have HT := Lib.hid hT
  have HIN := Lib.hid hin
  have HBR := Lib.hid hB
  clear hT hin hB
  go_enter Tryd.func8, Tryd.ntmps8
  go_wp2_with fail
  refine Calls.mono (shown5_walk HT.out) ?_
  rintro e w1 ⟨rfl, H1⟩
  have hs1 := H1.out.size
  go_wp2
  obtain ⟨W3, hW3⟩ : ∃ W3, ((w1.alloc (.cells Tryd.zeroCells30 30)).alloc (.cells Tryd.zeroCells30 30)).alloc (.cells Tryd.zeroCells30 30) = W3 := ⟨_, rfl⟩
  have F3 : Hid (Fr0 w1 W3) := Lib.hid (hW3 ▸ (((Fr.refl (fun _ => False) w1).alloc _).alloc _).alloc _)
  have HX3 : Hid (DecB W3 w1.heap.size d0) := Lib.hid (hW3 ▸ ((dec_zero w1).fr (((Fr.refl (fun _ => False) _).alloc _).alloc _) (fun h => h)))
  have HY3 : Hid (DecB W3 (w1.heap.size + 1) d0) := Lib.hid (by
    have := (dec_zero (w1.alloc (.cells Tryd.zeroCells30 30))).fr ((Fr.refl (fun _ => False) _).alloc (.cells Tryd.zeroCells30 30)) (fun h => h)
    rw [hW3] at this
    simpa using this)
  have HZ3 : Hid (DecB W3 (w1.heap.size + 1 + 1) d0) := Lib.hid (by
    have := dec_zero ((w1.alloc (.cells Tryd.zeroCells30 30)).alloc (.cells Tryd.zeroCells30 30))
    rw [hW3] at this
    simpa using this)
  have hs3 : W3.heap.size = w1.heap.size + 3 := by rw [← hW3]; simp
  have B3 := Lib.hid (fr0_below H1.out F3.out (Nat.le_refl _))
  obtain ⟨g1, hg1⟩ : ∃ g, w1.heap.size = g := ⟨_, rfl⟩
  obtain ⟨g2, hg2⟩ : ∃ g, w1.heap.size + 1 = g := ⟨_, rfl⟩
  obtain ⟨g3, hg3⟩ : ∃ g, w1.heap.size + 1 + 1 = g := ⟨_, rfl⟩
  rw [hW3]
  rw [hg3] at HZ3 ⊢
  rw [hg2] at HY3 ⊢
  rw [hg1] at HX3 ⊢
  have hw1 : w.heap.size ≤ g1 := by omega
  have hw2 : g1 < g2 := by omega
  have hw3 : g2 < g3 := by omega
  have hw4 : g3 < W3.heap.size := by omega
  clear hW3 hg1 hg2 hg3 hs3 hs1 H1 F3
  go_loopw [9] (fun i wr => ∃ (k : Nat) (SA SB : Ds), i = .int .i64 k ∧ k ≤ qs.length ∧ k ≤ 20 ∧ DecB wr g1 SA ∧ DecB wr g2 SB ∧ DecB wr g3 SA ∧ DsOk (100 * k) SA ∧ DsOk (100 * k) SB ∧ Fr (fun j => j = g1 ∨ j = g2 ∨ j = g3) W3 wr) (fun i _ => qs.length - (intOf i).toNat)
  case atStart => exact ⟨0, d0, d0, rfl, by omega, by omega, HX3.out, HY3.out, HZ3.out, d0_ok, d0_ok, Fr.refl _ _⟩
  case round =>
    obtain ⟨k, SA, SB, rfl, hk, hk5, hda, hdb, hdc, hoa, hob, hf⟩ := hrel
    have HDA := Lib.hid hda
    have HDB := Lib.hid hdb
    have HDC := Lib.hid hdc
    have HOA := Lib.hid hoa
    have HOB := Lib.hid hob
    have HF := Lib.hid hf
    have hsz := hf.size
    clear hda hdb hdc hoa hob hf
    have HB := Lib.hid (below_fr B3.out HF.out B3.out.size (fun j e => by omega))
    obtain ⟨wt, hwt⟩ : ∃ wt : World, wt = wr := ⟨_, rfl⟩
    subst hwt
    by_cases hgo : k < qs.length ∧ k < 20
    · obtain ⟨hlt, h5⟩ := hgo
      have hi := HIN.out.below HB.out
      obtain ⟨ad, rfl, hbd, hcell⟩ := hi.row.one (g := fun p => .slice p.1 p.2.2.length p.2.1) (fun _ => rfl) hlt
      obtain ⟨e1, e2, e3, e4⟩ := hi.each qs[k] (List.getElem_mem hlt)
      clear hi
      generalize qs[k] = q at *
      obtain ⟨qA, qc', ql⟩ := q
      simp only at hcell e1 e2 e3 e4
      obtain ⟨n, hn, hn1, hn2⟩ := min_nat ql.length 100
      have hcut := fun W => bcut_hi qA ql.length qc' n (by omega) W
      have hmin : min (ql.length : Int) 100 = (n : Int) := hn
      obtain ⟨l, hl⟩ : ∃ l, l = ql.take n := ⟨_, rfl⟩
      have HLN : Hid (l.length = n) := Lib.hid (by rw [hl, List.length_take]; omega)
      have HR := Lib.hid (hl ▸ e1.take_ n : RowOf c8 1 wt w.heap.size qA l)
      have HI := Lib.hid (hl ▸ e2.take_ n : InB l)
      have i1 : (0 : Int) ≤ (k : Int) := by omega
      have i2 : (k : Int) < (qs.length : Int) := by omega
      have i3 : n ≤ qc' := by omega
      clear hl hn e1 e2 e3
      go_wp2_with fail
      go_region
      have HDA' := Lib.hid HDA.out.drew
      have HDB' := Lib.hid HDB.out.drew
      have HDC' := Lib.hid HDC.out.drew
      have HF' := Lib.hid HF.out.drew
      have HBd := Lib.hid HB.out.drew
      have HR' := Lib.hid (HR.out.below ((Below.refl w.heap.size wt).drew))
      have hsd : wt.drew.heap.size = wt.heap.size := rfl
      have hbr := HBR.out.below HB.out
      have hgd : k < bs.length → ∃ adb, Q = some adb ∧ wt.cell? (adb.add k) = some (.bool (bs.getD k false)) := fun h => by
        obtain ⟨adb, e1, _, e2⟩ := hbr.one (g := fun x => .bool x) (fun _ => rfl) h
        refine ⟨adb, e1, ?_⟩
        rw [e2, List.getD_eq_getElem?_getD, List.getElem?_eq_getElem h]; rfl
      clear hbr HDA HDB HDC HF HR HB hcell hcut hmin
      rcases (by cases bs.getD k false <;> simp <;> omega : (k < bs.length ∧ bs.getD k false = true) ∨ (k < bs.length ∧ bs.getD k false = false) ∨ ¬ k < bs.length) with ⟨hkb, hv⟩ | h
      · obtain ⟨adb, rfl, hcb⟩ := hgd hkb
        rw [hv] at hcb
        clear hgd hv
        obtain ⟨⟨SB', FB⟩, hFB⟩ : ∃ SF, feedD l SB = SF := ⟨_, rfl⟩
        obtain ⟨m, hm⟩ : ∃ m, FB.length = m := ⟨_, rfl⟩
        have HFB := Lib.hid hFB
        have HM := Lib.hid hm
        have hok := feed_ok l HOB.out (by omega) HI.out
        rw [hFB] at hok
        have HOB' := Lib.hid hok
        clear hFB hm hok
        go_wp2_with fail
        refine Calls.mono (FeedB (w := wt.drew) (K := 2000) HLN.out HFB.out HM.out HDB'.out (HOB.out.mono (by omega)) (by decide) (HTB.out _ HBd.out) HI.out (by omega) HR'.out (by omega)) ?_
        rintro e w5 ⟨A5, c5, xs5, rfl, O5, X5, G5, F5⟩
        have HA5 := Lib.hid (HDA'.out.fr F5.out (by omega))
        have HC5 := Lib.hid (HDC'.out.fr F5.out (by omega))
        have HF5 := Lib.hid (HF'.out.trans F5.out (fun j hj e => .inr (.inl e)))
        have HOB5 := Lib.hid (HOB'.out.mono (k' := 100 * ((k + 1 : Nat) : Int)) (by have := HLN.out; omega))
        have HOA5 := Lib.hid (HOA.out.mono (k' := 100 * ((k + 1 : Nat) : Int)) (by omega))
        clear O5 X5 F5 hcb
        go_wp2
        go_roundw
        case rel => exact ⟨k + 1, SA, SB', by go_num, by omega, by omega, HA5.out, G5.out, HC5.out, HOA5.out, HOB5.out, HF5.out⟩
        case measure => simp [intOf]; omega
      · have hcb : k < bs.length → ∃ adb, Q = some adb ∧ wt.cell? (adb.add k) = some (.bool false) := fun hk => by
          rcases h with ⟨_, h⟩ | h
          · obtain ⟨adb, e1, e2⟩ := hgd hk; rw [h] at e2; exact ⟨adb, e1, e2⟩
          · exact (h hk).elim
        clear hgd h
        obtain ⟨⟨SA', FA⟩, hFA⟩ : ∃ SF, feedD l SA = SF := ⟨_, rfl⟩
        obtain ⟨m, hm⟩ : ∃ m, FA.length = m := ⟨_, rfl⟩
        have HFA := Lib.hid hFA
        have HM := Lib.hid hm
        have hok := feed_ok l HOA.out (by omega) HI.out
        rw [hFA] at hok
        have HOA' := Lib.hid hok
        have hmn : m ≤ n := by
          have := feed_few l SA
          rw [hFA, HLN.out] at this
          simp only at this
          omega
        have HOB5 := Lib.hid (HOB.out.mono (k' := 100 * ((k + 1 : Nat) : Int)) (by omega))
        have HOA5 := Lib.hid (HOA'.out.mono (k' := 100 * ((k + 1 : Nat) : Int)) (by have := HLN.out; omega))
        clear hFA hm hok
        by_cases hkb : k < bs.length
        · obtain ⟨adb, rfl, hcb⟩ := hcb hkb
          go_wp2_with fail
          refine Calls.mono (FeedB (w := wt.drew) (K := 2000) HLN.out HFA.out HM.out HDA'.out (HOA.out.mono (by omega)) (by decide) (HTB.out _ HBd.out) HI.out (by omega) HR'.out (by omega)) ?_
          rintro e w5 ⟨A5, c5, xs5, rfl, O5, X5, G5, F5⟩
          have hs5 := F5.out.size
          have HB5 := Lib.hid (HDB'.out.fr F5.out (by omega))
          have HC5 := Lib.hid (HDC'.out.fr F5.out (by omega))
          have HF5 := Lib.hid (HF'.out.trans F5.out (fun j hj e => .inl e))
          have HW5 := Lib.hid (fr1_below HBd.out F5.out (by omega) (Nat.le_refl _))
          have HR5 := Lib.hid (HR'.out.below (F5.out.below (fun j _ e => by omega) (by omega) : Below w.heap.size wt.drew w5))
          clear hcb
          go_wp2_with fail
          refine Calls.mono (FeedB (w := w5) (K := 2000) HLN.out HFA.out HM.out HC5.out (HOA.out.mono (by omega)) (by decide) (HTB.out _ HW5.out) HI.out (by omega) HR5.out (by omega)) ?_
          rintro e w6 ⟨A6, c6, xs6, rfl, O6, X6, G6, F6⟩
          have hs6 := F6.out.size
          have HA6 := Lib.hid (G5.out.fr F6.out (by omega))
          have HB6 := Lib.hid (HB5.out.fr F6.out (by omega))
          have HF6 := Lib.hid (HF5.out.trans F6.out (fun j hj e => .inr (.inr e)))
          have O5' := Lib.hid (O5.out.fr F6.out (fun j hj _ e => by omega))
          clear O5 F5 F6 G5 HB5 HC5 HF5 HW5 HR5
          go_wp2
          go_loopw [13] (fun i wr => ∃ (j : Nat), i = .int .i64 j ∧ j ≤ m ∧ Below w6.heap.size w6 wr) (fun i _ => m - (intOf i).toNat)
          case atStart => exact ⟨0, rfl, by omega, Below.refl _ _⟩
          case round =>
            obtain ⟨j, rfl, hj, hb⟩ := hrel
            have HBW := Lib.hid hb
            have hsw := hb.size
            clear hb
            by_cases hgo2 : j < m
            · have hjm : j < FA.length := by rw [HM.out]; exact hgo2
              obtain ⟨ad1, B1, b1, rfl, ha1, k1, M1⟩ := out_at O5'.out X5.out hjm
              obtain ⟨ad2, B2, b2, rfl, ha2, k2, M2⟩ := out_at O6.out X6.out hjm
              obtain ⟨⟨fa, fk, fs, fq, fx, fm⟩, hf⟩ : ∃ f, FA.getD j fr0 = f := ⟨_, rfl⟩
              rw [hf] at k1 k2 M1 M2
              obtain ⟨nb, hnb⟩ : ∃ nb, fm.length = nb := ⟨_, rfl⟩
              have HNB := Lib.hid hnb
              have r1 : Hid (∀ w', Below wr.heap.size wr w' → RowOf c8 1 w' w'.heap.size B1 fm) := Lib.hid (fun w' b => M1.2.1.now (HBW.out.trans (b.mono hsw)))
              have r2 : Hid (∀ w', Below wr.heap.size wr w' → RowOf c8 1 w' w'.heap.size B2 fm) := Lib.hid (fun w' b => M2.2.1.now (HBW.out.trans (b.mono hsw)))
              have sNew : Hid (∀ w', Below wr.heap.size wr w' → (Below wr.heap.size wr w' ∧ (w'.cell? (ad1.add (j * 6)) = some (.int .u8 fa) ∧ w'.cell? ⟨(ad1.add (j * 6)).block, (ad1.add (j * 6)).off + 1, none⟩ = some (.int .u8 fk) ∧ w'.cell? ⟨(ad1.add (j * 6)).block, (ad1.add (j * 6)).off + 2, none⟩ = some (.int .u8 fs) ∧ w'.cell? ⟨(ad1.add (j * 6)).block, (ad1.add (j * 6)).off + 3, none⟩ = some (.int .u8 fq) ∧ w'.cell? ⟨(ad1.add (j * 6)).block, (ad1.add (j * 6)).off + 4, none⟩ = some (.int .u8 fx) ∧ w'.cell? ⟨(ad1.add (j * 6)).block, (ad1.add (j * 6)).off + 5, none⟩ = some (.slice B1 nb b1)) ∧ (w'.cell? (ad2.add (j * 6)) = some (.int .u8 fa) ∧ w'.cell? ⟨(ad2.add (j * 6)).block, (ad2.add (j * 6)).off + 1, none⟩ = some (.int .u8 fk) ∧ w'.cell? ⟨(ad2.add (j * 6)).block, (ad2.add (j * 6)).off + 2, none⟩ = some (.int .u8 fs) ∧ w'.cell? ⟨(ad2.add (j * 6)).block, (ad2.add (j * 6)).off + 3, none⟩ = some (.int .u8 fq) ∧ w'.cell? ⟨(ad2.add (j * 6)).block, (ad2.add (j * 6)).off + 4, none⟩ = some (.int .u8 fx) ∧ w'.cell? ⟨(ad2.add (j * 6)).block, (ad2.add (j * 6)).off + 5, none⟩ = some (.slice B2 nb b2)))) := Lib.hid (fun w' b => by
                have e1 := k1.below (HBW.out.trans (b.mono hsw)) ha1
                have e2 := k2.below (HBW.out.trans (b.mono hsw)) ha2
                subst hnb
                exact ⟨b, e1, e2⟩)
              have eN := neqF fa fk fs fq fx (strOfNums fm)
              have bb : Hid (Below wr.heap.size wr wr.drew) := Lib.hid (Below.refl _ wr).drew
              clear k1 k2 M1 M2 hf hnb ha1 ha2 hjm
              go_wp2_with fail
              go_region_held3 (fun w' => Below wr.heap.size wr w' ∧ (w'.cell? (ad1.add (j * 6)) = some (.int .u8 fa) ∧ w'.cell? ⟨(ad1.add (j * 6)).block, (ad1.add (j * 6)).off + 1, none⟩ = some (.int .u8 fk) ∧ w'.cell? ⟨(ad1.add (j * 6)).block, (ad1.add (j * 6)).off + 2, none⟩ = some (.int .u8 fs) ∧ w'.cell? ⟨(ad1.add (j * 6)).block, (ad1.add (j * 6)).off + 3, none⟩ = some (.int .u8 fq) ∧ w'.cell? ⟨(ad1.add (j * 6)).block, (ad1.add (j * 6)).off + 4, none⟩ = some (.int .u8 fx) ∧ w'.cell? ⟨(ad1.add (j * 6)).block, (ad1.add (j * 6)).off + 5, none⟩ = some (.slice B1 nb b1)) ∧ (w'.cell? (ad2.add (j * 6)) = some (.int .u8 fa) ∧ w'.cell? ⟨(ad2.add (j * 6)).block, (ad2.add (j * 6)).off + 1, none⟩ = some (.int .u8 fk) ∧ w'.cell? ⟨(ad2.add (j * 6)).block, (ad2.add (j * 6)).off + 2, none⟩ = some (.int .u8 fs) ∧ w'.cell? ⟨(ad2.add (j * 6)).block, (ad2.add (j * 6)).off + 3, none⟩ = some (.int .u8 fq) ∧ w'.cell? ⟨(ad2.add (j * 6)).block, (ad2.add (j * 6)).off + 4, none⟩ = some (.int .u8 fx) ∧ w'.cell? ⟨(ad2.add (j * 6)).block, (ad2.add (j * 6)).off + 5, none⟩ = some (.slice B2 nb b2))) (exact sNew.out _ bb.out) ((go_at_call 15; refine Calls.mono (OfC HNB.out _ (by first | exact r1.out _ (And.left (by assumption)) | exact r2.out _ (And.left (by assumption)))) ?_; rintro ee wq ⟨rfl, D⟩; have bo : Below wr.heap.size wr _ := And.left (by assumption); have bb : Hid (Below wr.heap.size wr wq) := Lib.hid (bo.trans (D.out.mono bo.size)); clear bo D))
              have HBQ := Lib.hid (HBW.out.trans (bb.out.mono hsw))
              rename_i hq
              clear hq
              go_wp2
              go_roundw
              case rel => exact ⟨j + 1, by go_num, by omega, HBQ.out⟩
              case measure => simp [intOf]; omega
            · have HA7 := Lib.hid (HA6.out.fr (Fr.of_below HBW.out) (fun h => h))
              have HB7 := Lib.hid (HB6.out.fr (Fr.of_below HBW.out) (fun h => h))
              have HC7 := Lib.hid (G6.out.fr (Fr.of_below HBW.out) (fun h => h))
              have HF7 := Lib.hid (HF6.out.trans (Fr.of_below HBW.out) (fun _ _ h => h.elim))
              obtain rfl : j = m := by omega
              clear HBW O5' O6 X5 X6
              go_wp2
              go_roundw
              case rel => exact ⟨k + 1, SA', SB, by go_num, by omega, by omega, HA7.out, HB7.out, HC7.out, HOA5.out, HOB5.out, HF7.out⟩
              case measure => simp [intOf]; omega
        · clear hcb
          go_wp2_with fail
          refine Calls.mono (FeedB (w := wt.drew) (K := 2000) HLN.out HFA.out HM.out HDA'.out (HOA.out.mono (by omega)) (by decide) (HTB.out _ HBd.out) HI.out (by omega) HR'.out (by omega)) ?_
          rintro e w5 ⟨A5, c5, xs5, rfl, O5, X5, G5, F5⟩
          have hs5 := F5.out.size
          have HB5 := Lib.hid (HDB'.out.fr F5.out (by omega))
          have HC5 := Lib.hid (HDC'.out.fr F5.out (by omega))
          have HF5 := Lib.hid (HF'.out.trans F5.out (fun j hj e => .inl e))
          have HW5 := Lib.hid (fr1_below HBd.out F5.out (by omega) (Nat.le_refl _))
          have HR5 := Lib.hid (HR'.out.below (F5.out.below (fun j _ e => by omega) (by omega) : Below w.heap.size wt.drew w5))
          go_wp2_with fail
          refine Calls.mono (FeedB (w := w5) (K := 2000) HLN.out HFA.out HM.out HC5.out (HOA.out.mono (by omega)) (by decide) (HTB.out _ HW5.out) HI.out (by omega) HR5.out (by omega)) ?_
          rintro e w6 ⟨A6, c6, xs6, rfl, O6, X6, G6, F6⟩
          have hs6 := F6.out.size
          have HA6 := Lib.hid (G5.out.fr F6.out (by omega))
          have HB6 := Lib.hid (HB5.out.fr F6.out (by omega))
          have HF6 := Lib.hid (HF5.out.trans F6.out (fun j hj e => .inr (.inr e)))
          have O5' := Lib.hid (O5.out.fr F6.out (fun j hj _ e => by omega))
          clear O5 F5 F6 G5 HB5 HC5 HF5 HW5 HR5
          go_wp2
          go_loopw [13] (fun i wr => ∃ (j : Nat), i = .int .i64 j ∧ j ≤ m ∧ Below w6.heap.size w6 wr) (fun i _ => m - (intOf i).toNat)
          case atStart => exact ⟨0, rfl, by omega, Below.refl _ _⟩
          case round =>
            obtain ⟨j, rfl, hj, hb⟩ := hrel
            have HBW := Lib.hid hb
            have hsw := hb.size
            clear hb
            by_cases hgo2 : j < m
            · have hjm : j < FA.length := by rw [HM.out]; exact hgo2
              obtain ⟨ad1, B1, b1, rfl, ha1, k1, M1⟩ := out_at O5'.out X5.out hjm
              obtain ⟨ad2, B2, b2, rfl, ha2, k2, M2⟩ := out_at O6.out X6.out hjm
              obtain ⟨⟨fa, fk, fs, fq, fx, fm⟩, hf⟩ : ∃ f, FA.getD j fr0 = f := ⟨_, rfl⟩
              rw [hf] at k1 k2 M1 M2
              obtain ⟨nb, hnb⟩ : ∃ nb, fm.length = nb := ⟨_, rfl⟩
              have HNB := Lib.hid hnb
              have r1 : Hid (∀ w', Below wr.heap.size wr w' → RowOf c8 1 w' w'.heap.size B1 fm) := Lib.hid (fun w' b => M1.2.1.now (HBW.out.trans (b.mono hsw)))
              have r2 : Hid (∀ w', Below wr.heap.size wr w' → RowOf c8 1 w' w'.heap.size B2 fm) := Lib.hid (fun w' b => M2.2.1.now (HBW.out.trans (b.mono hsw)))
              have sNew : Hid (∀ w', Below wr.heap.size wr w' → (Below wr.heap.size wr w' ∧ (w'.cell? (ad1.add (j * 6)) = some (.int .u8 fa) ∧ w'.cell? ⟨(ad1.add (j * 6)).block, (ad1.add (j * 6)).off + 1, none⟩ = some (.int .u8 fk) ∧ w'.cell? ⟨(ad1.add (j * 6)).block, (ad1.add (j * 6)).off + 2, none⟩ = some (.int .u8 fs) ∧ w'.cell? ⟨(ad1.add (j * 6)).block, (ad1.add (j * 6)).off + 3, none⟩ = some (.int .u8 fq) ∧ w'.cell? ⟨(ad1.add (j * 6)).block, (ad1.add (j * 6)).off + 4, none⟩ = some (.int .u8 fx) ∧ w'.cell? ⟨(ad1.add (j * 6)).block, (ad1.add (j * 6)).off + 5, none⟩ = some (.slice B1 nb b1)) ∧ (w'.cell? (ad2.add (j * 6)) = some (.int .u8 fa) ∧ w'.cell? ⟨(ad2.add (j * 6)).block, (ad2.add (j * 6)).off + 1, none⟩ = some (.int .u8 fk) ∧ w'.cell? ⟨(ad2.add (j * 6)).block, (ad2.add (j * 6)).off + 2, none⟩ = some (.int .u8 fs) ∧ w'.cell? ⟨(ad2.add (j * 6)).block, (ad2.add (j * 6)).off + 3, none⟩ = some (.int .u8 fq) ∧ w'.cell? ⟨(ad2.add (j * 6)).block, (ad2.add (j * 6)).off + 4, none⟩ = some (.int .u8 fx) ∧ w'.cell? ⟨(ad2.add (j * 6)).block, (ad2.add (j * 6)).off + 5, none⟩ = some (.slice B2 nb b2)))) := Lib.hid (fun w' b => by
                have e1 := k1.below (HBW.out.trans (b.mono hsw)) ha1
                have e2 := k2.below (HBW.out.trans (b.mono hsw)) ha2
                subst hnb
                exact ⟨b, e1, e2⟩)
              have eN := neqF fa fk fs fq fx (strOfNums fm)
              have bb : Hid (Below wr.heap.size wr wr.drew) := Lib.hid (Below.refl _ wr).drew
              clear k1 k2 M1 M2 hf hnb ha1 ha2 hjm
              go_wp2_with fail
              go_region_held3 (fun w' => Below wr.heap.size wr w' ∧ (w'.cell? (ad1.add (j * 6)) = some (.int .u8 fa) ∧ w'.cell? ⟨(ad1.add (j * 6)).block, (ad1.add (j * 6)).off + 1, none⟩ = some (.int .u8 fk) ∧ w'.cell? ⟨(ad1.add (j * 6)).block, (ad1.add (j * 6)).off + 2, none⟩ = some (.int .u8 fs) ∧ w'.cell? ⟨(ad1.add (j * 6)).block, (ad1.add (j * 6)).off + 3, none⟩ = some (.int .u8 fq) ∧ w'.cell? ⟨(ad1.add (j * 6)).block, (ad1.add (j * 6)).off + 4, none⟩ = some (.int .u8 fx) ∧ w'.cell? ⟨(ad1.add (j * 6)).block, (ad1.add (j * 6)).off + 5, none⟩ = some (.slice B1 nb b1)) ∧ (w'.cell? (ad2.add (j * 6)) = some (.int .u8 fa) ∧ w'.cell? ⟨(ad2.add (j * 6)).block, (ad2.add (j * 6)).off + 1, none⟩ = some (.int .u8 fk) ∧ w'.cell? ⟨(ad2.add (j * 6)).block, (ad2.add (j * 6)).off + 2, none⟩ = some (.int .u8 fs) ∧ w'.cell? ⟨(ad2.add (j * 6)).block, (ad2.add (j * 6)).off + 3, none⟩ = some (.int .u8 fq) ∧ w'.cell? ⟨(ad2.add (j * 6)).block, (ad2.add (j * 6)).off + 4, none⟩ = some (.int .u8 fx) ∧ w'.cell? ⟨(ad2.add (j * 6)).block, (ad2.add (j * 6)).off + 5, none⟩ = some (.slice B2 nb b2))) (exact sNew.out _ bb.out) ((go_at_call 15; refine Calls.mono (OfC HNB.out _ (by first | exact r1.out _ (And.left (by assumption)) | exact r2.out _ (And.left (by assumption)))) ?_; rintro ee wq ⟨rfl, D⟩; have bo : Below wr.heap.size wr _ := And.left (by assumption); have bb : Hid (Below wr.heap.size wr wq) := Lib.hid (bo.trans (D.out.mono bo.size)); clear bo D))
              have HBQ := Lib.hid (HBW.out.trans (bb.out.mono hsw))
              rename_i hq
              clear hq
              go_wp2
              go_roundw
              case rel => exact ⟨j + 1, by go_num, by omega, HBQ.out⟩
              case measure => simp [intOf]; omega
            · have HA7 := Lib.hid (HA6.out.fr (Fr.of_below HBW.out) (fun h => h))
              have HB7 := Lib.hid (HB6.out.fr (Fr.of_below HBW.out) (fun h => h))
              have HC7 := Lib.hid (G6.out.fr (Fr.of_below HBW.out) (fun h => h))
              have HF7 := Lib.hid (HF6.out.trans (Fr.of_below HBW.out) (fun _ _ h => h.elim))
              obtain rfl : j = m := by omega
              clear HBW O5' O6 X5 X6
              go_wp2
              go_roundw
              case rel => exact ⟨k + 1, SA', SB, by go_num, by omega, by omega, HA7.out, HB7.out, HC7.out, HOA5.out, HOB5.out, HF7.out⟩
              case measure => simp [intOf]; omega
    · rcases (by omega : (¬ k < qs.length) ∨ (k < qs.length ∧ ¬ k < 20)) with hlt | ⟨hlt, h5⟩
      all_goals
        obtain ⟨Sn, Sh, So⟩ := SA
        obtain ⟨b0, b1, b2, b3, b4, b5, b6, b7, b8, b9, b10, b11, rfl⟩ := twelve HDA.out.len
        obtain ⟨hl, hhl⟩ : ∃ hl, Sh.length = hl := ⟨_, rfl⟩
        have HHL : Hid ((⟨[b0, b1, b2, b3, b4, b5, b6, b7, b8, b9, b10, b11], Sh, So⟩ : Ds).held.length = hl) := Lib.hid hhl
        have d1 : Hid (∀ w', Below wt.heap.size wt w' → DecB w' g1 ⟨[b0, b1, b2, b3, b4, b5, b6, b7, b8, b9, b10, b11], Sh, So⟩) := Lib.hid (fun w' b => HDA.out.fr (Fr.of_below b) (fun h => h))
        have d3 : Hid (∀ w', Below wt.heap.size wt w' → DecB w' g3 ⟨[b0, b1, b2, b3, b4, b5, b6, b7, b8, b9, b10, b11], Sh, So⟩) := Lib.hid (fun w' b => HDC.out.fr (Fr.of_below b) (fun h => h))
        have eN := eqlN b0 b1 b2 b3 b4 b5 b6 b7 b8 b9 b10 b11
        have bb : Hid (Below wt.heap.size wt wt.drew) := Lib.hid (Below.refl _ wt).drew
        clear hhl
        go_wp2_with fail
        go_region_held3 (fun w' => Below wt.heap.size wt w' ∧ True) (exact ⟨bb.out, trivial⟩) ((first
          | (go_at_call 13; refine Calls.mono (errC (by first | exact d1.out _ (And.left (by assumption)) | exact d3.out _ (And.left (by assumption)))) ?_; rintro ee wq ⟨rfl, D⟩; have bo : Below wt.heap.size wt _ := And.left (by assumption); have bb : Hid (Below wt.heap.size wt wq) := Lib.hid (bo.trans (D.out.mono bo.size)); clear bo D)
          | (go_at_call 14; refine Calls.mono (heldE (by first | exact d1.out _ (And.left (by assumption)) | exact d3.out _ (And.left (by assumption))) HHL.out) ?_; rintro ee wq ⟨rfl, rfl⟩)))
        have HBQ := Lib.hid (HB.out.trans (bb.out.mono HB.out.size))
        go_wp2
        go_ret
        exact ⟨rfl, HBQ.out⟩
end Go.Proofs.YtkihoonjekccgaaDoor.K
