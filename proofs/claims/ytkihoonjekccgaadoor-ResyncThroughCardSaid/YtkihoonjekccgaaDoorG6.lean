/- Feed: bytes go by, frames come out. -/
import Derived.Test.YtkihoonjekccgaaDoorG5
namespace Go.Proofs.YtkihoonjekccgaaDoor.K
open Go.RowKit
set_option linter.unusedVariables false
set_option linter.unusedSimpArgs false
attribute [local go_sem ↓] Go.wp_at_zero Go.wp_at_succ
/-- A frame, and where its bytes lie. -/
abbrev Fx := Fp × Option Addr × Nat
abbrev cF : Fx → List Value := fun x => [.int .u8 x.1.addr, .int .u8 x.1.kind, .int .u8 x.1.ses, .int .u8 x.1.seq, .int .u8 x.1.ack, .slice x.2.1 x.1.B.length x.2.2]
theorem info_frame : (Tryd.prog.info? 35).map (fun i => (i.zero, i.size, i.bytes)) = some (some (.agg #[.int .u8 0, .int .u8 0, .int .u8 0, .int .u8 0, .int .u8 0, .slice none 0 0]), 6, 32) := by kernel_rfl
/-- Frames of the call's own: their row, and their bytes, each apart. -/
structure OutF (B : Nat) (v : Value) (xs : List Fx) (w : World) : Prop where
  row : w.ownsRow B 35 6 v xs.length (xs.flatMap cF)
  each : ∀ x ∈ xs, Made B x.2.1 x.2.2 x.1.B w
  apart : xs.Pairwise fun x y => ∀ a b, x.2.1 = some a → y.2.1 = some b → a.block < b.block
theorem OutF.nil (B : Nat) (w : World) : OutF B (.slice none 0 0) [] w := ⟨own_nil _ _ _ _, by simp, List.Pairwise.nil⟩
theorem OutF.fr {B : Nat} {v : Value} {xs : List Fx} {S : Nat → Prop} {w w' : World} (h : OutF B v xs w) (k : Fr S w w') (hS : ∀ j, B ≤ j → j < w.heap.size → ¬ S j) : OutF B v xs w' :=
  ⟨own_fr h.row k (fun j e => by have := h.row.lt j e; exact hS j this.1 this.2), fun p hp => by
    have h1 := h.each p hp
    exact h1.fr k (fun j e => by have := h1.1.lt j e; exact hS j this.1 this.2), h.apart⟩
theorem OutF.low {B B' : Nat} {v : Value} {xs : List Fx} {w : World} (h : OutF B v xs w) (hb : B' ≤ B) : OutF B' v xs w := ⟨own_weak h.row hb, fun x hx => (h.each x hx).low hb, h.apart⟩
/-- One more: its bytes lie behind all others. -/
theorem OutF.add {B : Nat} {v v1 : Value} {xs : List Fx} {x : Fx} {w w1 : World} (h : OutF B v xs w) (hp : Made B x.2.1 x.2.2 x.1.B w) (hlt : ∀ y ∈ xs, ∀ a b, y.2.1 = some a → x.2.1 = some b → a.block < b.block)
    (h1 : w1.ownsRow B 35 6 v1 (xs ++ [x]).length ((xs ++ [x]).flatMap cF)) (hf : Fr (fun k => v.ownBlock = some k) w w1) : OutF B v1 (xs ++ [x]) w1 :=
  ⟨h1, fun q hq => by
    rcases List.mem_append.1 hq with hq | hq
    · have a1 := h.each q hq
      exact a1.fr hf (fun j e e2 => own_ne a1.1 h.row (by decide) j e e2)
    · obtain rfl : q = x := by simpa using hq
      exact hp.fr hf (fun j e e2 => own_ne hp.1 h.row (by decide) j e e2), by
    rw [List.pairwise_append]
    exact ⟨h.apart, List.pairwise_singleton _ _, fun y hy z hz => by obtain rfl : z = x := by simpa using hz
                                                                     exact hlt y hy⟩⟩
theorem DecB.ne_turns {w : World} {g : Nat} {s : Ds} (h : DecB w g s) (hT : Turns w) : g ≠ 0 := by
  obtain ⟨⟨arr, h1, h2, h3⟩, h4, h5⟩ := h
  rintro rfl
  have e1 := (h3.cell 0).trans (dcs_n h4 (by omega))
  have e2 := hT 0 (by omega)
  rw [e1] at e2
  cases e2
theorem feed_take (l : List Int) (s : Ds) {k : Nat} (hk : k < l.length) : feedD (l.take (k + 1)) s = ((stepD (l.getD k 0) (feedD (l.take k) s).1).1, (feedD (l.take k) s).2 ++ (stepD (l.getD k 0) (feedD (l.take k) s).1).2) := by
  rw [List.take_succ_eq_append_getElem hk, feed_snoc, List.getD_eq_getElem?_getD, List.getElem?_eq_getElem hk]
  rfl
/-- What Feed makes. -/
def FeedPost (g : Nat) (s : Ds) (l : List Int) (w : World) (e : Ending) (w' : World) : Prop :=
  ∃ (v : Value) (xs : List Fx), e = .returned v ∧ Hid (OutF w.heap.size v xs w') ∧ Hid (xs.map (·.1) = (feedD l s).2) ∧ Hid (DecB w' g (feedD l s).1) ∧ Hid (Fr1 g w w')
set_option maxHeartbeats 4000000 in
set_option maxRecDepth 10000 in
theorem FeedC {w : World} {g c : Nat} {s : Ds} {A : Option Addr} {l : List Int} {K : Int} (h : DecB w g s) (hok : DsOk K s) (hK : 0 ≤ K ∧ K + l.length ≤ 4000000000000000000) (hT : Turns w) (hi : InB l) (hl : l.length ≤ 1000000000) (hR : RowOf c8 1 w w.heap.size A l) (ha : ∀ ad, A = some ad → 0 < l.length → ad.block < w.heap.size ∧ ad.block ≠ g) :
    Calls Tryd.prog 10 #[.pointer (some ⟨g, 0, none⟩), .slice A l.length c] w (FeedPost g s l w) := by
  have HD := Lib.hid h
  have HOK := Lib.hid hok
  have HKB := Lib.hid hK
  have HT := Lib.hid hT
  have HI := Lib.hid hi
  have HR := Lib.hid hR
  have HA := Lib.hid ha
  have HNT := Lib.hid (h.ne_turns hT)
  have HG := Lib.hid h.lt
  have H0 : Hid ((feedD (l.take 0) s).2 = [] ∧ (feedD (l.take 0) s).1 = s) := Lib.hid ⟨rfl, rfl⟩
  clear h hok hT hi hR ha hK
  go_enter Tryd.func10, Tryd.ntmps10
  go_wp2
  go_loopw [4, 11] (fun v i wr => ∃ (k : Nat) (xs : List Fx), i = .int .i64 k ∧ k ≤ l.length ∧ xs.length ≤ k ∧ OutF w.heap.size v xs wr ∧ xs.map (·.1) = (feedD (l.take k) s).2 ∧ DecB wr g (feedD (l.take k) s).1 ∧ Fr1 g w wr) (fun _ i _ => l.length - (intOf i).toNat)
  case atStart => exact ⟨0, [], rfl, by omega, by simp, OutF.nil _ _, H0.out.1.symm, H0.out.2.symm ▸ HD.out, Fr.refl _ _⟩
  case round =>
    obtain ⟨k, xs, rfl, hk, hxl, ho, hm, hd, hf⟩ := hrel
    have HO := Lib.hid ho
    have HM := Lib.hid hm
    have HD1 := Lib.hid hd
    have HF := Lib.hid hf
    clear ho hm hd hf
    by_cases hlt : k < l.length
    · have hft := feed_take l s hlt
      have hok := feed_ok (l.take k) HOK.out HKB.out.1 (HI.out.take_ k)
      have hrow : RowOf c8 1 wr w.heap.size A l := row_fr HR.out HF.out (fun ad e => HA.out ad e (by omega))
      obtain ⟨ad, rfl, hbd, hcell⟩ := hrow.num hlt
      have hx0 : 0 ≤ l.getD k 0 ∧ l.getD k 0 < 256 := HI.out _ (by rw [List.getD_eq_getElem?_getD, List.getElem?_eq_getElem hlt]; exact List.getElem_mem hlt)
      obtain ⟨⟨S, F⟩, hSF⟩ : ∃ SF, feedD (l.take k) s = SF := ⟨_, rfl⟩
      rw [hSF] at hft hok HM HD1
      simp only at hft hok HM HD1
      have HFT := Lib.hid hft
      have hkl := HKB.out
      have HCNT : Hid (∀ x ∈ S.n, 0 ≤ x ∧ x ≤ 4000000000000000000) := Lib.hid (fun x hx => by have := hok.cnt x hx; rw [List.length_take] at this; omega)
      have HOV := Lib.hid hok.over
      have HHI := Lib.hid hok.inB
      have hsz := HF.out.size
      clear hft hok hrow hSF hkl
      generalize l.getD k 0 = x at *
      obtain ⟨hx0, hx1⟩ := hx0
      by_cases h126 : x = 126
      · subst h126
        have HS : Hid (stepD 126 S = endD S) := Lib.hid (by simp [stepD])
        clear hx0 hx1
        have hTr := HT.out.fr HF.out (fun e => HNT.out e.symm)
        go_wp2_with fail
        refine Calls.mono (endC HD1.out HCNT.out HHI.out hTr) ?_
        rintro e w2 ⟨⟨fa, fk, fs, fq, fx, fm⟩, A7, c7, ok, rfl, h1, h2, h3, h4⟩
        clear hTr
        have h2M : Hid (Made wr.heap.size A7 c7 fm w2) := h2
        have hs2 := h4.out.size
        have HO2 := Lib.hid (HO.out.fr h4.out (fun j hj _ e => by have := HG.out; omega))
        have HF2 := Lib.hid (HF.out.trans h4.out (fun _ _ h => h))
        have HLT : Hid (∀ y ∈ xs, ∀ a b, y.2.1 = some a → A7 = some b → a.block < b.block) := Lib.hid (fun y hy a b e1 e2 => by have := made_lt (HO.out.each y hy) a e1; have := made_lt h2M.out b e2; omega)
        have HAL : Hid (Fr0 w2 (w2.alloc (.cells #[.int .u8 fa, .int .u8 fk, .int .u8 fs, .int .u8 fq, .int .u8 fx, .slice A7 fm.length c7] 35))) := Lib.hid ((Fr.refl (fun _ => False) w2).alloc _)
        cases ok with
        | false =>
          go_wp2
          go_roundw
          case rel => exact ⟨k + 1, xs, by go_num, by omega, by omega, HO2.out.fr HAL.out (fun _ _ _ h => h), by rw [HFT.out, HS.out, HM.out]; simp only; rw [h1.out]; simp, by rw [HFT.out, HS.out]; exact h3.out.fr HAL.out (fun h => h), HF2.out.trans HAL.out (fun _ _ h => h.elim)⟩
          case measure => simp [intOf]; omega
        | true =>
          have HO3 := Lib.hid (HO2.out.fr HAL.out (fun _ _ _ h => h))
          have HM3 : Hid (Made w.heap.size A7 c7 fm (w2.alloc (.cells #[.int .u8 fa, .int .u8 fk, .int .u8 fs, .int .u8 fq, .int .u8 fx, .slice A7 fm.length c7] 35))) := Lib.hid ((h2M.out.low hsz).fr HAL.out (fun _ _ h => h))
          have HD3 := Lib.hid (h3.out.fr HAL.out (fun h => h))
          have HROW := Lib.hid HO3.out.row
          have HUG : Hid (¬ u4.ownBlock = some g) := Lib.hid (fun e => by have := HO2.out.row.lt g e; have := HG.out; omega)
          have HUB : Hid (∀ j, u4.ownBlock = some j → w.heap.size ≤ j) := Lib.hid (fun j e => (HO2.out.row.lt j e).1)
          go_wp2_with (at_builtin; go_loud (refine app1 rfl _ _ _ rfl 35 (.agg #[.int .u8 0, .int .u8 0, .int .u8 0, .int .u8 0, .int .u8 0, .slice none 0 0]) 6 32 Tryd.underlying31 info_frame rfl (by omega) (by omega) w.heap.size u4 xs.length (xs.flatMap cF) [.int .u8 fa, .int .u8 fk, .int .u8 fs, .int .u8 fq, .int .u8 fx, .slice A7 fm.length c7] rfl (by show Value.slice (some ⟨w2.heap.size + 1, 0, none⟩) 1 1 = _; simp) rfl (fun u hu => by simp only [List.mem_cons, List.not_mem_nil, or_false] at hu; rcases hu with rfl | rfl | rfl | rfl | rfl | rfl <;> rfl) HROW.out (by simp <;> omega) (by omega) ?_; intro v3 w3 h3' h4' h5'; have HO4 : Hid (OutF w.heap.size v3 (xs ++ [(⟨fa, fk, fs, fq, fx, fm⟩, A7, c7)]) w3) := Lib.hid (HO3.out.add (x := (⟨fa, fk, fs, fq, fx, fm⟩, A7, c7)) HM3.out HLT.out (by rw [List.length_append, List.flatMap_append]; exact h3') h4'); have HF4 := Lib.hid h4'; clear h3' h4' h5'))
          go_roundw
          case rel => exact ⟨k + 1, xs ++ [(⟨fa, fk, fs, fq, fx, fm⟩, A7, c7)], by go_num, by omega, by simp; omega, HO4.out, by rw [HFT.out, HS.out, List.map_append, HM.out]; simp only; rw [h1.out]; simp, by rw [HFT.out, HS.out]; exact HD3.out.fr HF4.out HUG.out, (HF2.out.trans HAL.out (fun _ _ h => h.elim)).trans HF4.out (fun j hj e => by have := HUB.out j e; omega)⟩
          case measure => simp [intOf]; omega
      · have HS : Hid (stepD x S = (takeD x S, [])) := Lib.hid (by simp [stepD, h126])
        have e1 : (x == 126) = false := by simpa using h126
        have e2 : (x != 126) = true := by simpa using h126
        clear h126
        go_wp2_with fail
        refine Calls.mono (takeC HD1.out HCNT.out HOV.out) ?_
        rintro e w2 ⟨rfl, h1, h2⟩
        go_wp2
        go_roundw
        case rel => exact ⟨k + 1, xs, by go_num, by omega, by omega, HO.out.fr h2.out (fun j hj _ e => by have := HG.out; omega), by rw [HFT.out, HS.out, HM.out, List.append_nil], by rw [HFT.out, HS.out]; exact h1.out, HF.out.trans h2.out (fun _ _ h => h)⟩
        case measure => simp [intOf]; omega
    · obtain rfl : k = l.length := by omega
      rw [List.take_length] at HM HD1
      go_wp2
      go_ret
      exact ⟨_, xs, rfl, HO, HM, HD1, HF⟩
end Go.Proofs.YtkihoonjekccgaaDoor.K
