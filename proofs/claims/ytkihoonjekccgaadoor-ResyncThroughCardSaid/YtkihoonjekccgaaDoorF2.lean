/- Frames: the inner bytes, and Encode. -/
import Derived.Test.YtkihoonjekccgaaDoorF1
namespace Go.Proofs.YtkihoonjekccgaaDoor.K
open Go.RowKit
set_option linter.unusedVariables false
set_option linter.unusedSimpArgs false
attribute [local go_sem ↓] Go.wp_at_zero Go.wp_at_succ
theorem StuffM {A : Option Addr} {c n : Nat} {l : List Int} (hn : l.length = n) (hl : n ≤ 70000000000000) (w : World) (h : RowOf c8 1 w w.heap.size A l) :
    Calls Tryd.prog 24 #[.slice A n c] w fun e w' => ∃ A' c', e = .returned (.slice A' (stf l).length c') ∧ Hid (Made w.heap.size A' c' (stf l) w') ∧ Hid (Below w.heap.size w w') := by
  subst hn
  refine (Stuff_any A c l hl w h).mono ?_
  rintro e w' ⟨v, rfl, ho, hb⟩
  obtain ⟨A2, c2, rfl, hm⟩ := made_of ho
  exact ⟨A2, c2, rfl, Lib.hid hm, Lib.hid hb⟩
theorem UnstuffM {A : Option Addr} {c n : Nat} {l z : List Int} {f : Int} (hn : l.length = n) (hl : n ≤ 70000000000000) (hu : unst false l [] = (z, f)) (w : World) (h : RowOf c8 1 w w.heap.size A l) :
    Calls Tryd.prog 26 #[.slice A n c] w fun e w' => ∃ A' c', e = .returned (.tuple #[.slice A' z.length c', .int .i64 f]) ∧ Hid (Made w.heap.size A' c' z w') ∧ Hid (Below w.heap.size w w') := by
  subst hn
  refine (Unstuff_any A c l hl w h).mono ?_
  rintro e w' ⟨v, rfl, ho, hb⟩
  rw [hu] at ho ⊢
  obtain ⟨A2, c2, rfl, hm⟩ := made_of ho
  exact ⟨A2, c2, rfl, Lib.hid hm, Lib.hid hb⟩
theorem Same.fr0 {w w1 : World} (h : Same w w1) : Fr0 w w1 := ⟨h.os, h.tape, h.output, by rw [h.heap]; exact Nat.le_refl _, fun k _ _ => by rw [h.heap]⟩
theorem be_one (n : Int) (h0 : 0 ≤ n) (h1 : n < 256) : be n 1 = [n] := by
  show [n / 256 ^ 0 % 256] = [n]
  congr 1; omega
theorem WU8S {b : Nat} {v : Value} {l m : List Int} {n : Int} {w w1 : World} (hs : Same w w1) (h : Wrt b v l w) (hn0 : 0 ≤ n) (hn1 : n < 256) (hm : l ++ [n] = m) (hlim : l.length + 4 ≤ 140737488355328) :
    Calls Tryd.prog 38 #[.pointer (some ⟨b, 0, none⟩), .int .u8 n] w1 fun e w' => e = .returned (.pointer (some ⟨b, 0, none⟩)) ∧ ∃ v', Hid (Wrt b v' m w') ∧ Hid (WFr b v v' w w') := by
  subst hm
  refine (WU8_own (h.fr hs.fr0 (fun h => h) (fun _ _ h => h)) hn0 hn1 hlim).mono ?_
  rintro e w' ⟨rfl, v', H1, H2⟩
  rw [be_one n hn0 hn1] at H1
  exact ⟨rfl, v', H1, Lib.hid ⟨hs.fr H2.out.fr, fun j e => by have := H2.out.row j e; rwa [hs.size] at this⟩⟩
theorem bitsFS {g : Fp} {A : Option Addr} {c : Nat} {w w1 : World} (hs : Same w w1) (hq : 0 ≤ g.seq ∧ g.seq ≤ 1) (hx : 0 ≤ g.ack ∧ g.ack ≤ 1) : Calls Tryd.prog 39 #[.agg #[.int .u8 g.addr, .int .u8 g.kind, .int .u8 g.ses, .int .u8 g.seq, .int .u8 g.ack, .slice A g.B.length c]] w1 fun e w' => e = .returned (.int .u8 (g.seq + 2 * g.ack)) ∧ Hid (Below w.heap.size w w') := by
  refine (bitsFC g A c w1 hq hx).mono ?_
  rintro e w' ⟨rfl, H⟩
  exact ⟨rfl, Lib.hid (hs.below (hs.size ▸ H.out))⟩
/-- The bytes ahead of the sum. -/
def hdF (f : Fp) : List Int := [f.addr, f.kind, f.ses, f.seq + 2 * f.ack, (f.B.length : Int)] ++ f.B
def innerL (f : Fp) : List Int := hdF f ++ be (crcN (hdF f)) 2
def encL (f : Fp) : List Int := [126] ++ (stf (innerL f) ++ [126])
theorem hdF_len (f : Fp) : (hdF f).length = f.B.length + 5 := by simp [hdF]
theorem innerL_len (f : Fp) : (innerL f).length = f.B.length + 7 := by simp [innerL, hdF_len, be_length]
theorem right_of {f : Fp} (h : rightF f = true) : 1 ≤ f.addr ∧ f.addr ≤ 31 ∧ 1 ≤ f.kind ∧ f.kind ≤ 5 ∧ f.seq ≤ 1 ∧ f.ack ≤ 1 ∧ f.B.length ≤ 24 := of_decide_eq_true h
theorem hdF_inB {f : Fp} (hf : f.ok) (hr : rightF f = true) : InB (hdF f) := fun x hx => by
  have h := right_of hr
  have h1 := hf.a
  have h2 := hf.k
  have h3 := hf.s
  have h4 := hf.q
  have h5 := hf.x
  rcases List.mem_append.1 hx with hx | hx
  · simp only [List.mem_cons, List.not_mem_nil, or_false] at hx
    rcases hx with rfl | rfl | rfl | rfl | rfl <;> omega
  · exact hf.b x hx
theorem innerL_inB {f : Fp} (hf : f.ok) (hr : rightF f = true) : InB (innerL f) := fun x hx => (List.mem_append.1 hx).elim (hdF_inB hf hr x) (be_inB _ _ x)
/-- Where a frame's inner bytes are put: the frame in its block, a Writer behind it. -/
structure InS (w : World) (f : Fp) (A : Option Addr) (c : Nat) (v : Value) (l : List Int) (wq : World) : Prop where
  hw : Wrt (w.heap.size + 1) v l wq
  hv : ∀ j, v.ownBlock = some j → w.heap.size + 2 ≤ j
  hk : Blk wq w.heap.size 66 (fvs f A c)
  hb : Below w.heap.size w wq
  hs : w.heap.size + 2 ≤ wq.heap.size
section
variable {w wq w1 : World} {f : Fp} {A : Option Addr} {c : Nat} {v : Value} {l m : List Int} {n : Int}
theorem fvs_cells {w : World} {g : Nat} {t : TypeId} {f : Fp} {A : Option Addr} {c : Nat} (h : Blk w g t (fvs f A c)) : w.cell? ⟨g, 0, none⟩ = some (.int .u8 f.addr) ∧ w.cell? ⟨g, 1, none⟩ = some (.int .u8 f.kind) ∧ w.cell? ⟨g, 2, none⟩ = some (.int .u8 f.ses) ∧ w.cell? ⟨g, 3, none⟩ = some (.int .u8 f.seq) ∧ w.cell? ⟨g, 4, none⟩ = some (.int .u8 f.ack) ∧ w.cell? ⟨g, 5, none⟩ = some (.slice A f.B.length c) :=
  ⟨h.cell 0, h.cell 1, h.cell 2, h.cell 3, h.cell 4, h.cell 5⟩
theorem InS.cells (h : InS w f A c v l wq) : wq.cell? ⟨w.heap.size, 0, none⟩ = some (.int .u8 f.addr) ∧ wq.cell? ⟨w.heap.size, 1, none⟩ = some (.int .u8 f.kind) ∧ wq.cell? ⟨w.heap.size, 2, none⟩ = some (.int .u8 f.ses) ∧ wq.cell? ⟨w.heap.size, 3, none⟩ = some (.int .u8 f.seq) ∧ wq.cell? ⟨w.heap.size, 4, none⟩ = some (.int .u8 f.ack) ∧ wq.cell? ⟨w.heap.size, 5, none⟩ = some (.slice A f.B.length c) :=
  ⟨h.hk.cell 0, h.hk.cell 1, h.hk.cell 2, h.hk.cell 3, h.hk.cell 4, h.hk.cell 5⟩
theorem InS.u8 (hs : Same wq w1) (h : InS w f A c v l wq) (hn0 : 0 ≤ n) (hn1 : n < 256) (hm : l ++ [n] = m) (hlim : l.length + 4 ≤ 140737488355328) :
    Calls Tryd.prog 38 #[.pointer (some ⟨w.heap.size + 1, 0, none⟩), .int .u8 n] w1 fun e w' => e = .returned (.pointer (some ⟨w.heap.size + 1, 0, none⟩)) ∧ ∃ v', Hid (InS w f A c v' m w') := by
  refine (WU8S hs h.hw hn0 hn1 hm hlim).mono ?_
  rintro e w' ⟨rfl, v', H1, H2⟩
  have hv' := wfr_base H2.out h.hv h.hs
  exact ⟨rfl, v', Lib.hid ⟨H1.out, hv', h.hk.fr H2.out.fr (fun e => by
    rcases e with e | e
    · omega
    · have := h.hv _ e; omega), wfr_below h.hb H2.out (by omega) (fun j e => by have := h.hv j e; omega) (Nat.le_refl _), Nat.le_trans h.hs H2.out.fr.size⟩⟩
theorem InS.bits (hs : Same wq w1) (h : InS w f A c v l wq) (hq : 0 ≤ f.seq ∧ f.seq ≤ 1) (hx : 0 ≤ f.ack ∧ f.ack ≤ 1) :
    Calls Tryd.prog 39 #[.agg #[.int .u8 f.addr, .int .u8 f.kind, .int .u8 f.ses, .int .u8 f.seq, .int .u8 f.ack, .slice A f.B.length c]] w1 fun e w' => e = .returned (.int .u8 (f.seq + 2 * f.ack)) ∧ Hid (InS w f A c v l w') := by
  refine (bitsFS hs hq hx).mono ?_
  rintro e w' ⟨rfl, H⟩
  have hf := Fr.of_below H.out
  exact ⟨rfl, Lib.hid ⟨h.hw.fr hf (fun h => h) (fun _ _ h => h), h.hv, h.hk.fr hf (fun h => h), h.hb.trans (H.out.mono h.hb.size), Nat.le_trans h.hs H.out.size⟩⟩
end
theorem row_lt8 {w : World} {B : Nat} {A : Option Addr} {l : List Int} (h : RowOf c8 1 w B A l) : 0 < l.length → ∀ ad, A = some ad → ad.block < B := fun h0 ad e => by
  obtain ⟨ad', e', hb, _⟩ := h 0 (l[0]) (List.getElem?_eq_getElem h0)
  rw [e] at e'
  obtain rfl := Option.some.inj e'
  exact hb
set_option maxHeartbeats 1000000 in
set_option maxRecDepth 10000 in
theorem innerC (f : Fp) (hf : f.ok) (hr : rightF f = true) (A : Option Addr) (c : Nat) (w : World) (hT : Turns w) (hB : RowOf c8 1 w w.heap.size A f.B) :
    Calls Tryd.prog 25 #[.agg #[.int .u8 f.addr, .int .u8 f.kind, .int .u8 f.ses, .int .u8 f.seq, .int .u8 f.ack, .slice A f.B.length c]] w fun e w' => ∃ A' c', e = .returned (.slice A' (innerL f).length c') ∧ Hid (Made w.heap.size A' c' (innerL f) w') ∧ Hid (Below w.heap.size w w') := by
  have HRow := Lib.hid hB
  have HA := Lib.hid (row_lt8 hB)
  have HHI := Lib.hid (hdF_inB hf hr)
  have HHL := Lib.hid (hdF_len f)
  have HIL := Lib.hid (innerL_len f)
  have hrr := right_of hr
  obtain ⟨hk1, hk2, hk3, hk4, hk5, hk6, hk7⟩ := hrr
  obtain ⟨⟨a0, a1⟩, ⟨b0, b1⟩, ⟨c0, c1⟩, ⟨d0, d1⟩, ⟨e0, e1⟩, _⟩ := hf
  have hk8 : (f.B.length : Int) ≤ 24 := by omega
  have hw8 : IntKind.u8.wrap (f.B.length : Int) = (f.B.length : Int) := by rw [IntKind.wrap_u8]; omega
  obtain ⟨W, hW⟩ : ∃ W, W = (w.alloc (.cells #[.int .u8 f.addr, .int .u8 f.kind, .int .u8 f.ses, .int .u8 f.seq, .int .u8 f.ack, .slice A f.B.length c] 66)).alloc (.cells #[.slice none 0 0, .int .i64 0, .int .i8 0] 89) := ⟨_, rfl⟩
  have hBlk : Blk W w.heap.size 66 (fvs f A c) := by rw [hW]; exact (Blk.new w _ _).alloc _
  have hWr : Wrt (w.heap.size + 1) (.slice none 0 0) [] W := by rw [hW]; have := wrt_new (w.alloc (.cells #[.int .u8 f.addr, .int .u8 f.kind, .int .u8 f.ses, .int .u8 f.seq, .int .u8 f.ack, .slice A f.B.length c] 66)); simpa using this
  have hBel : Below w.heap.size w W := by rw [hW]; exact ((Below.refl _ w).alloc (Nat.le_refl _) _).alloc (by simp) _
  have hs : W.heap.size = w.heap.size + 2 := by rw [hW]; simp
  have HI : Hid (InS w f A c (.slice none 0 0) [] W) := Lib.hid ⟨hWr, base_nil _, hBlk, hBel, by omega⟩
  have HWE := Lib.hid hW.symm
  have t0 : Hid True := Lib.hid trivial
  have u0 : Hid True := Lib.hid trivial
  clear hW hBlk hWr hBel hs hr hB
  go_enter Tryd.func25, Tryd.ntmps25
  go_wp2
  rw [HWE.out]
  go_region_held (fun w' => w'.cell? ⟨w.heap.size, 0, none⟩ = some (.int .u8 f.addr) ∧ w'.cell? ⟨w.heap.size, 1, none⟩ = some (.int .u8 f.kind) ∧ w'.cell? ⟨w.heap.size, 2, none⟩ = some (.int .u8 f.ses) ∧ w'.cell? ⟨w.heap.size, 3, none⟩ = some (.int .u8 f.seq) ∧ w'.cell? ⟨w.heap.size, 4, none⟩ = some (.int .u8 f.ack) ∧ w'.cell? ⟨w.heap.size, 5, none⟩ = some (.slice A f.B.length c)) (exact HI.out.cells) (first
    | (go_at_call 38; have _t := t0; refine Calls.mono (InS.u8 (n := f.addr) (m := [f.addr]) (by exact ⟨rfl, rfl, rfl, rfl⟩) HI.out a0 a1 rfl (by simp)) ?_; rintro e wq ⟨rfl, vq, HI2⟩; have t1 := t0; clear t0 HI; have HI := HI2; clear HI2)
    | (go_at_call 38; have _t := t1; refine Calls.mono (InS.u8 (n := f.kind) (m := [f.addr, f.kind]) (by exact ⟨rfl, rfl, rfl, rfl⟩) HI.out b0 b1 rfl (by simp)) ?_; rintro e wq ⟨rfl, vq, HI2⟩; have t2 := t1; clear t1 HI; have HI := HI2; clear HI2)
    | (go_at_call 38; have _t := t2; refine Calls.mono (InS.u8 (n := f.ses) (m := [f.addr, f.kind, f.ses]) (by exact ⟨rfl, rfl, rfl, rfl⟩) HI.out c0 c1 rfl (by simp)) ?_; rintro e wq ⟨rfl, vq, HI2⟩; have t3 := t2; clear t2 HI; have HI := HI2; clear HI2)
    | (go_at_call 38; have _t := t3; refine Calls.mono (InS.u8 (n := f.seq + 2 * f.ack) (m := [f.addr, f.kind, f.ses, f.seq + 2 * f.ack]) (by exact ⟨rfl, rfl, rfl, rfl⟩) HI.out (by omega) (by omega) rfl (by simp)) ?_; rintro e wq ⟨rfl, vq, HI2⟩; have t4 := t3; clear t3 HI; have HI := HI2; clear HI2)
    | (go_at_call 38; have _t := t4; refine Calls.mono (InS.u8 (n := (f.B.length : Int)) (m := [f.addr, f.kind, f.ses, f.seq + 2 * f.ack, (f.B.length : Int)]) (by exact ⟨rfl, rfl, rfl, rfl⟩) HI.out (by omega) (by omega) rfl (by simp)) ?_; rintro e wq ⟨rfl, vq, HI2⟩; clear t4 HI; have HI := HI2; clear HI2)
    | (go_at_call 39; have _t := u0; refine Calls.mono (InS.bits (by exact ⟨rfl, rfl, rfl, rfl⟩) HI.out ⟨d0, hk5⟩ ⟨e0, hk6⟩) ?_; rintro e wq ⟨rfl, HI2⟩; clear u0 HI; have HI := HI2; clear HI2))
  have HXI : Hid (hdF f ++ be (crcN (hdF f)) 2 = innerL f) := Lib.hid rfl
  have HXF : Hid ([f.addr, f.kind, f.ses, f.seq + 2 * f.ack, (f.B.length : Int)] ++ f.B = hdF f) := Lib.hid rfl
  have HN2 : Hid ((hdF f).length + 2 = (innerL f).length) := Lib.hid (by rw [HHL.out, HIL.out])
  have hlen30 : (hdF f).length ≤ 40 := by rw [HHL.out]; omega
  clear HWE
  generalize hdF f = X at *
  go_wp2_with fail
  refine (WBytes_own0 (v := vq) (l := [f.addr, f.kind, f.ses, f.seq + 2 * f.ack, (f.B.length : Int)]) (ps := [(A, c, f.B)]) (B := wq.heap.size + 1) ?c0 ?c1 ?c2 ?c3 ?c4 ?c5 ?c6).mono ?_
  case c0 => exact HI.out.hw.alloc _
  case c1 => rw [flat_one]; simp; omega
  case c2 => simp
  case c3 => exact row_one rfl (by omega)
  case c4 => simp
  case c5 =>
    intro ad e
    obtain rfl := Option.some.inj e
    refine ⟨by simp, by have := HI.out.hs; simp; omega, fun e => ?_⟩
    have := HI.out.hw.ltv _ e
    simp at this
  case c6 =>
    intro p hp
    rw [List.mem_singleton] at hp
    subst hp
    refine ⟨((HRow.out.below HI.out.hb).below ((Below.refl w.heap.size wq).alloc HI.out.hb.size _)).more_ (by have := HI.out.hs; omega), fun h0 ad e => ?_⟩
    have := HA.out h0 ad e
    have := HI.out.hs
    exact ⟨by simp; omega, by omega, fun e => by have := HI.out.hv _ e; omega⟩
  rintro e w1 ⟨rfl, v1, H1, F1⟩
  have H1 : Hid (Wrt (w.heap.size + 1) v1 X w1) := Lib.hid (H1.out.to (by rw [flat_one]; exact HXF.out))
  have B1 := Lib.hid (wfr_below (HI.out.hb.alloc HI.out.hb.size _) F1.out (by omega) (fun j e => by have := HI.out.hv j e; omega) (Nat.le_refl _))
  clear F1 HI
  have hs1 := B1.out.size
  go_wp2_with fail
  refine (WDoneC H1.out (by omega)).mono ?_
  rintro e w2 ⟨A2, c2, rfl, H2, F2⟩
  have B2 := Lib.hid (fr0_below B1.out F2.out (Nat.le_refl _))
  have hs2 := F2.out.size
  have hT2 := hT.below B2.out hT.lt
  clear F2 H1
  go_wp2_with fail
  refine Calls.mono (CAppendE (w := w2) rfl HN2.out HXI.out ⟨rfl, rfl, rfl, rfl⟩ hT2 H2.out.2.1 (fun ad e => (made_lt H2.out ad e).2) HHI.out (by omega)) ?_
  rintro e w3 ⟨A3, c3, rfl, H3, F3⟩
  go_wp2
  go_ret
  exact ⟨A3, c3, rfl, Lib.hid (H3.out.low (by omega)), Lib.hid (B2.out.trans (F3.out.mono B2.out.size))⟩
/-- Encode of a right frame: 7E, its inner bytes stuffed, 7E. -/
theorem encL_flat (f : Fp) (A A' : Option Addr) (c c' n : Nat) : flat [(A, c, [126]), (A', n, stf (innerL f)), (A, c, [126])] = encL f := by simp [flat, encL]
theorem stf_inB {l : List Int} (h : InB l) : InB (stf l) := fun x hx => by
  obtain ⟨y, hy, hx⟩ := List.mem_flatMap.1 hx
  have := h y hy
  unfold stf1 at hx
  split at hx
  · simp at hx; omega
  · split at hx
    · simp at hx; omega
    · simp at hx; omega
theorem encL_len (f : Fp) : (encL f).length = (stf (innerL f)).length + 2 := by simp [encL]
set_option maxHeartbeats 4000000 in
set_option maxRecDepth 10000 in
theorem EncodeC (f : Fp) (hf : f.ok) (hr : rightF f = true) (A : Option Addr) (c : Nat) (w : World) (hT : Turns w) (hB : RowOf c8 1 w w.heap.size A f.B) :
    Calls Tryd.prog 17 #[.agg #[.int .u8 f.addr, .int .u8 f.kind, .int .u8 f.ses, .int .u8 f.seq, .int .u8 f.ack, .slice A f.B.length c]] w fun e w' => ∃ A' c', e = .returned (.tuple #[.slice A' (encL f).length c', .int .i64 0]) ∧ Hid (Made w.heap.size A' c' (encL f) w') ∧ Hid (Below w.heap.size w w') := by
  have HRow := Lib.hid hB
  have HF := Lib.hid hf
  have HR := fun W => Lib.hid (RightFC f A c W)
  simp only [hr, if_true] at HR
  have HRR := Lib.hid hr
  have HIL := Lib.hid (innerL_len f)
  have h24 := (right_of hr).2.2.2.2.2.2
  have HSL := Lib.hid (stf_len (innerL f))
  have HEL := Lib.hid (encL_len f)
  have hb0 : Below w.heap.size w (w.alloc (.cells #[.int .u8 f.addr, .int .u8 f.kind, .int .u8 f.ses, .int .u8 f.seq, .int .u8 f.ack, .slice A f.B.length c] 35)) := (Below.refl _ w).alloc (Nat.le_refl _) _
  have HB0 := Lib.hid hb0
  have HK0 : Hid (Blk (w.alloc (.cells #[.int .u8 f.addr, .int .u8 f.kind, .int .u8 f.ses, .int .u8 f.seq, .int .u8 f.ack, .slice A f.B.length c] 35)) w.heap.size 35 (fvs f A c)) := Lib.hid (Blk.new w _ _)
  have hs0 : (w.alloc (.cells #[.int .u8 f.addr, .int .u8 f.kind, .int .u8 f.ses, .int .u8 f.seq, .int .u8 f.ack, .slice A f.B.length c] 35)).heap.size = w.heap.size + 1 := by simp
  have HS0 := Lib.hid hs0
  clear hr hb0 hs0 hf hB
  go_enter Tryd.func17, Tryd.ntmps17
  go_wp2_with fail
  generalize w.alloc (.cells #[.int .u8 f.addr, .int .u8 f.kind, .int .u8 f.ses, .int .u8 f.seq, .int .u8 f.ack, .slice A f.B.length c] 35) = W at *
  refine Calls.mono (HR W).out ?_
  rintro e w1 ⟨rfl, H1⟩
  have hk1 : Blk w1 w.heap.size 35 (fvs f A c) := HK0.out.fr (Fr.of_below H1.out) (fun h => h)
  have B1 := Lib.hid (HB0.out.trans (H1.out.mono HB0.out.size))
  obtain ⟨k0, k1, k2, k3, k4, k5⟩ := fvs_cells hk1
  have hs1 := H1.out.size
  rw [HS0.out] at hs1
  have hlt1 : w.heap.size < w1.heap.size := by omega
  clear HR hk1 H1 HK0 HB0 HS0
  go_wp2_with fail
  have B2 := Lib.hid (B1.out.alloc (Nat.le_of_lt hlt1) (.cells #[.int .u8 126] 5))
  have R2 : Hid (RowOf c8 1 (w1.alloc (.cells #[.int .u8 126] 5)) (w1.heap.size + 1) (some ⟨w1.heap.size, 0, none⟩) [126]) := Lib.hid (row_blk (l := [126]) (Blk.new w1 _ _) (by omega))
  have hs2 : w1.heap.size + 1 ≤ (w1.alloc (.cells #[.int .u8 126] 5)).heap.size := by simp
  clear k0 k1 k2 k3 k4 k5
  generalize w1.alloc (.cells #[.int .u8 126] 5) = w2 at *
  have hT2 := hT.below B2.out hT.lt
  have hw2 := B2.out.size
  refine Calls.mono (innerC f HF.out HRR.out A c w2 hT2 (HRow.out.now B2.out)) ?_
  rintro e w3 ⟨A3, c3, rfl, H3, B3⟩
  have hs3 := B3.out.size
  have hi31 : (innerL f).length ≤ 31 := by have := HIL.out; omega
  clear hT2
  go_wp2_with fail
  refine Calls.mono (StuffM rfl (by omega) w3 H3.out.2.1) ?_
  rintro e w4 ⟨A4, c4, rfl, H4, B4⟩
  have hs4 := B4.out.size
  have R4 := Lib.hid (((R2.out.below (B3.out.mono hs2)).below (B4.out.mono (Nat.le_trans hs2 hs3))))
  have B5 := Lib.hid (B2.out.trans ((B3.out.trans (B4.out.mono hs3)).mono hw2))
  have hel := HEL.out
  have hsl := HSL.out
  have hel70 : (encL f).length ≤ 70 := by omega
  clear hel hsl H3
  go_wp2_with fail
  have bel : Below w4.heap.size w4 (w4.alloc (.cells #[.slice (some ⟨w1.heap.size, 0, none⟩) 1 1, .slice A4 (stf (innerL f)).length c4, .slice (some ⟨w1.heap.size, 0, none⟩) 1 1] 32)) := (Below.refl _ w4).alloc (Nat.le_refl _) _
  refine Calls.mono (JoinE (pc := 3) (P := some ⟨w4.heap.size, 0, none⟩) (w := w4.alloc (.cells #[.slice (some ⟨w1.heap.size, 0, none⟩) 1 1, .slice A4 (stf (innerL f)).length c4, .slice (some ⟨w1.heap.size, 0, none⟩) 1 1] 32)) (m := encL f) (ps := [(some ⟨w1.heap.size, 0, none⟩, 1, [126]), (A4, c4, stf (innerL f)), (some ⟨w1.heap.size, 0, none⟩, 1, [126])]) (by simp [flat, encL]) (by omega) (by simp) (row_vals (t := 32) (f := fun p => .slice p.1 p.2.2.length p.2.1) (fun _ => rfl) (Blk.new_at rfl) (by simp)) (fun ad e => by injection e with e; subst e; simp) ?_) ?_
  · have r126 : RowOf c8 1 (w4.alloc (.cells #[.slice (some ⟨w1.heap.size, 0, none⟩) 1 1, .slice A4 (stf (innerL f)).length c4, .slice (some ⟨w1.heap.size, 0, none⟩) 1 1] 32)) (w4.alloc (.cells #[.slice (some ⟨w1.heap.size, 0, none⟩) 1 1, .slice A4 (stf (innerL f)).length c4, .slice (some ⟨w1.heap.size, 0, none⟩) 1 1] 32)).heap.size (some ⟨w1.heap.size, 0, none⟩) [126] := ((R4.out.below (bel.mono (by omega))).more_ (by simp; omega))
    intro p hp
    simp only [List.mem_cons, List.not_mem_nil, or_false] at hp
    rcases hp with rfl | rfl | rfl
    · exact ⟨r126, fun ad e => by obtain rfl := Option.some.inj e; simp; omega⟩
    · exact ⟨(H4.out.2.1.below bel).more_ (by simp), fun ad e => by have := made_lt H4.out ad e; simp; omega⟩
    · exact ⟨r126, fun ad e => by obtain rfl := Option.some.inj e; simp; omega⟩
  rintro e w5 ⟨A5, c5, rfl, H5, F5⟩
  go_wp2
  go_ret2
  exact ⟨A5, c5, rfl, Lib.hid (H5.out.low (by simp; omega)), Lib.hid (fr0_below (B5.out.trans (bel.mono (by omega))) F5.out (Nat.le_refl _))⟩
set_option maxHeartbeats 1000000 in
set_option maxRecDepth 10000 in
theorem EncodeNo (f : Fp) (hr : rightF f = false) (A : Option Addr) (c : Nat) (w : World) :
    Calls Tryd.prog 17 #[.agg #[.int .u8 f.addr, .int .u8 f.kind, .int .u8 f.ses, .int .u8 f.seq, .int .u8 f.ack, .slice A f.B.length c]] w fun e w' => e = .returned (.tuple #[.slice none 0 0, .int .i64 1]) ∧ Hid (Below w.heap.size w w') := by
  have HR := fun W => Lib.hid (RightFC f A c W)
  simp only [hr] at HR
  clear hr
  go_enter Tryd.func17, Tryd.ntmps17
  go_wp2_with fail
  refine Calls.mono (HR _).out ?_
  rintro e w1 ⟨rfl, H1⟩
  go_wp2
  go_ret2
  exact ⟨rfl, Lib.hid (((Below.refl _ w).alloc (Nat.le_refl _) _).trans (H1.out.mono (by simp)))⟩
end Go.Proofs.YtkihoonjekccgaaDoor.K
