/- The walk of OctetsNumbers. -/
import Derived.Test.YtfpjooekpjhbpaaDoorPl
import Derived.Deep.QuietTactic
import Derived.BigQuiet
import Derived.Outline
import Derived.Deep.DrawnRows
import Derived.Deep.RegionHeld
namespace Go.Proofs.YtfpjooekpjhbpaaDoor.K
open Go.RowKit
set_option linter.unusedVariables false
set_option linter.unusedSimpArgs false
namespace Nums
/-- What stays: where two readers, two writers and a row lie, below s. -/
structure NC (w0 : World) (s : Nat) (A : Option Addr) (rp rq bx by_ : Nat) (Gp Gq : Option Nat) : Prop where
  low : w0.heap.size ≤ rp ∧ w0.heap.size ≤ rq ∧ w0.heap.size ≤ bx ∧ w0.heap.size ≤ by_ ∧ w0.heap.size ≤ s
  up : rp < s ∧ rq < s ∧ bx < s ∧ by_ < s
  ne : rp ≠ rq ∧ rp ≠ bx ∧ rp ≠ by_ ∧ rq ≠ bx ∧ rq ≠ by_ ∧ bx ≠ by_
  gp : ∀ g, Gp = some g → g < s ∧ g ≠ rp ∧ g ≠ rq ∧ g ≠ bx ∧ g ≠ by_
  gq : ∀ g, Gq = some g → g < s ∧ g ≠ rp ∧ g ≠ rq ∧ g ≠ bx ∧ g ≠ by_
  ga : ∀ ad, A = some ad → ad.block < s ∧ ad.block ≠ rp ∧ ad.block ≠ rq ∧ ad.block ≠ bx ∧ ad.block ≠ by_
structure NI (w0 : World) (s : Nat) (A : Option Addr) (l : List Int) (rp rq bx by_ : Nat) (Gp Gq : Option Nat) (kp kx kq ky : Nat) (vx vy : Value) (w : World) : Prop where
  row : RowOf c8 1 w s A l
  p : Rd rp Gp (l.drop kp) w
  q : Rd rq Gq (l.drop kq) w
  x : Wrt bx vx (l.take kx) w
  y : Wrt by_ vy (l.take ky) w
  hx : ∀ j, vx.ownBlock = some j → s ≤ j
  hy : ∀ j, vy.ownBlock = some j → s ≤ j
  hxy : ∀ j, vx.ownBlock = some j → vy.ownBlock ≠ some j
  bel : Below w0.heap.size w0 w
  big : s ≤ w.heap.size
section
variable {w0 : World} {s : Nat} {A : Option Addr} {l : List Int} {rp rq bx by_ : Nat} {Gp Gq : Option Nat} {kp kx kq ky k' : Nat} {vx vy v' : Value} {w w' : World}
theorem row_fr {S : Nat → Prop} {B : Nat} (h : RowOf c8 1 w B A l) (k : Fr S w w') (ha : ∀ ad, A = some ad → ad.block < w.heap.size ∧ ¬ S ad.block) : RowOf c8 1 w' B A l := by
  intro i x hx
  obtain ⟨ad, rfl, hb, hc⟩ := h i x hx
  obtain ⟨h1, h2⟩ := ha ad rfl
  exact ⟨ad, rfl, hb, fun j u hu => by rw [k.cell (by rw [block_of_add]; exact h1) (by rw [block_of_add]; exact h2)]; exact hc j u hu⟩
theorem NI.stepP (c : NC w0 s A rp rq bx by_ Gp Gq) (h : NI w0 s A l rp rq bx by_ Gp Gq kp kx kq ky vx vy w) (k : Fr1 rp w w') (hp : Rd rp Gp (l.drop k') w') : NI w0 s A l rp rq bx by_ Gp Gq k' kx kq ky vx vy w' := by
  obtain ⟨c1, c2, c3, c4, c5, c6⟩ := c
  obtain ⟨h1, h2, h3, h4, h5, h6, h7, h8, h9, h10⟩ := h
  exact ⟨row_fr h1 k (fun ad e => by have := c6 ad e; exact ⟨by omega, by omega⟩), hp, h3.fr k (by omega) (fun g e => by have := c5 g e; omega), h4.fr k (by omega) (fun j e => by have := h6 j e; omega), h5.fr k (by omega) (fun j e => by have := h7 j e; omega), h6, h7, h8,
    below_fr h9 k (by omega) (fun j e => by omega), Nat.le_trans h10 k.size⟩
theorem NI.stepQ (c : NC w0 s A rp rq bx by_ Gp Gq) (h : NI w0 s A l rp rq bx by_ Gp Gq kp kx kq ky vx vy w) (k : Fr1 rq w w') (hp : Rd rq Gq (l.drop k') w') : NI w0 s A l rp rq bx by_ Gp Gq kp kx k' ky vx vy w' := by
  obtain ⟨c1, c2, c3, c4, c5, c6⟩ := c
  obtain ⟨h1, h2, h3, h4, h5, h6, h7, h8, h9, h10⟩ := h
  exact ⟨row_fr h1 k (fun ad e => by have := c6 ad e; exact ⟨by omega, by omega⟩), h2.fr k (by omega) (fun g e => by have := c4 g e; omega), hp, h4.fr k (by omega) (fun j e => by have := h6 j e; omega), h5.fr k (by omega) (fun j e => by have := h7 j e; omega), h6, h7, h8,
    below_fr h9 k (by omega) (fun j e => by omega), Nat.le_trans h10 k.size⟩
theorem NI.stepX (c : NC w0 s A rp rq bx by_ Gp Gq) (h : NI w0 s A l rp rq bx by_ Gp Gq kp kx kq ky vx vy w) (k : WFr bx vx v' w w') (hp : Wrt bx v' (l.take k') w') : NI w0 s A l rp rq bx by_ Gp Gq kp k' kq ky v' vy w' := by
  obtain ⟨c1, c2, c3, c4, c5, c6⟩ := c
  obtain ⟨h1, h2, h3, h4, h5, h6, h7, h8, h9, h10⟩ := h
  have hs : ∀ j, j < s → j ≠ bx → ¬ (j = bx ∨ vx.ownBlock = some j) := fun j hj hn e => by
    rcases e with e | e
    · exact hn e
    · have := h6 j e; omega
  refine ⟨row_fr h1 k.fr (fun ad e => by have := c6 ad e; exact ⟨by omega, hs _ (by omega) (by omega)⟩), h2.fr k.fr (hs _ (by omega) (by omega)) (fun g e => by have := c4 g e; exact hs _ (by omega) (by omega)), h3.fr k.fr (hs _ (by omega) (by omega)) (fun g e => by have := c5 g e; exact hs _ (by omega) (by omega)), hp,
    h5.fr k.fr (hs _ (by omega) (by omega)) (fun j e h => by
      rcases h with h | h
      · have := h7 j e; omega
      · exact h8 j h e), wfr_base k h6 h10, h7, fun j e e2 => ?_, below_fr h9 k.fr (by omega) (fun j e => by
      rcases e with e | e
      · omega
      · have := h6 j e; omega), Nat.le_trans h10 k.fr.size⟩
  rcases k.row j e with h | h
  · exact h8 j h e2
  · have := h5.ltv j e2; omega
theorem NI.stepY (c : NC w0 s A rp rq bx by_ Gp Gq) (h : NI w0 s A l rp rq bx by_ Gp Gq kp kx kq ky vx vy w) (k : WFr by_ vy v' w w') (hp : Wrt by_ v' (l.take k') w') : NI w0 s A l rp rq bx by_ Gp Gq kp kx kq k' vx v' w' := by
  obtain ⟨c1, c2, c3, c4, c5, c6⟩ := c
  obtain ⟨h1, h2, h3, h4, h5, h6, h7, h8, h9, h10⟩ := h
  have hs : ∀ j, j < s → j ≠ by_ → ¬ (j = by_ ∨ vy.ownBlock = some j) := fun j hj hn e => by
    rcases e with e | e
    · exact hn e
    · have := h7 j e; omega
  refine ⟨row_fr h1 k.fr (fun ad e => by have := c6 ad e; exact ⟨by omega, hs _ (by omega) (by omega)⟩), h2.fr k.fr (hs _ (by omega) (by omega)) (fun g e => by have := c4 g e; exact hs _ (by omega) (by omega)), h3.fr k.fr (hs _ (by omega) (by omega)) (fun g e => by have := c5 g e; exact hs _ (by omega) (by omega)),
    h4.fr k.fr (hs _ (by omega) (by omega)) (fun j e h => by
      rcases h with h | h
      · have := h6 j e; omega
      · exact h8 j e h), hp, h6, wfr_base k h7 h10, fun j e e2 => ?_, below_fr h9 k.fr (by omega) (fun j e => by
      rcases e with e | e
      · omega
      · have := h7 j e; omega), Nat.le_trans h10 k.fr.size⟩
  rcases k.row j e2 with h | h
  · exact h8 j e h
  · have := h4.ltv j e; omega
end
theorem gne {r : Nat} {G : Option Nat} {l : List Int} {w : World} (h : Rd r G l w) : ∀ g, G = some g → g ≠ r := fun g e => by
  obtain ⟨o, c, cells, hb, _, _, hG, _⟩ := h
  exact Blk.ne_ (hG g e).1 hb (by decide)
theorem made_lt {B : Nat} {A : Option Addr} {c : Nat} {l : List Int} {w : World} (h : Made B A c l w) : ∀ ad, A = some ad → B ≤ ad.block ∧ ad.block < w.heap.size := fun ad e => by
  subst e
  exact h.1.lt ad.block rfl
theorem NI.start {w0 w : World} {s : Nat} {A : Option Addr} {l : List Int} {rp rq bx by_ : Nat} {Gp Gq : Option Nat} (h1 : RowOf c8 1 w s A l) (h2 : Rd rp Gp l w) (h3 : Rd rq Gq l w) (h4 : Wrt bx (.slice none 0 0) [] w) (h5 : Wrt by_ (.slice none 0 0) [] w) (h6 : Below w0.heap.size w0 w) (h7 : s ≤ w.heap.size) :
    NI w0 s A l rp rq bx by_ Gp Gq 0 0 0 0 (.slice none 0 0) (.slice none 0 0) w :=
  ⟨h1, by simpa using h2, by simpa using h3, by simpa using h4, by simpa using h5, base_nil _, base_nil _, fun j e => by simp [Value.ownBlock] at e, h6, h7⟩
theorem ReadE {A : Option Addr} {c n : Nat} {l : List Int} {w : World} (hn : l.length = n) (hl : l.length ≤ 140737488355328) (h : RowOf c8 1 w w.heap.size A l) :
    Calls Tryd.prog 20 #[.slice A n c] w fun e w' => ∃ r G, e = .returned (.pointer (some ⟨r, 0, none⟩)) ∧ w.heap.size ≤ r ∧ (∀ g, G = some g → w.heap.size ≤ g) ∧ Hid (Rd r G l w') ∧ Hid (Fr0 w w') := by subst hn; exact ReadC hl h
theorem WDoneE {b n : Nat} {v : Value} {l : List Int} {w : World} (hn : l.length = n) (h : Wrt b v l w) (hl : l.length ≤ 140737488355328) :
    Calls Tryd.prog 15 #[.pointer (some ⟨b, 0, none⟩)] w fun e w' => ∃ A' c', e = .returned (.slice A' n c') ∧ Hid (Made w.heap.size A' c' l w') ∧ Hid (Fr0 w w') := by subst hn; exact WDoneC h hl
theorem str_n {w : World} {B n : Nat} {A : Option Addr} {l : List Int} {c : Nat} (hn : l.length = n) (h : RowOf c8 1 w B A l) :
    (convert 26 9 (.slice A n c)).run Tryd.prog w = .ok (.string (strOfNums l)) w := by subst hn; exact str_row h
end Nums
open Nums
attribute [local go_sem ↓] Go.wp_at_zero Go.wp_at_succ
theorem num_shift16 {l : List Int} {k : Nat} (hb : InB l) (hl : l.length = 4) (hk : k + 2 ≤ 4) : num (l.take (k + 2)) = num (l.take k) * 65536 + num ((l.drop k).take 2) ∧ 0 ≤ num (l.take k) ∧ num (l.take k) < 65536 ∧ 0 ≤ num ((l.drop k).take 2) ∧ num ((l.drop k).take 2) < 65536 ∧ l.take k ++ be (num ((l.drop k).take 2)) 2 = l.take (k + 2) := by
  have h2 : ((l.drop k).take 2).length = 2 := by rw [List.length_take, List.length_drop]; omega
  have e : l.take (k + 2) = l.take k ++ (l.drop k).take 2 := take_add l k 2
  have b1 := num_lt (k := 2) (hb.take_ k) (by rw [List.length_take]; omega)
  have b2 := num_lt (k := 2) ((hb.drop_ k).take_ 2) (by rw [h2]; omega)
  have e3 := be_num _ ((hb.drop_ k).take_ 2)
  rw [h2] at e3
  have q : (256 : Int) ^ 2 = 65536 := by decide
  rw [q] at b1 b2
  refine ⟨by rw [e, num_append, h2, q], b1.1, b1.2, b2.1, b2.2, by rw [e3, e]⟩
theorem num_shift8 {l : List Int} {k : Nat} (hb : InB l) (hl : l.length = 4) (hk : k + 1 ≤ 4) : num (l.take (k + 1)) = num (l.take k) * 256 + l.getD k 0 ∧ 0 ≤ num (l.take k) ∧ num (l.take k) < 16777216 ∧ 0 ≤ l.getD k 0 ∧ l.getD k 0 < 256 ∧ l.take k ++ be (l.getD k 0) 1 = l.take (k + 1) ∧ num ((l.drop k).take 1) = l.getD k 0 := by
  have hkl : k < l.length := by omega
  have eg : l.getD k 0 = l[k] := by simp [List.getD_eq_getElem?_getD, List.getElem?_eq_getElem hkl]
  have hx := hb _ (List.getElem_mem hkl)
  have b1 := num_lt (k := 3) (hb.take_ k) (by rw [List.length_take]; omega)
  have q : (256 : Int) ^ 3 = 16777216 := by decide
  rw [q] at b1
  rw [eg]
  have e2 : (l.drop k).take 1 = [l[k]] := by rw [List.drop_eq_getElem_cons hkl]; rfl
  refine ⟨num_cons l k hkl, b1.1, b1.2, hx.1, hx.2, ?_, by rw [e2, num_one]⟩
  rw [List.take_succ_eq_append_getElem hkl]
  have := be_num [l[k]] (fun x h => by simp at h; subst h; exact hx)
  rw [num_one] at this
  rw [show be l[k] 1 = [l[k]] from this]
set_option maxHeartbeats 8000000 in
set_option maxRecDepth 10000 in
theorem numbers_walk (n : Int) (w : World) (hn0 : 0 ≤ n) (hn1 : n < 4294967296) :
    Calls Tryd.prog 9 #[.int .u32 n] w fun e w' => e = .returned (.bool true) ∧ Below w.heap.size w w' := by
  obtain ⟨l, hl⟩ : ∃ l, l = be n 4 := ⟨_, rfl⟩
  have hlen : l.length = 4 := by rw [hl, be_length]
  have hin : InB l := hl ▸ be_inB n 4
  have hnum : num l = n := by rw [hl, num_be, show (256 : Int) ^ 4 = 4294967296 by decide]; omega
  have HL := Lib.hid hl
  have HLen := Lib.hid hlen
  have HIn := Lib.hid hin
  have HNum := Lib.hid hnum
  clear hl hlen hin hnum
  go_enter Tryd.func9, Tryd.ntmps9
  go_wp2_with fail
  refine (shown1_walk _).mono ?_
  rintro e w1 ⟨rfl, H1⟩
  have hs1 := H1.out.size
  go_wp2_with fail
  refine (WU32_own (wrt_new w1) hn0 (by omega) (by decide)).mono ?_
  rintro e w2 ⟨rfl, v2, H2, F2⟩
  have H2 : Hid (Wrt w1.heap.size v2 l w2) := Lib.hid (by rw [HL.out]; exact H2.out.to (by simp))
  have B2 := Lib.hid (wfr_below (H1.out.alloc hs1 _) F2.out hs1 (base_nil _) (Nat.le_refl _))
  clear F2
  go_wp2_with fail
  refine (WDoneC H2.out (by rw [HLen.out]; decide)).mono ?_
  rintro e w3 ⟨A3, c3, rfl, H3, F3⟩
  rw [HLen.out]
  have B3 := Lib.hid (fr0_below B2.out F3.out (Nat.le_refl _))
  clear B2 H2
  go_wp2_with fail
  refine (ReadE (l := l) HLen.out (by rw [HLen.out]; decide) H3.out.2.1).mono ?_
  rintro e w4 ⟨rp, Gp, rfl, hrp, hGp, H4, F4⟩
  have HGp := Lib.hid hGp
  have B4 := Lib.hid (fr0_below B3.out F4.out (Nat.le_refl _))
  have R4 := Lib.hid ((H3.out.2.1.below F4.out.below0))
  clear hGp
  go_wp2_with fail
  refine (ReadE (l := l) HLen.out (by rw [HLen.out]; decide) (R4.out.more_ F4.out.size)).mono ?_
  rintro e w5 ⟨rq, Gq, rfl, hrq, hGq, H5, F5⟩
  have HGq := Lib.hid hGq
  clear hGq
  have B5 := Lib.hid (fr0_below B4.out F5.out (Nat.le_refl _))
  have hs3 := B3.out.size
  have hs4 := F4.out.size
  have hs5 := F5.out.size
  have hlp := H4.out.lt
  have hlq := H5.out.lt
  obtain ⟨bx, hbx⟩ : ∃ bx, bx = w5.heap.size := ⟨_, rfl⟩
  have hma := made_lt H3.out
  have hg4 := gne H4.out
  have hg5 := gne H5.out
  have hlg4 := H4.out.ltG
  have hlg5 := H5.out.ltG
  have nc : NC w (bx + 2) A3 rp rq bx (bx + 1) Gp Gq := ⟨by omega, by omega, by omega,
    fun g e => by have := HGp.out g e; have := hg4 g e; have := hlg4 g e; omega, fun g e => by have := HGq.out g e; have := hg5 g e; have := hlg5 g e; omega, fun ad e => by have := hma ad e; omega⟩
  have HNC := Lib.hid nc
  have hst := NI.start (w0 := w) (s := bx + 2) (A := A3) (l := l) (rp := rp) (rq := rq) (bx := bx) (by_ := bx + 1) (Gp := Gp) (Gq := Gq)
    (w := (w5.alloc (.cells #[.slice none 0 0, .int .i64 0, .int .i8 0] 36)).alloc (.cells #[.slice none 0 0, .int .i64 0, .int .i8 0] 36))
    (((R4.out.below (F5.out.below0.mono hs4)).below (B := w3.heap.size) ((((Below.refl _ w5).alloc (by omega) _).alloc (by simp; omega) _))).more_ (by omega))
    ((H4.out.fr0 F5.out).fr0 (((Fr.refl (fun _ => False) w5).alloc _).alloc _)) (H5.out.fr0 (((Fr.refl (fun _ => False) w5).alloc _).alloc _)) (hbx ▸ (wrt_new w5).alloc _) (by have := wrt_new (w5.alloc (.cells #[.slice none 0 0, .int .i64 0, .int .i8 0] 36)); simp at this; rw [hbx]; exact this) ((B5.out.alloc (by omega) _).alloc (by simp; omega) _) (by simp; omega)
  have HST := Lib.hid hst
  have HBX := Lib.hid hbx
  have HB0 : Hid (w.heap.size ≤ bx) := Lib.hid (by omega)
  clear hst nc hma hg4 hg5 hlg4 hlg5 hbx HGp HGq H4 H5 F4 F5 R4 B4 B5 B3 H3 F3 H1 hs1 hs3 hs4 hs5 hrp hrq hlp hlq
  go_wp2
  rw [← HBX.out]
  go_loopw [10, 11, 12] (fun two one i wr => ∃ (k : Nat) (vx vy : Value), k ≤ 4 ∧ i = .int .i64 k ∧ two = .int .u32 (num (l.take (min (2 * k) 4))) ∧ one = .int .u32 (num (l.take k)) ∧ NI w (bx + 2) A3 l rp rq bx (bx + 1) Gp Gq (min (2 * k) 4) (min (2 * k) 4) k k vx vy wr) (fun _ _ i _ => 4 - (intOf i).toNat)
  case atStart => exact ⟨0, _, _, by omega, rfl, by simp [num], by simp [num], HST.out⟩
  case round =>
    obtain ⟨k, vx, vy, hk, rfl, rfl, rfl, hni⟩ := hrel
    have HNI := Lib.hid hni
    clear hni
    by_cases h2 : k < 2
    · obtain ⟨g1, g2, g3, g4, g5, g6⟩ := num_shift16 HIn.out HLen.out (k := 2 * k) (by omega)
      have em : min (2 * k) 4 = 2 * k := by omega
      have em2 : min (2 * (k + 1)) 4 = 2 * k + 2 := by omega
      have EM2 := Lib.hid em2
      rw [em] at HNI ⊢
      obtain ⟨f1, f2, f3, f4, f5, f6, f7⟩ := num_shift8 HIn.out HLen.out (k := k) (by omega)
      have G1 := Lib.hid g1
      have G6 := Lib.hid g6
      have FF1 := Lib.hid f1
      have FF6 := Lib.hid f6
      have FF7 := Lib.hid f7
      have GX : Hid (num ((l.drop (2 * k)).take 2) = num ((l.drop (2 * k)).take 2)) := Lib.hid rfl
      clear g1 g6 f1 f6 f7 em em2
      generalize hx16 : num ((l.drop (2 * k)).take 2) = x16 at *
      have HX16 := Lib.hid hx16
      clear hx16
      generalize hx8 : l.getD k 0 = x8 at *
      have HX8 := Lib.hid hx8
      clear hx8
      generalize num (l.take (2 * k)) = t2 at *
      generalize num (l.take k) = t1 at *
      go_wp2_with fail
      refine (RU16_is (l := l.drop (2 * k)) (m := l.drop (2 * k + 2)) (x := x16) HNI.out.p (by rw [List.length_drop, HLen.out]; omega) (HIn.out.drop_ _) HX16.out (by rw [List.drop_drop])).mono ?_
      rintro e w7 ⟨rfl, H7, F7⟩
      have HNI7 := Lib.hid (NI.stepP HNC.out HNI.out F7.out H7.out)
      clear HNI H7 F7
      have HK2 : Hid ((l.take (2 * k)).length + 4 ≤ 140737488355328) := Lib.hid (by rw [List.length_take]; omega)
      go_wp2_with fail
      refine (WU16_own (l := l.take (2 * k)) HNI7.out.x g4 g5 HK2.out).mono ?_
      rintro e w8 ⟨rfl, v8, H8, F8⟩
      have HNI8 := Lib.hid (NI.stepX (k' := 2 * k + 2) HNC.out HNI7.out F8.out (by have := H8.out; rwa [G6.out] at this))
      clear HNI7 H8 F8
      go_wp2_with fail
      refine (RU8_is (l := l.drop k) (m := l.drop (k + 1)) (x := x8) HNI8.out.q (by rw [List.length_drop, HLen.out]; omega) (HIn.out.drop_ _) FF7.out (by rw [List.drop_drop])).mono ?_
      rintro e w9 ⟨rfl, H9, F9⟩
      have HNI9 := Lib.hid (NI.stepQ HNC.out HNI8.out F9.out H9.out)
      obtain ⟨ad, rfl, _, hcell⟩ := HNI9.out.row.num (i := k) (by rw [HLen.out]; omega)
      rw [HX8.out] at hcell
      clear HNI8 H9 F9
      go_wp2_with fail
      refine (WU8_own (l := l.take k) HNI9.out.y f4 f5 (by rw [List.length_take]; omega)).mono ?_
      rintro e w10 ⟨rfl, v10, H10, F10⟩
      have HNI10 := Lib.hid (NI.stepY (k' := k + 1) HNC.out HNI9.out F10.out (by have := H10.out; rwa [FF6.out] at this))
      clear HNI9 H10 F10 hcell
      go_wp2
      go_roundw
      case rel => exact ⟨k + 1, v8, v10, by omega, by go_num, by rw [EM2.out, G1.out], by rw [FF1.out], by rw [EM2.out]; exact HNI10.out⟩
      case measure => simp [intOf]; omega
    · have em : min (2 * k) 4 = 4 := by omega
      have em2 : min (2 * (k + 1)) 4 = 4 := by omega
      have EM2 := Lib.hid em2
      rw [em] at HNI ⊢
      clear em em2
      by_cases h4 : k < 4
      · obtain ⟨f1, f2, f3, f4, f5, f6, f7⟩ := num_shift8 HIn.out HLen.out (k := k) (by omega)
        have FF1 := Lib.hid f1
        have FF6 := Lib.hid f6
        have FF7 := Lib.hid f7
        clear f1 f6 f7
        generalize hx8 : l.getD k 0 = x8 at *
        have HX8 := Lib.hid hx8
        clear hx8
        generalize ht2 : num (l.take 4) = t2 at *
        have HT2 := Lib.hid ht2
        clear ht2
        generalize num (l.take k) = t1 at *
        go_wp2_with fail
        refine (RU8_is (l := l.drop k) (m := l.drop (k + 1)) (x := x8) HNI.out.q (by rw [List.length_drop, HLen.out]; omega) (HIn.out.drop_ _) FF7.out (by rw [List.drop_drop])).mono ?_
        rintro e w9 ⟨rfl, H9, F9⟩
        have HNI9 := Lib.hid (NI.stepQ HNC.out HNI.out F9.out H9.out)
        obtain ⟨ad, rfl, _, hcell⟩ := HNI9.out.row.num (i := k) (by rw [HLen.out]; omega)
        rw [HX8.out] at hcell
        clear HNI H9 F9
        go_wp2_with fail
        refine (WU8_own (l := l.take k) HNI9.out.y f4 f5 (by rw [List.length_take]; omega)).mono ?_
        rintro e w10 ⟨rfl, v10, H10, F10⟩
        have HNI10 := Lib.hid (NI.stepY (k' := k + 1) HNC.out HNI9.out F10.out (by have := H10.out; rwa [FF6.out] at this))
        clear HNI9 H10 F10 hcell
        go_wp2
        go_roundw
        case rel => exact ⟨k + 1, vx, v10, by omega, by go_num, by rw [EM2.out, HT2.out], by rw [FF1.out], by rw [EM2.out]; exact HNI10.out⟩
        case measure => simp [intOf]; omega
      · obtain rfl : k = 4 := by omega
        have et : l.take 4 = l := List.take_of_length_le (by rw [HLen.out]; exact Nat.le_refl _)
        rw [et, HNum.out]
        have HX : Hid (Wrt bx vx l wr) := Lib.hid (by have := HNI.out.x; rwa [et] at this)
        have HY : Hid (Wrt (bx + 1) vy l wr) := Lib.hid (by have := HNI.out.y; rwa [et] at this)
        have HRow := Lib.hid HNI.out.row
        have HBig := Lib.hid HNI.out.big
        have HBel := Lib.hid HNI.out.bel
        have hll : l.length ≤ 140737488355328 := by rw [HLen.out]; decide
        have s0 := str_n (c := c3) HLen.out (show RowOf c8 1 wr.drew (bx + 2) A3 l from HRow.out)
        have tok1 : Hid True := Lib.hid trivial
        clear et HNI h2 h4
        go_wp2_with fail
        go_region_held (fun w' => (convert 26 9 (.slice A3 4 c3)).run Tryd.prog w' = .ok (.string (strOfNums l)) w') (first | exact s0 | exact s2 | exact s4) (first
          | (go_at_call 15; have _t := tok1; refine (WDoneE HLen.out (show Wrt bx vx l wr.drew from HX.out) hll).mono ?_; rintro e w11 ⟨A11, c11, rfl, H11, F11⟩; have s1 := str_n (c := c11) HLen.out H11.out.2.1; have s2 := str_n (c := c3) HLen.out (HRow.out.below (w' := w11) (B := bx + 2) (F11.out.undrew.below0.mono HBig.out)); have F11' := Lib.hid F11.out.undrew; clear tok1)
          | (go_at_call 15; refine (WDoneE HLen.out (HY.out.fr F11'.out (fun h => h) (fun _ _ h => h)) hll).mono ?_; rintro e w12 ⟨A12, c12, rfl, H12, F12⟩; have s3 := str_n (c := c12) HLen.out H12.out.2.1; have s4 := str_n (c := c3) HLen.out (HRow.out.below (w' := w12) (B := bx + 2) ((F11'.out.trans F12.out (fun _ _ h => h)).below0.mono HBig.out))))
        all_goals
          go_wp2
          go_ret
          exact ⟨rfl, HBel.out.trans ((F11'.out.trans F12.out (fun _ _ h => h)).below0.mono HBel.out.size)⟩
end Go.Proofs.YtfpjooekpjhbpaaDoor.K
