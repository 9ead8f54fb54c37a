/- Texts of this claim in one, 2 of 3, each with its own head. -/
import Derived.Test.YtkihoonjekccgaaDoorZ1
import Derived.WalkSpells
import Derived.Deep.QuietTactic
import Derived.BigQuiet
import Derived.Lib.SmallJoins
import Derived.Deep.RegionHeld
import Derived.Laws.StructEq
import Derived.WalkKit
import Derived.Outline
import Derived.Deep.DrawnRows
import Derived.Deep.RegionHeld3
import Derived.Lib.SlBytesConst
import Derived.Deep.CutBlock
import Derived.Deep.DeepCutAuto
import Derived.Deep.Cut
/- Frames: Decode. -/
namespace Go.Proofs.YtkihoonjekccgaaDoor.K
open Go.RowKit
set_option linter.unusedVariables false
set_option linter.unusedSimpArgs false
attribute [local go_sem ↓] Go.wp_at_zero Go.wp_at_succ
abbrev fr0 : Fp := ⟨0, 0, 0, 0, 0, []⟩
/-- The numbers of inner bytes. -/
def fieldsF : List Int → Fp
  | b0 :: b1 :: b2 :: b3 :: _ :: m => ⟨b0, b1, b2, b3 % 2, b3 / 2, m⟩
  | _ => fr0
/-- What inner bytes without their sum are. -/
def formF (own : List Int) : Fp × Int := if rightF (fieldsF own) && own.getD 4 0 == ((fieldsF own).B.length : Int) then (fieldsF own, 0) else (fr0, 3)
/-- What bytes are decoded to. -/
def decL (l : List Int) : Fp × Int :=
  if (unst false l []).2 ≠ 0 then (fr0, (unst false l []).2)
  else if (unst false l []).1.length < 7 then (fr0, 2)
  else if valid (unst false l []).1 = false then (fr0, 4)
  else formF ((unst false l []).1.take ((unst false l []).1.length - 2))
def DecPost (l : List Int) (w : World) (e : Ending) (w' : World) : Prop :=
  ∃ A' c', e = .returned (.tuple #[.agg #[.int .u8 (decL l).1.addr, .int .u8 (decL l).1.kind, .int .u8 (decL l).1.ses, .int .u8 (decL l).1.seq, .int .u8 (decL l).1.ack, .slice A' (decL l).1.B.length c'], .int .i64 (decL l).2]) ∧ Hid (Made w.heap.size A' c' (decL l).1.B w') ∧ Hid (Below w.heap.size w w')
theorem made_nil (B : Nat) (w : World) : Made B none 0 [] w := ⟨own_nil _ _ _ _, row_none, Nat.le_refl _⟩
theorem made_blk {B g : Nat} {l : List Int} {w : World} (h : Blk w g 5 (nums .u8 l).toArray) (hB : B ≤ g) (hl : l.length ≤ 140737488355328) : Made B (some ⟨g, 0, none⟩) l.length l w :=
  ⟨⟨by simp [nums], .inr ⟨g, l.length, _, rfl, hB, h, Nat.le_refl _, by unfold maxLen; omega, by simp [nums], by rw [Nat.mul_one]; exact List.take_of_length_le (by rw [nums_length]; exact Nat.le_refl _)⟩⟩, row_blk h h.lt, Nat.le_refl _⟩
/-- A frame, stored cell by cell. -/
abbrev st6 (w : World) (g : Nat) (f : Fp) (A : Option Addr) (c : Nat) : World := (((((w.setCell ⟨g, 0, none⟩ (.int .u8 f.addr)).setCell ⟨g, 1, none⟩ (.int .u8 f.kind)).setCell ⟨g, 2, none⟩ (.int .u8 f.ses)).setCell ⟨g, 3, none⟩ (.int .u8 f.seq)).setCell ⟨g, 4, none⟩ (.int .u8 f.ack)).setCell ⟨g, 5, none⟩ (.slice A f.B.length c)
theorem st6_blk {w : World} {g : Nat} {t : TypeId} {f0 f : Fp} {A0 A : Option Addr} {c0 c : Nat} (h : Blk w g t (fvs f0 A0 c0)) : Blk (st6 w g f A c) g t (fvs f A c) := by
  have := (((((h.set_ 0 (.int .u8 f.addr)).set_ 1 (.int .u8 f.kind)).set_ 2 (.int .u8 f.ses)).set_ 3 (.int .u8 f.seq)).set_ 4 (.int .u8 f.ack)).set_ 5 (.slice A f.B.length c)
  simpa using this
theorem st6_fr (w : World) (g : Nat) (f : Fp) (A : Option Addr) (c : Nat) : Fr1 g w (st6 w g f A c) :=
  ((((((Fr.refl (fun k => k = g) w).setCell (fun _ => rfl) _).setCell (fun _ => rfl) _).setCell (fun _ => rfl) _).setCell (fun _ => rfl) _).setCell (fun _ => rfl) _).setCell (fun _ => rfl) _
theorem results_dec {w : World} {g : Nat} {f : Fp} {A : Option Addr} {c : Nat} {e : Int} {tm : Array Value} (h : Blk w g 35 (fvs f A c)) (h2 : tm.getD 2 undef = .pointer (some ⟨g, 0, none⟩)) (h3 : tm.getD 3 undef = .int .i64 e) :
    (results Tryd.f18 tm).run Tryd.prog w = .ok (.tuple #[.agg #[.int .u8 f.addr, .int .u8 f.kind, .int .u8 f.ses, .int .u8 f.seq, .int .u8 f.ack, .slice A f.B.length c], .int .i64 e]) w := by
  obtain ⟨k0, k1, k2, k3, k4, k5⟩ := fvs_cells h
  rw [Array.getD_eq_getD_getElem?] at h2 h3
  simp [results, Tryd.results18, go_sem, h2, h3, k0, k1, k2, k3, k4, k5]
/-- What Decode tells, of a frame that was stored as its result. -/
theorem dec_ends {l : List Int} {w w1 : World} {f0 f : Fp} {A0 A : Option Addr} {c0 c : Nat} {e : Int} {tm : Array Value} (hP : decL l = (f, e)) (hk : Blk w1 w.heap.size 35 (fvs f0 A0 c0)) (hb : Below w.heap.size w w1) (hm : Made w.heap.size A c f.B (st6 w1 w.heap.size f A c))
    (h2 : tm.getD 2 undef = .pointer (some ⟨w.heap.size, 0, none⟩)) (h3 : tm.getD 3 undef = .int .i64 e) : bodyPost Tryd.prog Tryd.f18 (DecPost l w) .ret ⟨tm, []⟩ (st6 w1 w.heap.size f A c) := by
  refine bodyPost_ret (results_dec (st6_blk hk) h2 h3) rfl ?_
  unfold DecPost
  rw [hP]
  exact ⟨A, c, rfl, Lib.hid hm, Lib.hid (below_fr hb (st6_fr w1 w.heap.size f A c) hb.size (fun j e => by omega))⟩
set_option maxHeartbeats 1000000 in
set_option maxRecDepth 10000 in
theorem DecodeErr {A : Option Addr} {c n : Nat} {l z : List Int} {f : Int} (hn : l.length = n) (hl : n ≤ 70000000000000) (hu : unst false l [] = (z, f)) (hf : f ≠ 0) (w : World) (h : RowOf c8 1 w w.heap.size A l) :
    Calls Tryd.prog 18 #[.slice A n c] w (DecPost l w) := by
  have HP : Hid (decL l = (fr0, f)) := Lib.hid (by unfold decL; rw [hu]; simp [hf])
  have hf1 : (f == 0) = false := by simp [hf]
  have hf2 : (f != 0) = true := by simp [hf]
  have HU := Lib.hid hu
  have HN := Lib.hid hn
  have HR := Lib.hid h
  clear h hu hf hn
  go_enter Tryd.func18, Tryd.ntmps18
  go_wp2_with fail
  refine Calls.mono (UnstuffM HN.out hl HU.out _ ((HR.out.below ((Below.refl w.heap.size w).alloc (Nat.le_refl _) _)).more_ (by simp))) ?_
  rintro e w1 ⟨A1, c1, rfl, H1, B1⟩
  have hk : Blk w1 w.heap.size 35 (fvs fr0 none 0) := (Blk.new w _ _).fr (Fr.of_below B1.out) (fun h => h)
  obtain ⟨k0, k1, k2, k3, k4, k5⟩ := fvs_cells hk
  have f0 := hk.frozen 0
  have f1 := hk.frozen 1
  have f2 := hk.frozen 2
  have f3 := hk.frozen 3
  have f4 := hk.frozen 4
  have f5 := hk.frozen 5
  have hs1 := B1.out.size
  have B2 := Lib.hid (((Below.refl w.heap.size w).alloc (Nat.le_refl _) (.cells (fvs fr0 none 0) 35)).trans (B1.out.mono (by simp)))
  have HK := Lib.hid hk
  clear hk B1
  go_wp2
  exact dec_ends (f := fr0) (A := none) (c := 0) HP.out HK.out B2.out (made_nil _ _) rfl rfl
theorem unst_inB : ∀ (l : List Int) (b : Bool) (acc z : List Int) (f : Int), unst b l acc = (z, f) → InB l → InB acc → InB z := by
  have nilB : InB [] := fun x h => by cases h
  intro l
  induction l with
  | nil =>
    intro b acc z f h _ ha
    cases b
    · simp [unst] at h; obtain ⟨rfl, _⟩ := h; exact ha
    · simp [unst] at h; obtain ⟨rfl, _⟩ := h; exact nilB
  | cons x l ih =>
    intro b acc z f h hl ha
    have hl2 : InB l := fun y hy => hl y (by simp [hy])
    have snoc : ∀ y, 0 ≤ y ∧ y < 256 → InB (acc ++ [y]) := fun y hy u hu => by
      rcases List.mem_append.1 hu with hu | hu
      · exact ha u hu
      · rw [List.mem_singleton] at hu; subst hu; exact hy
    cases b with
    | false =>
      simp only [unst] at h
      split at h
      · obtain ⟨rfl, _⟩ := Prod.mk.inj h; exact nilB
      · split at h
        · exact ih _ _ _ _ h hl2 ha
        · exact ih _ _ _ _ h hl2 (snoc _ (hl x (by simp)))
    | true =>
      simp only [unst] at h
      split at h
      · exact ih _ _ _ _ h hl2 (snoc _ (by omega))
      · split at h
        · exact ih _ _ _ _ h hl2 (snoc _ (by omega))
        · obtain ⟨rfl, _⟩ := Prod.mk.inj h; exact nilB
theorem UnstuffE {A : Option Addr} {c n m : Nat} {l z : List Int} {f : Int} (hn : l.length = n) (hz : z.length = m) (hl : n ≤ 70000000000000) (hu : unst false l [] = (z, f)) (w : World) (h : RowOf c8 1 w w.heap.size A l) :
    Calls Tryd.prog 26 #[.slice A n c] w fun e w' => ∃ A' c', e = .returned (.tuple #[.slice A' m c', .int .i64 f]) ∧ Hid (Made w.heap.size A' c' z w') ∧ Hid (Below w.heap.size w w') := by subst hz; exact UnstuffM hn hl hu w h
set_option maxHeartbeats 1000000 in
set_option maxRecDepth 10000 in
theorem DecodeShort {A : Option Addr} {c n : Nat} {l z : List Int} (hn : l.length = n) (hl : n ≤ 70000000000000) (hu : unst false l [] = (z, 0)) (hz : z.length < 7) (w : World) (h : RowOf c8 1 w w.heap.size A l) :
    Calls Tryd.prog 18 #[.slice A n c] w (DecPost l w) := by
  have HP : Hid (decL l = (fr0, 2)) := Lib.hid (by unfold decL; rw [hu]; simp [hz])
  have HU := Lib.hid hu
  have HN := Lib.hid hn
  have HR := Lib.hid h
  have hz7 : (z.length : Int) < 7 := by omega
  clear h hu hn
  go_enter Tryd.func18, Tryd.ntmps18
  go_wp2_with fail
  refine Calls.mono (UnstuffM HN.out hl HU.out _ ((HR.out.below ((Below.refl w.heap.size w).alloc (Nat.le_refl _) _)).more_ (by simp))) ?_
  rintro e w1 ⟨A1, c1, rfl, H1, B1⟩
  have hk : Blk w1 w.heap.size 35 (fvs fr0 none 0) := (Blk.new w _ _).fr (Fr.of_below B1.out) (fun h => h)
  obtain ⟨k0, k1, k2, k3, k4, k5⟩ := fvs_cells hk
  have f0 := hk.frozen 0
  have f1 := hk.frozen 1
  have f2 := hk.frozen 2
  have f3 := hk.frozen 3
  have f4 := hk.frozen 4
  have f5 := hk.frozen 5
  have hs1 := B1.out.size
  have B2 := Lib.hid (((Below.refl w.heap.size w).alloc (Nat.le_refl _) (.cells (fvs fr0 none 0) 35)).trans (B1.out.mono (by simp)))
  have HK := Lib.hid hk
  clear hk B1
  go_wp2
  exact dec_ends (f := fr0) (A := none) (c := 0) HP.out HK.out B2.out (made_nil _ _) rfl rfl
set_option maxHeartbeats 1000000 in
set_option maxRecDepth 10000 in
theorem DecodeSum {A : Option Addr} {c n : Nat} {l z : List Int} (hn : l.length = n) (hl : n ≤ 70000000000000) (hi : InB l) (hu : unst false l [] = (z, 0)) (hz : 7 ≤ z.length) (hzm : z.length ≤ 70000000000000) (hv : valid z = false) (w : World) (hT : Turns w) (h : RowOf c8 1 w w.heap.size A l) :
    Calls Tryd.prog 18 #[.slice A n c] w (DecPost l w) := by
  have HP : Hid (decL l = (fr0, 4)) := Lib.hid (by unfold decL; rw [hu]; simp [hv]; omega)
  have HZI := Lib.hid (unst_inB l false [] z 0 hu hi (fun x h => by cases h))
  have HU := Lib.hid hu
  have HN := Lib.hid hn
  have HV := Lib.hid hv
  have HR := Lib.hid h
  have hz7 : ¬ (z.length : Int) < 7 := by omega
  clear h hu hn hv hi
  go_enter Tryd.func18, Tryd.ntmps18
  go_wp2_with fail
  refine Calls.mono (UnstuffM HN.out hl HU.out _ ((HR.out.below ((Below.refl w.heap.size w).alloc (Nat.le_refl _) _)).more_ (by simp))) ?_
  rintro e w1 ⟨A1, c1, rfl, H1, B1⟩
  have hk : Blk w1 w.heap.size 35 (fvs fr0 none 0) := (Blk.new w _ _).fr (Fr.of_below B1.out) (fun h => h)
  obtain ⟨k0, k1, k2, k3, k4, k5⟩ := fvs_cells hk
  have f0 := hk.frozen 0
  have f1 := hk.frozen 1
  have f2 := hk.frozen 2
  have f3 := hk.frozen 3
  have f4 := hk.frozen 4
  have f5 := hk.frozen 5
  have hs1 := B1.out.size
  have B2 := Lib.hid (((Below.refl w.heap.size w).alloc (Nat.le_refl _) (.cells (fvs fr0 none 0) 35)).trans (B1.out.mono (by simp)))
  have HK := Lib.hid hk
  clear hk B1
  clear k0 k1 k2 k3 k4 k5 f0 f1 f2 f3 f4 f5
  go_wp2_with fail
  refine Calls.mono (CValidE (w := w1) (l := z) rfl HV.out ⟨rfl, rfl, rfl, rfl⟩ (hT.below B2.out hT.lt) H1.out.2.1 HZI.out (by omega) H1.out.2.2 (made_cap H1.out)) ?_
  rintro e w2 ⟨rfl, B3⟩
  have hk2 : Blk w2 w.heap.size 35 (fvs fr0 none 0) := HK.out.fr (Fr.of_below B3.out) (fun h => h)
  obtain ⟨k0, k1, k2, k3, k4, k5⟩ := fvs_cells hk2
  have f0 := hk2.frozen 0
  have f1 := hk2.frozen 1
  have f2 := hk2.frozen 2
  have f3 := hk2.frozen 3
  have f4 := hk2.frozen 4
  have f5 := hk2.frozen 5
  have HK2 := Lib.hid hk2
  have B4 := Lib.hid (B2.out.trans (B3.out.mono B2.out.size))
  clear hk2 B3 HK B2
  go_wp2
  exact dec_ends (f := fr0) (A := none) (c := 0) HP.out HK2.out B4.out (made_nil _ _) rfl rfl
theorem mask_u8 (n : Int) (h : 0 ≤ n ∧ n < 256) : bits .and .u8 n 1 = n % 2 := by
  obtain ⟨a, rfl⟩ := Int.eq_ofNat_of_zero_le h.1
  have key : ∀ a : Fin 256, bits .and .u8 (a.val : Int) 1 = (a.val : Int) % 2 := of_decide_eq_true (by kernel_rfl)
  exact key ⟨a, by omega⟩
/-- Where the numbers are taken: the reader, the frame that is filled, the result's place. -/
structure DcS (w : World) (r s : Nat) (G : Option Nat) (l : List Int) (f : Fp) (A : Option Addr) (c : Nat) (wq : World) : Prop where
  rd : Rd r G l wq
  hs : Blk wq s 66 (fvs f A c)
  hk : Blk wq w.heap.size 35 (fvs fr0 none 0)
  hb : Below w.heap.size w wq
  hrs : r ≠ s
  hgs : ∀ g, G = some g → g ≠ s
  hwr : w.heap.size < r
  hws : w.heap.size < s
section
variable {w wq : World} {r s : Nat} {G : Option Nat} {l m : List Int} {f : Fp} {A : Option Addr} {c : Nat} {x : Int}
theorem DcS.u8 (h : DcS w r s G (x :: l) f A c wq) (hb : InB (x :: l)) :
    Calls Tryd.prog 29 #[.pointer (some ⟨r, 0, none⟩)] wq fun e w' => e = .returned (.tuple #[.int .u8 x, .int .i64 0]) ∧ Hid (DcS w r s G l f A c w') := by
  refine (RU8_is (x := x) (m := l) h.rd (by simp) hb (by simp [num]) (by simp)).mono ?_
  rintro e w' ⟨rfl, H1, H2⟩
  exact ⟨rfl, Lib.hid ⟨H1.out, h.hs.fr H2.out (fun e => h.hrs e.symm), h.hk.fr H2.out (fun e => by have := h.hwr; omega), fr1_below h.hb H2.out (Nat.le_of_lt h.hwr) (Nat.le_refl _), h.hrs, h.hgs, h.hwr, h.hws⟩⟩
theorem DcS.set_ (h : DcS w r s G l f A c wq) (i : Nat) (v : Value) {f' : Fp} {A' : Option Addr} {c' : Nat} (e : (fvs f A c).setIfInBounds i v = fvs f' A' c') : DcS w r s G l f' A' c' (wq.setCell ⟨s, i, none⟩ v) := by
  have k : Fr1 s wq (wq.setCell ⟨s, i, none⟩ v) := (Fr.refl (fun k => k = s) wq).setCell (fun _ => rfl) _
  exact ⟨h.rd.fr k h.hrs (fun g e => h.hgs g e), e ▸ h.hs.set_ i v, h.hk.fr k (fun e => by have := h.hws; omega), fr1_below h.hb k (Nat.le_of_lt h.hws) (Nat.le_refl _), h.hrs, h.hgs, h.hwr, h.hws⟩
theorem DcS.cells (h : DcS w r s G l f A c wq) : wq.cell? ⟨s, 0, none⟩ = some (.int .u8 f.addr) ∧ wq.cell? ⟨s, 1, none⟩ = some (.int .u8 f.kind) ∧ wq.cell? ⟨s, 2, none⟩ = some (.int .u8 f.ses) ∧ wq.cell? ⟨s, 3, none⟩ = some (.int .u8 f.seq) ∧ wq.cell? ⟨s, 4, none⟩ = some (.int .u8 f.ack) ∧ wq.cell? ⟨s, 5, none⟩ = some (.slice A f.B.length c) := fvs_cells h.hs
end
set_option maxHeartbeats 1000000 in
set_option maxRecDepth 10000 in
theorem DecodeFin {A : Option Addr} {c n k : Nat} {l z : List Int} {b0 b1 b2 b3 b4 : Int} {m : List Int} (hn : l.length = n) (hl : n ≤ 70000000000000) (hi : InB l) (hu : unst false l [] = (z, 0)) (hz : z.length = k + 2) (hz7 : 5 ≤ k) (hown : z.take k = b0 :: b1 :: b2 :: b3 :: b4 :: m) (hzm : k ≤ 60000000000000) (hv : valid z = true) (w : World) (hT : Turns w) (h : RowOf c8 1 w w.heap.size A l) :
    Calls Tryd.prog 18 #[.slice A n c] w (DecPost l w) := by
  have hP : decL l = formF (b0 :: b1 :: b2 :: b3 :: b4 :: m) := by unfold decL; rw [hu]; simp only [hz, hv, show k + 2 - 2 = k by omega, hown]; simp; omega
  have hzi := unst_inB l false [] z 0 hu hi (fun x h => by cases h)
  have hoi : InB (b0 :: b1 :: b2 :: b3 :: b4 :: m) := hown ▸ hzi.take_ k
  have HZI := Lib.hid hzi
  have HP := Lib.hid hP
  have HU := Lib.hid hu
  have HN := Lib.hid hn
  have HV := Lib.hid hv
  have HR := Lib.hid h
  have HZ := Lib.hid hz
  have HOWN := Lib.hid hown
  have HOI := Lib.hid hoi
  have hkl : (b0 :: b1 :: b2 :: b3 :: b4 :: m).length = k := by rw [← hown, List.length_take]; omega
  have HKL := Lib.hid hkl
  have hi0 := hoi b0 (by simp)
  have hi1 := hoi b1 (by simp)
  have hi2 := hoi b2 (by simp)
  have hi3 := hoi b3 (by simp)
  have hi4 := hoi b4 (by simp)
  obtain ⟨i00, i01⟩ := hi0
  obtain ⟨i10, i11⟩ := hi1
  obtain ⟨i20, i21⟩ := hi2
  obtain ⟨i30, i31⟩ := hi3
  obtain ⟨i40, i41⟩ := hi4
  clear h hu hn hv hi hz hown hkl hoi hzi hP
  go_enter Tryd.func18, Tryd.ntmps18
  go_wp2_with fail
  refine Calls.mono (UnstuffE HN.out HZ.out hl HU.out _ ((HR.out.below ((Below.refl w.heap.size w).alloc (Nat.le_refl _) _)).more_ (by simp))) ?_
  rintro e w1 ⟨A1, c1, rfl, H1, B1⟩
  have hk : Blk w1 w.heap.size 35 (fvs fr0 none 0) := (Blk.new w _ _).fr (Fr.of_below B1.out) (fun h => h)
  have hs1 := B1.out.size
  have B2 := Lib.hid (((Below.refl w.heap.size w).alloc (Nat.le_refl _) (.cells (fvs fr0 none 0) 35)).trans (B1.out.mono (by simp)))
  have HK := Lib.hid hk
  clear hk B1
  have hcc : k + 2 ≤ c1 := by have := H1.out.2.2; rwa [HZ.out] at this
  have hcut := fun W => bcut_hi A1 (k + 2) c1 k (by omega) W
  go_wp2_with fail
  refine Calls.mono (CValidE (w := w1) (l := z) HZ.out HV.out ⟨rfl, rfl, rfl, rfl⟩ (hT.below B2.out hT.lt) H1.out.2.1 HZI.out (by omega) hcc (made_cap H1.out)) ?_
  rintro e w2 ⟨rfl, B3⟩
  have HK2 := Lib.hid (HK.out.fr (Fr.of_below B3.out) (fun h => h))
  have hs2 := B3.out.size
  have RO := Lib.hid (HOWN.out ▸ ((H1.out.2.1.now B3.out).take_ k) : RowOf c8 1 w2 w2.heap.size A1 (b0 :: b1 :: b2 :: b3 :: b4 :: m))
  have B4 := Lib.hid (B2.out.trans (B3.out.mono B2.out.size))
  have hs0 : w.heap.size < w2.heap.size := by simp at hs1; omega
  clear B3 HK B2 H1
  go_wp2_with fail
  refine Calls.mono (ReadE HKL.out (by rw [HKL.out]; omega) RO.out) ?_
  rintro e w3 ⟨r, G, rfl, hr, hG, H3, F3⟩
  have hs3 := F3.out.size
  have hw3 : w.heap.size < w3.heap.size := by omega
  have hr3 := H3.out.lt
  have HD : Hid (DcS w r w3.heap.size G (b0 :: b1 :: b2 :: b3 :: b4 :: m) fr0 none 0 (w3.alloc (.cells (fvs fr0 none 0) 66))) := Lib.hid ⟨H3.out.fr0 ((Fr.refl _ w3).alloc _), Blk.new w3 _ _, (HK2.out.fr F3.out (fun h => h)).alloc _, (fr0_below B4.out F3.out (Nat.le_refl _)).alloc (by omega) _, by omega, fun g e => by have := H3.out.ltG g e; omega, by omega, by omega⟩
  clear F3 H3 hr hG hr3
  go_wp2_with fail
  clear hcut
  generalize w3.heap.size = s at *
  refine Calls.mono (HD.out.u8 HOI.out) ?_
  rintro e w4 ⟨rfl, D4⟩
  have HO1 := Lib.hid (fun y hy => HOI.out y (List.mem_cons_of_mem _ hy) : InB (b1 :: b2 :: b3 :: b4 :: m))
  have hf4 := D4.out.hs.frozen 0
  obtain ⟨k0, -⟩ := D4.out.cells
  have E4 := Lib.hid (D4.out.set_ 0 (.int .u8 b0) (f' := ⟨b0, 0, 0, 0, 0, []⟩) (A' := none) (c' := 0) rfl)
  clear D4 HD
  go_wp2_with fail
  clear k0 hf4
  refine Calls.mono (E4.out.u8 HO1.out) ?_
  rintro e w5 ⟨rfl, D5⟩
  have HO2 := Lib.hid (fun y hy => HO1.out y (List.mem_cons_of_mem _ hy) : InB (b2 :: b3 :: b4 :: m))
  have hf5 := D5.out.hs.frozen 1
  obtain ⟨-, k1, -⟩ := D5.out.cells
  have E5 := Lib.hid (D5.out.set_ 1 (.int .u8 b1) (f' := ⟨b0, b1, 0, 0, 0, []⟩) (A' := none) (c' := 0) rfl)
  clear D5 E4
  go_wp2_with fail
  clear k1 hf5
  refine Calls.mono (E5.out.u8 HO2.out) ?_
  rintro e w6 ⟨rfl, D6⟩
  have HO3 := Lib.hid (fun y hy => HO2.out y (List.mem_cons_of_mem _ hy) : InB (b3 :: b4 :: m))
  have hf6 := D6.out.hs.frozen 2
  obtain ⟨-, -, k2, -⟩ := D6.out.cells
  have E6 := Lib.hid (D6.out.set_ 2 (.int .u8 b2) (f' := ⟨b0, b1, b2, 0, 0, []⟩) (A' := none) (c' := 0) rfl)
  clear D6 E5
  go_wp2_with fail
  clear k2 hf6
  refine Calls.mono (E6.out.u8 HO3.out) ?_
  rintro e w7 ⟨rfl, D7⟩
  have HO4 := Lib.hid (fun y hy => HO3.out y (List.mem_cons_of_mem _ hy) : InB (b4 :: m))
  clear E6
  go_wp2_with fail
  refine Calls.mono (D7.out.u8 HO4.out) ?_
  rintro e w8 ⟨rfl, D8⟩
  clear D7
  have hml : m.length ≤ 60000000000000 := by have := HKL.out; simp at this; omega
  have HAND : Hid (bits .and .u8 b3 1 = b3 % 2) := Lib.hid (by
    have := mask_u8 b3 ⟨i30, i31⟩
    exact this)
  go_wp2_with fail
  generalize bits .and .u8 b3 1 = q at *
  refine Calls.mono (RRestC D8.out.rd (by omega)) ?_
  rintro e w9 ⟨rfl, M9, R9, F9⟩
  have D9 : Hid (DcS w r s G [] ⟨b0, b1, b2, 0, 0, []⟩ none 0 w9) := Lib.hid ⟨R9.out, D8.out.hs.fr F9.out (fun e => D8.out.hrs e.symm), D8.out.hk.fr F9.out (fun e => by have := D8.out.hwr; omega), fr1_below D8.out.hb F9.out (Nat.le_of_lt D8.out.hwr) (Nat.le_refl _), D8.out.hrs, D8.out.hgs, D8.out.hwr, D8.out.hws⟩
  have hf3 := D9.out.hs.frozen 3
  have hf4 := D9.out.hs.frozen 4
  have hf5 := D9.out.hs.frozen 5
  obtain ⟨k0, k1, k2, k3, k4, k5⟩ := D9.out.cells
  have hs8 := D8.out.hb.size
  have hs8s := D8.out.hs.lt
  clear R9 F9
  go_wp2_with fail
  clear k0 k1 k2 k3 k4 k5 hf3 hf4 hf5
  have E9 : Hid (DcS w r s G [] ⟨b0, b1, b2, q, b3 / 2, m⟩ (some ⟨w8.heap.size, 0, none⟩) m.length (((w9.setCell ⟨s, 3, none⟩ (.int .u8 q)).setCell ⟨s, 4, none⟩ (.int .u8 (b3 / 2))).setCell ⟨s, 5, none⟩ (.slice (some ⟨w8.heap.size, 0, none⟩) m.length m.length))) := Lib.hid
    (((D9.out.set_ 3 (.int .u8 q) (f' := ⟨b0, b1, b2, q, 0, []⟩) (A' := none) (c' := 0) rfl).set_ 4 (.int .u8 (b3 / 2)) (f' := ⟨b0, b1, b2, q, b3 / 2, []⟩) (A' := none) (c' := 0) rfl).set_ 5 (.slice (some ⟨w8.heap.size, 0, none⟩) m.length m.length) (f' := ⟨b0, b1, b2, q, b3 / 2, m⟩) (A' := some ⟨w8.heap.size, 0, none⟩) (c' := m.length) rfl)
  have HM9 : Hid (Blk (((w9.setCell ⟨s, 3, none⟩ (.int .u8 q)).setCell ⟨s, 4, none⟩ (.int .u8 (b3 / 2))).setCell ⟨s, 5, none⟩ (.slice (some ⟨w8.heap.size, 0, none⟩) m.length m.length)) w8.heap.size 5 (nums .u8 m).toArray) := Lib.hid (((M9.out.far (by simp; omega) _).far (by simp; omega) _).far (by simp; omega) _)
  have HFF : Hid (fieldsF (b0 :: b1 :: b2 :: b3 :: b4 :: m) = ⟨b0, b1, b2, q, b3 / 2, m⟩) := Lib.hid (by unfold fieldsF; rw [HAND.out])
  generalize (((w9.setCell ⟨s, 3, none⟩ (.int .u8 q)).setCell ⟨s, 4, none⟩ (.int .u8 (b3 / 2))).setCell ⟨s, 5, none⟩ (.slice (some ⟨w8.heap.size, 0, none⟩) m.length m.length)) = w10 at *
  clear M9 D9 D8
  generalize w8.heap.size = g at *
  refine Calls.mono (rightC ⟨b0, b1, b2, q, b3 / 2, m⟩ (some ⟨g, 0, none⟩) m.length w10) ?_
  rintro e w11 ⟨rfl, B11⟩
  have hf := Fr.of_below B11.out
  have hk11 := E9.out.hk.fr hf (fun h => h)
  have hs11 := E9.out.hs.fr hf (fun h => h)
  have HM11 := Lib.hid (HM9.out.fr hf (fun h => h))
  have HB11 := Lib.hid (E9.out.hb.trans (B11.out.mono E9.out.hb.size))
  have HK11 := Lib.hid hk11
  obtain ⟨k0, k1, k2, k3, k4, k5⟩ := fvs_cells hk11
  have f0 := hk11.frozen 0
  have f1 := hk11.frozen 1
  have f2 := hk11.frozen 2
  have f3 := hk11.frozen 3
  have f4 := hk11.frozen 4
  have f5 := hk11.frozen 5
  obtain ⟨s0, s1, s2, s3, s4, s5⟩ := fvs_cells hs11
  simp only at s0 s1 s2 s3 s4 s5
  have hws := E9.out.hws
  have hne : s ≠ w.heap.size := by omega
  have hlt11 := hs11.lt
  clear hf hk11 hs11 E9 HM9 B11
  by_cases hok : rightF ⟨b0, b1, b2, q, b3 / 2, m⟩ = true
  · rw [hok]
    by_cases hlen : b4 = (m.length : Int)
    · have e1 : (b4 == (m.length : Int)) = true := by simp [hlen]
      have e2 : (b4 != (m.length : Int)) = false := by simp [hlen]
      have hP2 : Hid (decL l = (⟨b0, b1, b2, q, b3 / 2, m⟩, 0)) := Lib.hid (by rw [HP.out]; unfold formF; rw [HFF.out, hok]; simp [hlen])
      clear hlen hok
      go_wp2
      exact dec_ends (f := ⟨b0, b1, b2, q, b3 / 2, m⟩) (A := some ⟨g, 0, none⟩) (c := m.length) hP2.out HK11.out HB11.out (made_blk (HM11.out.fr (st6_fr w11 w.heap.size ⟨b0, b1, b2, q, b3 / 2, m⟩ (some ⟨g, 0, none⟩) m.length) (fun e => by omega)) (by omega) (by omega)) rfl rfl
    · have e1 : (b4 == (m.length : Int)) = false := by simp [hlen]
      have e2 : (b4 != (m.length : Int)) = true := by simp [hlen]
      have hP2 : Hid (decL l = (fr0, 3)) := Lib.hid (by rw [HP.out]; unfold formF; rw [HFF.out, hok]; simp [hlen])
      clear hlen hok
      go_wp2
      exact dec_ends (f := fr0) (A := none) (c := 0) hP2.out HK11.out HB11.out (made_nil _ _) rfl rfl
  · have hok : rightF ⟨b0, b1, b2, q, b3 / 2, m⟩ = false := by simpa using hok
    rw [hok]
    have hP2 : Hid (decL l = (fr0, 3)) := Lib.hid (by rw [HP.out]; unfold formF; rw [HFF.out, hok]; simp)
    clear hok
    go_wp2
    exact dec_ends (f := fr0) (A := none) (c := 0) hP2.out HK11.out HB11.out (made_nil _ _) rfl rfl
theorem unst_le : ∀ (l : List Int) (b : Bool) (acc z : List Int) (f : Int), unst b l acc = (z, f) → z.length ≤ acc.length + l.length := by
  intro l
  induction l with
  | nil =>
    intro b acc z f h
    cases b
    · simp [unst] at h; obtain ⟨rfl, _⟩ := h; simp
    · simp [unst] at h; obtain ⟨rfl, _⟩ := h; simp
  | cons x l ih =>
    intro b acc z f h
    cases b with
    | false =>
      simp only [unst] at h
      split at h
      · obtain ⟨rfl, _⟩ := Prod.mk.inj h; simp
      · split at h
        · have := ih _ _ _ _ h; simp at this ⊢; omega
        · have := ih _ _ _ _ h; simp at this ⊢; omega
    | true =>
      simp only [unst] at h
      split at h
      · have := ih _ _ _ _ h; simp at this ⊢; omega
      · split at h
        · have := ih _ _ _ _ h; simp at this ⊢; omega
        · obtain ⟨rfl, _⟩ := Prod.mk.inj h; simp
theorem five_of {α : Type} (l : List α) (h : 5 ≤ l.length) : ∃ a b c d e m, l = a :: b :: c :: d :: e :: m := by
  match l, h with
  | a :: b :: c :: d :: e :: m, _ => exact ⟨a, b, c, d, e, m, rfl⟩
/-- Decode, of any bytes. -/
theorem DecodeC {A : Option Addr} {c n : Nat} {l : List Int} (hn : l.length = n) (hl : n ≤ 60000000000000) (hi : InB l) (w : World) (hT : Turns w) (h : RowOf c8 1 w w.heap.size A l) :
    Calls Tryd.prog 18 #[.slice A n c] w (DecPost l w) := by
  obtain ⟨z, f, hu⟩ : ∃ z f, unst false l [] = (z, f) := ⟨_, _, rfl⟩
  have hzl := unst_le l false [] z f hu
  simp only [List.length_nil, Nat.zero_add] at hzl
  by_cases hf : f = 0
  · subst hf
    by_cases hz : z.length < 7
    · exact DecodeShort hn (by omega) hu hz w h
    · cases hv : valid z with
      | false => exact DecodeSum hn (by omega) hi hu (by omega) (by omega) hv w hT h
      | true =>
        obtain ⟨b0, b1, b2, b3, b4, m, hown⟩ := five_of (z.take (z.length - 2)) (by rw [List.length_take]; omega)
        exact DecodeFin (k := z.length - 2) hn (by omega) hi hu (by omega) (by omega) hown (by omega) hv w hT h
  · exact DecodeErr hn (by omega) hu hf w h
end Go.Proofs.YtkihoonjekccgaaDoor.K

/- What the laws about frames share. -/
namespace Go.Proofs.YtkihoonjekccgaaDoor.K
open Go.RowKit
set_option linter.unusedVariables false
set_option linter.unusedSimpArgs false
attribute [local go_sem] min2_min min_two
/-- x[lo:hi]. -/
theorem bcut_lh (A : Option Addr) (n c lo hi : Nat) (h1 : lo ≤ hi) (h2 : hi ≤ c) (W : World) : (Instr.slice 32 (.slice A n c) (some (.int .i64 lo)) (some (.int .i64 hi)) none).run Tryd.prog W = .ok (.slice (if c = lo then A else A.map (·.add lo)) (hi - lo) (c - lo)) W := by
  obtain ⟨i, hi0, hi1⟩ := bytes_info
  have hel : Tryd.prog.elem 32 = 5 := by simp [Program.elem, Tryd.underlying32]
  have hu : Tryd.prog.underlying 32 = some (.slice (Tryd.prog.elem 32)) := by rw [hel]; exact Tryd.underlying32
  rw [run_slice_lh W 32 A n c hu .i64 .i64 lo hi (by omega) (by omega) (by omega), hel]
  by_cases hcn : c = lo
  · subst hcn
    cases A <;> simp [sizeOf, typeInfo, hi0, hi1, sliced, Result.andThen]
  · cases A <;> simp [sizeOf, typeInfo, hi0, hi1, sliced, Result.andThen, hcn]
theorem bcut_lh_lit (g n c lo hi : Nat) (h1 : lo ≤ hi) (h2 : hi ≤ c) (h3 : lo < c) (W : World) : (Instr.slice 32 (.slice (some ⟨g, 0, none⟩) n c) (some (.int .i64 lo)) (some (.int .i64 hi)) none).run Tryd.prog W = .ok (.slice (some ⟨g, lo, none⟩) (hi - lo) (c - lo)) W := by
  rw [bcut_lh _ n c lo hi h1 h2 W, if_neg (by omega)]
  simp [add_plain]
theorem bcut_lo_lit (g n c lo : Nat) (h1 : lo ≤ n) (h2 : n ≤ c) (h3 : lo < c) (hcm : c ≤ 9223372036854775807) (W : World) : (Instr.slice 32 (.slice (some ⟨g, 0, none⟩) n c) (some (.int .i64 lo)) none none).run Tryd.prog W = .ok (.slice (some ⟨g, lo, none⟩) (n - lo) (c - lo)) W := by
  rw [bcut_lo _ n c lo h1 h2 hcm W, if_neg (by omega)]
  simp [add_plain]
/-- A row of the call's own that is not empty: where it lies. -/
theorem Made.at0 {B c : Nat} {A : Option Addr} {l : List Int} {w : World} (h : Made B A c l w) (h0 : 0 < l.length) : ∃ g, A = some ⟨g, 0, none⟩ ∧ B ≤ g ∧ g < w.heap.size := by
  obtain ⟨g, cap, hv, hb, hlt⟩ := h.1.form h0
  have hA : A = some ⟨g, 0, none⟩ := by injection hv
  exact ⟨g, hA, hb, hlt⟩
theorem RowOf.cut_lit {w : World} {B g c : Nat} {l : List Int} (h : RowOf c8 1 w B (some ⟨g, 0, none⟩) l) (lo : Nat) (hc : l.length ≤ c) (h3 : lo < c) : RowOf c8 1 w B (some ⟨g, lo, none⟩) (l.drop lo) := by
  have := h.drop_ (cap := c) lo hc
  rw [if_neg (by omega)] at this
  simpa [add_plain] using this
/-- Decode, the frame as numbers. -/
theorem DecodeE {A : Option Addr} {c n nb : Nat} {l m : List Int} {a k s q x e : Int} (hd : decL l = (⟨a, k, s, q, x, m⟩, e)) (hm : m.length = nb) (hn : l.length = n) (hl : n ≤ 60000000000000) (hi : InB l) (w : World) (hT : Turns w) (h : RowOf c8 1 w w.heap.size A l) :
    Calls Tryd.prog 18 #[.slice A n c] w fun ee w' => ∃ A' c', ee = .returned (.tuple #[.agg #[.int .u8 a, .int .u8 k, .int .u8 s, .int .u8 q, .int .u8 x, .slice A' nb c'], .int .i64 e]) ∧ Hid (Made w.heap.size A' c' m w') ∧ Hid (Below w.heap.size w w') := by
  subst hm
  refine (DecodeC hn hl hi w hT h).mono ?_
  rintro ee w' ⟨A', c', h1, h2, h3⟩
  rw [hd] at h1 h2
  exact ⟨A', c', h1, h2, h3⟩
theorem EncodeE {A : Option Addr} {c n nb : Nat} {a k s q x : Int} {m L : List Int} (hf : (⟨a, k, s, q, x, m⟩ : Fp).ok) (hr : rightF ⟨a, k, s, q, x, m⟩ = true) (hL : encL ⟨a, k, s, q, x, m⟩ = L) (hn : m.length = nb) (hln : L.length = n) (w : World) (hT : Turns w) (hB : RowOf c8 1 w w.heap.size A m) (ha : ∀ ad, A = some ad → ad.block < w.heap.size) :
    Calls Tryd.prog 17 #[.agg #[.int .u8 a, .int .u8 k, .int .u8 s, .int .u8 q, .int .u8 x, .slice A nb c]] w fun e w' => ∃ A' c', e = .returned (.tuple #[.slice A' n c', .int .i64 0]) ∧ Hid (Made w.heap.size A' c' L w') ∧ Hid (Below w.heap.size w w') := by
  subst hL hn hln
  exact EncodeC ⟨a, k, s, q, x, m⟩ hf hr A c w hT hB
theorem EncodeN {A : Option Addr} {c nb : Nat} {a k s q x : Int} {m : List Int} (hr : rightF ⟨a, k, s, q, x, m⟩ = false) (hn : m.length = nb) (w : World) :
    Calls Tryd.prog 17 #[.agg #[.int .u8 a, .int .u8 k, .int .u8 s, .int .u8 q, .int .u8 x, .slice A nb c]] w fun e w' => e = .returned (.tuple #[.slice none 0 0, .int .i64 1]) ∧ Hid (Below w.heap.size w w') := by
  subst hn
  exact EncodeNo ⟨a, k, s, q, x, m⟩ hr A c w
theorem below_set {w w1 : World} (h : Below w.heap.size w w1) (g i : Nat) (v : Value) : Fr1 g w (w1.setCell ⟨g, i, none⟩ v) := ((Fr.of_below h).mono (S' := fun k => k = g) (fun _ _ h => h.elim)).setCell (fun _ => rfl) _
abbrev L13 : List Int := [126, 1, 2, 125, 94, 3, 2, 125, 93, 5, 203, 221, 126]
theorem encL13 : encL ⟨1, 2, 126, 1, 1, [125, 5]⟩ = L13 := of_decide_eq_true (by kernel_rfl)
theorem dec11 : decL [1, 2, 125, 94, 3, 2, 125, 93, 5, 203, 221] = (⟨1, 2, 126, 1, 1, [125, 5]⟩, 0) := by kernel_rfl
theorem dec12 : decL [1, 2, 125, 94, 3, 2, 125, 93, 5, 203, 221, 126] = (⟨0, 0, 0, 0, 0, []⟩, 3) := by kernel_rfl
theorem dec0 : decL [] = (⟨0, 0, 0, 0, 0, []⟩, 2) := by kernel_rfl
end Go.Proofs.YtkihoonjekccgaaDoor.K

/- The walk of CrcSame. -/
namespace Go.Proofs.YtkihoonjekccgaaDoor.K
open Go.RowKit
set_option linter.unusedVariables false
set_option linter.unusedSimpArgs false
attribute [local go_sem] min2_min min_two
theorem be_two (n : Int) (h0 : 0 ≤ n) (h1 : n < 65536) : be n 2 = [n / 256, n % 256] := by
  have : be n 2 = [n / 256 ^ 1 % 256, n / 256 ^ 0 % 256] := rfl
  rw [this]
  congr 1
  · omega
  · congr 1; omega
/-- What is sealed sums to 0. -/
theorem cf_sealed (l : List Int) : crc (l ++ be (crcN l) 2) = 0#16 := by
  have hb := crcN_bound l
  rw [be_two _ hb.1 hb.2]
  unfold crc
  rw [cf_app]
  show sb (sb (cf 0xFFFF#16 l) (crcN l / 256)) (crcN l % 256) = 0#16
  rw [two_zero _ _ _ (by omega) (by omega)]
  show crcN l = _
  omega
theorem crcN_sealed (l : List Int) : crcN (l ++ be (crcN l) 2) = 0 := by
  unfold crcN
  rw [show crc (l ++ be ((crc l).toNat : Int) 2) = 0#16 from cf_sealed l]
  rfl
end Go.Proofs.YtkihoonjekccgaaDoor.K

/- Plain laws about sums: what is turned is told. -/
namespace Go.Proofs.YtkihoonjekccgaaDoor.K
open Go.RowKit
set_option linter.unusedVariables false
set_option linter.unusedSimpArgs false
theorem cf_xor (l : List Int) : ∀ s e : B16, cf (s ^^^ e) l = cf s l ^^^ gn (8 * l.length) e := by
  induction l with
  | nil => intro s e; simp [cf, gn]
  | cons c l ih =>
    intro s e
    show cf (sb (s ^^^ e) c) l = cf (sb s c) l ^^^ gn (8 * (l.length + 1)) e
    have h1 : sb (s ^^^ e) c = sb s c ^^^ gn 8 e := by
      unfold sb
      rw [← gn_xor]
      congr 1
      rw [BitVec.xor_assoc, BitVec.xor_comm e, ← BitVec.xor_assoc]
    rw [h1, ih, show 8 * (l.length + 1) = 8 + 8 * l.length by omega, gn_add]
theorem up_xor (a b : Int) (ha : 0 ≤ a ∧ a < 256) (hb : 0 ≤ b ∧ b < 256) : up (bits .xor .u8 a b) = up a ^^^ up b := by
  rw [u8_xor a b ha.1 ha.2 hb.1 hb.2]
  have hlt : a.toNat ^^^ b.toNat < 256 := Nat.xor_lt_two_pow (n := 8) (by omega) (by omega)
  apply BitVec.eq_of_toNat_eq
  rw [BitVec.toNat_xor, up_toNat a ha, up_toNat b hb, up_toNat _ (by omega)]
  exact (xor_mul a.toNat b.toNat 8).symm
theorem cf_set (l : List Int) (s : B16) (i : Nat) (by_ : Int) (hi : i < l.length) (hb : InB l) (h2 : 0 ≤ by_ ∧ by_ < 256) :
    cf s (l.set i (bits .xor .u8 l[i] by_)) = cf s l ^^^ gn (8 * (l.length - i)) (up by_) := by
  have hx := hb (l[i]) (List.getElem_mem hi)
  have e1 : l = l.take i ++ l[i] :: l.drop (i + 1) := by rw [← List.drop_eq_getElem_cons hi, List.take_append_drop]
  have e2 : l.set i (bits .xor .u8 l[i] by_) = l.take i ++ bits .xor .u8 l[i] by_ :: l.drop (i + 1) := by rw [List.set_eq_take_append_cons_drop, if_pos hi]
  have hd : (l.drop (i + 1)).length = l.length - i - 1 := by rw [List.length_drop]; omega
  rw [e2, cf_app]
  conv => rhs; lhs; rw [e1, cf_app]
  generalize cf s (l.take i) = t
  show cf (sb t (bits .xor .u8 l[i] by_)) _ = cf (sb t l[i]) _ ^^^ _
  have h1 : sb t (bits .xor .u8 l[i] by_) = sb t l[i] ^^^ gn 8 (up by_) := by
    unfold sb
    rw [← gn_xor, up_xor _ _ hx h2, BitVec.xor_assoc]
  rw [h1, cf_xor, ← gn_add, hd]
  congr 2
  omega
theorem up_zero {c : Int} (hc : 0 ≤ c ∧ c < 256) : up c = 0#16 ↔ c = 0 := by
  constructor
  · intro h
    have := congrArg BitVec.toNat h
    rw [up_toNat c hc] at this
    simp at this
    omega
  · rintro rfl; rfl
/-- Valid is what sums to 0. -/
theorem valid_iff {l : List Int} (hb : InB l) (h2 : 2 ≤ l.length) : valid l = decide (crc l = 0#16) := by
  obtain ⟨p, a, b, rfl⟩ : ∃ p a b, l = p ++ [a, b] := by
    refine ⟨l.take (l.length - 2), l[l.length - 2]'(by omega), l[l.length - 1]'(by omega), ?_⟩
    have h1 : l.drop (l.length - 2) = [l[l.length - 2]'(by omega), l[l.length - 1]'(by omega)] := by
      rw [List.drop_eq_getElem_cons (by omega), List.drop_eq_getElem_cons (by omega)]
      simp only [show l.length - 2 + 1 = l.length - 1 by omega, show l.length - 1 + 1 = l.length by omega, List.drop_length]
    rw [← h1, List.take_append_drop]
  have ha := hb a (by simp)
  have hb' := hb b (by simp)
  unfold valid
  have hl : (p ++ [a, b]).length - 2 = p.length := by simp
  rw [hl, List.drop_left, List.take_left]
  have hn : num [a, b] = a * 256 + b := by simp [num]
  have e : crc (p ++ [a, b]) = sb (sb (crc p) a) b := by unfold crc; rw [cf_app]; rfl
  rw [hn, e]
  have := two_zero (crc p) a b ha hb'
  rw [Bool.eq_iff_iff]
  simp only [decide_eq_true_eq]
  rw [this]
  unfold crcN
  constructor
  · intro h; omega
  · intro h; exact ⟨h2, by omega⟩
theorem inB_set {l : List Int} {i : Nat} {x : Int} (h : InB l) (hx : 0 ≤ x ∧ x < 256) : InB (l.set i x) := fun y hy => by
  rcases List.mem_or_eq_of_mem_set hy with h1 | rfl
  · exact h y h1
  · exact hx
theorem xor_inB (a b : Int) (ha : 0 ≤ a ∧ a < 256) (hb : 0 ≤ b ∧ b < 256) : 0 ≤ bits .xor .u8 a b ∧ bits .xor .u8 a b < 256 := by
  rw [u8_xor a b ha.1 ha.2 hb.1 hb.2]
  have hlt : a.toNat ^^^ b.toNat < 256 := Nat.xor_lt_two_pow (n := 8) (by omega) (by omega)
  omega
theorem crc_set {l : List Int} {i : Nat} {x : Int} (hi : i < l.length) (hb : InB l) (h2 : 0 ≤ x ∧ x < 256) : crc (l.set i (bits .xor .u8 l[i] x)) = crc l ^^^ gn (8 * (l.length - i)) (up x) := cf_set l _ i x hi hb h2
/-- One bit, m places ahead of the end. -/
def eb (m : Nat) : B16 := gn m 0x8000#16
theorem up_bit (r : Nat) (hr : r < 8) : gn r (up ((128 : Int) / 2 ^ r)) = 0x8000#16 := by
  have : r = 0 ∨ r = 1 ∨ r = 2 ∨ r = 3 ∨ r = 4 ∨ r = 5 ∨ r = 6 ∨ r = 7 := by omega
  rcases this with h | h | h | h | h | h | h | h <;> subst h <;> decide
/-- Bit k of n bytes is turned. -/
theorem crc_bit {l : List Int} {q r : Nat} (hq : q < l.length) (hr : r < 8) (hb : InB l) : crc (l.set q (bits .xor .u8 l[q] ((128 : Int) / 2 ^ r))) = crc l ^^^ eb (8 * l.length - (8 * q + r)) := by
  have hx : 0 ≤ (128 : Int) / 2 ^ r ∧ (128 : Int) / 2 ^ r < 256 := by
    have : r = 0 ∨ r = 1 ∨ r = 2 ∨ r = 3 ∨ r = 4 ∨ r = 5 ∨ r = 6 ∨ r = 7 := by omega
    rcases this with h | h | h | h | h | h | h | h <;> subst h <;> decide
  rw [crc_set hq hb hx]
  congr 1
  unfold eb
  rw [← up_bit r hr, ← gn_add]
  congr 1
  omega
theorem eb_ne (m : Nat) : eb m ≠ 0#16 := fun h => by
  have := gn_inj0 m _ h
  exact absurd this (by decide)
/-- No two of so many places look alike. -/
def apart : Nat → B16 → Bool
  | 0, _ => true
  | k + 1, x => (gs x != 0x8000#16) && apart k (gs x)
theorem apart_ne : ∀ (k : Nat) (x : B16), apart k x = true → ∀ d, 1 ≤ d → d ≤ k → gn d x ≠ 0x8000#16 := by
  intro k
  induction k with
  | zero => intro x _ d h1 h2; omega
  | succ k ih =>
    intro x h d h1 h2
    simp only [apart, Bool.and_eq_true, bne_iff_ne, ne_eq] at h
    obtain ⟨d', rfl⟩ : ∃ d', d = d' + 1 := ⟨d - 1, by omega⟩
    show gn d' (gs x) ≠ _
    cases d' with
    | zero => exact h.1
    | succ d' => exact ih (gs x) h.2 (d' + 1) (by omega) (by omega)
theorem apart_all : apart 1700 0x8000#16 = true := by kernel_rfl
theorem eb_inj {a b : Nat} (ha : a < 1700) (hb : b < 1700) : eb a ^^^ eb b = 0#16 ↔ a = b := by
  rw [xor_eq0]
  constructor
  · intro h
    unfold eb at h
    rcases Nat.lt_trichotomy a b with hlt | rfl | hlt
    · exfalso
      rw [show b = (b - a) + a by omega, gn_add] at h
      exact apart_ne _ _ apart_all (b - a) (by omega) (by omega) (gn_inj a h).symm
    · rfl
    · exfalso
      rw [show a = (a - b) + b by omega, gn_add] at h
      exact apart_ne _ _ apart_all (a - b) (by omega) (by omega) (gn_inj b h)
  · rintro rfl; rfl
end Go.Proofs.YtkihoonjekccgaaDoor.K

/- Sealed bytes of the call's own, turned in place. -/
namespace Go.Proofs.YtkihoonjekccgaaDoor.K
open Go.RowKit
set_option linter.unusedVariables false
set_option linter.unusedSimpArgs false
theorem Made.put {B c i : Nat} {A : Option Addr} {l : List Int} {w : World} (h : Made B A c l w) (hi : i < l.length) :
    ∃ g, A = some ⟨g, 0, none⟩ ∧ B ≤ g ∧ g < w.heap.size ∧ w.cell? ⟨g, i, none⟩ = some (.int .u8 l[i]) ∧ w.frozen? ⟨g, i, none⟩ = false ∧ ∀ x, Made B (some ⟨g, 0, none⟩) c (l.set i x) (w.setCell ⟨g, i, none⟩ (.int .u8 x)) := by
  obtain ⟨h1, h2, h3⟩ := h
  obtain ⟨g, cap, hv, hb, hlt⟩ := h1.form (by omega)
  have hA : A = some ⟨g, 0, none⟩ := by injection hv
  subst hA
  have hxl : i < (nums .u8 l).length := by rw [nums_length]; exact hi
  have hx : (nums .u8 l)[i]? = some (.int .u8 l[i]) := by simp [nums, hi]
  refine ⟨g, rfl, hb, hlt, (h1.cellAt i (by omega)).trans hx, h1.frozenAt i, fun x => ?_⟩
  have h4 := (h1.stored i (.int .u8 x)).1
  have e : (nums .u8 l).set i (.int .u8 x) = nums .u8 (l.set i x) := by simp [nums, List.map_set]
  rw [e] at h4
  refine ⟨by rw [List.length_set]; exact h4, ?_, by rw [List.length_set]; exact h3⟩
  exact row_own (c := c8) (fun _ => rfl) (by rw [← nums_flat]; rw [List.length_set]; exact h4)
theorem set_below {B g i : Nat} {v : Value} {w0 w : World} (h : Below B w0 w) (hg : B ≤ g) : Below B w0 (w.setCell ⟨g, i, none⟩ v) :=
  ⟨h.os, h.tape, h.output, by simpa [World.setCell] using h.size, fun k hk => (Below.heap_setCell w _ v k (by rintro rfl; exact absurd hk (by simp; omega))).trans (h.block k hk)⟩
theorem Made.below {B B' c : Nat} {A : Option Addr} {l : List Int} {w w' : World} (h : Made B A c l w) (k : Below B' w w') (hB : w.heap.size ≤ B') : Made B A c l w' :=
  h.fr (Fr.of_below (k.mono hB)) (fun _ _ e => e)
theorem xor_back (a b : Int) (ha : 0 ≤ a ∧ a < 256) (hb : 0 ≤ b ∧ b < 256) : bits .xor .u8 (bits .xor .u8 a b) b = a := by
  have h1 := xor_inB a b ha hb
  rw [u8_xor _ _ h1.1 h1.2 hb.1 hb.2, u8_xor a b ha.1 ha.2 hb.1 hb.2]
  simp only [Int.toNat_natCast]
  rw [Nat.xor_assoc, Nat.xor_self, Nat.xor_zero]
  omega
theorem set_size (w : World) (a : Addr) (v : Value) : (w.setCell a v).heap.size = w.heap.size := by simp [World.setCell]
/-- Valid, of a row of the call's own. -/
theorem CValidM {B M c : Nat} {A : Option Addr} {l : List Int} {b : Bool} {w : World} (hn : l.length = M) (hv : valid l = b) (hT : Turns w) (h : Made B A c l w) (hi : InB l) (hl : M ≤ 140737488355328) :
    Calls Tryd.prog 27 #[.slice A M c] w fun e w' => e = .returned (.bool b) ∧ Hid (Below w.heap.size w w') :=
  CValidE hn hv (Same.refl w) hT h.2.1 hi hl (hn ▸ h.2.2) (made_cap h)
theorem CValidS {B M c : Nat} {A : Option Addr} {l : List Int} {b : Bool} {w w1 : World} (hn : l.length = M) (hv : valid l = b) (hs : Same w w1) (hT : Turns w) (h : Made B A c l w) (hi : InB l) (hl : M ≤ 140737488355328) :
    Calls Tryd.prog 27 #[.slice A M c] w1 fun e w' => e = .returned (.bool b) ∧ Hid (Below w.heap.size w w') :=
  CValidE hn hv hs hT h.2.1 hi hl (hn ▸ h.2.2) (made_cap h)
/-- What Append made of bytes. -/
structure Sealed (l m : List Int) (M : Nat) : Prop where
  made : l ++ be (crcN l) 2 = m
  len : m.length = M
  zero : crc m = 0#16
  inB : InB m
theorem sealed_of {l : List Int} (hi : InB l) : ∃ m, Sealed l m (l.length + 2) :=
  ⟨_, rfl, by rw [List.length_append, be_length], cf_sealed l, fun x hx => (List.mem_append.1 hx).elim (hi x) (be_inB _ _ x)⟩
end Go.Proofs.YtkihoonjekccgaaDoor.K

/- Frames: plain laws. -/
namespace Go.Proofs.YtkihoonjekccgaaDoor.K
open Go.RowKit
set_option linter.unusedVariables false
set_option linter.unusedSimpArgs false
theorem xor94 : bits .xor .u8 94 32 = 126 := by decide
theorem xor93 : bits .xor .u8 93 32 = 125 := by decide
theorem unst_stf (l r acc : List Int) : unst false (stf l ++ r) acc = unst false r (acc ++ l) := by
  induction l generalizing acc with
  | nil => simp [stf]
  | cons x l ih =>
    have e : stf (x :: l) ++ r = stf1 x ++ (stf l ++ r) := by simp [stf]
    rw [e]
    by_cases h1 : x = 126
    · subst h1
      show unst false (125 :: 94 :: (stf l ++ r)) acc = _
      simp only [unst, xor94]
      simp [ih]
    · by_cases h2 : x = 125
      · subst h2
        show unst false (125 :: 93 :: (stf l ++ r)) acc = _
        simp only [unst, xor93]
        simp [ih]
      · have e1 : stf1 x = [x] := by simp [stf1, h1, h2]
        rw [e1]
        simp only [List.cons_append, List.nil_append, unst, h1, h2, if_false]
        rw [ih]; simp
theorem unst_back (l : List Int) : unst false (stf l) [] = (l, 0) := by
  have := unst_stf l [] []
  simpa [unst] using this
/-- A beginning of what is stuffed. -/
theorem unst_cut (l acc : List Int) (p : Nat) (hp : p ≤ (stf l).length) :
    (0 < p ∧ (stf l).getD (p - 1) 0 = 125 ∧ unst false ((stf l).take p) acc = ([], 2)) ∨
    ((p = 0 ∨ (stf l).getD (p - 1) 0 ≠ 125) ∧ ∃ m, m ≤ l.length ∧ unst false ((stf l).take p) acc = (acc ++ l.take m, 0)) := by
  induction l generalizing acc p with
  | nil =>
    have : p = 0 := by simpa [stf] using hp
    subst this
    right; exact ⟨.inl rfl, 0, by simp, by simp [stf, unst]⟩
  | cons x l ih =>
    have e : stf (x :: l) = stf1 x ++ stf l := by simp [stf]
    rw [e] at hp ⊢
    rw [List.length_append] at hp
    match p with
    | 0 => right; exact ⟨.inl rfl, 0, by simp, by simp [unst]⟩
    | 1 =>
      by_cases h1 : x = 126
      · subst h1
        left; exact ⟨by omega, rfl, rfl⟩
      · by_cases h2 : x = 125
        · subst h2
          left; exact ⟨by omega, rfl, rfl⟩
        · right
          have e1 : stf1 x = [x] := by simp [stf1, h1, h2]
          rw [e1]
          exact ⟨.inr (by simpa using h2), 1, by simp, by simp [unst, h1, h2]⟩
    | q + 2 =>
      have key : ∃ acc', ∀ r, unst false (stf1 x ++ r) acc = unst false r (acc ++ [x]) := ⟨acc, fun r => by
        have := unst_stf [x] r acc
        simpa [stf] using this⟩
      obtain ⟨_, key⟩ := key
      have hl : (stf1 x).length = 1 ∨ (stf1 x).length = 2 := by unfold stf1; split <;> (try split) <;> simp
      obtain ⟨j, hj⟩ : ∃ j, q + 2 = (stf1 x).length + j := ⟨q + 2 - (stf1 x).length, by omega⟩
      rw [hj, List.take_length_add_append, key]
      rcases ih (acc ++ [x]) j (by omega) with ⟨h0, h1, h2⟩ | ⟨h1, m, hm, h2⟩
      · left
        refine ⟨by omega, ?_, h2⟩
        rw [List.getD_eq_getElem?_getD, List.getElem?_append_right (by omega), show (stf1 x).length + j - 1 - (stf1 x).length = j - 1 by omega, ← List.getD_eq_getElem?_getD]
        exact h1
      · right
        refine ⟨.inr ?_, m + 1, by simp; omega, by rw [h2]; simp⟩
        rcases h1 with rfl | h1
        · rw [Nat.add_zero, List.getD_eq_getElem?_getD, List.getElem?_append_left (by omega)]
          have h22 : (stf1 x).length = 2 := by omega
          unfold stf1 at h22 ⊢
          split
          · simp
          · split
            · simp
            · rename_i ha hb; simp [ha, hb] at h22
        · by_cases hj0 : j = 0
          · subst hj0
            rw [Nat.add_zero, List.getD_eq_getElem?_getD, List.getElem?_append_left (by omega)]
            have h22 : (stf1 x).length = 2 := by omega
            unfold stf1 at h22 ⊢
            split
            · simp
            · split
              · simp
              · rename_i ha hb; simp [ha, hb] at h22
          · rw [List.getD_eq_getElem?_getD, List.getElem?_append_right (by omega), show (stf1 x).length + j - 1 - (stf1 x).length = j - 1 by omega, ← List.getD_eq_getElem?_getD]
            exact h1
theorem unst_flag (l : List Int) : unst false (stf l ++ [126]) [] = ([], 3) := by rw [unst_stf]; rfl
/-- What is encoded is decoded. -/
theorem fields_hd {f : Fp} (hf : f.ok) (hr : rightF f = true) : fieldsF (hdF f) = f := by
  have h := right_of hr
  have h4 := hf.q
  have h5 := hf.x
  obtain ⟨addr, kind, ses, seq, ack, B⟩ := f
  simp only at h h4 h5
  show (⟨addr, kind, ses, (seq + 2 * ack) % 2, (seq + 2 * ack) / 2, B⟩ : Fp) = _
  rw [show (seq + 2 * ack) % 2 = seq by omega, show (seq + 2 * ack) / 2 = ack by omega]
theorem inner_valid {f : Fp} (hf : f.ok) (hr : rightF f = true) : valid (innerL f) = true := by
  rw [valid_iff (innerL_inB hf hr) (by rw [innerL_len]; omega)]
  exact decide_eq_true (cf_sealed (hdF f))
theorem inner_take (f : Fp) : (innerL f).take ((innerL f).length - 2) = hdF f := by
  rw [innerL_len, show f.B.length + 7 - 2 = (hdF f).length by rw [hdF_len]; omega]
  unfold innerL
  rw [List.take_left]
theorem dec_enc {f : Fp} (hf : f.ok) (hr : rightF f = true) : decL (stf (innerL f)) = (f, 0) := by
  unfold decL
  rw [unst_back]
  simp only [ne_eq, not_true_eq_false, if_false, inner_valid hf hr, inner_take]
  rw [if_neg (by rw [innerL_len]; omega), if_neg (by simp)]
  unfold formF
  rw [fields_hd hf hr, hr]
  simp [hdF]
theorem dec_flag (l : List Int) : decL (stf l ++ [126]) = (fr0, 3) := by
  unfold decL
  rw [unst_flag]
  simp
theorem dec_cut (l : List Int) (p : Nat) (hp : p ≤ (stf l).length) (h6 : p ≤ 6) : decL ((stf l).take p) = (fr0, 2) := by
  unfold decL
  rcases unst_cut l [] p hp with ⟨_, _, h⟩ | ⟨_, m, hm, h⟩
  · rw [h]; simp
  · have hle := unst_le _ _ _ _ _ h
    rw [h]
    simp only [List.length_nil, Nat.zero_add, List.length_take] at hle
    simp only [ne_eq, not_true_eq_false, if_false]
    rw [if_pos (by rw [List.nil_append, List.length_take] at *; omega)]
/-- What is stuffed, of whatever inner bytes. -/
theorem dec_stf (m : List Int) : decL (stf m) = if m.length < 7 then (fr0, 2) else if valid m = false then (fr0, 4) else formF (m.take (m.length - 2)) := by
  unfold decL
  rw [unst_back]
  simp
theorem encL_in (f : Fp) : ((encL f).take ((encL f).length - 1)).drop 1 = stf (innerL f) := by
  rw [encL_len]
  unfold encL
  simp
theorem encL_tail (f : Fp) : (encL f).drop 1 = stf (innerL f) ++ [126] := rfl
theorem encL_ge (f : Fp) : 9 ≤ (encL f).length := by
  have := (stf_len (innerL f)).1
  have := innerL_len f
  rw [encL_len]; omega
theorem encL_le {f : Fp} (hr : rightF f = true) : (encL f).length ≤ 64 := by
  have h := (right_of hr).2.2.2.2.2.2
  have := (stf_len (innerL f)).2
  have := innerL_len f
  rw [encL_len]; omega
theorem encL_inB {f : Fp} (hf : f.ok) (hr : rightF f = true) : InB (encL f) := fun x hx => by
  rcases List.mem_append.1 hx with hx | hx
  · rw [List.mem_singleton] at hx; omega
  · rcases List.mem_append.1 hx with hx | hx
    · exact stf_inB (innerL_inB hf hr) x hx
    · rw [List.mem_singleton] at hx; omega
end Go.Proofs.YtkihoonjekccgaaDoor.K

/- few: a frame with at most fifty bytes, its own. -/
namespace Go.Proofs.YtkihoonjekccgaaDoor.K
open Go.RowKit
set_option linter.unusedVariables false
set_option linter.unusedSimpArgs false
attribute [local go_sem] min2_min min_two
/-- The frame that few tells. -/
abbrev fewF (f : Fp) : Fp := ⟨f.addr, f.kind, f.ses, f.seq, f.ack, f.B.take 50⟩
theorem own_lit2 (w : World) (o1 o2 : Obj) : (((w.alloc o1).alloc o2).alloc (.cells #[] 5)).ownsRow (w.heap.size + 2) 5 1 (.slice (some ⟨w.heap.size + 1 + 1, 0, none⟩) 0 0) 0 [] := by
  have := World.ownsRow_lit (base := w.heap.size + 2) (e := 5) (size := 1) ((w.alloc o1).alloc o2) #[] 0 (by simp) (by decide) rfl
  simpa using this
/-- Encode, right or not. -/
def encA (f : Fp) : List Int × Int := if rightF f then (encL f, 0) else ([], 1)
theorem EncodeAny {A : Option Addr} {c n nb : Nat} {a k s q x e : Int} {m L : List Int} (hf : (⟨a, k, s, q, x, m⟩ : Fp).ok) (hL : encA ⟨a, k, s, q, x, m⟩ = (L, e)) (hn : m.length = nb) (hln : L.length = n) (w : World) (hT : Turns w) (hB : RowOf c8 1 w w.heap.size A m) (ha : ∀ ad, A = some ad → ad.block < w.heap.size) :
    Calls Tryd.prog 17 #[.agg #[.int .u8 a, .int .u8 k, .int .u8 s, .int .u8 q, .int .u8 x, .slice A nb c]] w fun ee w' => ∃ A' c', ee = .returned (.tuple #[.slice A' n c', .int .i64 e]) ∧ Hid (Made w.heap.size A' c' L w') ∧ Hid (Below w.heap.size w w') := by
  cases hr : rightF ⟨a, k, s, q, x, m⟩ with
  | true =>
    simp only [encA, hr, if_true, Prod.mk.injEq] at hL
    obtain ⟨h1, rfl⟩ := hL
    exact EncodeE hf hr h1 hn hln w hT hB ha
  | false =>
    have hL2 : (([], 1) : List Int × Int) = (L, e) := by rw [← hL]; unfold encA; rw [hr]; rfl
    obtain ⟨rfl, rfl⟩ := Prod.mk.inj hL2
    subst hln
    refine (EncodeN hr hn w).mono ?_
    rintro ee w' ⟨rfl, H⟩
    exact ⟨none, 0, rfl, Lib.hid (made_nil _ _), H⟩
theorem EncodeW {A : Option Addr} {c n nb : Nat} {a k s q x e : Int} {m L : List Int} (hf : (⟨a, k, s, q, x, m⟩ : Fp).ok) (hL : encA ⟨a, k, s, q, x, m⟩ = (L, e)) (hn : m.length = nb) (hln : L.length = n) (w : World) (hT : Turns w) (hB : RowOf c8 1 w w.heap.size A m) :
    Calls Tryd.prog 17 #[.agg #[.int .u8 a, .int .u8 k, .int .u8 s, .int .u8 q, .int .u8 x, .slice A nb c]] w fun ee w' => ∃ A' c', ee = .returned (.tuple #[.slice A' n c', .int .i64 e]) ∧ Hid (Made w.heap.size A' c' L w') ∧ Hid (Below w.heap.size w w') := by
  cases hr : rightF ⟨a, k, s, q, x, m⟩ with
  | true =>
    simp only [encA, hr, if_true, Prod.mk.injEq] at hL
    obtain ⟨rfl, rfl⟩ := hL
    subst hn hln
    exact EncodeC ⟨a, k, s, q, x, m⟩ hf hr A c w hT hB
  | false =>
    have hL2 : (([], 1) : List Int × Int) = (L, e) := by rw [← hL]; unfold encA; rw [hr]; rfl
    obtain ⟨rfl, rfl⟩ := Prod.mk.inj hL2
    subst hln
    refine (EncodeN hr hn w).mono ?_
    rintro ee w' ⟨rfl, H⟩
    exact ⟨none, 0, rfl, Lib.hid (made_nil _ _), H⟩
/-- A row of the call's own: one byte of it, and the row behind a store there. -/
theorem own_put4 {base : Nat} {e : TypeId} {w : World} {A : Option Addr} {n c : Nat} {xs : List Value} {i : Nat} (h : w.ownsRow base e 1 (.slice A n c) n xs) (hi : i < n) :
    ∃ g x, A = some ⟨g, 0, none⟩ ∧ base ≤ g ∧ g < w.heap.size ∧ w.cell? ⟨g, i, none⟩ = some x ∧ w.frozen? ⟨g, i, none⟩ = false ∧ ∀ u, (w.setCell ⟨g, i, none⟩ u).ownsRow base e 1 (.slice (some ⟨g, 0, none⟩) n c) n (xs.set i u) := by
  obtain ⟨g, cap, hv, hb, hlt⟩ := h.form (by omega)
  have hA : A = some ⟨g, 0, none⟩ := by injection hv
  subst hA
  have hl : i < xs.length := by have := h.1; omega
  exact ⟨g, xs[i], rfl, hb, hlt, (h.cellAt i (by omega)).trans (List.getElem?_eq_getElem hl), h.frozenAt i, fun u => (h.stored i u).1⟩
theorem ok_few {f : Fp} (h : f.ok) : (fewF f).ok := ⟨h.a, h.k, h.s, h.q, h.x, h.b.take_ 50⟩
end Go.Proofs.YtkihoonjekccgaaDoor.K

/- Arguments opened: a frame by value. -/
namespace Go.Proofs.YtkihoonjekccgaaDoor.K
open Go.RowKit Go.ChangeShapes Go.WideShapes Go.Joins Go.Deep
set_option linter.unusedVariables false
set_option linter.constructorNameAsVariable false
set_option linter.unusedSimpArgs false
section
variable {H : Type} {enc : TypeId × Value → H} {P : Program} {w : World} {base : Nat} {spare : Nat → Bool} {held : Bool}
/-- A struct of 6 fields of one cell each, in its cells. -/
theorem trod_fields6 {t : TypeId} {f0 f1 f2 f3 f4 f5 : Field} {fuel : Nat} {cs : List Value} {x : DataW H × List MemPlace} (hs : P.underlying t = some (.struct #[f0, f1, f2, f3, f4, f5])) (hone : Go.Deep.oneCellFields P #[f0, f1, f2, f3, f4, f5] = true) (hC : P.cellsOf t = 6)
    (h : DataW.trod enc P w base spare held fuel t cs = some x) :
    ∃ (v0 v1 v2 v3 v4 v5 : Value) (y0 y1 y2 y3 y4 y5 : DataW H × List MemPlace) (n : Nat), cs = [v0, v1, v2, v3, v4, v5] ∧ DataW.trod enc P w base spare held n f0.type [v0] = some y0 ∧ DataW.trod enc P w base spare held n f1.type [v1] = some y1 ∧ DataW.trod enc P w base spare held n f2.type [v2] = some y2 ∧ DataW.trod enc P w base spare held n f3.type [v3] = some y3 ∧ DataW.trod enc P w base spare held n f4.type [v4] = some y4 ∧ DataW.trod enc P w base spare held n f5.type [v5] = some y5 := by
  obtain ⟨xs, n, _, hx, hcl, hlen, hg⟩ := DataW.trod_struct hs h
  rw [hC] at hcl
  match cs, hcl with
  | [c0, c1, c2, c3, c4, c5], _ =>
    obtain ⟨o0, k0⟩ := Go.Deep.hone_of hone 0 f0 rfl
    obtain ⟨o1, k1⟩ := Go.Deep.hone_of hone 1 f1 rfl
    obtain ⟨o2, k2⟩ := Go.Deep.hone_of hone 2 f2 rfl
    obtain ⟨o3, k3⟩ := Go.Deep.hone_of hone 3 f3 rfl
    obtain ⟨o4, k4⟩ := Go.Deep.hone_of hone 4 f4 rfl
    obtain ⟨o5, k5⟩ := Go.Deep.hone_of hone 5 f5 rfl
    match xs, hlen with
    | [y0, y1, y2, y3, y4, y5], _ =>
      exact ⟨c0, c1, c2, c3, c4, c5, y0, y1, y2, y3, y4, y5, n, rfl, by simpa [o0, k0] using hg 0 f0 rfl, by simpa [o1, k1] using hg 1 f1 rfl, by simpa [o2, k2] using hg 2 f2 rfl, by simpa [o3, k3] using hg 3 f3 rfl, by simpa [o4, k4] using hg 4 f4 rfl, by simpa [o5, k5] using hg 5 f5 rfl⟩
end
section
variable {H : Type} {enc : TypeId × Value → H} {w : World} {base : Nat} {spare : Nat → Bool} {held : Bool}
set_option maxRecDepth 10000 in
/-- A frame that comes in. -/
theorem open_frame {r : Reach} {b0 : Nat} {v : Value} {d : DataW H} {p : List MemPlace} (hv : Value.okWide Tryd.prog w r b0 35 v) (h : DataW.Trod enc Tryd.prog w base spare held 35 v d p) :
    ∃ (f : Fp) (A : Option Addr) (c : Nat), v = .agg #[.int .u8 f.addr, .int .u8 f.kind, .int .u8 f.ses, .int .u8 f.seq, .int .u8 f.ack, .slice A f.B.length c] ∧ f.ok ∧ RowOf c8 1 w w.heap.size A f.B ∧ f.B.length ≤ c ∧ c ≤ maxLen := by
  obtain ⟨⟨cs⟩, rfl, hsz⟩ := okWide_struct Tryd.underlying35 hv
  obtain ⟨fuel, hf⟩ := h
  obtain ⟨v0, v1, v2, v3, v4, v5, y0, y1, y2, y3, y4, y5, n, hcs0, t0, t1, t2, t3, t4, t5⟩ := trod_fields6 Tryd.underlying35 (by kernel_rfl) (by kernel_rfl) hf
  simp only [Value.cells] at hcs0
  subst hcs0
  have num : ∀ (v : Value) (y : DataW H × List MemPlace), DataW.trod enc Tryd.prog w base spare held n 5 [v] = some y → ∃ x : Int, v = .int .u8 x ∧ 0 ≤ x ∧ x < 256 := fun v y h => by
    obtain ⟨x, h1, _, h3⟩ := DataW.trod_int Tryd.underlying5 h
    have := wf_u8 h3
    injection h1 with h1
    exact ⟨x, h1, this⟩
  obtain ⟨a, rfl, ha⟩ := num v0 y0 t0
  obtain ⟨k, rfl, hk⟩ := num v1 y1 t1
  obtain ⟨s, rfl, hs⟩ := num v2 y2 t2
  obtain ⟨q, rfl, hq⟩ := num v3 y3 t3
  obtain ⟨x, rfl, hx⟩ := num v4 y4 t4
  have key : ∀ (A : Option Addr) (len c : Nat), v5 = .slice A len c → ∃ (f : Fp) (A : Option Addr) (c : Nat), Value.agg ⟨[.int .u8 a, .int .u8 k, .int .u8 s, .int .u8 q, .int .u8 x, v5]⟩ = .agg #[.int .u8 f.addr, .int .u8 f.kind, .int .u8 f.ses, .int .u8 f.seq, .int .u8 f.ack, .slice A f.B.length c] ∧ f.ok ∧ RowOf c8 1 w w.heap.size A f.B ∧ f.B.length ≤ c ∧ c ≤ maxLen := fun A len c e => by
    subst e
    obtain ⟨l, h1, h2, h3, h4, h5⟩ := open_rowOf (c := fun x : Int => [.int .u8 x]) (Q := fun x => (Lit.int .u8 x).wf = true) (size := 1) (fun _ => rfl) (by omega) (by kernel_rfl) (dec_int Tryd.underlying5) Tryd.underlying32 (d := y5.1) (ps := y5.2) (⟨n, by simpa [Value.cells] using t5⟩ : DataW.Trod enc Tryd.prog w base spare held 32 (.slice A len c) y5.1 y5.2)
    subst h1
    exact ⟨⟨a, k, s, q, x, l⟩, A, c, rfl, ⟨ha, hk, hs, hq, hx, fun y hy => wf_u8 (h3 y hy)⟩, h2, h4, h5⟩
  rcases Go.Deep.open_slice Tryd.underlying32 t5 with ⟨hcs, _⟩ | ⟨a', l', c', m, n', D, Pl, hcs, _⟩
  · injection hcs with hcs; exact key _ _ _ hcs
  · injection hcs with hcs; exact key _ _ _ hcs
end
end Go.Proofs.YtkihoonjekccgaaDoor.K

/- The decoder of a row of bytes in plain Lean: what it counts, what it holds, what comes out. -/
namespace Go.Proofs.YtkihoonjekccgaaDoor.K
set_option linter.unusedVariables false
set_option linter.unusedSimpArgs false
structure Ds where
  n : List Int
  held : List Int
  over : Bool
def inc (n : List Int) (e : Nat) : List Int := n.set e (n.getD e 0 + 1)
def takeD (c : Int) (s : Ds) : Ds := if s.over = true then s else if s.held.length = 62 then ⟨inc s.n 10, [], true⟩ else ⟨s.n, s.held ++ [c], false⟩
def endD (s : Ds) : Ds × List Fp := if s.held = [] then (⟨s.n, [], false⟩, []) else if (decL s.held).2 = 0 then (⟨s.n, [], false⟩, [(decL s.held).1]) else (⟨inc s.n (decL s.held).2.toNat, [], false⟩, [])
def stepD (c : Int) (s : Ds) : Ds × List Fp := if c = 126 then endD s else (takeD c s, [])
def feedD : List Int → Ds → Ds × List Fp
  | [], s => (s, [])
  | c :: l, s => ((feedD l (stepD c s).1).1, (stepD c s).2 ++ (feedD l (stepD c s).1).2)
theorem feed_app : ∀ (a b : List Int) (s : Ds), feedD (a ++ b) s = ((feedD b (feedD a s).1).1, (feedD a s).2 ++ (feedD b (feedD a s).1).2) := by
  intro a
  induction a with
  | nil => intro b s; simp [feedD]
  | cons c a ih => intro b s; simp only [List.cons_append, feedD, ih b, List.append_assoc]
theorem feed_one (c : Int) (s : Ds) : feedD [c] s = stepD c s := by simp [feedD]
theorem feed_snoc (a : List Int) (c : Int) (s : Ds) : feedD (a ++ [c]) s = ((stepD c (feedD a s).1).1, (feedD a s).2 ++ (stepD c (feedD a s).1).2) := by rw [feed_app, feed_one]
/-- A decoder that may be, and has counted at most k. -/
structure DsOk (k : Int) (s : Ds) : Prop where
  len : s.n.length = 12
  cnt : ∀ x ∈ s.n, 0 ≤ x ∧ x ≤ k
  held : s.held.length ≤ 62
  inB : InB s.held
  over : s.over = true → s.held = []
theorem unst_err : ∀ (l : List Int) (b : Bool) (acc : List Int), (unst b l acc).2 = 0 ∨ (unst b l acc).2 = 2 ∨ (unst b l acc).2 = 3 := by
  intro l
  induction l with
  | nil => intro b acc; cases b <;> simp [unst]
  | cons c l ih =>
    intro b acc
    cases b <;> simp only [unst] <;> split
    · simp
    · split <;> exact ih _ _
    · exact ih _ _
    · split
      · exact ih _ _
      · simp
theorem dec_err (l : List Int) : (decL l).2 = 0 ∨ (decL l).2 = 2 ∨ (decL l).2 = 3 ∨ (decL l).2 = 4 := by
  have := unst_err l false []
  unfold decL formF
  split
  · dsimp only; omega
  · split
    · simp
    · split
      · simp
      · split <;> simp
theorem inc_len (n : List Int) (e : Nat) : (inc n e).length = n.length := by simp [inc]
theorem inc_cnt {n : List Int} {k : Int} (h : ∀ x ∈ n, 0 ≤ x ∧ x ≤ k) (h0 : 0 ≤ k) (e : Nat) : ∀ x ∈ inc n e, 0 ≤ x ∧ x ≤ k + 1 := by
  intro x hx
  unfold inc at hx
  rcases List.mem_or_eq_of_mem_set hx with hx | rfl
  · have := h x hx; omega
  · have : n.getD e 0 ∈ n ∨ n.getD e 0 = 0 := by
      rw [List.getD_eq_getElem?_getD]
      rcases Nat.lt_or_ge e n.length with hl | hl
      · left; rw [List.getElem?_eq_getElem hl]; exact List.getElem_mem hl
      · right; rw [List.getElem?_eq_none hl]; rfl
    rcases this with hm | hm
    · have := h _ hm; omega
    · omega
theorem DsOk.mono {k k' : Int} {s : Ds} (h : DsOk k s) (hk : k ≤ k') : DsOk k' s := ⟨h.len, fun x hx => by have := h.cnt x hx; omega, h.held, h.inB, h.over⟩
theorem take_ok {k : Int} {s : Ds} (h : DsOk k s) (h0 : 0 ≤ k) {c : Int} (hc : 0 ≤ c ∧ c < 256) : DsOk (k + 1) (takeD c s) := by
  unfold takeD
  split
  · exact h.mono (by omega)
  · rename_i ho
    split
    · exact ⟨by simp [inc_len, h.len], inc_cnt h.cnt h0 10, by simp, by intro x hx; simp at hx, fun _ => rfl⟩
    · rename_i hl
      have hh := h.held
      refine ⟨h.len, fun x hx => by have := h.cnt x hx; omega, ?_, ?_, fun e => by simp at e⟩
      · rw [List.length_append, List.length_singleton]; omega
      · intro x hx
        rcases List.mem_append.1 hx with hx | hx
        · exact h.inB x hx
        · rw [List.mem_singleton] at hx; subst hx; exact hc
theorem end_ok {k : Int} {s : Ds} (h : DsOk k s) (h0 : 0 ≤ k) : DsOk (k + 1) (endD s).1 := by
  unfold endD
  split
  · exact ⟨h.len, fun x hx => by have := h.cnt x hx; omega, by simp, by intro x hx; simp at hx, fun _ => rfl⟩
  · split
    · exact ⟨h.len, fun x hx => by have := h.cnt x hx; omega, by simp, by intro x hx; simp at hx, fun _ => rfl⟩
    · exact ⟨by simp [inc_len, h.len], inc_cnt h.cnt h0 _, by simp, by intro x hx; simp at hx, fun _ => rfl⟩
theorem step_ok {k : Int} {s : Ds} (h : DsOk k s) (h0 : 0 ≤ k) {c : Int} (hc : 0 ≤ c ∧ c < 256) : DsOk (k + 1) (stepD c s).1 := by
  unfold stepD
  split
  · exact end_ok h h0
  · exact take_ok h h0 hc
theorem feed_ok : ∀ (l : List Int) {k : Int} {s : Ds}, DsOk k s → 0 ≤ k → InB l → DsOk (k + l.length) (feedD l s).1 := by
  intro l
  induction l with
  | nil => intro k s h _ _; simpa [feedD] using h
  | cons c l ih =>
    intro k s h h0 hi
    have := ih (step_ok h h0 (hi c (by simp))) (by omega) (fun x hx => hi x (by simp [hx]))
    simp only [feedD]
    exact this.mono (by simp; omega)
/-- A decoder as new. -/
def d0 : Ds := ⟨[0, 0, 0, 0, 0, 0, 0, 0, 0, 0, 0, 0], [], false⟩
theorem d0_ok : DsOk 0 d0 := ⟨rfl, fun x hx => by simp [d0] at hx; omega, by simp [d0], by intro x hx; simp [d0] at hx, fun h => by simp [d0] at h⟩
end Go.Proofs.YtkihoonjekccgaaDoor.K

/- The cells of a decoder. -/
namespace Go.Proofs.YtkihoonjekccgaaDoor.K
open Go.RowKit
set_option linter.unusedVariables false
set_option linter.unusedSimpArgs false
def dcl (n arr : List Int) (m : Int) (o : Bool) : List Value := n.map (fun x => .int .i64 x) ++ (arr.map (fun x => .int .u8 x) ++ [.int .i64 m, .bool o])
def dcs (n arr : List Int) (m : Int) (o : Bool) : Array Value := (dcl n arr m o).toArray
section
variable {n arr : List Int} {m : Int} {o : Bool} {i : Nat}
theorem dcs_n (hn : n.length = 12) (hi : i < 12) : (dcs n arr m o)[i]? = some (.int .i64 (n.getD i 0)) := by
  unfold dcs dcl
  rw [List.getElem?_toArray, List.getElem?_append_left (by simp [hn]; omega), List.getElem?_map, List.getD_eq_getElem?_getD, List.getElem?_eq_getElem (by omega)]
  rfl
theorem dcs_a (hn : n.length = 12) (ha : arr.length = 62) (hi : i < 62) : (dcs n arr m o)[12 + i]? = some (.int .u8 (arr.getD i 0)) := by
  unfold dcs dcl
  rw [List.getElem?_toArray, List.getElem?_append_right (by simp [hn]), List.getElem?_append_left (by simp [hn, ha]; omega), List.getElem?_map, List.length_map, hn, Nat.add_sub_cancel_left, List.getD_eq_getElem?_getD, List.getElem?_eq_getElem (by omega)]
  rfl
theorem dcs_m (hn : n.length = 12) (ha : arr.length = 62) : (dcs n arr m o)[74]? = some (.int .i64 m) := by
  unfold dcs dcl
  rw [List.getElem?_toArray, List.getElem?_append_right (by simp [hn]), List.getElem?_append_right (by simp [hn, ha])]
  simp [hn, ha]
theorem dcs_o (hn : n.length = 12) (ha : arr.length = 62) : (dcs n arr m o)[75]? = some (.bool o) := by
  unfold dcs dcl
  rw [List.getElem?_toArray, List.getElem?_append_right (by simp [hn]), List.getElem?_append_right (by simp [hn, ha])]
  simp [hn, ha]
theorem dcs_set_n (hn : n.length = 12) (hi : i < 12) (x : Int) : (dcs n arr m o).setIfInBounds i (.int .i64 x) = dcs (n.set i x) arr m o := by
  unfold dcs dcl
  rw [List.setIfInBounds_toArray, List.set_append_left (h := by simp [hn]; omega), List.map_set]
theorem dcs_set_a (hn : n.length = 12) (ha : arr.length = 62) (hi : i < 62) (x : Int) : (dcs n arr m o).setIfInBounds (12 + i) (.int .u8 x) = dcs n (arr.set i x) m o := by
  unfold dcs dcl
  rw [List.setIfInBounds_toArray, List.set_append_right (h := by simp [hn]), List.length_map, hn, Nat.add_sub_cancel_left, List.set_append_left (h := by simp [ha]; omega), List.map_set]
theorem dcs_set_m (hn : n.length = 12) (ha : arr.length = 62) (x : Int) : (dcs n arr m o).setIfInBounds 74 (.int .i64 x) = dcs n arr x o := by
  unfold dcs dcl
  rw [List.setIfInBounds_toArray, List.set_append_right (h := by simp [hn]), List.set_append_right (h := by simp [hn, ha])]
  simp [hn, ha]
theorem dcs_set_o (hn : n.length = 12) (ha : arr.length = 62) (x : Bool) : (dcs n arr m o).setIfInBounds 75 (.bool x) = dcs n arr m x := by
  unfold dcs dcl
  rw [List.setIfInBounds_toArray, List.set_append_right (h := by simp [hn]), List.set_append_right (h := by simp [hn, ha])]
  simp [hn, ha]
end
/-- A decoder that stands whole in block g. -/
structure DecB (w : World) (g : Nat) (s : Ds) : Prop where
  blk : ∃ arr : List Int, arr.length = 62 ∧ arr.take s.held.length = s.held ∧ Blk w g 30 (dcs s.n arr s.held.length s.over)
  len : s.n.length = 12
  held : s.held.length ≤ 62
theorem DecB.fr {S : Nat → Prop} {w w' : World} {g : Nat} {s : Ds} (h : DecB w g s) (k : Fr S w w') (hn : ¬ S g) : DecB w' g s := by
  obtain ⟨⟨arr, h1, h2, h3⟩, h4, h5⟩ := h
  exact ⟨⟨arr, h1, h2, h3.fr k hn⟩, h4, h5⟩
theorem DecB.below {B : Nat} {w w' : World} {g : Nat} {s : Ds} (h : DecB w g s) (k : Below B w w') (hg : g < B) : DecB w' g s := by
  obtain ⟨⟨arr, h1, h2, h3⟩, h4, h5⟩ := h
  exact ⟨⟨arr, h1, h2, h3.below k hg⟩, h4, h5⟩
theorem DecB.lt {w : World} {g : Nat} {s : Ds} (h : DecB w g s) : g < w.heap.size := by
  obtain ⟨⟨arr, h1, h2, h3⟩, h4, h5⟩ := h
  exact h3.lt
/-- A decoder as new, out of its literal. -/
theorem dec_new (w : World) : DecB (w.alloc (.cells (dcs d0.n (List.replicate 62 0) 0 false) 30)) w.heap.size d0 := ⟨⟨List.replicate 62 0, by simp, by simp [d0], Blk.new w _ _⟩, rfl, by simp [d0]⟩
end Go.Proofs.YtkihoonjekccgaaDoor.K

/- The document's frame of a frame. -/
namespace Go.Proofs.YtkihoonjekccgaaDoor.K
open Go.RowKit
set_option linter.unusedVariables false
set_option linter.unusedSimpArgs false
theorem results_of {w : World} {g : Nat} {a k s q x : Int} {t : ByteArray} {tm : Array Value} (h : Blk w g 45 #[.int .u8 a, .int .u8 k, .int .u8 s, .int .u8 q, .int .u8 x, .string t]) (h2 : tm.getD 2 undef = .pointer (some ⟨g, 0, none⟩)) :
    (results Tryd.f15 tm).run Tryd.prog w = .ok (.agg #[.int .u8 a, .int .u8 k, .int .u8 s, .int .u8 q, .int .u8 x, .string t]) w := by
  have k0 : w.cell? ⟨g, 0, none⟩ = some (.int .u8 a) := h.cell 0
  have k1 : w.cell? ⟨g, 1, none⟩ = some (.int .u8 k) := h.cell 1
  have k2 : w.cell? ⟨g, 2, none⟩ = some (.int .u8 s) := h.cell 2
  have k3 : w.cell? ⟨g, 3, none⟩ = some (.int .u8 q) := h.cell 3
  have k4 : w.cell? ⟨g, 4, none⟩ = some (.int .u8 x) := h.cell 4
  have k5 : w.cell? ⟨g, 5, none⟩ = some (.string t) := h.cell 5
  rw [Array.getD_eq_getD_getElem?] at h2
  simp [results, Tryd.results15, go_sem, h2, k0, k1, k2, k3, k4, k5]
set_option maxHeartbeats 1000000 in
set_option maxRecDepth 10000 in
theorem OfC {A : Option Addr} {c nb : Nat} {a k s q x : Int} {m : List Int} (hn : m.length = nb) (w : World) (h : RowOf c8 1 w w.heap.size A m) :
    Calls Tryd.prog 15 #[.agg #[.int .u8 a, .int .u8 k, .int .u8 s, .int .u8 q, .int .u8 x, .slice A nb c]] w fun e w' => e = .returned (.agg #[.int .u8 a, .int .u8 k, .int .u8 s, .int .u8 q, .int .u8 x, .string (strOfNums m)]) ∧ Hid (Below w.heap.size w w') := by
  have hb : Below w.heap.size w ((w.alloc (.cells #[.int .u8 a, .int .u8 k, .int .u8 s, .int .u8 q, .int .u8 x, .slice A nb c] 35)).alloc (.cells #[.int .u8 0, .int .u8 0, .int .u8 0, .int .u8 0, .int .u8 0, .string ⟨#[]⟩] 45)) := ((Below.refl _ w).alloc (Nat.le_refl _) _).alloc (by simp) _
  have s1 : (convert 32 9 (.slice A nb c)).run Tryd.prog ((w.alloc (.cells #[.int .u8 a, .int .u8 k, .int .u8 s, .int .u8 q, .int .u8 x, .slice A nb c] 35)).alloc (.cells #[.int .u8 0, .int .u8 0, .int .u8 0, .int .u8 0, .int .u8 0, .string ⟨#[]⟩] 45)) = .ok (.string (strOfNums m)) _ := str_n hn (h.below hb)
  have HB := Lib.hid hb
  clear hb h
  go_enter Tryd.func15, Tryd.ntmps15
  go_wp2
  refine bodyPost_ret (results_of (Blk.new_at (by simp)) rfl) rfl ⟨rfl, Lib.hid (((Below.refl _ w).alloc (Nat.le_refl _) _).alloc (by simp) _)⟩
theorem eqlF (a k s q x : Int) (t : ByteArray) (W : World) : (binOp .eql 45 (.agg #[.int .u8 a, .int .u8 k, .int .u8 s, .int .u8 q, .int .u8 x, .string t]) (.agg #[.int .u8 a, .int .u8 k, .int .u8 s, .int .u8 q, .int .u8 x, .string t])).run Tryd.prog W = .ok (.bool true) W := by
  have hp : Tryd.prog.stoodInHeld 45 = false := by kernel_rfl
  have hu := Tryd.underlying45
  rw [run_eql_struct]
  generalize hF : (#[.int .u8 a, .int .u8 k, .int .u8 s, .int .u8 q, .int .u8 x, .string t] : Array Value) = xs
  rw [run_equalIn_agg _ _ _ _ _ (by unfold Program.fieldsOf; rw [hu]) hp]
  unfold Program.fieldsOf
  rw [hu]
  subst hF
  simp [go_sem, Tryd.underlying5, Tryd.underlying9]
end Go.Proofs.YtkihoonjekccgaaDoor.K

/- What the decoder's small functions do. -/
namespace Go.Proofs.YtkihoonjekccgaaDoor.K
open Go.RowKit
set_option linter.unusedVariables false
set_option linter.unusedSimpArgs false
attribute [local go_sem ↓] Go.wp_at_zero Go.wp_at_succ
theorem getD_bd {n : List Int} {K : Int} (h : ∀ x ∈ n, 0 ≤ x ∧ x ≤ K) (hK : 0 ≤ K) (e : Nat) : 0 ≤ n.getD e 0 ∧ n.getD e 0 ≤ K := by
  rw [List.getD_eq_getElem?_getD]
  rcases Nat.lt_or_ge e n.length with hl | hl
  · rw [List.getElem?_eq_getElem hl]; exact h _ (List.getElem_mem hl)
  · rw [List.getElem?_eq_none hl]; exact ⟨Int.le_refl _, hK⟩
section
variable {w : World} {g : Nat} {s : Ds}
theorem DecB.set_n {e : Nat} (h : DecB w g s) (he : e < 12) : DecB (w.setCell ⟨g, e, none⟩ (.int .i64 (s.n.getD e 0 + 1))) g ⟨inc s.n e, s.held, s.over⟩ := by
  obtain ⟨⟨arr, h1, h2, h3⟩, h4, h5⟩ := h
  have := h3.set_ e (.int .i64 (s.n.getD e 0 + 1))
  rw [dcs_set_n h4 he] at this
  exact ⟨⟨arr, h1, h2, this⟩, by rw [inc_len]; exact h4, h5⟩
theorem DecB.drew (h : DecB w g s) : DecB w.drew g s := ⟨h.blk, h.len, h.held⟩
theorem countC {e : Nat} (h : DecB w g s) (he : e < 12) (hx : ∀ x ∈ s.n, 0 ≤ x ∧ x ≤ 4000000000000000000) :
    Calls Tryd.prog 31 #[.pointer (some ⟨g, 0, none⟩), .int .i64 e] w fun r w' => r = .returned (.tuple #[]) ∧ Hid (DecB w' g ⟨inc s.n e, s.held, s.over⟩) ∧ Hid (Fr1 g w w') := by
  obtain ⟨⟨arr, h1, h2, h3⟩, h4, h5⟩ := id h
  have hc : w.cell? ⟨g, e, none⟩ = some (.int .i64 (s.n.getD e 0)) := (h3.cell e).trans (dcs_n h4 he)
  have hf : w.frozen? ⟨g, e, none⟩ = false := h3.frozen e
  have hb := getD_bd hx (by decide) e
  have H : Hid (DecB (w.setCell ⟨g, e, none⟩ (.int .i64 (s.n.getD e 0 + 1))).drew g ⟨inc s.n e, s.held, s.over⟩) := Lib.hid (DecB.set_n h he).drew
  have F : Hid (Fr1 g w (w.setCell ⟨g, e, none⟩ (.int .i64 (s.n.getD e 0 + 1))).drew) := Lib.hid ((Fr.refl (fun k => k = g) w).setCell (fun _ => rfl) _).drew
  clear h h3 h2 h1 h4 h5 hx
  generalize s.n.getD e 0 = x at *
  have hw : IntKind.i64.wrap (x + 1) = x + 1 := by rw [IntKind.wrap_i64]; omega
  have i1 : (0 : Int) ≤ (e : Int) := by omega
  have i2 : (e : Int) < 12 := by omega
  have hu := Tryd.underlying25
  go_enter Tryd.func31, Tryd.ntmps31
  go_wp2
  go_region
  go_end0
  exact ⟨rfl, H, F⟩
theorem DecB.shut (h : DecB w g s) (o : Bool) : DecB ((w.setCell ⟨g, 74, none⟩ (.int .i64 0)).setCell ⟨g, 75, none⟩ (.bool o)) g ⟨s.n, [], o⟩ := by
  obtain ⟨⟨arr, h1, h2, h3⟩, h4, h5⟩ := h
  have := (h3.set_ 74 (.int .i64 0)).set_ 75 (.bool o)
  rw [dcs_set_m h4 h1, dcs_set_o h4 h1] at this
  exact ⟨⟨arr, h1, rfl, this⟩, h4, Nat.zero_le _⟩
theorem DecB.put {c : Int} (h : DecB w g s) (hl : s.held.length < 62) (ho : s.over = false) : DecB ((w.setCell ⟨g, 12 + s.held.length, none⟩ (.int .u8 c)).setCell ⟨g, 74, none⟩ (.int .i64 ((s.held.length : Int) + 1))) g ⟨s.n, s.held ++ [c], false⟩ := by
  obtain ⟨⟨arr, h1, h2, h3⟩, h4, h5⟩ := h
  have := (h3.set_ (12 + s.held.length) (.int .u8 c)).set_ 74 (.int .i64 ((s.held.length : Int) + 1))
  rw [dcs_set_a h4 h1 hl, dcs_set_m h4 (by rw [List.length_set]; exact h1)] at this
  refine ⟨⟨arr.set s.held.length c, by rw [List.length_set]; exact h1, ?_, ?_⟩, h4, ?_⟩
  · simp only [List.length_append, List.length_singleton]
    rw [List.take_succ_eq_append_getElem (by rw [List.length_set]; omega), List.take_set_of_le (Nat.le_refl _), h2]
    simp
  · simp only [List.length_append, List.length_singleton, Int.natCast_add]
    rw [ho] at this
    exact this
  · simp only [List.length_append, List.length_singleton]; omega
theorem DecB.cells (h : DecB w g s) : w.cell? ⟨g, 74, none⟩ = some (.int .i64 (s.held.length : Int)) ∧ w.cell? ⟨g, 75, none⟩ = some (.bool s.over) := by
  obtain ⟨⟨arr, h1, h2, h3⟩, h4, h5⟩ := h
  exact ⟨(h3.cell 74).trans (dcs_m h4 h1), (h3.cell 75).trans (dcs_o h4 h1)⟩
theorem DecB.frozen (h : DecB w g s) (i : Nat) : w.frozen? ⟨g, i, none⟩ = false := by
  obtain ⟨⟨arr, h1, h2, h3⟩, h4, h5⟩ := h
  exact h3.frozen i
theorem DecB.spot (h : DecB w g s) {i : Nat} (hi : i < 62) : ∃ x, w.cell? ⟨g, 12 + i, none⟩ = some (.int .u8 x) := by
  obtain ⟨⟨arr, h1, h2, h3⟩, h4, h5⟩ := h
  exact ⟨_, (h3.cell (12 + i)).trans (dcs_a h4 h1 hi)⟩
theorem DecB.row (h : DecB w g s) : RowOf c8 1 w w.heap.size (some ⟨g, 12, none⟩) s.held := by
  have hg := h.lt
  obtain ⟨⟨arr, h1, h2, h3⟩, h4, h5⟩ := h
  intro i x hx
  refine ⟨⟨g, 12, none⟩, rfl, hg, fun j u hu => ?_⟩
  have hi : i < s.held.length := by
    rcases Nat.lt_or_ge i s.held.length with e | e
    · exact e
    · rw [List.getElem?_eq_none e] at hx; cases hx
  cases j with
  | succ j => simp [c8] at hu
  | zero =>
    simp [c8] at hu
    subst hu
    have e := h3.cell (12 + i)
    rw [dcs_a h4 h1 (by omega), List.getD_eq_getElem?_getD] at e
    have e2 : arr[i]? = some x := by rw [← hx, ← h2, List.getElem?_take_of_lt hi]
    rw [e2] at e
    cases i with
    | zero => simpa [Addr.add] using e
    | succ i => simpa [Addr.add] using e
theorem takeC {c : Int} (h : DecB w g s) (hx : ∀ x ∈ s.n, 0 ≤ x ∧ x ≤ 4000000000000000000) (ho : s.over = true → s.held = []) :
    Calls Tryd.prog 19 #[.pointer (some ⟨g, 0, none⟩), .int .u8 c] w fun r w' => r = .returned (.tuple #[]) ∧ Hid (DecB w' g (takeD c s)) ∧ Hid (Fr1 g w w') := by
  obtain ⟨k74, k75⟩ := h.cells
  have f74 := h.frozen 74
  have f75 := h.frozen 75
  have H := Lib.hid h
  have HX := Lib.hid hx
  by_cases hov : s.over = true
  · have e : takeD c s = s := by unfold takeD; rw [if_pos hov]
    rw [hov] at k75
    rw [e]
    clear h hx hov e
    go_enter Tryd.func19, Tryd.ntmps19
    go_wp2
    go_end0
    exact ⟨rfl, H, Lib.hid (Fr.refl _ _)⟩
  · have hov' : s.over = false := by simpa using hov
    rw [hov'] at k75
    by_cases h62 : s.held.length = 62
    · have e : takeD c s = ⟨inc s.n 10, [], true⟩ := by unfold takeD; rw [if_neg hov, if_pos h62]
      rw [h62] at k74
      rw [e]
      have HS := Lib.hid (h.shut true)
      clear h hx hov e h62
      go_enter Tryd.func19, Tryd.ntmps19
      go_wp2_with fail
      refine Calls.mono (countC (e := 10) HS.out (by decide) HX.out) ?_
      rintro r w' ⟨rfl, h1, h2⟩
      go_wp2
      go_end0
      exact ⟨rfl, h1, Lib.hid ((((Fr.refl (fun k => k = g) w).setCell (fun _ => rfl) _).setCell (fun _ => rfl) _).trans h2.out (fun _ _ h => h))⟩
    · have e : takeD c s = ⟨s.n, s.held ++ [c], false⟩ := by unfold takeD; rw [if_neg hov, if_neg h62]
      have hlt : s.held.length < 62 := by have := h.held; omega
      rw [e]
      obtain ⟨y, ky⟩ := h.spot hlt
      have fy := h.frozen (12 + s.held.length)
      have HS : Hid (DecB ((w.setCell ⟨g, 12 + s.held.length, none⟩ (.int .u8 c)).drew.setCell ⟨g, 74, none⟩ (.int .i64 ((s.held.length : Int) + 1))) g ⟨s.n, s.held ++ [c], false⟩) := Lib.hid (DecB.drew (DecB.put h hlt hov'))
      have hlen : Hid (s.held ++ [c] = s.held ++ [c]) := Lib.hid rfl
      generalize hh : s.held ++ [c] = z at *
      generalize hn : s.n = nn at *
      generalize hm : s.held.length = m at *
      clear h hx ho hov hov' e hlen hh hn hm
      have hw : IntKind.i64.wrap ((m : Int) + 1) = (m : Int) + 1 := by rw [IntKind.wrap_i64]; omega
      have i1 : (0 : Int) ≤ (m : Int) := by omega
      have i2 : (m : Int) < 62 := by omega
      have i3 : ((m : Int) == 62) = false := by simp; omega
      have hu := Tryd.underlying28
      go_enter Tryd.func19, Tryd.ntmps19
      go_wp2
      go_region
      go_wp2
      go_end0
      exact ⟨rfl, HS, Lib.hid (((Fr.refl (fun k => k = g) w).setCell (fun _ => rfl) _).drew.setCell (fun _ => rfl) _)⟩
end
end Go.Proofs.YtkihoonjekccgaaDoor.K

/- What a flag ends. -/
namespace Go.Proofs.YtkihoonjekccgaaDoor.K
open Go.RowKit
set_option linter.unusedVariables false
set_option linter.unusedSimpArgs false
attribute [local go_sem ↓] Go.wp_at_zero Go.wp_at_succ
theorem set6_cell' {w : World} {g gf i : Nat} {f : Fp} {A : Option Addr} {n c : Nat} {v : Value} (hn : f.B.length = n) (h : w.cell? ⟨gf, i, none⟩ = some v) (hl : gf < w.heap.size) (hne : g ≠ gf) : ((((((w.setCell ⟨g, 0, none⟩ (.int .u8 f.addr)).setCell ⟨g, 1, none⟩ (.int .u8 f.kind)).setCell ⟨g, 2, none⟩ (.int .u8 f.ses)).setCell ⟨g, 3, none⟩ (.int .u8 f.seq)).setCell ⟨g, 4, none⟩ (.int .u8 f.ack)).setCell ⟨g, 5, none⟩ (.slice A n c)).cell? ⟨gf, i, none⟩ = some v := by
  subst hn
  exact ((st6_fr w g f A c).cell (p := ⟨gf, i, none⟩) hl (fun e => hne e.symm)).trans h
theorem results_end {w : World} {g : Nat} {f : Fp} {A : Option Addr} {c : Nat} {ok : Bool} {tm : Array Value} (h : Blk w g 35 (fvs f A c)) (h2 : tm.getD 2 undef = .pointer (some ⟨g, 0, none⟩)) (h3 : tm.getD 3 undef = .bool ok) :
    (results Tryd.f20 tm).run Tryd.prog w = .ok (.tuple #[.agg #[.int .u8 f.addr, .int .u8 f.kind, .int .u8 f.ses, .int .u8 f.seq, .int .u8 f.ack, .slice A f.B.length c], .bool ok]) w := by
  obtain ⟨k0, k1, k2, k3, k4, k5⟩ := fvs_cells h
  rw [Array.getD_eq_getD_getElem?] at h2 h3
  simp [results, Tryd.results20, go_sem, h2, h3, k0, k1, k2, k3, k4, k5]
theorem countI {w : World} {g : Nat} {s : Ds} {e : Int} (he : ∃ k : Nat, e = (k : Int) ∧ k < 12) (h : DecB w g s) (hx : ∀ x ∈ s.n, 0 ≤ x ∧ x ≤ 4000000000000000000) :
    Calls Tryd.prog 31 #[.pointer (some ⟨g, 0, none⟩), .int .i64 e] w fun r w' => r = .returned (.tuple #[]) ∧ Hid (DecB w' g ⟨inc s.n e.toNat, s.held, s.over⟩) ∧ Hid (Fr1 g w w') := by
  obtain ⟨k, rfl, hk⟩ := he
  exact countC h hk hx
def EndPost (g : Nat) (s : Ds) (w : World) (e : Ending) (w' : World) : Prop :=
  ∃ (f : Fp) (A : Option Addr) (c : Nat) (ok : Bool), e = .returned (.tuple #[.agg #[.int .u8 f.addr, .int .u8 f.kind, .int .u8 f.ses, .int .u8 f.seq, .int .u8 f.ack, .slice A f.B.length c], .bool ok]) ∧
    Hid ((endD s).2 = if ok then [f] else []) ∧ Hid (Made w.heap.size A c f.B w') ∧ Hid (DecB w' g (endD s).1) ∧ Hid (Fr1 g w w')
theorem fr1_of {w Z : World} {g : Nat} (h : Below w.heap.size w Z) : Fr1 g w Z := (Fr.of_below h).mono (fun _ _ h => h.elim)
theorem end_fin {w Z : World} {g : Nat} {s : Ds} {f : Fp} {f0 : Fp} {A0 A : Option Addr} {c0 c : Nat} {ok : Bool} {tm : Array Value} (he : (endD s).2 = if ok then [f] else []) (hk : Blk Z w.heap.size 35 (fvs f0 A0 c0)) (hD : DecB Z g (endD s).1) (hF : Fr1 g w Z) (hM : Made (w.heap.size + 1) A c f.B Z) (hg : g < w.heap.size)
    (h2 : tm.getD 2 undef = .pointer (some ⟨w.heap.size, 0, none⟩)) (h3 : tm.getD 3 undef = .bool ok) : bodyPost Tryd.prog Tryd.f20 (EndPost g s w) .ret ⟨tm, []⟩ (st6 Z w.heap.size f A c) := by
  refine bodyPost_ret (results_end (st6_blk hk) h2 h3) rfl ?_
  have FS := st6_fr Z w.heap.size f A c
  exact ⟨f, A, c, ok, rfl, Lib.hid he, Lib.hid ((hM.fr FS (fun j e => by have := (hM.1.lt j e).1; omega)).low (by omega)), Lib.hid (hD.fr FS (by omega)), Lib.hid (hF.trans FS (fun j hj e => by omega))⟩
set_option maxHeartbeats 1000000 in
set_option maxRecDepth 10000 in
theorem endC {w : World} {g : Nat} {s : Ds} (h : DecB w g s) (hx : ∀ x ∈ s.n, 0 ≤ x ∧ x ≤ 4000000000000000000) (hi : InB s.held) (hT : Turns w) :
    Calls Tryd.prog 20 #[.pointer (some ⟨g, 0, none⟩)] w (EndPost g s w) := by
  have b0 : Below w.heap.size w (w.alloc (.cells (fvs fr0 none 0) 35)) := (Below.refl _ w).alloc (Nat.le_refl _) _
  have hg := h.lt
  have H0 := h.below b0 hg
  have hk0 : Blk (w.alloc (.cells (fvs fr0 none 0) 35)) w.heap.size 35 (fvs fr0 none 0) := Blk.new w _ _
  have HK0 := Lib.hid hk0
  obtain ⟨k74, k75⟩ := h.cells
  have n74 := World.new_ne w _ k74
  have f74 := h.frozen 74
  have f75 := h.frozen 75
  by_cases hh : s.held = []
  · have e : endD s = (⟨s.n, [], false⟩, []) := by unfold endD; rw [if_pos hh]
    have h0 : s.held.length = 0 := by rw [hh]; rfl
    rw [h0] at k74
    have HE := Lib.hid e
    have HS : Hid (DecB (((w.setCell ⟨g, 74, none⟩ (.int .i64 0)).setCell ⟨g, 75, none⟩ (.bool false)).alloc (.cells (fvs fr0 none 0) 35)) g ⟨s.n, [], false⟩) := Lib.hid ((h.shut false).below ((Below.refl _ _).alloc (Nat.le_refl _) _) (h.shut false).lt)
    have FS : Hid (Fr1 g w (((w.setCell ⟨g, 74, none⟩ (.int .i64 0)).setCell ⟨g, 75, none⟩ (.bool false)).alloc (.cells (fvs fr0 none 0) 35))) := Lib.hid ((((Fr.refl (fun k => k = g) w).setCell (fun _ => rfl) _).setCell (fun _ => rfl) _).alloc _)
    have HK : Hid (Blk (((w.setCell ⟨g, 74, none⟩ (.int .i64 0)).setCell ⟨g, 75, none⟩ (.bool false)).alloc (.cells (fvs fr0 none 0) 35)) w.heap.size 35 (fvs fr0 none 0)) := Lib.hid (Blk.new_at (by simp))
    clear h H0 hk0 HK0 e h0 hx b0 hi hh
    go_enter Tryd.func20, Tryd.ntmps20
    go_wp2
    refine bodyPost_ret (results_end HK.out rfl rfl) rfl ?_
    unfold EndPost
    rw [HE.out]
    exact ⟨fr0, none, 0, false, rfl, Lib.hid rfl, Lib.hid (made_nil _ _), HS, FS⟩
  · obtain ⟨⟨fa, fk, fs, fq, fx, fm⟩, er, hd⟩ : ∃ fd er, decL s.held = (fd, er) := ⟨_, _, rfl⟩
    have herr := dec_err s.held
    rw [hd] at herr
    obtain ⟨m, hm⟩ : ∃ m, s.held.length = m := ⟨_, rfl⟩
    have hpos : 0 < m := by rw [← hm]; exact List.length_pos_iff.2 hh
    have hle : m ≤ 62 := by rw [← hm]; exact h.held
    have HD := Lib.hid hd
    have HM := Lib.hid hm
    have HI := Lib.hid hi
    have HX := Lib.hid hx
    have HDW := Lib.hid h
    have HE : Hid (endD s = if er = 0 then (⟨s.n, [], false⟩, [⟨fa, fk, fs, fq, fx, fm⟩]) else (⟨inc s.n er.toNat, [], false⟩, [])) := Lib.hid (by unfold endD; rw [if_neg hh, hd])
    have HTa : Hid (Turns (w.alloc (.cells #[.int .u8 0, .int .u8 0, .int .u8 0, .int .u8 0, .int .u8 0, .slice none 0 0] 35)).drew) := Lib.hid (hT.below b0.drew hT.lt)
    have HRow : Hid (RowOf c8 1 (w.alloc (.cells #[.int .u8 0, .int .u8 0, .int .u8 0, .int .u8 0, .int .u8 0, .slice none 0 0] 35)).drew (w.alloc (.cells #[.int .u8 0, .int .u8 0, .int .u8 0, .int .u8 0, .int .u8 0, .slice none 0 0] 35)).drew.heap.size (some ⟨g, 12, none⟩) s.held) := Lib.hid (H0.drew.row)
    have d74 : (w.alloc (.cells #[.int .u8 0, .int .u8 0, .int .u8 0, .int .u8 0, .int .u8 0, .slice none 0 0] 35)).drew.cell? ⟨g, 74, none⟩ = some (.int .i64 (m : Int)) := by rw [← hm]; exact H0.cells.1
    have zk0 : Hid (Blk (w.alloc (.cells #[.int .u8 0, .int .u8 0, .int .u8 0, .int .u8 0, .int .u8 0, .slice none 0 0] 35)).drew w.heap.size 35 (fvs fr0 none 0)) := Lib.hid hk0
    have HB0 : Hid (Below w.heap.size w (w.alloc (.cells #[.int .u8 0, .int .u8 0, .int .u8 0, .int .u8 0, .int .u8 0, .slice none 0 0] 35)).drew) := Lib.hid b0.drew
    rw [hm] at k74
    have i1 : (0 : Int) < (m : Int) := by omega
    have i2 : (m : Int) ≤ 62 := by omega
    have i3 : (0 : Int) ≤ (m : Int) := by omega
    have hne : w.heap.size ≠ g := by omega
    have hu := Tryd.underlying28
    clear h hk0 HK0 H0 hd hm hi hx hh b0
    go_enter Tryd.func20, Tryd.ntmps20
    go_wp2_with fail
    go_region_held3 (fun w' => w'.cell? ⟨g, 74, none⟩ = some (.int .i64 (m : Int))) (go_keep) (first
      | (go_at_call 18; refine Calls.mono (DecodeE (n := m) HD.out rfl HM.out (by omega) HI.out (w.alloc (.cells #[.int .u8 0, .int .u8 0, .int .u8 0, .int .u8 0, .int .u8 0, .slice none 0 0] 35)).drew HTa.out HRow.out) ?_; rintro ee w6 ⟨A7, c7, rfl, M7, D7⟩; have hwa := D7.out.size; have zk := zk0.out.fr (Fr.of_below D7.out) (fun h => h); obtain ⟨m0, m1, m2, m3, m4, m5⟩ := fvs_cells zk; simp only at m0 m1 m2 m3 m4 m5; have mf0 := zk.frozen 0; have mf1 := zk.frozen 1; have mf2 := zk.frozen 2; have mf3 := zk.frozen 3; have mf4 := zk.frozen 4; have mf5 := zk.frozen 5; have x4 : w6.cell? ⟨g, 74, none⟩ = some (.int .i64 (m : Int)) := (D7.out.cell (p := ⟨g, 74, none⟩) (Nat.lt_of_lt_of_le hg HB0.out.size)).trans d74; have x4' := set6_cell' (g := w.heap.size) (f := ⟨fa, fk, fs, fq, fx, fm⟩) (A := A7) (c := c7) rfl x4 (Nat.lt_of_lt_of_le (Nat.lt_of_lt_of_le hg HB0.out.size) hwa) hne; simp only at x4'))
    obtain ⟨Z, hZ⟩ : ∃ Z, ((((((w6.setCell ⟨w.heap.size, 0, none⟩ (.int .u8 fa)).setCell ⟨w.heap.size, 1, none⟩ (.int .u8 fk)).setCell ⟨w.heap.size, 2, none⟩ (.int .u8 fs)).setCell ⟨w.heap.size, 3, none⟩ (.int .u8 fq)).setCell ⟨w.heap.size, 4, none⟩ (.int .u8 fx)).setCell ⟨w.heap.size, 5, none⟩ (.slice A7 fm.length c7)) = Z := ⟨_, rfl⟩
    have hZ' : st6 w6 w.heap.size ⟨fa, fk, fs, fq, fx, fm⟩ A7 c7 = Z := hZ
    have D7' : Below w.heap.size w w6 := HB0.out.trans (D7.out.mono HB0.out.size)
    have FS := st6_fr w6 w.heap.size ⟨fa, fk, fs, fq, fx, fm⟩ A7 c7
    have BZ : Hid (Below w.heap.size w Z) := Lib.hid (hZ' ▸ below_fr D7' FS D7'.size (fun j e => by omega))
    have KZ : Hid (Blk Z w.heap.size 35 (fvs ⟨fa, fk, fs, fq, fx, fm⟩ A7 c7)) := Lib.hid (hZ' ▸ st6_blk zk)
    have MZ : Hid (Made (w.heap.size + 1) A7 c7 fm Z) := Lib.hid (hZ' ▸ (M7.out.low (by simp)).fr FS (fun j e => by have := (M7.out.1.lt j e).1; simp at this; omega))
    have DZ : Hid (DecB Z g s) := Lib.hid (HDW.out.below BZ.out hg)
    have z74 : Z.cell? ⟨g, 74, none⟩ = some (.int .i64 (m : Int)) := by rw [← HM.out]; exact DZ.out.cells.1
    have z75 : Z.cell? ⟨g, 75, none⟩ = some (.bool s.over) := DZ.out.cells.2
    have g74 := DZ.out.frozen 74
    have g75 := DZ.out.frozen 75
    obtain ⟨q0, q1, q2, q3, q4, q5⟩ := fvs_cells KZ.out
    simp only at q0 q1 q2 q3 q4 q5
    have qf0 := KZ.out.frozen 0
    have qf1 := KZ.out.frozen 1
    have qf2 := KZ.out.frozen 2
    have qf3 := KZ.out.frozen 3
    have qf4 := KZ.out.frozen 4
    have qf5 := KZ.out.frozen 5
    rw [hZ]
    rename_i hq
    clear hq
    clear D7' D7 M7 hZ hZ' FS zk x4 x4' m0 m1 m2 m3 m4 m5 mf0 mf1 mf2 mf3 mf4 mf5 d74 k74 k75 f74 f75 hu
    by_cases he : er = 0
    · have HE0 := Lib.hid he
      have e1 : (er == 0) = true := by simp [he]
      have e2 : (er != 0) = false := by simp [he]
      clear herr he
      go_wp2
      refine end_fin (s := s) (f := ⟨fa, fk, fs, fq, fx, fm⟩) (A := A7) (c := c7) (ok := true) (by rw [HE.out, if_pos HE0.out]; rfl) ((KZ.out.far (p := ⟨g, 74, none⟩) (by omega) _).far (p := ⟨g, 75, none⟩) (by omega) _) ?_ ?_ ?_ hg rfl rfl
      · rw [HE.out, if_pos HE0.out]; exact DZ.out.shut false
      · exact (fr1_of BZ.out).trans (((Fr.refl (fun k => k = g) Z).setCell (fun _ => rfl) _).setCell (fun _ => rfl) _) (fun _ _ h => h)
      · exact MZ.out.fr (((Fr.refl (fun k => k = g) Z).setCell (fun _ => rfl) _).setCell (fun _ => rfl) _) (fun j e => by have := (MZ.out.1.lt j e).1; omega)
    · have HK : Hid (∃ k : Nat, er = (k : Int) ∧ k < 12) := Lib.hid ⟨er.toNat, by omega, by omega⟩
      have HE0 := Lib.hid he
      have e1 : (er == 0) = false := by simpa using he
      have e2 : (er != 0) = true := by simpa using he
      clear herr he
      go_wp2_with fail
      refine Calls.mono (countI HK.out DZ.out HX.out) ?_
      rintro r w' ⟨rfl, h1, h2⟩
      obtain ⟨p74, p75⟩ := h1.out.cells
      simp only at p74 p75
      rw [HM.out] at p74
      have r74 := h1.out.frozen 74
      have r75 := h1.out.frozen 75
      have KW := Lib.hid (KZ.out.fr h2.out hne)
      obtain ⟨t0, t1, t2, t3, t4, t5⟩ := fvs_cells KW.out
      simp only at t0 t1 t2 t3 t4 t5
      have tf0 := KW.out.frozen 0
      have tf1 := KW.out.frozen 1
      have tf2 := KW.out.frozen 2
      have tf3 := KW.out.frozen 3
      have tf4 := KW.out.frozen 4
      have tf5 := KW.out.frozen 5
      clear q0 q1 q2 q3 q4 q5 qf0 qf1 qf2 qf3 qf4 qf5 z74 z75 g74 g75
      go_wp2
      refine end_fin (s := s) (f := ⟨fa, fk, fs, fq, fx, fm⟩) (A := A7) (c := c7) (ok := false) (by rw [HE.out, if_neg HE0.out]; rfl) ((KW.out.far (p := ⟨g, 74, none⟩) (by omega) _).far (p := ⟨g, 75, none⟩) (by omega) _) ?_ ?_ ?_ hg rfl rfl
      · rw [HE.out, if_neg HE0.out]; exact h1.out.shut false
      · exact ((fr1_of BZ.out).trans h2.out (fun _ _ h => h)).trans (((Fr.refl (fun k => k = g) w').setCell (fun _ => rfl) _).setCell (fun _ => rfl) _) (fun _ _ h => h)
      · exact (MZ.out.fr h2.out (fun j e => by have := (MZ.out.1.lt j e).1; omega)).fr (((Fr.refl (fun k => k = g) w').setCell (fun _ => rfl) _).setCell (fun _ => rfl) _) (fun j e => by have := (MZ.out.1.lt j e).1; omega)
end Go.Proofs.YtkihoonjekccgaaDoor.K

/- Feed: bytes go by, frames come out. -/
namespace Go.Proofs.YtkihoonjekccgaaDoor.K
open Go.RowKit
set_option linter.unusedVariables false
set_option linter.unusedSimpArgs false
attribute [local go_sem ↓] Go.wp_at_zero Go.wp_at_succ
/-- A frame, and where its bytes lie. -/
abbrev Fx := Fp × Option Addr × Nat
abbrev cF : Fx → List Value := fun x => [.int .u8 x.1.addr, .int .u8 x.1.kind, .int .u8 x.1.ses, .int .u8 x.1.seq, .int .u8 x.1.ack, .slice x.2.1 x.1.B.length x.2.2]
theorem info_frame : (Tryd.prog.info? 35).map (fun i => (i.zero, i.size, i.bytes)) = some (some (.agg #[.int .u8 0, .int .u8 0, .int .u8 0, .int .u8 0, .int .u8 0, .slice none 0 0]), 6, 32) := by kernel_rfl
/-- Frames of the call's own: their row, and their bytes, each apart. -/
structure OutF (B : Nat) (v : Value) (xs : List Fx) (w : World) : Prop where
  row : w.ownsRow B 35 6 v xs.length (xs.flatMap cF)
  each : ∀ x ∈ xs, Made B x.2.1 x.2.2 x.1.B w
  apart : xs.Pairwise fun x y => ∀ a b, x.2.1 = some a → y.2.1 = some b → a.block < b.block
theorem OutF.nil (B : Nat) (w : World) : OutF B (.slice none 0 0) [] w := ⟨own_nil _ _ _ _, by simp, List.Pairwise.nil⟩
theorem OutF.fr {B : Nat} {v : Value} {xs : List Fx} {S : Nat → Prop} {w w' : World} (h : OutF B v xs w) (k : Fr S w w') (hS : ∀ j, B ≤ j → j < w.heap.size → ¬ S j) : OutF B v xs w' :=
  ⟨own_fr h.row k (fun j e => by have := h.row.lt j e; exact hS j this.1 this.2), fun p hp => by
    have h1 := h.each p hp
    exact h1.fr k (fun j e => by have := h1.1.lt j e; exact hS j this.1 this.2), h.apart⟩
theorem OutF.low {B B' : Nat} {v : Value} {xs : List Fx} {w : World} (h : OutF B v xs w) (hb : B' ≤ B) : OutF B' v xs w := ⟨own_weak h.row hb, fun x hx => (h.each x hx).low hb, h.apart⟩
/-- One more: its bytes lie behind all others. -/
theorem OutF.add {B : Nat} {v v1 : Value} {xs : List Fx} {x : Fx} {w w1 : World} (h : OutF B v xs w) (hp : Made B x.2.1 x.2.2 x.1.B w) (hlt : ∀ y ∈ xs, ∀ a b, y.2.1 = some a → x.2.1 = some b → a.block < b.block)
    (h1 : w1.ownsRow B 35 6 v1 (xs ++ [x]).length ((xs ++ [x]).flatMap cF)) (hf : Fr (fun k => v.ownBlock = some k) w w1) : OutF B v1 (xs ++ [x]) w1 :=
  ⟨h1, fun q hq => by
    rcases List.mem_append.1 hq with hq | hq
    · have a1 := h.each q hq
      exact a1.fr hf (fun j e e2 => own_ne a1.1 h.row (by decide) j e e2)
    · obtain rfl : q = x := by simpa using hq
      exact hp.fr hf (fun j e e2 => own_ne hp.1 h.row (by decide) j e e2), by
    rw [List.pairwise_append]
    exact ⟨h.apart, List.pairwise_singleton _ _, fun y hy z hz => by obtain rfl : z = x := by simpa using hz
                                                                     exact hlt y hy⟩⟩
theorem DecB.ne_turns {w : World} {g : Nat} {s : Ds} (h : DecB w g s) (hT : Turns w) : g ≠ 0 := by
  obtain ⟨⟨arr, h1, h2, h3⟩, h4, h5⟩ := h
  rintro rfl
  have e1 := (h3.cell 0).trans (dcs_n h4 (by omega))
  have e2 := hT 0 (by omega)
  rw [e1] at e2
  cases e2
theorem feed_take (l : List Int) (s : Ds) {k : Nat} (hk : k < l.length) : feedD (l.take (k + 1)) s = ((stepD (l.getD k 0) (feedD (l.take k) s).1).1, (feedD (l.take k) s).2 ++ (stepD (l.getD k 0) (feedD (l.take k) s).1).2) := by
  rw [List.take_succ_eq_append_getElem hk, feed_snoc, List.getD_eq_getElem?_getD, List.getElem?_eq_getElem hk]
  rfl
/-- What Feed makes. -/
def FeedPost (g : Nat) (s : Ds) (l : List Int) (w : World) (e : Ending) (w' : World) : Prop :=
  ∃ (v : Value) (xs : List Fx), e = .returned v ∧ Hid (OutF w.heap.size v xs w') ∧ Hid (xs.map (·.1) = (feedD l s).2) ∧ Hid (DecB w' g (feedD l s).1) ∧ Hid (Fr1 g w w')
set_option maxHeartbeats 4000000 in
set_option maxRecDepth 10000 in
theorem FeedC {w : World} {g c : Nat} {s : Ds} {A : Option Addr} {l : List Int} {K : Int} (h : DecB w g s) (hok : DsOk K s) (hK : 0 ≤ K ∧ K + l.length ≤ 4000000000000000000) (hT : Turns w) (hi : InB l) (hl : l.length ≤ 1000000000) (hR : RowOf c8 1 w w.heap.size A l) (ha : ∀ ad, A = some ad → 0 < l.length → ad.block < w.heap.size ∧ ad.block ≠ g) :
    Calls Tryd.prog 10 #[.pointer (some ⟨g, 0, none⟩), .slice A l.length c] w (FeedPost g s l w) := by
  have HD := Lib.hid h
  have HOK := Lib.hid hok
  have HKB := Lib.hid hK
  have HT := Lib.hid hT
  have HI := Lib.hid hi
  have HR := Lib.hid hR
  have HA := Lib.hid ha
  have HNT := Lib.hid (h.ne_turns hT)
  have HG := Lib.hid h.lt
  have H0 : Hid ((feedD (l.take 0) s).2 = [] ∧ (feedD (l.take 0) s).1 = s) := Lib.hid ⟨rfl, rfl⟩
  clear h hok hT hi hR ha hK
  go_enter Tryd.func10, Tryd.ntmps10
  go_wp2
  go_loopw [4, 11] (fun v i wr => ∃ (k : Nat) (xs : List Fx), i = .int .i64 k ∧ k ≤ l.length ∧ xs.length ≤ k ∧ OutF w.heap.size v xs wr ∧ xs.map (·.1) = (feedD (l.take k) s).2 ∧ DecB wr g (feedD (l.take k) s).1 ∧ Fr1 g w wr) (fun _ i _ => l.length - (intOf i).toNat)
  case atStart => exact ⟨0, [], rfl, by omega, by simp, OutF.nil _ _, H0.out.1.symm, H0.out.2.symm ▸ HD.out, Fr.refl _ _⟩
  case round =>
    obtain ⟨k, xs, rfl, hk, hxl, ho, hm, hd, hf⟩ := hrel
    have HO := Lib.hid ho
    have HM := Lib.hid hm
    have HD1 := Lib.hid hd
    have HF := Lib.hid hf
    clear ho hm hd hf
    by_cases hlt : k < l.length
    · have hft := feed_take l s hlt
      have hok := feed_ok (l.take k) HOK.out HKB.out.1 (HI.out.take_ k)
      have hrow : RowOf c8 1 wr w.heap.size A l := row_fr HR.out HF.out (fun ad e => HA.out ad e (by omega))
      obtain ⟨ad, rfl, hbd, hcell⟩ := hrow.num hlt
      have hx0 : 0 ≤ l.getD k 0 ∧ l.getD k 0 < 256 := HI.out _ (by rw [List.getD_eq_getElem?_getD, List.getElem?_eq_getElem hlt]; exact List.getElem_mem hlt)
      obtain ⟨⟨S, F⟩, hSF⟩ : ∃ SF, feedD (l.take k) s = SF := ⟨_, rfl⟩
      rw [hSF] at hft hok HM HD1
      simp only at hft hok HM HD1
      have HFT := Lib.hid hft
      have hkl := HKB.out
      have HCNT : Hid (∀ x ∈ S.n, 0 ≤ x ∧ x ≤ 4000000000000000000) := Lib.hid (fun x hx => by have := hok.cnt x hx; rw [List.length_take] at this; omega)
      have HOV := Lib.hid hok.over
      have HHI := Lib.hid hok.inB
      have hsz := HF.out.size
      clear hft hok hrow hSF hkl
      generalize l.getD k 0 = x at *
      obtain ⟨hx0, hx1⟩ := hx0
      by_cases h126 : x = 126
      · subst h126
        have HS : Hid (stepD 126 S = endD S) := Lib.hid (by simp [stepD])
        clear hx0 hx1
        have hTr := HT.out.fr HF.out (fun e => HNT.out e.symm)
        go_wp2_with fail
        refine Calls.mono (endC HD1.out HCNT.out HHI.out hTr) ?_
        rintro e w2 ⟨⟨fa, fk, fs, fq, fx, fm⟩, A7, c7, ok, rfl, h1, h2, h3, h4⟩
        clear hTr
        have h2M : Hid (Made wr.heap.size A7 c7 fm w2) := h2
        have hs2 := h4.out.size
        have HO2 := Lib.hid (HO.out.fr h4.out (fun j hj _ e => by have := HG.out; omega))
        have HF2 := Lib.hid (HF.out.trans h4.out (fun _ _ h => h))
        have HLT : Hid (∀ y ∈ xs, ∀ a b, y.2.1 = some a → A7 = some b → a.block < b.block) := Lib.hid (fun y hy a b e1 e2 => by have := made_lt (HO.out.each y hy) a e1; have := made_lt h2M.out b e2; omega)
        have HAL : Hid (Fr0 w2 (w2.alloc (.cells #[.int .u8 fa, .int .u8 fk, .int .u8 fs, .int .u8 fq, .int .u8 fx, .slice A7 fm.length c7] 35))) := Lib.hid ((Fr.refl (fun _ => False) w2).alloc _)
        cases ok with
        | false =>
          go_wp2
          go_roundw
          case rel => exact ⟨k + 1, xs, by go_num, by omega, by omega, HO2.out.fr HAL.out (fun _ _ _ h => h), by rw [HFT.out, HS.out, HM.out]; simp only; rw [h1.out]; simp, by rw [HFT.out, HS.out]; exact h3.out.fr HAL.out (fun h => h), HF2.out.trans HAL.out (fun _ _ h => h.elim)⟩
          case measure => simp [intOf]; omega
        | true =>
          have HO3 := Lib.hid (HO2.out.fr HAL.out (fun _ _ _ h => h))
          have HM3 : Hid (Made w.heap.size A7 c7 fm (w2.alloc (.cells #[.int .u8 fa, .int .u8 fk, .int .u8 fs, .int .u8 fq, .int .u8 fx, .slice A7 fm.length c7] 35))) := Lib.hid ((h2M.out.low hsz).fr HAL.out (fun _ _ h => h))
          have HD3 := Lib.hid (h3.out.fr HAL.out (fun h => h))
          have HROW := Lib.hid HO3.out.row
          have HUG : Hid (¬ u4.ownBlock = some g) := Lib.hid (fun e => by have := HO2.out.row.lt g e; have := HG.out; omega)
          have HUB : Hid (∀ j, u4.ownBlock = some j → w.heap.size ≤ j) := Lib.hid (fun j e => (HO2.out.row.lt j e).1)
          go_wp2_with (at_builtin; go_loud (refine app1 rfl _ _ _ rfl 35 (.agg #[.int .u8 0, .int .u8 0, .int .u8 0, .int .u8 0, .int .u8 0, .slice none 0 0]) 6 32 Tryd.underlying31 info_frame rfl (by omega) (by omega) w.heap.size u4 xs.length (xs.flatMap cF) [.int .u8 fa, .int .u8 fk, .int .u8 fs, .int .u8 fq, .int .u8 fx, .slice A7 fm.length c7] rfl (by show Value.slice (some ⟨w2.heap.size + 1, 0, none⟩) 1 1 = _; simp) rfl (fun u hu => by simp only [List.mem_cons, List.not_mem_nil, or_false] at hu; rcases hu with rfl | rfl | rfl | rfl | rfl | rfl <;> rfl) HROW.out (by simp <;> omega) (by omega) ?_; intro v3 w3 h3' h4' h5'; have HO4 : Hid (OutF w.heap.size v3 (xs ++ [(⟨fa, fk, fs, fq, fx, fm⟩, A7, c7)]) w3) := Lib.hid (HO3.out.add (x := (⟨fa, fk, fs, fq, fx, fm⟩, A7, c7)) HM3.out HLT.out (by rw [List.length_append, List.flatMap_append]; exact h3') h4'); have HF4 := Lib.hid h4'; clear h3' h4' h5'))
          go_roundw
          case rel => exact ⟨k + 1, xs ++ [(⟨fa, fk, fs, fq, fx, fm⟩, A7, c7)], by go_num, by omega, by simp; omega, HO4.out, by rw [HFT.out, HS.out, List.map_append, HM.out]; simp only; rw [h1.out]; simp, by rw [HFT.out, HS.out]; exact HD3.out.fr HF4.out HUG.out, (HF2.out.trans HAL.out (fun _ _ h => h.elim)).trans HF4.out (fun j hj e => by have := HUB.out j e; omega)⟩
          case measure => simp [intOf]; omega
      · have HS : Hid (stepD x S = (takeD x S, [])) := Lib.hid (by simp [stepD, h126])
        have e1 : (x == 126) = false := by simpa using h126
        have e2 : (x != 126) = true := by simpa using h126
        clear h126
        go_wp2_with fail
        refine Calls.mono (takeC HD1.out HCNT.out HOV.out) ?_
        rintro e w2 ⟨rfl, h1, h2⟩
        go_wp2
        go_roundw
        case rel => exact ⟨k + 1, xs, by go_num, by omega, by omega, HO.out.fr h2.out (fun j hj _ e => by have := HG.out; omega), by rw [HFT.out, HS.out, HM.out, List.append_nil], by rw [HFT.out, HS.out]; exact h1.out, HF.out.trans h2.out (fun _ _ h => h)⟩
        case measure => simp [intOf]; omega
    · obtain rfl : k = l.length := by omega
      rw [List.take_length] at HM HD1
      go_wp2
      go_ret
      exact ⟨_, xs, rfl, HO, HM, HD1, HF⟩
end Go.Proofs.YtkihoonjekccgaaDoor.K

/- Errors, Held; Feed as its users want it; the two frames that must come. -/
namespace Go.Proofs.YtkihoonjekccgaaDoor.K
open Go.RowKit
set_option linter.unusedVariables false
set_option linter.unusedSimpArgs false
attribute [local go_sem] min2_min min_two
theorem heldC {w : World} {g : Nat} {s : Ds} (h : DecB w g s) : Calls Tryd.prog 14 #[.pointer (some ⟨g, 0, none⟩)] w fun e w' => e = .returned (.int .i64 (s.held.length : Int)) ∧ w = w' := by
  obtain ⟨k74, k75⟩ := h.cells
  clear h
  generalize (s.held.length : Int) = n at *
  go_enter Tryd.func14, Tryd.ntmps14
  go_wp2
  go_ret
  exact ⟨rfl, rfl⟩
theorem heldE {w : World} {g n : Nat} {s : Ds} (h : DecB w g s) (hn : s.held.length = n) : Calls Tryd.prog 14 #[.pointer (some ⟨g, 0, none⟩)] w fun e w' => e = .returned (.int .i64 (n : Int)) ∧ w = w' := by subst hn; exact heldC h
theorem twelve {l : List Int} (h : l.length = 12) : ∃ a0 a1 a2 a3 a4 a5 a6 a7 a8 a9 a10 a11, l = [a0, a1, a2, a3, a4, a5, a6, a7, a8, a9, a10, a11] := by
  match l, h with
  | [a0, a1, a2, a3, a4, a5, a6, a7, a8, a9, a10, a11], _ => exact ⟨_, _, _, _, _, _, _, _, _, _, _, _, rfl⟩
abbrev n12 (l : List Int) : Value := .agg (l.map (fun x => Value.int .i64 x)).toArray
theorem results_err {w : World} {g : Nat} {a0 a1 a2 a3 a4 a5 a6 a7 a8 a9 a10 a11 : Int} {tm : Array Value} (h : Blk w g 25 #[.int .i64 a0, .int .i64 a1, .int .i64 a2, .int .i64 a3, .int .i64 a4, .int .i64 a5, .int .i64 a6, .int .i64 a7, .int .i64 a8, .int .i64 a9, .int .i64 a10, .int .i64 a11]) (h2 : tm.getD 2 undef = .pointer (some ⟨g, 0, none⟩)) :
    (results Tryd.f13 tm).run Tryd.prog w = .ok (.agg #[.int .i64 a0, .int .i64 a1, .int .i64 a2, .int .i64 a3, .int .i64 a4, .int .i64 a5, .int .i64 a6, .int .i64 a7, .int .i64 a8, .int .i64 a9, .int .i64 a10, .int .i64 a11]) w := by
  have k0 : w.cell? ⟨g, 0, none⟩ = some (.int .i64 a0) := h.cell 0
  have k1 : w.cell? ⟨g, 1, none⟩ = some (.int .i64 a1) := h.cell 1
  have k2 : w.cell? ⟨g, 2, none⟩ = some (.int .i64 a2) := h.cell 2
  have k3 : w.cell? ⟨g, 3, none⟩ = some (.int .i64 a3) := h.cell 3
  have k4 : w.cell? ⟨g, 4, none⟩ = some (.int .i64 a4) := h.cell 4
  have k5 : w.cell? ⟨g, 5, none⟩ = some (.int .i64 a5) := h.cell 5
  have k6 : w.cell? ⟨g, 6, none⟩ = some (.int .i64 a6) := h.cell 6
  have k7 : w.cell? ⟨g, 7, none⟩ = some (.int .i64 a7) := h.cell 7
  have k8 : w.cell? ⟨g, 8, none⟩ = some (.int .i64 a8) := h.cell 8
  have k9 : w.cell? ⟨g, 9, none⟩ = some (.int .i64 a9) := h.cell 9
  have k10 : w.cell? ⟨g, 10, none⟩ = some (.int .i64 a10) := h.cell 10
  have k11 : w.cell? ⟨g, 11, none⟩ = some (.int .i64 a11) := h.cell 11
  clear h
  rw [Array.getD_eq_getD_getElem?] at h2
  simp [results, Tryd.results13, go_sem, h2, k0, k1, k2, k3, k4, k5, k6, k7, k8, k9, k10, k11]
set_option maxHeartbeats 1000000 in
set_option maxRecDepth 10000 in
theorem errC {w : World} {g : Nat} {l held : List Int} {over : Bool} (h : DecB w g ⟨l, held, over⟩) : Calls Tryd.prog 13 #[.pointer (some ⟨g, 0, none⟩)] w fun e w' => e = .returned (n12 l) ∧ Hid (Below w.heap.size w w') := by
  have hk : ∀ i < 12, w.cell? ⟨g, i, none⟩ = some (.int .i64 (l.getD i 0)) := fun i hi => by
    obtain ⟨⟨arr, h1, h2, h3⟩, h4, h5⟩ := h
    exact (h3.cell i).trans (dcs_n h4 hi)
  obtain ⟨a0, a1, a2, a3, a4, a5, a6, a7, a8, a9, a10, a11, rfl⟩ := twelve h.len
  have k0 : w.cell? ⟨g, 0, none⟩ = some (.int .i64 a0) := hk 0 (by decide)
  have k1 : w.cell? ⟨g, 1, none⟩ = some (.int .i64 a1) := hk 1 (by decide)
  have k2 : w.cell? ⟨g, 2, none⟩ = some (.int .i64 a2) := hk 2 (by decide)
  have k3 : w.cell? ⟨g, 3, none⟩ = some (.int .i64 a3) := hk 3 (by decide)
  have k4 : w.cell? ⟨g, 4, none⟩ = some (.int .i64 a4) := hk 4 (by decide)
  have k5 : w.cell? ⟨g, 5, none⟩ = some (.int .i64 a5) := hk 5 (by decide)
  have k6 : w.cell? ⟨g, 6, none⟩ = some (.int .i64 a6) := hk 6 (by decide)
  have k7 : w.cell? ⟨g, 7, none⟩ = some (.int .i64 a7) := hk 7 (by decide)
  have k8 : w.cell? ⟨g, 8, none⟩ = some (.int .i64 a8) := hk 8 (by decide)
  have k9 : w.cell? ⟨g, 9, none⟩ = some (.int .i64 a9) := hk 9 (by decide)
  have k10 : w.cell? ⟨g, 10, none⟩ = some (.int .i64 a10) := hk 10 (by decide)
  have k11 : w.cell? ⟨g, 11, none⟩ = some (.int .i64 a11) := hk 11 (by decide)
  have j0 := World.new_ne w _ k0
  have j1 := World.new_ne w _ k1
  have hg : g < w.heap.size := h.lt
  clear h hk j0 j1
  go_enter Tryd.func13, Tryd.ntmps13
  go_wp2
  refine bodyPost_ret (results_err (Blk.new_at (by simp)) rfl) rfl ⟨rfl, Lib.hid ((Below.refl _ w).alloc (Nat.le_refl _) _)⟩
theorem idx10 (b0 b1 b2 b3 b4 b5 b6 b7 b8 b9 b10 b11 : Int) (W : World) : (Instr.index 25 (n12 [b0, b1, b2, b3, b4, b5, b6, b7, b8, b9, b10, b11]) (.int .i64 10)).run Tryd.prog W = .ok (.int .i64 b10) W := by kernel_rfl
theorem dec_zero (w : World) : DecB (w.alloc (.cells Tryd.zeroCells30 30)) w.heap.size d0 := by
  have e : Tryd.zeroCells30 = dcs d0.n (List.replicate 62 0) 0 false := by kernel_rfl
  rw [e]
  exact dec_new w
theorem out_form {B : Nat} {v : Value} {xs : List Fx} {w : World} (h : OutF B v xs w) : ∃ A c, v = .slice A xs.length c ∧ xs.length ≤ c := own_form h.row
theorem FeedE {w : World} {g c n m : Nat} {s s' : Ds} {fs : List Fp} {A : Option Addr} {l : List Int} {K : Int} (hn : l.length = n) (hf : feedD l s = (s', fs)) (hm : fs.length = m) (h : DecB w g s) (hok : DsOk K s) (hK : 0 ≤ K ∧ K ≤ 3000000000000000000) (hT : Turns w) (hi : InB l) (hl : n ≤ 1000000000) (hR : RowOf c8 1 w w.heap.size A l) (ha : ∀ ad, A = some ad → ad.block < w.heap.size ∧ ad.block ≠ g) :
    Calls Tryd.prog 10 #[.pointer (some ⟨g, 0, none⟩), .slice A n c] w fun e w' => ∃ A' c' xs, e = .returned (.slice A' m c') ∧ Hid (OutF w.heap.size (.slice A' m c') xs w') ∧ Hid (xs.map (·.1) = fs) ∧ Hid (DecB w' g s') ∧ Hid (Fr1 g w w') := by
  subst hn hm
  refine (FeedC h hok ⟨hK.1, by omega⟩ hT hi (by omega) hR (fun ad e _ => ha ad e)).mono ?_
  rintro e w' ⟨v, xs, rfl, h1, h2, h3, h4⟩
  rw [hf] at h2 h3
  simp only at h2 h3
  obtain ⟨A', c', rfl, _⟩ := out_form h1.out
  have e : xs.length = fs.length := by rw [← h2.out, List.length_map]
  rw [e] at h1 ⊢
  exact ⟨A', c', xs, rfl, h1, h2, h3, h4⟩
theorem FeedB {w : World} {B g c n m : Nat} {s s' : Ds} {fs : List Fp} {A : Option Addr} {l : List Int} {K : Int} (hn : l.length = n) (hf : feedD l s = (s', fs)) (hm : fs.length = m) (h : DecB w g s) (hok : DsOk K s) (hK : 0 ≤ K ∧ K ≤ 3000000000000000000) (hT : Turns w) (hi : InB l) (hl : n ≤ 1000000) (hR : RowOf c8 1 w B A l) (hB : B ≤ g) :
    Calls Tryd.prog 10 #[.pointer (some ⟨g, 0, none⟩), .slice A n c] w fun e w' => ∃ A' c' xs, e = .returned (.slice A' m c') ∧ Hid (OutF w.heap.size (.slice A' m c') xs w') ∧ Hid (xs.map (·.1) = fs) ∧ Hid (DecB w' g s') ∧ Hid (Fr1 g w w') := by
  subst hn hm
  have hg := h.lt
  refine (FeedC h hok ⟨hK.1, by omega⟩ hT hi (by omega) (hR.more_ (by omega)) (fun ad e h0 => by
    obtain ⟨ad', e', hb, _⟩ := hR 0 (l[0]) (List.getElem?_eq_getElem h0)
    rw [e] at e'
    obtain rfl := Option.some.inj e'
    omega)).mono ?_
  rintro e w' ⟨v, xs, rfl, h1, h2, h3, h4⟩
  rw [hf] at h2 h3
  simp only at h2 h3
  obtain ⟨A', c', rfl, _⟩ := out_form h1.out
  have e : xs.length = fs.length := by rw [← h2.out, List.length_map]
  rw [e] at h1 ⊢
  exact ⟨A', c', xs, rfl, h1, h2, h3, h4⟩
/-- One frame that came out. -/
theorem out_one {B c : Nat} {A : Option Addr} {xs : List Fx} {f : Fp} {w : World} (h : OutF B (.slice A 1 c) xs w) (hx : xs.map (·.1) = [f]) :
    ∃ gb A1 c1, A = some ⟨gb, 0, none⟩ ∧ B ≤ gb ∧ gb < w.heap.size ∧ w.cell? ⟨gb, 0, none⟩ = some (.int .u8 f.addr) ∧ w.cell? ⟨gb, 1, none⟩ = some (.int .u8 f.kind) ∧ w.cell? ⟨gb, 2, none⟩ = some (.int .u8 f.ses) ∧ w.cell? ⟨gb, 3, none⟩ = some (.int .u8 f.seq) ∧ w.cell? ⟨gb, 4, none⟩ = some (.int .u8 f.ack) ∧ w.cell? ⟨gb, 5, none⟩ = some (.slice A1 f.B.length c1) ∧ Made B A1 c1 f.B w := by
  match xs, hx with
  | [(f', A1, c1)], hx =>
    simp at hx
    subst hx
    obtain ⟨gb, cap, hv, hb, hlt⟩ := h.row.form (by simp)
    have hA : A = some ⟨gb, 0, none⟩ := by injection hv
    subst hA
    have hc := h.row.cells (g := gb) rfl
    have hm := h.each _ (List.mem_singleton_self _)
    exact ⟨gb, A1, c1, rfl, hb, hlt, hc 0 _ rfl, hc 1 _ rfl, hc 2 _ rfl, hc 3 _ rfl, hc 4 _ rfl, hc 5 _ rfl, hm⟩
end Go.Proofs.YtkihoonjekccgaaDoor.K

/- What must come in any case: layer 5's shown. -/
namespace Go.Proofs.YtkihoonjekccgaaDoor.K
open Go.RowKit
set_option linter.unusedVariables false
set_option linter.unusedSimpArgs false
attribute [local go_sem] min2_min min_two
abbrev La5 : List Int := [126, 1, 3, 2, 0, 0, 78, 225, 126]
abbrev Lb5 : List Int := [126, 2, 2, 0, 0, 1, 120, 13, 125, 93, 126]
theorem encA5 : encL ⟨1, 3, 2, 0, 0, []⟩ = La5 := of_decide_eq_true (by kernel_rfl)
theorem encB5 : encL ⟨2, 2, 0, 0, 0, [120]⟩ = Lb5 := of_decide_eq_true (by kernel_rfl)
abbrev noise5 : List Int := [110, 111, 105, 115, 101]
theorem feed_n5 : feedD noise5 d0 = (⟨d0.n, noise5, false⟩, []) := by kernel_rfl
theorem feed_a5 : feedD La5 ⟨d0.n, noise5, false⟩ = (⟨[0, 0, 1, 0, 0, 0, 0, 0, 0, 0, 0, 0], [], false⟩, [⟨1, 3, 2, 0, 0, []⟩]) := by kernel_rfl
theorem feed_b5 : feedD (Lb5.drop 1) ⟨[0, 0, 1, 0, 0, 0, 0, 0, 0, 0, 0, 0], [], false⟩ = (⟨[0, 0, 1, 0, 0, 0, 0, 0, 0, 0, 0, 0], [], false⟩, [⟨2, 2, 0, 0, 0, [120]⟩]) := by kernel_rfl
set_option maxHeartbeats 1000000 in
set_option maxRecDepth 10000 in
theorem shown5_walk {w : World} (hT : Turns w) : Calls Tryd.prog 9 #[] w fun e w' => e = .returned (.bool true) ∧ Hid (Below w.heap.size w w') := by
  have HTB : Hid (∀ w' : World, Below w.heap.size w w' → Turns w') := Lib.hid (fun w' b => hT.below b hT.lt)
  have HOKa : Hid ((⟨1, 3, 2, 0, 0, []⟩ : Fp).ok) := Lib.hid ⟨by simp, by simp, by simp, by simp, by simp, inB_of (by decide)⟩
  have HOKb : Hid ((⟨2, 2, 0, 0, 0, [120]⟩ : Fp).ok) := Lib.hid ⟨by simp, by simp, by simp, by simp, by simp, inB_of (by decide)⟩
  have HT := Lib.hid hT
  clear hT
  go_enter Tryd.func9, Tryd.ntmps9
  go_wp2_with fail
  refine Calls.mono (EncodeE (L := La5) (n := 9) HOKa.out (by decide) encA5 rfl rfl w HT.out row_none (fun ad e => by cases e)) ?_
  rintro e w1 ⟨A1, c1, rfl, M1, D1⟩
  have hs1 := D1.out.size
  have HL1 := Lib.hid (made_lt M1.out)
  have kc := kconv w1
  go_wp2_with fail
  obtain ⟨W1, hW1⟩ : ∃ W1, w1.alloc (.cells #[.int .u8 120] 5 (1, 2)) = W1 := ⟨_, rfl⟩
  have HB1 : Hid (Below w1.heap.size w1 W1) := Lib.hid (hW1 ▸ (Below.refl _ w1).alloc (Nat.le_refl _) _)
  have HR1 : Hid (RowOf c8 1 W1 W1.heap.size (some ⟨w1.heap.size, 0, none⟩) [120]) := Lib.hid (hW1 ▸ row_lit (l := [120]) (heap_alloc_new w1 _) (by simp))
  have B1 := Lib.hid (D1.out.trans (HB1.out.mono hs1))
  have hsW : W1.heap.size = w1.heap.size + 1 := by rw [← hW1]; simp
  have M1' := Lib.hid (M1.out.below HB1.out (Nat.le_refl _))
  rw [hW1]
  clear hW1 M1 kc
  refine Calls.mono (EncodeE (L := Lb5) (n := 11) HOKb.out (by decide) encB5 rfl rfl W1 (HTB.out _ B1.out) HR1.out (fun ad e => by obtain rfl := Option.some.inj e; show w1.heap.size < _; omega)) ?_
  rintro e w2 ⟨A2, c2, rfl, M2, D2⟩
  have hs2 := D2.out.size
  obtain ⟨g2, rfl, _, hg2⟩ := M2.out.at0 (by decide)
  have hc2 : 11 ≤ c2 := M2.out.2.2
  have hcm2 := made_cap M2.out
  have B2 := Lib.hid (B1.out.trans (D2.out.mono B1.out.size))
  have M1 := Lib.hid (M1'.out.below D2.out (Nat.le_refl _))
  clear M1' HR1 HB1 D1
  have kc1 := kconv1 w2 (.cells Tryd.zeroCells30 30)
  go_wp2_with fail
  obtain ⟨W2, hW2⟩ : ∃ W2, (w2.alloc (.cells Tryd.zeroCells30 30)).alloc (.cells #[.int .u8 110, .int .u8 111, .int .u8 105, .int .u8 115, .int .u8 101] 5 (5, 6)) = W2 := ⟨_, rfl⟩
  have HB2 : Hid (Below w2.heap.size w2 W2) := Lib.hid (hW2 ▸ ((Below.refl _ w2).alloc (Nat.le_refl _) _).alloc (by simp) _)
  have HR2 : Hid (RowOf c8 1 W2 W2.heap.size (some ⟨w2.heap.size + 1, 0, none⟩) noise5) := Lib.hid (hW2 ▸ row_lit (l := noise5) (heap_new_at (by simp)) (by simp))
  have HG2 : Hid (DecB W2 w2.heap.size d0) := Lib.hid (hW2 ▸ (dec_zero w2).below ((Below.refl _ _).alloc (Nat.le_refl _) _) (by simp))
  have B3 := Lib.hid (B2.out.trans (HB2.out.mono B2.out.size))
  have hsW2 : W2.heap.size = w2.heap.size + 2 := by rw [← hW2]; simp
  have M1' := Lib.hid (M1.out.below HB2.out (Nat.le_refl _))
  have M2' := Lib.hid (M2.out.below HB2.out (Nat.le_refl _))
  rw [hW2]
  clear hW2 M1 M2 kc1 B1 B2 HB2 D2
  refine Calls.mono (FeedE (w := W2) (K := 0) rfl feed_n5 rfl HG2.out d0_ok (by decide) (HTB.out _ B3.out) (inB_of (by decide)) (by decide) HR2.out (fun ad e => by obtain rfl := Option.some.inj e; simp; omega)) ?_
  rintro e w3 ⟨A3, c3, xs3, rfl, O3, X3, G3, F3⟩
  have B4 := Lib.hid (fr1_below B3.out F3.out (by omega) (Nat.le_refl _))
  have hs3 := F3.out.size
  clear HR2 HG2 B3
  have R1 := Lib.hid ((row_fr M1'.out.2.1 F3.out (fun ad e => by have := HL1.out ad e; omega)).more_ hs3)
  have R2 := Lib.hid ((row_fr M2'.out.2.1 F3.out (fun ad e => by obtain rfl := Option.some.inj e; simp only; omega)).more_ hs3)
  clear M1' M2' F3 X3 O3
  go_wp2_with fail
  refine Calls.mono (heldE (n := 5) G3.out rfl) ?_
  rintro e w' ⟨rfl, rfl⟩
  go_wp2_with fail
  refine Calls.mono (FeedE (w := w3) (K := 1) rfl feed_a5 rfl G3.out ⟨rfl, by simp [d0], by decide, inB_of (by decide), by decide⟩ (by decide) (HTB.out _ B4.out) (inB_of (by decide)) (by decide) R1.out (fun ad e => by have := HL1.out ad e; omega)) ?_
  rintro e w4 ⟨A4, c4, xs4, rfl, O4, X4, G4, F4⟩
  have B5 := Lib.hid (fr1_below B4.out F4.out (by omega) (Nat.le_refl _))
  have hs4 := F4.out.size
  have R2' := Lib.hid ((row_fr R2.out F4.out (fun ad e => by obtain rfl := Option.some.inj e; simp only; omega)).more_ hs4)
  have hl1 : ∀ W, (Instr.slice 32 (.slice (some ⟨g2, 0, none⟩) 11 c2) (some (.int .i64 1)) none none).run Tryd.prog W = .ok (.slice (some ⟨g2, 1, none⟩) 10 (c2 - 1)) W := fun W => bcut_lo_lit g2 11 c2 1 (by omega) (by omega) (by omega) hcm2 W
  clear R1 R2 G3 B4 F4
  go_wp2_with fail
  clear hl1
  refine Calls.mono (FeedE (w := w4) (K := 2) rfl feed_b5 rfl G4.out ⟨rfl, by simp <;> omega, by decide, inB_of (by decide), by decide⟩ (by decide) (HTB.out _ B5.out) (inB_of (by decide)) (by decide) (R2'.out.cut_lit (c := c2) 1 (by simp; omega) (by omega)) (fun ad e => by obtain rfl := Option.some.inj e; simp only; omega)) ?_
  rintro e w5 ⟨A5, c5, xs5, rfl, O5, X5, G5, F5⟩
  have hs5 := F5.out.size
  have O4' := Lib.hid (O4.out.fr F5.out (fun j hj _ e => by omega))
  have B6 := Lib.hid (fr1_below B5.out F5.out (by omega) (Nat.le_refl _))
  clear O4 R2' G4 F5 B5
  go_wp2_with fail
  refine Calls.mono (errC G5.out) ?_
  rintro e w6 ⟨rfl, D6⟩
  obtain ⟨gb4, A6, c6, rfl, hb4, hl4, i0, i1, i2, i3, i4, i5, M6⟩ := out_one (O4'.out.fr (Fr.of_below D6.out) (fun _ _ _ h => h)) X4.out
  obtain ⟨gb5, A7, c7, rfl, hb5, hl5, j0, j1, j2, j3, j4, j5, M7⟩ := out_one (O5.out.fr (Fr.of_below D6.out) (fun _ _ _ h => h)) X5.out
  have G6 := Lib.hid (G5.out.fr (Fr.of_below D6.out) (fun h => h))
  simp only at i2 j5
  have s7 : (convert 32 9 (.slice A7 1 c7)).run Tryd.prog (w6.alloc (.cells #[.int .i64 0, .int .i64 0, .int .i64 1, .int .i64 0, .int .i64 0, .int .i64 0, .int .i64 0, .int .i64 0, .int .i64 0, .int .i64 0, .int .i64 0, .int .i64 0] 25)) = .ok (.string ⟨#[120]⟩) _ := str_row (l := [120]) (M7.2.1.now ((Below.refl _ w6).alloc (Nat.le_refl _) _))
  have G6' : Hid (DecB (w6.alloc (.cells #[.int .i64 0, .int .i64 0, .int .i64 1, .int .i64 0, .int .i64 0, .int .i64 0, .int .i64 0, .int .i64 0, .int .i64 0, .int .i64 0, .int .i64 0, .int .i64 0] 25)) w2.heap.size _) := Lib.hid (G6.out.fr ((Fr.refl (fun _ => False) w6).alloc _) (fun h => h))
  have B7 := Lib.hid ((B6.out.trans (D6.out.mono B6.out.size)).alloc (B6.out.trans (D6.out.mono B6.out.size)).size (.cells #[.int .i64 0, .int .i64 0, .int .i64 1, .int .i64 0, .int .i64 0, .int .i64 0, .int .i64 0, .int .i64 0, .int .i64 0, .int .i64 0, .int .i64 0, .int .i64 0] 25))
  clear M6 M7 O5 O4' X4 X5 i0 i1 i3 i4 i5 j0 j1 j2 j3 j4 D6 G5 G6
  go_wp2_with fail
  refine Calls.mono (heldE (n := 0) G6'.out rfl) ?_
  rintro e w' ⟨rfl, rfl⟩
  go_wp2
  go_ret
  exact ⟨rfl, B7⟩
end Go.Proofs.YtkihoonjekccgaaDoor.K

/- Frames that came out: joined, looked at; they are right. -/
namespace Go.Proofs.YtkihoonjekccgaaDoor.K
open Go.RowKit
set_option linter.unusedVariables false
set_option linter.unusedSimpArgs false
set_option maxRecDepth 10000 in
theorem eqlN (b0 b1 b2 b3 b4 b5 b6 b7 b8 b9 b10 b11 : Int) (W : World) : (binOp .eql 25 (n12 [b0, b1, b2, b3, b4, b5, b6, b7, b8, b9, b10, b11]) (n12 [b0, b1, b2, b3, b4, b5, b6, b7, b8, b9, b10, b11])).run Tryd.prog W = .ok (.bool true) W := by
  obtain ⟨i, hi, _, hs, _⟩ := info_parts (show (Tryd.prog.info? 3).map (fun i => (i.zero, i.size, i.bytes)) = some (some (.int .i64 0), 1, 8) by kernel_rfl)
  rw [run_eql_struct]
  have key : ∀ (a : Int), (Op.equalIn 9999 3 (.int .i64 a) (.int .i64 a)).run Tryd.prog W = .ok true W := fun a => by
    show (Op.equalIn (9998 + 1) 3 (.int .i64 a) (.int .i64 a)).run Tryd.prog W = .ok true W
    rw [run_equalIn_int W 9998 3 .i64 .i64 a a Tryd.underlying3]; simp
  show ((Op.equalIn (9998 + 1 + 1) 25 _ _).run Tryd.prog W).andThen _ = _
  rw [Op.equalIn]
  have ha : (isAgg 3).run Tryd.prog W = .ok false W := by kernel_rfl
  simp [run_underlying Tryd.underlying25, Go.sizeOf, typeInfo, hi, hs, go_sem, ha, List.range', key, Result.andThen]
theorem neqF (a k s q x : Int) (t : ByteArray) (W : World) : (binOp .neq 45 (.agg #[.int .u8 a, .int .u8 k, .int .u8 s, .int .u8 q, .int .u8 x, .string t]) (.agg #[.int .u8 a, .int .u8 k, .int .u8 s, .int .u8 q, .int .u8 x, .string t])).run Tryd.prog W = .ok (.bool false) W := by
  have h := eqlF a k s q x t W
  rw [run_eql_struct] at h
  rw [run_neq_struct]
  generalize (Op.equalIn 10000 45 _ _).run Tryd.prog W = r at *
  cases r with
  | halt e w' => simp [Result.andThen] at h
  | ok b w' => simp [Result.andThen] at h ⊢; exact ⟨by rw [h.1], h.2⟩
theorem fields_ok {l : List Int} (h : InB l) : (fieldsF l).ok := by
  have z : (fr0 : Fp).ok := ⟨by decide, by decide, by decide, by decide, by decide, fun x hx => by cases hx⟩
  match l, h with
  | [], _ | [_], _ | [_, _], _ | [_, _, _], _ | [_, _, _, _], _ => exact z
  | b0 :: b1 :: b2 :: b3 :: b4 :: m, h =>
    have h0 := h b0 (by simp)
    have h1 := h b1 (by simp)
    have h2 := h b2 (by simp)
    have h3 := h b3 (by simp)
    exact ⟨h0, h1, h2, by simp only [fieldsF]; omega, by simp only [fieldsF]; omega, fun x hx => h x (by simp [fieldsF] at hx; simp [hx])⟩
theorem dec_right {l : List Int} (h : InB l) (h0 : (decL l).2 = 0) : rightF (decL l).1 = true ∧ (decL l).1.ok := by
  obtain ⟨z, f, hu⟩ : ∃ z f, unst false l [] = (z, f) := ⟨_, _, rfl⟩
  have hz := unst_inB l false [] z f hu h (fun x hx => by cases hx)
  unfold decL at h0 ⊢
  rw [hu] at h0 ⊢
  simp only at h0 ⊢
  split
  · rename_i hf; rw [if_pos hf] at h0; exact (hf h0).elim
  · rename_i hf
    rw [if_neg hf] at h0
    split
    · rename_i h7; rw [if_pos h7] at h0; simp at h0
    · rename_i h7
      rw [if_neg h7] at h0
      split
      · rename_i hv; rw [if_pos hv] at h0; simp at h0
      · rename_i hv
        rw [if_neg hv] at h0
        unfold formF at h0 ⊢
        split
        · rename_i hr
          simp only [Bool.and_eq_true] at hr
          exact ⟨hr.1, fields_ok (fun x hx => hz x (List.mem_of_mem_take hx))⟩
        · rename_i hr; rw [if_neg hr] at h0; simp at h0
theorem end_right {s : Ds} (h : InB s.held) : ∀ f ∈ (endD s).2, rightF f = true ∧ f.ok := by
  unfold endD
  split
  · simp
  · split
    · rename_i h0
      intro f hf
      obtain rfl := List.mem_singleton.1 hf
      exact dec_right h h0
    · simp
theorem feed_right : ∀ (l : List Int) {k : Int} {s : Ds}, DsOk k s → 0 ≤ k → InB l → ∀ f ∈ (feedD l s).2, rightF f = true ∧ f.ok := by
  intro l
  induction l with
  | nil => intro k s _ _ _ f hf; simp [feedD] at hf
  | cons c l ih =>
    intro k s h h0 hi f hf
    simp only [feedD] at hf
    rcases List.mem_append.1 hf with hf | hf
    · unfold stepD at hf
      split at hf
      · exact end_right h.inB f hf
      · simp at hf
    · exact ih (step_ok h h0 (hi c (by simp))) (by omega) (fun x hx => hi x (by simp [hx])) f hf
/-- Frames behind frames. -/
theorem OutF.app {B B' m c : Nat} {v v1 : Value} {A : Option Addr} {xs ys : List Fx} {w w1 : World} (h : OutF B v xs w) (k : OutF B' (.slice A m c) ys w) (hB : B ≤ B') (hlt : ∀ x ∈ xs, ∀ a, x.2.1 = some a → a.block < B')
    (h1 : w1.ownsRow B 35 6 v1 (xs ++ ys).length ((xs ++ ys).flatMap cF)) (hf : Fr (fun k => v.ownBlock = some k) w w1) : OutF B v1 (xs ++ ys) w1 :=
  ⟨h1, fun q hq => by
    rcases List.mem_append.1 hq with hq | hq
    · have a1 := h.each q hq
      exact a1.fr hf (fun j e e2 => own_ne a1.1 h.row (by decide) j e e2)
    · have a1 := k.each q hq
      exact (a1.fr hf (fun j e e2 => own_ne a1.1 h.row (by decide) j e e2)).low hB, by
    rw [List.pairwise_append]
    refine ⟨h.apart, k.apart, fun x hx y hy a b e1 e2 => ?_⟩
    have := hlt x hx a e1
    have := made_lt (k.each y hy) b e2
    omega⟩
theorem OutF.lt {B : Nat} {v : Value} {xs : List Fx} {w : World} (h : OutF B v xs w) : ∀ x ∈ xs, ∀ a, x.2.1 = some a → a.block < w.heap.size := fun x hx a e => (made_lt (h.each x hx) a e).2
theorem OutF.rowOf {B m c : Nat} {A : Option Addr} {xs : List Fx} {w : World} (h : OutF B (.slice A m c) xs w) (hm : xs.length = m) : RowOf cF 6 w w.heap.size A xs := by
  subst hm
  exact row_own (fun _ => rfl) h.row
theorem OutF.nilrow {B m c : Nat} {A : Option Addr} {xs : List Fx} {w : World} (h : OutF B (.slice A m c) xs w) : xs.length = m := by
  rcases h.row.2 with ⟨e, e2⟩ | ⟨g, cap, cur, e, _⟩
  · injection e with _ e _; omega
  · injection e with _ e _; exact e.symm
theorem add_field (ad : Addr) (m j : Nat) (hj : 0 < j) : ad.add (m + j) = ⟨(ad.add m).block, (ad.add m).off + j, none⟩ := by
  unfold Addr.add
  by_cases hm : m = 0
  · subst hm
    rw [if_neg (by omega), if_pos rfl]
    simp
  · rw [if_neg (by omega), if_neg hm]
    simp [Nat.add_assoc]
/-- The cells of a frame in a row of them. -/
def FxC (w : World) (ad : Addr) (i : Nat) (x : Fx) : Prop :=
  w.cell? (ad.add (i * 6)) = some (.int .u8 x.1.addr) ∧ w.cell? ⟨(ad.add (i * 6)).block, (ad.add (i * 6)).off + 1, none⟩ = some (.int .u8 x.1.kind) ∧ w.cell? ⟨(ad.add (i * 6)).block, (ad.add (i * 6)).off + 2, none⟩ = some (.int .u8 x.1.ses) ∧ w.cell? ⟨(ad.add (i * 6)).block, (ad.add (i * 6)).off + 3, none⟩ = some (.int .u8 x.1.seq) ∧ w.cell? ⟨(ad.add (i * 6)).block, (ad.add (i * 6)).off + 4, none⟩ = some (.int .u8 x.1.ack) ∧ w.cell? ⟨(ad.add (i * 6)).block, (ad.add (i * 6)).off + 5, none⟩ = some (.slice x.2.1 x.1.B.length x.2.2)
theorem fx_at {w : World} {B : Nat} {A : Option Addr} {l : List Fx} (h : RowOf cF 6 w B A l) {i : Nat} (hi : i < l.length) : ∃ ad, A = some ad ∧ ad.block < B ∧ FxC w ad i l[i] := by
  obtain ⟨ad, rfl, hb, hc⟩ := h i (l[i]) (List.getElem?_eq_getElem hi)
  have k1 := hc 1 _ rfl
  have k2 := hc 2 _ rfl
  have k3 := hc 3 _ rfl
  have k4 := hc 4 _ rfl
  have k5 := hc 5 _ rfl
  rw [add_field ad (i * 6) _ (by omega)] at k1 k2 k3 k4 k5
  exact ⟨ad, rfl, hb, hc 0 _ rfl, k1, k2, k3, k4, k5⟩
theorem FxC.below {B i : Nat} {w w' : World} {ad : Addr} {x : Fx} (h : FxC w ad i x) (hb : Below B w w') (ha : ad.block < B) : FxC w' ad i x := by
  obtain ⟨h0, h1, h2, h3, h4, h5⟩ := h
  have e : (ad.add (i * 6)).block < B := by rw [block_of_add]; exact ha
  exact ⟨(hb.cell e).trans h0, (hb.cell (p := ⟨(ad.add (i * 6)).block, _, none⟩) e).trans h1, (hb.cell (p := ⟨(ad.add (i * 6)).block, _, none⟩) e).trans h2, (hb.cell (p := ⟨(ad.add (i * 6)).block, _, none⟩) e).trans h3, (hb.cell (p := ⟨(ad.add (i * 6)).block, _, none⟩) e).trans h4, (hb.cell (p := ⟨(ad.add (i * 6)).block, _, none⟩) e).trans h5⟩
/-- A frame of those that came out. -/
theorem out_at {B m c i : Nat} {A : Option Addr} {xs : List Fx} {F : List Fp} {w : World} (h : OutF B (.slice A m c) xs w) (hx : xs.map (·.1) = F) (hi : i < F.length) :
    ∃ ad Ai ci, A = some ad ∧ ad.block < w.heap.size ∧ FxC w ad i (F.getD i fr0, Ai, ci) ∧ Made B Ai ci (F.getD i fr0).B w := by
  have hm := h.nilrow
  have hl : i < xs.length := by rw [← hx, List.length_map] at hi; exact hi
  obtain ⟨ad, rfl, hb, hc⟩ := fx_at (h.rowOf hm) hl
  have e : F.getD i fr0 = (xs[i]).1 := by rw [← hx, List.getD_eq_getElem?_getD, List.getElem?_map, List.getElem?_eq_getElem hl]; rfl
  rw [e]
  exact ⟨ad, (xs[i]).2.1, (xs[i]).2.2, rfl, hb, hc, h.each _ (List.getElem_mem hl)⟩
end Go.Proofs.YtkihoonjekccgaaDoor.K

/- Arguments opened: slices of slices of bytes, and of frames. -/
namespace Go.Proofs.YtkihoonjekccgaaDoor.K
open Go.RowKit Go.ChangeShapes Go.WideShapes Go.Joins Go.Deep
set_option linter.unusedVariables false
set_option linter.constructorNameAsVariable false
set_option linter.unusedSimpArgs false
section
variable {H : Type} {enc : TypeId × Value → H} {P : Program} {w : World} {base : Nat} {spare : Nat → Bool} {held : Bool}
/-- A part, as it came in. -/
def PartOk (w : World) (p : Part) : Prop := RowOf c8 1 w w.heap.size p.1 p.2.2 ∧ (∀ x ∈ p.2.2, (Lit.int .u8 x).wf = true) ∧ p.2.2.length ≤ p.2.1 ∧ p.2.1 ≤ maxLen
theorem dec_bytes {t e : TypeId} (ht : P.underlying t = some (.slice e)) (he : P.underlying e = some (.int .u8)) (hC : P.cellsOf e = 1) : Dec enc P w base spare held t cP (PartOk w) := fun n cs y h => by
  have key : ∀ (A : Option Addr) (len cap : Nat), cs = [.slice A len cap] → ∃ a, cs = cP a ∧ PartOk w a := fun A len cap e => by
    subst e
    obtain ⟨l, h1, h2, h3, h4, h5⟩ := open_rowOf (c := fun x : Int => [.int .u8 x]) (Q := fun x => (Lit.int .u8 x).wf = true) (size := 1) (fun _ => rfl) (by omega) hC (dec_int he) ht (d := y.1) (ps := y.2) (⟨n, by simpa [Value.cells] using h⟩ : DataW.Trod enc P w base spare held t (.slice A len cap) y.1 y.2)
    subst h1
    exact ⟨(A, cap, l), rfl, h2, h3, h4, h5⟩
  rcases Go.Deep.open_slice ht h with ⟨hcs, _⟩ | ⟨a, l', c', m, n, D, Pl, hcs, _⟩
  · exact key _ _ _ hcs
  · exact key _ _ _ hcs
theorem in2_of {P : Option Addr} {qs : List Part} (h : RowOf cP 1 w w.heap.size P qs) (hq : ∀ p ∈ qs, PartOk w p) : In2 w.heap.size P qs w :=
  ⟨h, fun p hp => by
    obtain ⟨h1, h2, h3, h4⟩ := hq p hp
    unfold maxLen at h4
    exact ⟨h1, fun x hx => wf_u8 (h2 x hx), h3, by omega⟩⟩
end
section
variable {H : Type} {enc : TypeId × Value → H} {w : World} {base : Nat} {spare : Nat → Bool} {held : Bool}
/-- A frame, as it came in with others. -/
def FxOk (w : World) (x : Fx) : Prop := x.1.ok ∧ RowOf c8 1 w w.heap.size x.2.1 x.1.B
theorem dec_frame : Dec enc Tryd.prog w base spare held 35 cF (FxOk w) := fun n cs y h => by
  obtain ⟨v0, v1, v2, v3, v4, v5, y0, y1, y2, y3, y4, y5, n, rfl, t0, t1, t2, t3, t4, t5⟩ := trod_fields6 Tryd.underlying35 (by kernel_rfl) (by kernel_rfl) h
  have num : ∀ (v : Value) (y : DataW H × List MemPlace), DataW.trod enc Tryd.prog w base spare held n 5 [v] = some y → ∃ x : Int, v = .int .u8 x ∧ 0 ≤ x ∧ x < 256 := fun v y h => by
    obtain ⟨x, h1, _, h3⟩ := DataW.trod_int Tryd.underlying5 h
    have := wf_u8 h3
    injection h1 with h1
    exact ⟨x, h1, this⟩
  obtain ⟨a, rfl, ha⟩ := num v0 y0 t0
  obtain ⟨k, rfl, hk⟩ := num v1 y1 t1
  obtain ⟨s, rfl, hs⟩ := num v2 y2 t2
  obtain ⟨q, rfl, hq⟩ := num v3 y3 t3
  obtain ⟨x, rfl, hx⟩ := num v4 y4 t4
  have key : ∀ (A : Option Addr) (len c : Nat), v5 = .slice A len c → ∃ x' : Fx, [Value.int .u8 a, .int .u8 k, .int .u8 s, .int .u8 q, .int .u8 x, v5] = cF x' ∧ FxOk w x' := fun A len c e => by
    subst e
    obtain ⟨l, h1, h2, h3, h4, h5⟩ := open_rowOf (c := fun x : Int => [.int .u8 x]) (Q := fun x => (Lit.int .u8 x).wf = true) (size := 1) (fun _ => rfl) (by omega) (by kernel_rfl) (dec_int Tryd.underlying5) Tryd.underlying32 (d := y5.1) (ps := y5.2) (⟨n, by simpa [Value.cells] using t5⟩ : DataW.Trod enc Tryd.prog w base spare held 32 (.slice A len c) y5.1 y5.2)
    subst h1
    exact ⟨(⟨a, k, s, q, x, l⟩, A, c), rfl, ⟨ha, hk, hs, hq, hx, fun y hy => wf_u8 (h3 y hy)⟩, h2⟩
  rcases Go.Deep.open_slice Tryd.underlying32 t5 with ⟨hcs, _⟩ | ⟨a', l', c', m, n', D, Pl, hcs, _⟩
  · injection hcs with hcs; exact key _ _ _ hcs
  · injection hcs with hcs; exact key _ _ _ hcs
end
end Go.Proofs.YtkihoonjekccgaaDoor.K

/- The document's long division, over bits: plain laws. -/
namespace Go.Proofs.YtkihoonjekccgaaDoor.K
set_option linter.unusedVariables false
set_option linter.unusedSimpArgs false
/-- The bits of a byte, the highest first. -/
def byteBits (c : Int) : List Bool := [c / 128 % 2 == 1, c / 64 % 2 == 1, c / 32 % 2 == 1, c / 16 % 2 == 1, c / 8 % 2 == 1, c / 4 % 2 == 1, c / 2 % 2 == 1, c / 1 % 2 == 1]
def textBits (l : List Int) : List Bool := l.flatMap byteBits
theorem textBits_len (l : List Int) : (textBits l).length = 8 * l.length := by
  induction l with
  | nil => rfl
  | cons c l ih =>
    show (byteBits c ++ textBits l).length = _
    rw [List.length_append, ih]; simp [byteBits]; omega
theorem textBits_snoc (l : List Int) (c : Int) : textBits (l ++ [c]) = textBits l ++ byteBits c := by simp [textBits]
/-- A bit goes by, b of the text beside it. -/
def fd1 (r : B16) (b : Bool) : B16 := gs (r ^^^ (if b then 0x8000#16 else 0#16))
def fd (r : B16) (bs : List Bool) : B16 := bs.foldl fd1 r
theorem fd_xor (bs : List Bool) : ∀ r e : B16, fd (r ^^^ e) bs = fd r bs ^^^ gn bs.length e := by
  induction bs with
  | nil => intro r e; rfl
  | cons b bs ih =>
    intro r e
    show fd (fd1 (r ^^^ e) b) bs = fd (fd1 r b) bs ^^^ gn (bs.length + 1) e
    have : fd1 (r ^^^ e) b = fd1 r b ^^^ gs e := by
      unfold fd1
      rw [← gs_xor]
      congr 1
      rw [BitVec.xor_assoc, BitVec.xor_comm e, ← BitVec.xor_assoc]
    rw [this, ih]
    rfl
theorem fd_byte0 : ∀ c : Fin 256, fd 0#16 (byteBits (c.val : Int)) = gn 8 (up (c.val : Int)) := of_decide_eq_true (by kernel_rfl)
theorem fd_byte (r : B16) (c : Int) (hc : 0 ≤ c ∧ c < 256) : fd r (byteBits c) = sb r c := by
  have h := fd_byte0 ⟨c.toNat, by omega⟩
  have hcc : ((c.toNat : Nat) : Int) = c := by omega
  simp only [hcc] at h
  have h2 := fd_xor (byteBits c) 0#16 r
  rw [BitVec.zero_xor] at h2
  rw [h2, h]
  unfold sb
  rw [gn_xor, BitVec.xor_comm]
  rfl
theorem fd_app (r : B16) (a b : List Bool) : fd r (a ++ b) = fd (fd r a) b := by simp [fd]
theorem fd_text (l : List Int) : ∀ r : B16, InB l → fd r (textBits l) = cf r l := by
  induction l with
  | nil => intro r _; rfl
  | cons c l ih =>
    intro r h
    show fd r (byteBits c ++ textBits l) = cf (sb r c) l
    rw [fd_app, fd_byte r c (h c (by simp)), ih _ (fun x hx => h x (by simp [hx]))]
/-- What is divided: the bits of a text, with sixteen behind. -/
def dv0 (m : List Bool) (j : Nat) : Bool := if j < 16 then !m.getD j false else m.getD j false
/-- The bits behind k steps. -/
def dv (m : List Bool) (k j : Nat) : Bool :=
  if j < k then false else if j < k + 16 then (fd 0xFFFF#16 (m.take k)).getMsbD (j - k) ^^ m.getD j false else m.getD j false
theorem ffff_msb (t : Nat) (h : t < 16) : (0xFFFF#16 : B16).getMsbD t = true := by
  have : t = 0 ∨ t = 1 ∨ t = 2 ∨ t = 3 ∨ t = 4 ∨ t = 5 ∨ t = 6 ∨ t = 7 ∨ t = 8 ∨ t = 9 ∨ t = 10 ∨ t = 11 ∨ t = 12 ∨ t = 13 ∨ t = 14 ∨ t = 15 := by omega
  rcases this with h | h | h | h | h | h | h | h | h | h | h | h | h | h | h | h <;> subst h <;> decide
theorem dv_start (m : List Bool) (j : Nat) : dv m 0 j = dv0 m j := by
  unfold dv dv0
  rw [if_neg (by omega)]
  by_cases h : j < 16
  · rw [if_pos (by omega), if_pos h]
    have e : (fd 0xFFFF#16 (m.take 0)) = 0xFFFF#16 := rfl
    rw [e, ffff_msb _ (by omega)]; simp
  · rw [if_neg (by omega), if_neg h]
theorem fd_take (m : List Bool) (k : Nat) (h : k < m.length) : fd 0xFFFF#16 (m.take (k + 1)) = fd1 (fd 0xFFFF#16 (m.take k)) (m.getD k false) := by
  rw [List.take_succ_eq_append_getElem h, fd_app, List.getD_eq_getElem?_getD, List.getElem?_eq_getElem h]; rfl
theorem poly_msb (t : Nat) (h : t < 16) : (0x1021#16 : B16).getMsbD t = (t == 3 || t == 10 || t == 15) := by
  have : t = 0 ∨ t = 1 ∨ t = 2 ∨ t = 3 ∨ t = 4 ∨ t = 5 ∨ t = 6 ∨ t = 7 ∨ t = 8 ∨ t = 9 ∨ t = 10 ∨ t = 11 ∨ t = 12 ∨ t = 13 ∨ t = 14 ∨ t = 15 := by omega
  rcases this with h | h | h | h | h | h | h | h | h | h | h | h | h | h | h | h <;> subst h <;> decide
theorem top_msb (t : Nat) (h : t < 16) : (0x8000#16 : B16).getMsbD t = (t == 0) := by
  have : t = 0 ∨ t = 1 ∨ t = 2 ∨ t = 3 ∨ t = 4 ∨ t = 5 ∨ t = 6 ∨ t = 7 ∨ t = 8 ∨ t = 9 ∨ t = 10 ∨ t = 11 ∨ t = 12 ∨ t = 13 ∨ t = 14 ∨ t = 15 := by omega
  rcases this with h | h | h | h | h | h | h | h | h | h | h | h | h | h | h | h <;> subst h <;> decide
theorem fd1_msb (r : B16) (b : Bool) (t : Nat) (h : t < 16) : (fd1 r b).getMsbD t = ((r.getMsbD (t + 1)) ^^ ((r.getMsbD 0 ^^ b) && (t == 3 || t == 10 || t == 15))) := by
  unfold fd1 gs
  have h1 : ∀ t, t < 16 → (r ^^^ (if b then 0x8000#16 else 0#16)).getMsbD t = (r.getMsbD t ^^ (b && t == 0)) := fun t ht => by
    rw [BitVec.getMsbD_xor]
    cases b
    · simp
    · simp only [if_true, Bool.true_and]; rw [top_msb t ht]
  have h2 : (r ^^^ (if b then 0x8000#16 else 0#16)).msb = (r.getMsbD 0 ^^ b) := by
    rw [BitVec.msb, h1 0 (by omega)]; simp
  have h3 : ((r ^^^ (if b then 0x8000#16 else 0#16)) <<< 1).getMsbD t = r.getMsbD (t + 1) := by
    rw [BitVec.getMsbD_shiftLeft]
    by_cases h15 : t = 15
    · subst h15
      rw [BitVec.getMsbD_of_ge _ _ (by omega), BitVec.getMsbD_of_ge _ _ (by omega)]
    · rw [h1 (t + 1) (by omega)]; simp
  rw [BitVec.getMsbD_xor, h3, h2]
  cases hx : (r.getMsbD 0 ^^ b)
  · simp
  · simp only [if_true, Bool.true_and]; rw [poly_msb t h]
/-- One step of the division, at each place. -/
theorem dv_step (m : List Bool) (k j : Nat) (hk : k < m.length) : dv m (k + 1) j = if dv m k k then (if j = k then false else if j = k + 4 ∨ j = k + 11 ∨ j = k + 16 then !dv m k j else dv m k j) else dv m k j := by
  have hkk : dv m k k = ((fd 0xFFFF#16 (m.take k)).getMsbD 0 ^^ m.getD k false) := by
    unfold dv
    rw [if_neg (by omega), if_pos (by omega), Nat.sub_self]
  rw [hkk]
  have hm := fun t ht => fd1_msb (fd 0xFFFF#16 (m.take k)) (m.getD k false) t ht
  unfold dv
  rw [fd_take m k hk]
  generalize fd 0xFFFF#16 (m.take k) = r at *
  by_cases h0 : j < k
  · have a1 : j < k + 1 := by omega
    have a2 : ¬ j = k := by omega
    have a3 : ¬ (j = k + 4 ∨ j = k + 11 ∨ j = k + 16) := by omega
    simp only [h0, a1, a2, a3, if_true, if_false, ite_self]
  · by_cases h1 : j = k
    · subst h1
      have a1 : j < j + 1 := by omega
      have a2 : ¬ j < j := by omega
      have a3 : j < j + 16 := by omega
      simp only [a1, a2, a3, if_true, if_false, Nat.sub_self]
      generalize (r.getMsbD 0 ^^ m.getD j false) = q
      cases q <;> rfl
    · have a1 : ¬ j < k + 1 := by omega
      simp only [a1, h0, h1, if_false]
      clear a1
      obtain ⟨t, rfl⟩ : ∃ t, j = k + 1 + t := ⟨j - (k + 1), by omega⟩
      by_cases h2 : t < 15
      · have a1 : k + 1 + t < k + 1 + 16 := by omega
        have a2 : k + 1 + t < k + 16 := by omega
        simp only [a1, a2, if_true, show k + 1 + t - (k + 1) = t by omega, show k + 1 + t - k = t + 1 by omega, hm t (by omega)]
        have h3 : (t == 15) = false := by simp; omega
        rw [h3]
        generalize m.getD (k + 1 + t) false = x
        generalize r.getMsbD (t + 1) = y
        generalize (r.getMsbD 0 ^^ m.getD k false) = q
        by_cases h4 : t = 3
        · subst h4
          have a3 : k + 1 + 3 = k + 4 ∨ k + 1 + 3 = k + 11 ∨ k + 1 + 3 = k + 16 := by omega
          simp only [a3, if_true]
          cases q <;> cases x <;> cases y <;> rfl
        · by_cases h5 : t = 10
          · subst h5
            have a3 : k + 1 + 10 = k + 4 ∨ k + 1 + 10 = k + 11 ∨ k + 1 + 10 = k + 16 := by omega
            rw [if_pos a3]
            cases q <;> cases x <;> cases y <;> rfl
          · have a3 : ¬ (k + 1 + t = k + 4 ∨ k + 1 + t = k + 11 ∨ k + 1 + t = k + 16) := by omega
            simp only [a3, if_false]
            have e4 : (t == 3) = false := by simp [h4]
            have e5 : (t == 10) = false := by simp [h5]
            rw [e4, e5]
            cases q <;> cases x <;> cases y <;> rfl
      · by_cases h3 : t = 15
        · subst h3
          have a1 : k + 1 + 15 < k + 1 + 16 := by omega
          have a2 : ¬ k + 1 + 15 < k + 16 := by omega
          have a3 : k + 1 + 15 = k + 4 ∨ k + 1 + 15 = k + 11 ∨ k + 1 + 15 = k + 16 := by omega
          rw [if_pos a3]
          simp only [a1, a2, if_true, if_false, show k + 1 + 15 - (k + 1) = 15 by omega, hm 15 (by omega)]
          rw [BitVec.getMsbD_of_ge r 16 (by omega)]
          generalize m.getD (k + 1 + 15) false = x
          generalize (r.getMsbD 0 ^^ m.getD k false) = q
          cases q <;> cases x <;> rfl
        · have a1 : ¬ k + 1 + t < k + 1 + 16 := by omega
          have a2 : ¬ k + 1 + t < k + 16 := by omega
          have a3 : ¬ (k + 1 + t = k + 4 ∨ k + 1 + t = k + 11 ∨ k + 1 + t = k + 16) := by omega
          simp only [a1, a2, a3, if_false]
          generalize m.getD (k + 1 + t) false = x
          cases (r.getMsbD 0 ^^ m.getD k false) <;> rfl
/-- The last sixteen. -/
theorem dv_end (m : List Bool) (t : Nat) (ht : t < 16) : dv m m.length (m.length + t) = (fd 0xFFFF#16 m).getMsbD t := by
  unfold dv
  rw [if_neg (by omega), if_pos (by omega), List.take_length, show m.length + t - m.length = t by omega, List.getD_eq_getElem?_getD, List.getElem?_eq_none (by omega)]
  simp
theorem dv_text (l : List Int) (hi : InB l) (t : Nat) (ht : t < 16) : dv (textBits l) (8 * l.length) (8 * l.length + t) = (crc l).getMsbD t := by
  have := dv_end (textBits l) t ht
  rw [textBits_len, fd_text l _ hi] at this
  exact this
/-- A number by its bits, the highest first. -/
theorem msb_step (x : B16) (k : Nat) (hk : k < 16) : x.toNat / 2 ^ (16 - (k + 1)) = 2 * (x.toNat / 2 ^ (16 - k)) + (if x.getMsbD k then 1 else 0) := by
  have h1 : x.getMsbD k = decide (x.toNat / 2 ^ (15 - k) % 2 = 1) := by
    rw [BitVec.getMsbD, BitVec.getLsbD, Nat.testBit_eq_decide_div_mod_eq]
    simp [hk]
  have h2 : x.toNat / 2 ^ (16 - k) = x.toNat / 2 ^ (15 - k) / 2 := by
    rw [Nat.div_div_eq_div_mul, ← Nat.pow_succ]
    congr 2
    omega
  rw [h1, h2, show 16 - (k + 1) = 15 - k by omega]
  generalize x.toNat / 2 ^ (15 - k) = q
  by_cases h : q % 2 = 1
  · simp [h]; omega
  · simp [h]; omega
end Go.Proofs.YtkihoonjekccgaaDoor.K

/- The document's Sum and Sealed: the walks. -/
namespace Go.Proofs.YtkihoonjekccgaaDoor.K
open Go.RowKit
set_option linter.unusedVariables false
set_option linter.unusedSimpArgs false
/-- Bits of the call's own. -/
def Bs (B : Nat) (v : Value) (L : List Bool) (w : World) : Prop := w.ownsRow B 4 1 v L.length (L.map Value.bool)
theorem info_bool : (Tryd.prog.info? 4).map (fun i => (i.zero, i.size, i.bytes)) = some (some (.bool false), 1, 1) := by kernel_rfl
def kq (j : Nat) : Int := [128, 64, 32, 16, 8, 4, 2, 1].getD j 0
theorem kq_step (c : Int) (j : Nat) (h : j < 8) : ∃ q : Int, kq j = q ∧ kq (j + 1) = q / 2 ∧ (byteBits c).take (j + 1) = (byteBits c).take j ++ [c / q % 2 == 1] ∧ (q = 128 ∨ q = 64 ∨ q = 32 ∨ q = 16 ∨ q = 8 ∨ q = 4 ∨ q = 2 ∨ q = 1) := by
  have : j = 0 ∨ j = 1 ∨ j = 2 ∨ j = 3 ∨ j = 4 ∨ j = 5 ∨ j = 6 ∨ j = 7 := by omega
  rcases this with h | h | h | h | h | h | h | h <;> subst h
  · exact ⟨128, rfl, rfl, rfl, by omega⟩
  · exact ⟨64, rfl, rfl, rfl, by omega⟩
  · exact ⟨32, rfl, rfl, rfl, by omega⟩
  · exact ⟨16, rfl, rfl, rfl, by omega⟩
  · exact ⟨8, rfl, rfl, rfl, by omega⟩
  · exact ⟨4, rfl, rfl, rfl, by omega⟩
  · exact ⟨2, rfl, rfl, rfl, by omega⟩
  · exact ⟨1, rfl, rfl, rfl, by omega⟩
theorem Bs.snoc {B : Nat} {v : Value} {L L' : List Bool} {b : Bool} {w : World} (h : w.ownsRow B 4 1 v (L.length + 1) (L.map Value.bool ++ [.bool b])) (e : L' = L ++ [b]) : Bs B v L' w := by
  subst e
  unfold Bs
  rw [List.length_append, List.map_append]
  exact h
/-- Bits of the call's own, each by a function. -/
def Bf (B : Nat) (A : Option Addr) (n c : Nat) (f : Nat → Bool) (w : World) : Prop := w.ownsRow B 4 1 (.slice A n c) n ((List.range n).map fun j => Value.bool (f j))
theorem Bf.of {B n c : Nat} {A : Option Addr} {L : List Bool} {f : Nat → Bool} {w : World} (h : Bs B (.slice A n c) L w) (hn : L.length = n) (hf : ∀ j, j < n → L.getD j false = f j) : Bf B A n c f w := by
  subst hn
  unfold Bf
  unfold Bs at h
  have : L.map Value.bool = (List.range L.length).map fun j => Value.bool (f j) := by
    apply List.ext_getElem
    · simp
    · intro i h1 h2
      simp only [List.length_map] at h1
      simp only [List.getElem_map, List.getElem_range]
      rw [← hf i h1, List.getD_eq_getElem?_getD, List.getElem?_eq_getElem h1]; rfl
  rw [← this]; exact h
theorem Bf.put {B n c i : Nat} {A : Option Addr} {f : Nat → Bool} {w : World} (h : Bf B A n c f w) (hi : i < n) :
    ∃ g, A = some ⟨g, 0, none⟩ ∧ B ≤ g ∧ g < w.heap.size ∧ (∀ i, i < n → w.cell? ⟨g, i, none⟩ = some (.bool (f i))) ∧ (∀ i, i < n → w.frozen? ⟨g, i, none⟩ = false) := by
  obtain ⟨g, cap, hv, hb, hlt⟩ := h.form (by omega)
  have hA : A = some ⟨g, 0, none⟩ := by injection hv
  subst hA
  exact ⟨g, rfl, hb, hlt, fun i hi => (h.cellAt i (by omega)).trans (by simp [hi]), fun i hi => h.frozenAt i⟩
theorem Bf.set {B n c g i : Nat} {f f' : Nat → Bool} {b : Bool} {w : World} (h : Bf B (some ⟨g, 0, none⟩) n c f w) (hi : i < n) (hf : ∀ j, j < n → f' j = if j = i then b else f j) : Bf B (some ⟨g, 0, none⟩) n c f' (w.setCell ⟨g, i, none⟩ (.bool b)) := by
  have h4 := (h.stored i (.bool b)).1
  unfold Bf
  have e : ((List.range n).map fun j => Value.bool (f j)).set i (.bool b) = (List.range n).map fun j => Value.bool (f' j) := by
    apply List.ext_getElem
    · simp
    · intro k h1 h2
      simp at h2
      rw [List.getElem_set]
      simp only [List.getElem_map, List.getElem_range]
      rw [hf k h2]
      by_cases hk : k = i
      · simp [hk]
      · simp [hk, Ne.symm hk]
  rw [e] at h4
  exact h4
theorem Bf.congr {B n c : Nat} {A : Option Addr} {f f' : Nat → Bool} {w : World} (h : Bf B A n c f w) (hf : ∀ j, f' j = f j) : Bf B A n c f' w := by
  have : f' = f := funext hf
  rw [this]; exact h
theorem bset_below {B g i : Nat} {v : Value} {w0 w : World} (h : Below B w0 w) (hg : B ≤ g) : Below B w0 (w.setCell ⟨g, i, none⟩ v) :=
  ⟨h.os, h.tape, h.output, by simpa [World.setCell] using h.size, fun k hk => (Below.heap_setCell w _ v k (by rintro rfl; exact absurd hk (by simp; omega))).trans (h.block k hk)⟩
theorem msb_bound (x : B16) (k : Nat) (hk : k < 16) : x.toNat / 2 ^ (16 - k) ≤ 32767 := by
  have hx := x.isLt
  have h1 : 2 ≤ 2 ^ (16 - k) := by
    have : 2 ^ 1 ≤ 2 ^ (16 - k) := Nat.pow_le_pow_right (by omega) (by omega)
    omega
  have h2 : x.toNat / 2 ^ (16 - k) ≤ x.toNat / 2 := Nat.div_le_div_left h1 (by omega)
  omega
set_option maxHeartbeats 8000000 in
set_option maxRecDepth 10000 in
theorem SumRC (l : List Int) (w : World) (hi : InB l) (hl : l.length ≤ 3000) : Calls Tryd.prog 47 #[.string (strOfNums l)] w fun e w' => e = .returned (.int .u16 (crcN l)) ∧ Hid (Below w.heap.size w w') := by
  have hsz := str_size l
  have HI := Lib.hid hi
  have HLT : Hid (∀ k, (textBits (l.take k)).length ≤ 24000) := Lib.hid (fun k => by rw [textBits_len, List.length_take]; omega)
  clear hi
  go_enter Tryd.func47, Tryd.ntmps47
  go_wp2
  go_loopw [3, 4] (fun b i wr => ∃ k : Nat, k ≤ l.length ∧ i = .int .i64 k ∧ Bs w.heap.size b (textBits (l.take k)) wr ∧ Below w.heap.size w wr) (fun _ i _ => l.length - (intOf i).toNat)
  case atStart => exact ⟨0, Nat.zero_le _, rfl, World.ownsRow_lit w #[] 0 (Nat.le_refl _) (by decide) rfl, (Below.refl _ w).alloc (Nat.le_refl _) _⟩
  case round =>
    obtain ⟨k, hk, rfl, hbs, hb⟩ := hrel
    have HB := Lib.hid hb
    have HS := Lib.hid hbs
    clear hb hbs
    by_cases hlt : k < l.length
    · have hx : ∀ W, (Instr.index 9 (.string (strOfNums l)) (.int .i64 k)).run Tryd.prog W = .ok (.int .u8 l[k]) W := fun W => by
        rw [run_index_string _ 9 _ _ _ Tryd.underlying9, dif_pos ⟨by omega, by omega⟩, ← str_at l k hlt HI.out (by omega)]
        simp
      have hc := HI.out _ (List.getElem_mem hlt)
      have HTS : Hid (textBits (l.take (k + 1)) = textBits (l.take k) ++ byteBits l[k]) := Lib.hid (by rw [List.take_succ_eq_append_getElem hlt, textBits_snoc])
      have HTL := Lib.hid (HLT.out k)
      generalize l[k] = c at *
      generalize textBits (l.take k) = T at *
      obtain ⟨hc0, hc1⟩ := hc
      go_wp2
      obtain ⟨wo, rfl⟩ : ∃ wo : World, wo = wr := ⟨_, rfl⟩
      go_loopw [3, 5] (fun b q wz => ∃ j : Nat, j ≤ 8 ∧ q = .int .i64 (kq j) ∧ Bs w.heap.size b (T ++ (byteBits c).take j) wz ∧ Below w.heap.size w wz) (fun _ q _ => (intOf q).toNat)
      case atStart => exact ⟨0, by omega, rfl, by simpa using HS.out, HB.out⟩
      case round =>
        obtain ⟨j, hj, rfl, hbs, hb⟩ := hrel
        have HB := Lib.hid hb
        have HS := Lib.hid hbs
        clear hb hbs
        by_cases hj8 : j < 8
        · obtain ⟨q, hq, hq', htk, hcase⟩ := kq_step c j hj8
          have HQ := Lib.hid hq'
          have HTK : Hid (T ++ (byteBits c).take (j + 1) = (T ++ (byteBits c).take j) ++ [c / q % 2 == 1]) := Lib.hid (by rw [htk, List.append_assoc])
          have HLN : Hid ((T ++ (byteBits c).take j).length ≤ 24008) := Lib.hid (by have := HTL.out; rw [List.length_append, List.length_take]; simp only [byteBits, List.length_cons, List.length_nil]; omega)
          have HSZ := Lib.hid HB.out.size
          rw [hq]
          clear htk hq hq'
          generalize T ++ (byteBits c).take j = L at *
          rcases hcase with rfl | rfl | rfl | rfl | rfl | rfl | rfl | rfl
          all_goals
            try simp only [Int.ediv_one] at HTK
            go_wp2_with (at_builtin; (refine app1 rfl _ _ _ rfl 4 (.bool false) 1 1 Tryd.underlying57 info_bool rfl (by omega) (by omega) w.heap.size u3 L.length (L.map Value.bool) _ rfl rfl rfl (fun u hu => by obtain rfl := List.mem_singleton.1 hu; rfl) HS.out (by have := HSZ.out; omega) (by have := HLN.out; omega) ?_; intro v3 w3 h3 h4 h5; have HS3 := Lib.hid (Bs.snoc h3 HTK.out); have HB3 : Hid (Below w.heap.size w w3) := Lib.hid (below_fr HB.out h4 HSZ.out (fun j e => (HS.out.lt j e).1)); clear h3 h4 h5))
            go_roundw
            case rel => exact ⟨j + 1, by omega, by rw [HQ.out]; rfl, HS3.out, HB3.out⟩
            case measure => simp [intOf]
        · obtain rfl : j = 8 := by omega
          have HS2 : Hid (Bs w.heap.size u3 (textBits (l.take (k + 1))) wr) := Lib.hid (by rw [HTS.out]; exact HS.out)
          rw [show kq 8 = 0 from rfl]
          go_wp2
          go_roundw
          case rel => exact ⟨k + 1, by omega, by go_num, HS2.out, HB.out⟩
          case measure => simp [intOf]; omega
    · obtain rfl : k = l.length := by omega
      rw [List.take_length] at HS
      obtain ⟨m, hm⟩ : ∃ m, m = textBits l := ⟨_, rfl⟩
      obtain ⟨M, hM⟩ : ∃ M, M = 8 * l.length := ⟨_, rfl⟩
      have HML : Hid (m.length = M) := Lib.hid (by rw [hm, hM, textBits_len])
      have HDV : Hid (∀ t, t < 16 → dv m M (M + t) = (crc l).getMsbD t) := Lib.hid (fun t ht => by rw [hm, hM]; exact dv_text l HI.out t ht)
      have hM2 : M ≤ 24000 := by omega
      rw [← hm] at HS
      clear hm hM
      go_wp2
      obtain ⟨wo, rfl⟩ : ∃ wo : World, wo = wr := ⟨_, rfl⟩
      go_loopw [3, 6] (fun b i wz => ∃ k : Nat, k ≤ 16 ∧ i = .int .i64 k ∧ Bs w.heap.size b (m ++ List.replicate k false) wz ∧ Below w.heap.size w wz) (fun _ i _ => 16 - (intOf i).toNat)
      case atStart => exact ⟨0, by omega, rfl, by simpa using HS.out, HB.out⟩
      case round =>
        obtain ⟨k, hk, rfl, hbs, hb⟩ := hrel
        have HB := Lib.hid hb
        have HS := Lib.hid hbs
        have HLN : Hid ((m ++ List.replicate k false).length = M + k) := Lib.hid (by rw [List.length_append, List.length_replicate, HML.out])
        have HSZ := Lib.hid HB.out.size
        clear hb hbs
        by_cases h16 : k < 16
        · have HTK : Hid (m ++ List.replicate (k + 1) false = (m ++ List.replicate k false) ++ [false]) := Lib.hid (by rw [List.replicate_succ', List.append_assoc])
          generalize m ++ List.replicate k false = L at *
          go_wp2_with (at_builtin; (refine app1 rfl _ _ _ rfl 4 (.bool false) 1 1 Tryd.underlying57 info_bool rfl (by omega) (by omega) w.heap.size u3 L.length (L.map Value.bool) _ rfl rfl rfl (fun u hu => by obtain rfl := List.mem_singleton.1 hu; rfl) HS.out (by have := HSZ.out; omega) (by have := HLN.out; omega) ?_; intro v3 w3 h3 h4 h5; have HS3 := Lib.hid (Bs.snoc h3 HTK.out); have HB3 : Hid (Below w.heap.size w w3) := Lib.hid (below_fr HB.out h4 HSZ.out (fun j e => (HS.out.lt j e).1)); clear h3 h4 h5))
          go_roundw
          case rel => exact ⟨k + 1, by omega, by go_num, HS3.out, HB3.out⟩
          case measure => simp [intOf]; omega
        · obtain rfl : k = 16 := by omega
          obtain ⟨n, hn⟩ : ∃ n, n = (m ++ List.replicate 16 false).length := ⟨_, rfl⟩
          have hn1 : n ≤ M + 16 := by rw [hn, HLN.out]; omega
          have hn2 : M + 16 ≤ n := by rw [hn, HLN.out]; omega
          obtain ⟨A, c, rfl, hc⟩ := own_form HS.out
          have HF : Hid (Bf w.heap.size A n c (fun j => m.getD j false) wr) := Lib.hid (Bf.of (L := m ++ List.replicate 16 false) (hn ▸ HS.out) hn.symm (fun j hj => by
            rw [List.getD_eq_getElem?_getD, List.getD_eq_getElem?_getD, List.getElem?_append]
            split
            · rfl
            · rename_i h
              rw [List.getElem?_eq_none (l := m) (by omega), List.getElem?_replicate]
              split <;> rfl))
          rw [← hn] at hc ⊢
          clear hn HS HLN
          go_wp2
          obtain ⟨wo, rfl⟩ : ∃ wo : World, wo = wr := ⟨_, rfl⟩
          go_loopw [7] (fun i wz => ∃ k : Nat, k ≤ 16 ∧ i = .int .i64 k ∧ Bf w.heap.size A n c (fun j => if j < k then !m.getD j false else m.getD j false) wz ∧ Below w.heap.size w wz) (fun i _ => 16 - (intOf i).toNat)
          case atStart => exact ⟨0, by omega, rfl, HF.out.congr (fun j => by simp), HB.out⟩
          case round =>
            obtain ⟨k, hk, rfl, hbf, hb⟩ := hrel
            have HB := Lib.hid hb
            have HF := Lib.hid hbf
            clear hb hbf
            by_cases h16 : k < 16
            · obtain ⟨g, rfl, hbg, hgl, hcell, hfroz⟩ := HF.out.put (i := k) (by omega)
              have c1 : wr.cell? ⟨g, k, none⟩ = some (.bool (m.getD k false)) := by have := hcell k (by omega); simpa using this
              have f1 := hfroz k (by omega)
              have HF2 := Lib.hid (HF.out.set (i := k) (b := !m.getD k false) (f' := fun j => if j < k + 1 then !m.getD j false else m.getD j false) (by omega) (fun j hj => by
                by_cases e : j = k
                · subst e; simp
                · have : (j < k + 1) = (j < k) := by rw [eq_iff_iff]; omega
                  simp [e, this]))
              have HB2 := Lib.hid (bset_below (i := k) (v := .bool (!m.getD k false)) HB.out hbg)
              generalize m.getD k false = b at *
              clear hcell hfroz
              go_wp2
              go_roundw
              case rel => exact ⟨k + 1, by omega, by go_num, HF2.out, HB2.out⟩
              case measure => simp [intOf]; omega
            · obtain rfl : k = 16 := by omega
              have HF : Hid (Bf w.heap.size A n c (dv m 0) wr) := Lib.hid (HF.out.congr (fun j => dv_start m j))
              go_wp2
              obtain ⟨wo, rfl⟩ : ∃ wo : World, wo = wr := ⟨_, rfl⟩
              go_loopw [8] (fun i wz => ∃ k : Nat, k ≤ M ∧ i = .int .i64 k ∧ Bf w.heap.size A n c (dv m k) wz ∧ Below w.heap.size w wz) (fun i _ => M - (intOf i).toNat)
              case atStart => exact ⟨0, by omega, rfl, HF.out, HB.out⟩
              case round =>
                obtain ⟨k, hk, rfl, hbf, hb⟩ := hrel
                have HB := Lib.hid hb
                have HF := Lib.hid hbf
                clear hb hbf
                by_cases hkM : k < M
                · have HST : Hid (∀ j, dv m (k + 1) j = if dv m k k then (if j = k then false else if j = k + 4 ∨ j = k + 11 ∨ j = k + 16 then !dv m k j else dv m k j) else dv m k j) := Lib.hid (fun j => dv_step m k j (by rw [HML.out]; exact hkM))
                  obtain ⟨g, rfl, hbg, hgl, hcell, hfroz⟩ := HF.out.put (i := k) (by omega)
                  have c0 := hcell k (by omega)
                  have c4 := hcell (k + 4) (by omega)
                  have c11 := hcell (k + 11) (by omega)
                  have c16 := hcell (k + 16) (by omega)
                  have f0 := hfroz k (by omega)
                  have f4 := hfroz (k + 4) (by omega)
                  have f11 := hfroz (k + 11) (by omega)
                  have f16 := hfroz (k + 16) (by omega)
                  cases hd : dv m k k with
                  | false =>
                    rw [hd] at c0
                    have HF2 : Hid (Bf w.heap.size (some ⟨g, 0, none⟩) n c (dv m (k + 1)) wr) := Lib.hid (HF.out.congr (fun j => by rw [HST.out j, hd]; rfl))
                    clear hcell hfroz c4 c11 c16 f4 f11 f16 hd
                    go_wp2
                    go_roundw
                    case rel => exact ⟨k + 1, by omega, by go_num, HF2.out, HB.out⟩
                    case measure => simp [intOf]; omega
                  | true =>
                    rw [hd] at c0
                    have s0 := HF.out.set (i := k) (b := false) (f' := fun j => if j = k then false else dv m k j) (by omega) (fun j hj => rfl)
                    have s4 := s0.set (i := k + 4) (b := !dv m k (k + 4)) (f' := fun j => if j = k then false else if j = k + 4 then !dv m k j else dv m k j) (by omega) (fun j hj => by
                      by_cases e : j = k + 4
                      · subst e; simp
                      · simp [e])
                    have s11 := s4.set (i := k + 11) (b := !dv m k (k + 11)) (f' := fun j => if j = k then false else if j = k + 4 ∨ j = k + 11 then !dv m k j else dv m k j) (by omega) (fun j hj => by
                      by_cases e : j = k + 11
                      · subst e; simp
                      · simp [e])
                    have s16 := s11.set (i := k + 16) (b := !dv m k (k + 16)) (f' := dv m (k + 1)) (by omega) (fun j hj => by
                      rw [HST.out j, hd]
                      by_cases e : j = k + 16
                      · subst e; simp
                      · simp [e])
                    have HF2 := Lib.hid s16
                    have HB2 := Lib.hid (bset_below (i := k + 16) (v := .bool (!dv m k (k + 16))) (bset_below (i := k + 11) (v := .bool (!dv m k (k + 11))) (bset_below (i := k + 4) (v := .bool (!dv m k (k + 4))) (bset_below (i := k) (v := .bool false) HB.out hbg) hbg) hbg) hbg)
                    clear s0 s4 s11 s16 hcell hfroz hd HST
                    generalize dv m k (k + 4) = b4 at *
                    generalize dv m k (k + 11) = b11 at *
                    generalize dv m k (k + 16) = b16 at *
                    go_wp2
                    go_roundw
                    case rel => exact ⟨k + 1, by omega, by go_num, HF2.out, HB2.out⟩
                    case measure => simp [intOf]; omega
                · obtain rfl : k = M := by omega
                  obtain ⟨X, hX⟩ : ∃ X, X = (crc l).toNat := ⟨_, rfl⟩
                  have HX : Hid (crcN l = (X : Int)) := Lib.hid (by rw [hX]; rfl)
                  have HXS : Hid (∀ t, t < 16 → X / 2 ^ (16 - (t + 1)) = 2 * (X / 2 ^ (16 - t)) + (if (crc l).getMsbD t then 1 else 0)) := Lib.hid (fun t ht => by rw [hX]; exact msb_step _ t ht)
                  have HXB : Hid (∀ t, t < 16 → X / 2 ^ (16 - t) ≤ 32767) := Lib.hid (fun t ht => by rw [hX]; exact msb_bound _ t ht)
                  have HX0 : Hid (X / 2 ^ 16 = 0) := Lib.hid (by rw [hX]; have := (crc l).isLt; omega)
                  clear hX
                  go_wp2
                  go_loop [9, 10] (fun q i => ∃ t : Nat, t ≤ 16 ∧ i = .int .i64 (k + t : Nat) ∧ q = .int .u16 (X / 2 ^ (16 - t) : Nat)) (fun _ i => (k + 16) - (intOf i).toNat)
                  case atStart => exact ⟨0, by omega, by congr 1; omega, by rw [show 16 - 0 = 16 from rfl, HX0.out]; rfl⟩
                  case round =>
                    obtain ⟨t, ht, rfl, rfl⟩ := hrel
                    by_cases ht16 : t < 16
                    · obtain ⟨g, rfl, hbg, hgl, hcell, hfroz⟩ := HF.out.put (i := k + t) (by omega)
                      have c1 := hcell (k + t) (by omega)
                      rw [HDV.out t ht16] at c1
                      have hq := HXB.out t ht16
                      have HQ := Lib.hid (HXS.out t ht16)
                      clear hcell hfroz
                      generalize X / 2 ^ (16 - t) = q at *
                      cases hb : (crc l).getMsbD t with
                      | false =>
                        rw [hb] at c1 HQ
                        clear hb
                        go_wp2
                        go_round
                        case rel => exact ⟨t + 1, by omega, by go_num, by rw [HQ.out]; go_num⟩
                        case measure => simp [intOf]; omega
                      | true =>
                        rw [hb] at c1 HQ
                        clear hb
                        go_wp2
                        go_round
                        case rel => exact ⟨t + 1, by omega, by go_num, by rw [HQ.out]; go_num⟩
                        case measure => simp [intOf]; omega
                    · obtain rfl : t = 16 := by omega
                      go_wp2
                      go_ret
                      exact ⟨ret_int (by rw [HX.out]; try simp), HB⟩
theorem be_two' (n : Int) (h0 : 0 ≤ n) (h1 : n < 65536) : be n 2 = [n / 256, n % 256] := by
  have : be n 2 = [n / 256 ^ 1 % 256, n / 256 ^ 0 % 256] := rfl
  rw [this]
  congr 1
  · omega
  · congr 1; omega
set_option maxHeartbeats 4000000 in
set_option maxRecDepth 10000 in
theorem SealedRN (l : List Int) (n : Int) (hn : crcN l = n) (w : World) (hi : InB l) (hl : l.length ≤ 3000) : Calls Tryd.prog 33 #[.string (strOfNums l)] w fun e w' => e = .returned (.string (strOfNums (l ++ be n 2))) ∧ Hid (Below w.heap.size w w') := by
  have hb := crcN_bound l
  have C := SumRC l w hi hl
  rw [hn] at hb C
  have HE : Hid (strOfNums l ++ strOfNums [n / 256, n % 256] = strOfNums (l ++ be n 2)) := Lib.hid (by rw [str_append, be_two' _ hb.1 hb.2])
  have C := Lib.hid C
  have hs1 := str_size l
  obtain ⟨hb0, hb1⟩ := hb
  clear hi hn
  have hconv : ∀ (W : World) (x y : Int), (convert 32 9 (.slice (some ⟨W.heap.size, 0, none⟩) 2 2)).run Tryd.prog (W.alloc (.cells #[.int .u8 x, .int .u8 y] 5)) = .ok (.string (strOfNums [x, y])) (W.alloc (.cells #[.int .u8 x, .int .u8 y] 5)) := fun W x y =>
    str_row (w := W.alloc (.cells #[.int .u8 x, .int .u8 y] 5)) (B := W.heap.size + 1) (l := [x, y]) (c := 2) (row_blk (g := W.heap.size) (l := [x, y]) (Blk.new W 5 _) (by omega))
  have hs2 : ∀ x y : Int, (strOfNums [x, y]).size = 2 := fun x y => by rw [str_size]; rfl
  have hd : IntKind.u16.wrap (n.tdiv 256) = n / 256 := by rw [Int.tdiv_eq_ediv_of_nonneg hb0, IntKind.wrap_u16]; omega
  go_enter Tryd.func33, Tryd.ntmps33
  go_wp2_with fail
  (with_reducible refine C.out.mono ?_)
  rintro e w1 ⟨rfl, H1⟩
  go_wp2
  go_ret
  have hs := H1.out.size
  exact ⟨by rw [← HE.out]; rfl, Lib.hid (H1.out.alloc hs _)⟩
theorem SealedRC (l : List Int) (w : World) (hi : InB l) (hl : l.length ≤ 3000) : Calls Tryd.prog 33 #[.string (strOfNums l)] w fun e w' => e = .returned (.string (strOfNums (l ++ be (crcN l) 2))) ∧ Hid (Below w.heap.size w w') := SealedRN l _ rfl w hi hl
end Go.Proofs.YtkihoonjekccgaaDoor.K

/- The document's texts of frames: unstuffed, right, decoded. -/
namespace Go.Proofs.YtkihoonjekccgaaDoor.K
open Go.RowKit
set_option linter.unusedVariables false
set_option linter.unusedSimpArgs false
attribute [local go_sem ↓] Go.wp_at_zero Go.wp_at_succ
theorem xor_inv5 : ∀ c : Fin 256, (bits .xor .u8 (c.val : Int) 32 = 126 → c.val = 94) ∧ (bits .xor .u8 (c.val : Int) 32 = 125 → c.val = 93) := by decide +kernel
theorem unst_no {c : Int} (h : 0 ≤ c ∧ c < 256) (h1 : c ≠ 94) (h2 : c ≠ 93) (r acc : List Int) : unst true (c :: r) acc = ([], 3) := by
  obtain ⟨a, rfl⟩ := Int.eq_ofNat_of_zero_le h.1
  have key := xor_inv5 ⟨a, by omega⟩
  simp only [unst]
  rw [if_neg (fun e => h1 (by have := key.1 e; simp only at this; omega)), if_neg (fun e => h2 (by have := key.2 e; simp only at this; omega))]
theorem unst_94 (r acc : List Int) : unst true (94 :: r) acc = unst false r (acc ++ [126]) := rfl
theorem unst_93 (r acc : List Int) : unst true (93 :: r) acc = unst false r (acc ++ [125]) := rfl
theorem scut_lh (l : List Int) (a b : Nat) (h1 : a ≤ b) (h2 : b ≤ l.length) (W : World) : (Instr.slice 9 (.string (strOfNums l)) (some (.int .i64 a)) (some (.int .i64 b)) none).run Tryd.prog W = .ok (.string (strOfNums ((l.take b).drop a))) W := by
  rw [run_slice_string W 9 (strOfNums l) .i64 .i64 a b Tryd.underlying9 (by omega) (by omega) (by rw [str_size]; omega), Int.toNat_natCast, Int.toNat_natCast, str_cut]
theorem idx_str (l : List Int) (hi : InB l) (k : Nat) (hk : k < l.length) (W : World) : (Instr.index 9 (.string (strOfNums l)) (.int .i64 k)).run Tryd.prog W = .ok (.int .u8 (l.getD k 0)) W := by
  have hsz := str_size l
  rw [run_index_string _ 9 _ _ _ Tryd.underlying9, dif_pos ⟨by omega, by omega⟩, List.getD_eq_getElem?_getD, List.getElem?_eq_getElem hk]
  simp only [Option.getD_some]
  rw [← str_at l k hk hi (by omega)]
  simp
theorem take_drop_one (l : List Int) (k : Nat) (h : k < l.length) : (l.take (k + 1)).drop k = [l.getD k 0] := by
  rw [List.drop_take, List.drop_eq_getElem_cons h, List.getD_eq_getElem?_getD, List.getElem?_eq_getElem h, show k + 1 - k = 1 by omega]
  rfl
set_option maxHeartbeats 2000000 in
set_option maxRecDepth 10000 in
theorem RUnstuffS (l z : List Int) (f : Int) (hi : InB l) (hl : l.length ≤ 3000) (hu : unst false l [] = (z, f)) (w : World) : Calls Tryd.prog 32 #[.string (strOfNums l)] w fun e w' => e = .returned (.tuple #[.string (strOfNums z), .int .i64 f]) ∧ Hid (Below w.heap.size w w') := by
  have hsz := str_size l
  have HI := Lib.hid hi
  have HU := Lib.hid hu
  have HSC := fun k h => Lib.hid (fun W => scut_lh l k (k + 1) (Nat.le_succ _) h W)
  have HTD := fun k h => Lib.hid (take_drop_one l k h)
  have hnil : (⟨#[]⟩ : ByteArray) = strOfNums [] := by rw [str_nil]; rfl
  have HNIL := Lib.hid hnil
  clear hi hu hnil
  go_enter Tryd.func32, Tryd.ntmps32
  go_wp2
  go_loopw [4, 5] (fun o i wr => ∃ (k : Nat) (acc : List Int), k ≤ l.length ∧ i = .int .i64 k ∧ o = .string (strOfNums acc) ∧ acc.length ≤ k ∧ unst false (l.drop k) acc = (z, f) ∧ Below w.heap.size w wr) (fun _ i _ => l.length - (intOf i).toNat)
  case atStart => exact ⟨0, [], Nat.zero_le _, rfl, by rw [str_nil]; rfl, by simp, by rw [List.drop_zero]; exact HU.out, Below.refl _ _⟩
  case round =>
    obtain ⟨k, acc, hk, rfl, rfl, hac, hun, hb⟩ := hrel
    have HB := Lib.hid hb
    have hsa := str_size acc
    clear hb
    by_cases hlt : k < l.length
    · rw [unst_at false hlt] at hun
      have hx := fun W => idx_str l HI.out k hlt W
      have hc : 0 ≤ l.getD k 0 ∧ l.getD k 0 < 256 := HI.out _ (by rw [List.getD_eq_getElem?_getD, List.getElem?_eq_getElem hlt]; exact List.getElem_mem _)
      have hsl := (HSC k hlt).out
      rw [(HTD k hlt).out] at hsl
      generalize l.getD k 0 = c at *
      by_cases h126 : c = 126
      · subst h126
        simp only [unst, if_true] at hun
        obtain ⟨rfl, rfl⟩ := Prod.mk.inj hun
        clear hun
        go_wp2
        go_ret2
        exact ⟨by rw [← HNIL.out]; rfl, HB⟩
      · by_cases h125 : c = 125
        · subst h125
          simp only [unst, show ¬ ((125 : Int) = 126) by decide, if_false, if_true] at hun
          by_cases hlt2 : k + 1 < l.length
          · rw [unst_at true hlt2] at hun
            have hx2 := fun W => idx_str l HI.out (k + 1) hlt2 W
            have hd : 0 ≤ l.getD (k + 1) 0 ∧ l.getD (k + 1) 0 < 256 := HI.out _ (by rw [List.getD_eq_getElem?_getD, List.getElem?_eq_getElem hlt2]; exact List.getElem_mem _)
            generalize l.getD (k + 1) 0 = d at *
            have hx2' : ∀ W, (Instr.index 9 (.string (strOfNums l)) (.int .i64 ((k : Int) + 1))).run Tryd.prog W = .ok (.int .u8 d) W := fun W => by have := hx2 W; simpa using this
            have hne : ((k : Int) + 1 == (l.length : Int)) = false := by simp; omega
            by_cases h94 : d = 94
            · subst h94
              rw [unst_94] at hun
              have HUN := Lib.hid hun
              have s1 : (convert 32 9 (.slice (some ⟨wr.heap.size, 0, none⟩) 1 1)).run Tryd.prog (wr.alloc (.cells #[.int .u8 126] 5)) = .ok (.string (strOfNums [126])) _ := str_row (l := [126]) (c := 1) (B := wr.heap.size + 1) (row_lit (l := [126]) (heap_alloc_new wr _) (by omega))
              have happ := str_append acc [126]
              have hs1 := str_size [126]
              clear hx2 hun hd hc
              go_wp2
              go_roundw
              case rel => exact ⟨k + 2, acc ++ [126], by omega, by go_num, rfl, by simp; omega, HUN.out, HB.out.alloc HB.out.size _⟩
              case measure => simp [intOf]; omega
            · by_cases h93 : d = 93
              · subst h93
                rw [unst_93] at hun
                have HUN := Lib.hid hun
                have s1 : (convert 32 9 (.slice (some ⟨wr.heap.size, 0, none⟩) 1 1)).run Tryd.prog (wr.alloc (.cells #[.int .u8 125] 5)) = .ok (.string (strOfNums [125])) _ := str_row (l := [125]) (c := 1) (B := wr.heap.size + 1) (row_lit (l := [125]) (heap_alloc_new wr _) (by omega))
                have happ := str_append acc [125]
                have hs1 := str_size [125]
                clear hx2 hun hd hc
                go_wp2
                go_roundw
                case rel => exact ⟨k + 2, acc ++ [125], by omega, by go_num, rfl, by simp; omega, HUN.out, HB.out.alloc HB.out.size _⟩
                case measure => simp [intOf]; omega
              · rw [unst_no hd h94 h93] at hun
                obtain ⟨rfl, rfl⟩ := Prod.mk.inj hun
                have e1 : (d != 94) = true := by simpa using h94
                have e2 : (d != 93) = true := by simpa using h93
                clear hx2 hun hd hc
                go_wp2
                go_ret2
                exact ⟨by rw [← HNIL.out]; rfl, HB⟩
          · have hun2 : unst true (l.drop (k + 1)) acc = ([], 2) := by rw [List.drop_of_length_le (by omega)]; rfl
            rw [hun2] at hun
            obtain ⟨rfl, rfl⟩ := Prod.mk.inj hun
            have hne : ((k : Int) + 1 == (l.length : Int)) = true := by simp; omega
            clear hun hun2
            go_wp2
            go_ret2
            exact ⟨by rw [← HNIL.out]; rfl, HB⟩
        · simp only [unst, h126, h125, if_false] at hun
          have HUN := Lib.hid hun
          have e1 : (c == 126) = false := by simpa using h126
          have e2 : (c != 125) = true := by simpa using h125
          have happ := str_append acc [c]
          have hs1 := str_size [c]
          have hsl' : ∀ W, (Instr.slice 9 (.string (strOfNums l)) (some (.int .i64 (k : Int))) (some (.int .i64 ((k : Int) + 1))) none).run Tryd.prog W = .ok (.string (strOfNums [c])) W := fun W => by have := hsl W; simpa using this
          clear hun hsl h126 h125 hc
          go_wp2
          go_roundw
          case rel => exact ⟨k + 1, acc ++ [c], by omega, by go_num, rfl, by simp; omega, HUN.out, HB.out⟩
          case measure => simp [intOf]; omega
    · obtain rfl : k = l.length := by omega
      rw [List.drop_length] at hun
      obtain ⟨rfl, rfl⟩ := Prod.mk.inj (show (acc, (0 : Int)) = (z, f) from hun)
      clear hun
      go_wp2
      go_ret2
      exact ⟨rfl, HB⟩
/-- Valid is what is sealed. -/
theorem valid_sealed {l : List Int} (hi : InB l) (h2 : 2 ≤ l.length) : valid l = decide (l.take (l.length - 2) ++ be (crcN (l.take (l.length - 2))) 2 = l) := by
  obtain ⟨p, a, b, rfl⟩ : ∃ p a b, l = p ++ [a, b] := by
    refine ⟨l.take (l.length - 2), l[l.length - 2]'(by omega), l[l.length - 1]'(by omega), ?_⟩
    have h1 : l.drop (l.length - 2) = [l[l.length - 2]'(by omega), l[l.length - 1]'(by omega)] := by
      rw [List.drop_eq_getElem_cons (by omega), List.drop_eq_getElem_cons (by omega)]
      simp only [show l.length - 2 + 1 = l.length - 1 by omega, show l.length - 1 + 1 = l.length by omega, List.drop_length]
    rw [← h1, List.take_append_drop]
  have ha := hi a (by simp)
  have hb := hi b (by simp)
  have hc := crcN_bound p
  unfold valid
  have hl : (p ++ [a, b]).length - 2 = p.length := by simp
  rw [hl, List.drop_left, List.take_left, be_two _ hc.1 hc.2, Bool.eq_iff_iff]
  simp only [decide_eq_true_eq, List.append_cancel_left_eq, List.cons.injEq, and_true]
  have hn : num [a, b] = a * 256 + b := by simp [num]
  rw [hn]
  constructor
  · rintro ⟨_, h⟩; omega
  · rintro ⟨h3, h4⟩; exact ⟨h2, by omega⟩
/-- The document's frame of a plain one. -/
abbrev fvr (f : Fp) : Array Value := #[.int .u8 f.addr, .int .u8 f.kind, .int .u8 f.ses, .int .u8 f.seq, .int .u8 f.ack, .string (strOfNums f.B)]
theorem fvr_cells {w : World} {g : Nat} {t : TypeId} {f : Fp} (h : Blk w g t (fvr f)) : w.cell? ⟨g, 0, none⟩ = some (.int .u8 f.addr) ∧ w.cell? ⟨g, 1, none⟩ = some (.int .u8 f.kind) ∧ w.cell? ⟨g, 2, none⟩ = some (.int .u8 f.ses) ∧ w.cell? ⟨g, 3, none⟩ = some (.int .u8 f.seq) ∧ w.cell? ⟨g, 4, none⟩ = some (.int .u8 f.ack) ∧ w.cell? ⟨g, 5, none⟩ = some (.string (strOfNums f.B)) :=
  ⟨h.cell 0, h.cell 1, h.cell 2, h.cell 3, h.cell 4, h.cell 5⟩
set_option maxHeartbeats 1000000 in
set_option maxRecDepth 10000 in
theorem RRightC (f : Fp) (w : World) : Calls Tryd.prog 34 #[.agg #[.int .u8 f.addr, .int .u8 f.kind, .int .u8 f.ses, .int .u8 f.seq, .int .u8 f.ack, .string (strOfNums f.B)]] w fun e w' => e = .returned (.bool (rightF f)) ∧ Hid (Below w.heap.size w w') := by
  obtain ⟨addr, kind, ses, seq, ack, B⟩ := f
  have hsz := str_size B
  simp only
  rcases (by omega : addr < 1 ∨ (1 ≤ addr ∧ 31 < addr) ∨ (1 ≤ addr ∧ addr ≤ 31 ∧ kind < 1) ∨ (1 ≤ addr ∧ addr ≤ 31 ∧ 1 ≤ kind ∧ 5 < kind) ∨ (1 ≤ addr ∧ addr ≤ 31 ∧ 1 ≤ kind ∧ kind ≤ 5 ∧ 1 < seq) ∨ (1 ≤ addr ∧ addr ≤ 31 ∧ 1 ≤ kind ∧ kind ≤ 5 ∧ seq ≤ 1 ∧ 1 < ack) ∨ (1 ≤ addr ∧ addr ≤ 31 ∧ 1 ≤ kind ∧ kind ≤ 5 ∧ seq ≤ 1 ∧ ack ≤ 1 ∧ 24 < (B.length : Int)) ∨ (1 ≤ addr ∧ addr ≤ 31 ∧ 1 ≤ kind ∧ kind ≤ 5 ∧ seq ≤ 1 ∧ ack ≤ 1 ∧ (B.length : Int) ≤ 24)) with h | ⟨h1, h⟩ | ⟨h1, h2, h⟩ | ⟨h1, h2, h3, h⟩ | ⟨h1, h2, h3, h4, h⟩ | ⟨h1, h2, h3, h4, h5, h⟩ | ⟨h1, h2, h3, h4, h5, h6, h⟩ | ⟨h1, h2, h3, h4, h5, h6, h⟩
  all_goals
    go_enter Tryd.func34, Tryd.ntmps34
    go_wp2
    go_ret
    exact ⟨ret_bool (by unfold rightF; simp; first | omega | (rw [Bool.eq_iff_iff]; simp; omega)), Lib.hid ((Below.refl _ w).alloc (Nat.le_refl _) _)⟩
abbrev st6r (w : World) (g : Nat) (f : Fp) : World := (((((w.setCell ⟨g, 0, none⟩ (.int .u8 f.addr)).setCell ⟨g, 1, none⟩ (.int .u8 f.kind)).setCell ⟨g, 2, none⟩ (.int .u8 f.ses)).setCell ⟨g, 3, none⟩ (.int .u8 f.seq)).setCell ⟨g, 4, none⟩ (.int .u8 f.ack)).setCell ⟨g, 5, none⟩ (.string (strOfNums f.B))
theorem st6r_blk {w : World} {g : Nat} {t : TypeId} {f0 f : Fp} (h : Blk w g t (fvr f0)) : Blk (st6r w g f) g t (fvr f) := by
  have := (((((h.set_ 0 (.int .u8 f.addr)).set_ 1 (.int .u8 f.kind)).set_ 2 (.int .u8 f.ses)).set_ 3 (.int .u8 f.seq)).set_ 4 (.int .u8 f.ack)).set_ 5 (.string (strOfNums f.B))
  simpa using this
theorem st6r_fr (w : World) (g : Nat) (f : Fp) : Fr1 g w (st6r w g f) :=
  ((((((Fr.refl (fun k => k = g) w).setCell (fun _ => rfl) _).setCell (fun _ => rfl) _).setCell (fun _ => rfl) _).setCell (fun _ => rfl) _).setCell (fun _ => rfl) _).setCell (fun _ => rfl) _
theorem results_rdec {w : World} {g : Nat} {f : Fp} {e : Int} {tm : Array Value} (h : Blk w g 45 (fvr f)) (h2 : tm.getD 2 undef = .pointer (some ⟨g, 0, none⟩)) (h3 : tm.getD 3 undef = .int .i64 e) :
    (results Tryd.f21 tm).run Tryd.prog w = .ok (.tuple #[.agg #[.int .u8 f.addr, .int .u8 f.kind, .int .u8 f.ses, .int .u8 f.seq, .int .u8 f.ack, .string (strOfNums f.B)], .int .i64 e]) w := by
  obtain ⟨k0, k1, k2, k3, k4, k5⟩ := fvr_cells h
  rw [Array.getD_eq_getD_getElem?] at h2 h3
  simp [results, Tryd.results21, go_sem, h2, h3, k0, k1, k2, k3, k4, k5]
def RDecPost (l : List Int) (w : World) (e : Ending) (w' : World) : Prop :=
  e = .returned (.tuple #[.agg #[.int .u8 (decL l).1.addr, .int .u8 (decL l).1.kind, .int .u8 (decL l).1.ses, .int .u8 (decL l).1.seq, .int .u8 (decL l).1.ack, .string (strOfNums (decL l).1.B)], .int .i64 (decL l).2]) ∧ Hid (Below w.heap.size w w')
theorem rdec_ends {l : List Int} {w w1 : World} {f0 f : Fp} {e : Int} {tm : Array Value} (hP : decL l = (f, e)) (hk : Blk w1 w.heap.size 45 (fvr f0)) (hb : Below w.heap.size w w1)
    (h2 : tm.getD 2 undef = .pointer (some ⟨w.heap.size, 0, none⟩)) (h3 : tm.getD 3 undef = .int .i64 e) : bodyPost Tryd.prog Tryd.f21 (RDecPost l w) .ret ⟨tm, []⟩ (st6r w1 w.heap.size f) := by
  refine bodyPost_ret (results_rdec (st6r_blk hk) h2 h3) rfl ?_
  unfold RDecPost
  rw [hP]
  exact ⟨rfl, Lib.hid (below_fr hb (st6r_fr w1 w.heap.size f) hb.size (fun j e => by omega))⟩
theorem nil_str : (⟨#[]⟩ : ByteArray) = strOfNums [] := by rw [str_nil]; rfl
theorem rblk0 (w : World) : Blk (w.alloc (.cells #[.int .u8 0, .int .u8 0, .int .u8 0, .int .u8 0, .int .u8 0, .string ⟨#[]⟩] 45)) w.heap.size 45 (fvr fr0) := by
  have := Blk.new w 45 (fvr fr0)
  simpa [nil_str] using this
set_option maxHeartbeats 1000000 in
set_option maxRecDepth 10000 in
theorem RDecErr {l z : List Int} {f : Int} (hi : InB l) (hl : l.length ≤ 3000) (hu : unst false l [] = (z, f)) (hf : f ≠ 0) (w : World) : Calls Tryd.prog 21 #[.string (strOfNums l)] w (RDecPost l w) := by
  have HP : Hid (decL l = (fr0, f)) := Lib.hid (by unfold decL; rw [hu]; simp [hf])
  have hf1 : (f == 0) = false := by simp [hf]
  have hf2 : (f != 0) = true := by simp [hf]
  have HU := Lib.hid hu
  have HI := Lib.hid hi
  clear hu hf hi
  go_enter Tryd.func21, Tryd.ntmps21
  go_wp2_with fail
  refine Calls.mono (RUnstuffS l z f HI.out hl HU.out _) ?_
  rintro e w1 ⟨rfl, B1⟩
  have hk : Blk w1 w.heap.size 45 (fvr fr0) := (rblk0 w).fr (Fr.of_below B1.out) (fun h => h)
  obtain ⟨k0, k1, k2, k3, k4, k5⟩ := fvr_cells hk
  have f0 := hk.frozen 0
  have f1 := hk.frozen 1
  have f2 := hk.frozen 2
  have f3 := hk.frozen 3
  have f4 := hk.frozen 4
  have f5 := hk.frozen 5
  have B2 := Lib.hid (((Below.refl w.heap.size w).alloc (Nat.le_refl _) (.cells #[.int .u8 0, .int .u8 0, .int .u8 0, .int .u8 0, .int .u8 0, .string ⟨#[]⟩] 45)).trans (B1.out.mono (by simp)))
  have HK := Lib.hid hk
  clear hk B1
  go_wp2
  rw [nil_str]
  exact rdec_ends (f := fr0) HP.out HK.out B2.out rfl rfl
set_option maxHeartbeats 1000000 in
set_option maxRecDepth 10000 in
theorem RDecShort {l z : List Int} (hi : InB l) (hl : l.length ≤ 3000) (hu : unst false l [] = (z, 0)) (hz : z.length < 7) (w : World) : Calls Tryd.prog 21 #[.string (strOfNums l)] w (RDecPost l w) := by
  have HP : Hid (decL l = (fr0, 2)) := Lib.hid (by unfold decL; rw [hu]; simp [hz])
  have HU := Lib.hid hu
  have HI := Lib.hid hi
  have hsz := str_size z
  have hz7 : (z.length : Int) < 7 := by omega
  clear hu hi
  go_enter Tryd.func21, Tryd.ntmps21
  go_wp2_with fail
  refine Calls.mono (RUnstuffS l z 0 HI.out hl HU.out _) ?_
  rintro e w1 ⟨rfl, B1⟩
  have hk : Blk w1 w.heap.size 45 (fvr fr0) := (rblk0 w).fr (Fr.of_below B1.out) (fun h => h)
  obtain ⟨k0, k1, k2, k3, k4, k5⟩ := fvr_cells hk
  have f0 := hk.frozen 0
  have f1 := hk.frozen 1
  have f2 := hk.frozen 2
  have f3 := hk.frozen 3
  have f4 := hk.frozen 4
  have f5 := hk.frozen 5
  have B2 := Lib.hid (((Below.refl w.heap.size w).alloc (Nat.le_refl _) (.cells #[.int .u8 0, .int .u8 0, .int .u8 0, .int .u8 0, .int .u8 0, .string ⟨#[]⟩] 45)).trans (B1.out.mono (by simp)))
  have HK := Lib.hid hk
  clear hk B1
  go_wp2
  rw [nil_str]
  exact rdec_ends (f := fr0) HP.out HK.out B2.out rfl rfl
set_option maxHeartbeats 1000000 in
set_option maxRecDepth 10000 in
theorem RDecSum {l z : List Int} {k : Nat} {o : List Int} (hi : InB l) (hl : l.length ≤ 3000) (hu : unst false l [] = (z, 0)) (hz : z.length = k + 2) (hk5 : 5 ≤ k) (ho : z.take k = o) (hz3 : z.length ≤ 3000) (hv : valid z = false) (w : World) : Calls Tryd.prog 21 #[.string (strOfNums l)] w (RDecPost l w) := by
  have HP : Hid (decL l = (fr0, 4)) := Lib.hid (by unfold decL; rw [hu]; simp [hv]; omega)
  have hzi := unst_inB l false [] z 0 hu hi (fun x h => by cases h)
  have HU := Lib.hid hu
  have HI := Lib.hid hi
  have hsz := str_size z
  have hvs := valid_sealed hzi (by omega)
  rw [hv, hz, show k + 2 - 2 = k by omega, ho] at hvs
  have hne : (o ++ be (crcN o) 2) ≠ z := of_decide_eq_false hvs.symm
  have hoi : InB o := fun x hx => hzi x (List.mem_of_mem_take (ho ▸ hx))
  have hol : o.length ≤ 3000 := by rw [← ho, List.length_take]; omega
  have hneq : ((strOfNums (o ++ be (crcN o) 2)).toList == (strOfNums z).toList) = false := by
    rw [str_eq (fun x hx => (List.mem_append.1 hx).elim (hoi x) (be_inB _ _ x)) hzi]; simpa using hne
  have hcut : ∀ W, (Instr.slice 9 (.string (strOfNums z)) none (some (.int .i64 (k : Int))) none).run Tryd.prog W = .ok (.string (strOfNums o)) W := fun W => by rw [← ho]; exact scut_hi z k (by omega) W
  have HOI := Lib.hid hoi
  obtain ⟨y, hy⟩ : ∃ y, o ++ be (crcN o) 2 = y := ⟨_, rfl⟩
  have hsl := SealedRC o
  rw [hy] at hneq hsl
  have HSL := fun W => Lib.hid (hsl W)
  have HNE := Lib.hid hneq
  rw [hz] at hsz
  have hzn : ¬ ((k : Int) + 2 < 7) := by omega
  have HZ := Lib.hid hz
  have hk3 : k ≤ 3000 := by omega
  clear hu hi hzi hvs hne hoi ho hz3 hv hz hy hsl hneq
  go_enter Tryd.func21, Tryd.ntmps21
  go_wp2_with fail
  refine Calls.mono (RUnstuffS l z 0 HI.out hl HU.out _) ?_
  rintro e w1 ⟨rfl, B1⟩
  have hk : Blk w1 w.heap.size 45 (fvr fr0) := (rblk0 w).fr (Fr.of_below B1.out) (fun h => h)
  obtain ⟨k0, k1, k2, k3, k4, k5⟩ := fvr_cells hk
  have f0 := hk.frozen 0
  have f1 := hk.frozen 1
  have f2 := hk.frozen 2
  have f3 := hk.frozen 3
  have f4 := hk.frozen 4
  have f5 := hk.frozen 5
  have B2 := Lib.hid (((Below.refl w.heap.size w).alloc (Nat.le_refl _) (.cells #[.int .u8 0, .int .u8 0, .int .u8 0, .int .u8 0, .int .u8 0, .string ⟨#[]⟩] 45)).trans (B1.out.mono (by simp)))
  have HK := Lib.hid hk
  clear hk B1
  clear k0 k1 k2 k3 k4 k5 f0 f1 f2 f3 f4 f5
  go_wp2_with fail
  refine Calls.mono ((HSL w1).out HOI.out hol) ?_
  rintro e w2 ⟨rfl, B3⟩
  have hk2 : Blk w2 w.heap.size 45 (fvr fr0) := HK.out.fr (Fr.of_below B3.out) (fun h => h)
  obtain ⟨k0, k1, k2, k3, k4, k5⟩ := fvr_cells hk2
  have f0 := hk2.frozen 0
  have f1 := hk2.frozen 1
  have f2 := hk2.frozen 2
  have f3 := hk2.frozen 3
  have f4 := hk2.frozen 4
  have f5 := hk2.frozen 5
  have HK2 := Lib.hid hk2
  have B4 := Lib.hid (B2.out.trans (B3.out.mono B2.out.size))
  clear hk2 B3 HK B2
  have hneq := HNE.out
  go_wp2
  rw [nil_str]
  exact rdec_ends (f := fr0) HP.out HK2.out B4.out rfl rfl
set_option maxHeartbeats 1000000 in
set_option maxRecDepth 10000 in
theorem RDecFin {l z : List Int} {k : Nat} {b0 b1 b2 b3 b4 : Int} {m : List Int} (hi : InB l) (hl : l.length ≤ 3000) (hu : unst false l [] = (z, 0)) (hz : z.length = k + 2) (hk5 : 5 ≤ k) (ho : z.take k = b0 :: b1 :: b2 :: b3 :: b4 :: m) (hz3 : z.length ≤ 3000) (hv : valid z = true) (w : World) : Calls Tryd.prog 21 #[.string (strOfNums l)] w (RDecPost l w) := by
  have hP : decL l = formF (b0 :: b1 :: b2 :: b3 :: b4 :: m) := by unfold decL; rw [hu]; simp only [hz, hv, show k + 2 - 2 = k by omega, ho]; simp; omega
  have hzi := unst_inB l false [] z 0 hu hi (fun x h => by cases h)
  have HU := Lib.hid hu
  have HI := Lib.hid hi
  have hsz := str_size z
  have hvs := valid_sealed hzi (by omega)
  rw [hv, hz, show k + 2 - 2 = k by omega] at hvs
  have hoi : InB (z.take k) := fun x hx => hzi x (List.mem_of_mem_take hx)
  have hol : (z.take k).length ≤ 3000 := by rw [List.length_take]; omega
  have heq : (z.take k) ++ be (crcN (z.take k)) 2 = z := of_decide_eq_true hvs.symm
  have hcut : ∀ W, (Instr.slice 9 (.string (strOfNums z)) none (some (.int .i64 (k : Int))) none).run Tryd.prog W = .ok (.string (strOfNums (z.take k))) W := fun W => scut_hi z k (by omega) W
  have hsl := SealedRC (z.take k)
  rw [heq] at hsl
  rw [ho] at hoi hol hcut hsl
  have hml : m.length + 5 = k := by have := congrArg List.length ho; rw [List.length_take] at this; simp at this; omega
  obtain ⟨o, hoo⟩ : ∃ o, b0 :: b1 :: b2 :: b3 :: b4 :: m = o := ⟨_, rfl⟩
  have i0 : ∀ W, (Instr.index 9 (.string (strOfNums o)) (.int .i64 0)).run Tryd.prog W = .ok (.int .u8 b0) W := fun W => by rw [← hoo]; exact idx_str _ hoi 0 (by simp) W
  have i1 : ∀ W, (Instr.index 9 (.string (strOfNums o)) (.int .i64 1)).run Tryd.prog W = .ok (.int .u8 b1) W := fun W => by rw [← hoo]; exact idx_str _ hoi 1 (by simp) W
  have i2 : ∀ W, (Instr.index 9 (.string (strOfNums o)) (.int .i64 2)).run Tryd.prog W = .ok (.int .u8 b2) W := fun W => by rw [← hoo]; exact idx_str _ hoi 2 (by simp) W
  have i3 : ∀ W, (Instr.index 9 (.string (strOfNums o)) (.int .i64 3)).run Tryd.prog W = .ok (.int .u8 b3) W := fun W => by rw [← hoo]; exact idx_str _ hoi 3 (by simp) W
  have i4 : ∀ W, (Instr.index 9 (.string (strOfNums o)) (.int .i64 4)).run Tryd.prog W = .ok (.int .u8 b4) W := fun W => by rw [← hoo]; exact idx_str _ hoi 4 (by simp) W
  have i5 : ∀ W, (Instr.slice 9 (.string (strOfNums o)) (some (.int .i64 5)) none none).run Tryd.prog W = .ok (.string (strOfNums m)) W := fun W => by rw [← hoo]; exact scut_lo _ 5 (by simp) W
  have hb0 := hoi b0 (by simp)
  have hb1 := hoi b1 (by simp)
  have hb2 := hoi b2 (by simp)
  have hb3 := hoi b3 (by simp)
  have hb4 := hoi b4 (by simp)
  rw [hoo] at hoi hol hcut hsl hP
  have HOI := Lib.hid hoi
  have HSL := fun W => Lib.hid (hsl W)
  have HOO := Lib.hid hoo
  have HP := Lib.hid hP
  have hsm := str_size m
  rw [hz] at hsz
  have hzn : ¬ ((k : Int) + 2 < 7) := by omega
  have hk3 : k ≤ 3000 := by omega
  obtain ⟨hb00, hb01⟩ := hb0
  obtain ⟨hb10, hb11⟩ := hb1
  obtain ⟨hb20, hb21⟩ := hb2
  obtain ⟨hb30, hb31⟩ := hb3
  obtain ⟨hb40, hb41⟩ := hb4
  clear hu hi hzi hvs hoi ho hz3 hv hz heq hsl hoo hP hml
  go_enter Tryd.func21, Tryd.ntmps21
  go_wp2_with fail
  refine Calls.mono (RUnstuffS l z 0 HI.out hl HU.out _) ?_
  rintro e w1 ⟨rfl, B1⟩
  have hk : Blk w1 w.heap.size 45 (fvr fr0) := (rblk0 w).fr (Fr.of_below B1.out) (fun h => h)
  obtain ⟨k0, k1, k2, k3, k4, k5⟩ := fvr_cells hk
  have f0 := hk.frozen 0
  have f1 := hk.frozen 1
  have f2 := hk.frozen 2
  have f3 := hk.frozen 3
  have f4 := hk.frozen 4
  have f5 := hk.frozen 5
  have B2 := Lib.hid (((Below.refl w.heap.size w).alloc (Nat.le_refl _) (.cells #[.int .u8 0, .int .u8 0, .int .u8 0, .int .u8 0, .int .u8 0, .string ⟨#[]⟩] 45)).trans (B1.out.mono (by simp)))
  have HK := Lib.hid hk
  clear hk B1
  clear k0 k1 k2 k3 k4 k5 f0 f1 f2 f3 f4 f5
  go_wp2_with fail
  refine Calls.mono ((HSL w1).out HOI.out hol) ?_
  rintro e w2 ⟨rfl, B3⟩
  have hk2 : Blk w2 w.heap.size 45 (fvr fr0) := HK.out.fr (Fr.of_below B3.out) (fun h => h)
  have HK2 := Lib.hid hk2
  have B4 := Lib.hid (B2.out.trans (B3.out.mono B2.out.size))
  have hw2 : w.heap.size < w2.heap.size := hk2.lt
  clear hk2 B3 HK B2 hcut
  go_wp2_with fail
  go_region
  have K3 : Hid (Blk (w2.alloc (.cells #[.int .u8 b0, .int .u8 b1, .int .u8 b2, .int .u8 (b3 % 2), .int .u8 (b3 / 2), .string (strOfNums m)] 45)).drew w2.heap.size 45 (fvr (fieldsF o))) := Lib.hid (by rw [← HOO.out]; exact Blk.new w2 _ _)
  have K2 : Hid (Blk (w2.alloc (.cells #[.int .u8 b0, .int .u8 b1, .int .u8 b2, .int .u8 (b3 % 2), .int .u8 (b3 / 2), .string (strOfNums m)] 45)).drew w.heap.size 45 (fvr fr0)) := Lib.hid (HK2.out.alloc _)
  have B5 : Hid (Below w.heap.size w (w2.alloc (.cells #[.int .u8 b0, .int .u8 b1, .int .u8 b2, .int .u8 (b3 % 2), .int .u8 (b3 / 2), .string (strOfNums m)] 45)).drew) := Lib.hid (B4.out.alloc B4.out.size _).drew
  have q0 : 0 ≤ b3 % 2 := by omega
  have q1 : b3 % 2 ≤ 1 := by omega
  have p0 : 0 ≤ b3 / 2 := by omega
  have p1 : b3 / 2 ≤ 127 := by omega
  have HR := fun W => Lib.hid (RRightC (fieldsF o) W)
  have hfo : fieldsF o = ⟨b0, b1, b2, b3 % 2, b3 / 2, m⟩ := by rw [← HOO.out]; rfl
  rw [hfo] at HR K3
  have hg4 : o.getD 4 0 = b4 := by rw [← HOO.out]; rfl
  have hpf := HP.out
  unfold formF at hpf
  rw [hfo, hg4] at hpf
  simp only at hpf
  have HPF := Lib.hid hpf
  clear hfo hg4 hpf HP HOO i0 i1 i2 i3 i5
  generalize b3 % 2 = q at *
  generalize b3 / 2 = x at *
  obtain ⟨W3, hW3⟩ : ∃ W3, (w2.alloc (.cells #[.int .u8 b0, .int .u8 b1, .int .u8 b2, .int .u8 q, .int .u8 x, .string (strOfNums m)] 45)).drew = W3 := ⟨_, rfl⟩
  rw [hW3] at K3 K2 B5 ⊢
  clear hW3 HK2 B4
  obtain ⟨g, hg⟩ : ∃ g, w2.heap.size = g := ⟨_, rfl⟩
  rw [hg] at K3 ⊢
  have hwg : w.heap.size < g := by omega
  clear hg hw2
  obtain ⟨j0, j1, j2, j3, j4, j5⟩ := fvr_cells K3.out
  simp only at j0 j1 j2 j3 j4 j5
  go_wp2_with fail
  refine Calls.mono (HR W3).out ?_
  rintro e w4 ⟨rfl, B6⟩
  have K4 := Lib.hid (K3.out.fr (Fr.of_below B6.out) (fun h => h))
  have K5 := Lib.hid (K2.out.fr (Fr.of_below B6.out) (fun h => h))
  have B7 := Lib.hid (B5.out.trans (B6.out.mono B5.out.size))
  clear HR B5 B6 K2 K3 j0 j1 j2 j3 j4 j5
  cases hr : rightF ⟨b0, b1, b2, q, x, m⟩ with
  | false =>
    have HPE : Hid (decL l = (fr0, 3)) := Lib.hid (by rw [HPF.out, hr]; rfl)
    obtain ⟨j0, j1, j2, j3, j4, j5⟩ := fvr_cells K4.out
    simp only at j0 j1 j2 j3 j4 j5
    obtain ⟨k0, k1, k2, k3, k4, k5⟩ := fvr_cells K5.out
    have f0 := K5.out.frozen 0
    have f1 := K5.out.frozen 1
    have f2 := K5.out.frozen 2
    have f3 := K5.out.frozen 3
    have f4 := K5.out.frozen 4
    have f5 := K5.out.frozen 5
    clear hr
    go_wp2_with fail
    go_quiet (fail)
    go_wp2
    rw [nil_str]
    exact rdec_ends (f := fr0) HPE.out (K5.out.drewN nq) (below_drewN B7.out nq) rfl rfl
  | true =>
    by_cases h4 : b4 = (m.length : Int)
    · have HPE : Hid (decL l = (⟨b0, b1, b2, q, x, m⟩, 0)) := Lib.hid (by rw [HPF.out, hr, h4]; simp)
      obtain ⟨j0, j1, j2, j3, j4, j5⟩ := fvr_cells K4.out
      simp only at j0 j1 j2 j3 j4 j5
      obtain ⟨k0, k1, k2, k3, k4, k5⟩ := fvr_cells K5.out
      have f0 := K5.out.frozen 0
      have f1 := K5.out.frozen 1
      have f2 := K5.out.frozen 2
      have f3 := K5.out.frozen 3
      have f4 := K5.out.frozen 4
      have f5 := K5.out.frozen 5
      have e1 : (b4 != (m.length : Int)) = false := by simpa using h4
      clear hr h4
      go_wp2_with fail
      go_quiet (fail)
      go_wp2
      exact rdec_ends (f := ⟨b0, b1, b2, q, x, m⟩) HPE.out (K5.out.drewN nq) (below_drewN B7.out nq) rfl rfl
    · have HPE : Hid (decL l = (fr0, 3)) := Lib.hid (by rw [HPF.out, hr]; simp [h4])
      obtain ⟨j0, j1, j2, j3, j4, j5⟩ := fvr_cells K4.out
      simp only at j0 j1 j2 j3 j4 j5
      obtain ⟨k0, k1, k2, k3, k4, k5⟩ := fvr_cells K5.out
      have f0 := K5.out.frozen 0
      have f1 := K5.out.frozen 1
      have f2 := K5.out.frozen 2
      have f3 := K5.out.frozen 3
      have f4 := K5.out.frozen 4
      have f5 := K5.out.frozen 5
      have e1 : (b4 != (m.length : Int)) = true := by simpa using h4
      clear hr h4
      go_wp2_with fail
      go_quiet (fail)
      go_wp2
      rw [nil_str]
      exact rdec_ends (f := fr0) HPE.out (K5.out.drewN nq) (below_drewN B7.out nq) rfl rfl
/-- The document's Decode. -/
theorem RDecC {l : List Int} (hi : InB l) (hl : l.length ≤ 3000) (w : World) : Calls Tryd.prog 21 #[.string (strOfNums l)] w (RDecPost l w) := by
  obtain ⟨z, f, hu⟩ : ∃ z f, unst false l [] = (z, f) := ⟨_, _, rfl⟩
  have hle := unst_le _ _ _ _ _ hu
  simp only [List.length_nil, Nat.zero_add] at hle
  by_cases hf : f = 0
  · subst hf
    by_cases h7 : z.length < 7
    · exact RDecShort hi hl hu h7 w
    · obtain ⟨k, hk⟩ : ∃ k, z.length = k + 2 := ⟨z.length - 2, by omega⟩
      cases hv : valid z with
      | false => exact RDecSum hi hl hu hk (by omega) rfl (by omega) hv w
      | true =>
        match ho : z.take k with
        | b0 :: b1 :: b2 :: b3 :: b4 :: m => exact RDecFin hi hl hu hk (by omega) ho (by omega) hv w
        | [] | [_] | [_, _] | [_, _, _] | [_, _, _, _] => 
          have := congrArg List.length ho
          rw [List.length_take, hk] at this
          simp only [List.length_cons, List.length_nil] at this
          omega
  · exact RDecErr hi hl hu hf w
end Go.Proofs.YtkihoonjekccgaaDoor.K

/- The document's answer for layer 5: a whole text, parted by its flags. -/
namespace Go.Proofs.YtkihoonjekccgaaDoor.K
open Go.RowKit
set_option linter.unusedVariables false
set_option linter.unusedSimpArgs false
attribute [local go_sem ↓] Go.wp_at_zero Go.wp_at_succ
theorem feed_stuck : ∀ (m : List Int) (n : List Int), (∀ x ∈ m, x ≠ 126) → feedD m ⟨n, [], true⟩ = (⟨n, [], true⟩, []) := by
  intro m
  induction m with
  | nil => intro n _; rfl
  | cons c m ih =>
    intro n h
    have hs : stepD c ⟨n, [], true⟩ = (⟨n, [], true⟩, []) := by unfold stepD; rw [if_neg (h c (by simp))]; rfl
    simp only [feedD, hs, ih n (fun x hx => h x (by simp [hx])), List.append_nil]
theorem feed_fit : ∀ (m : List Int) (n h : List Int), (∀ x ∈ m, x ≠ 126) → h.length + m.length ≤ 62 → feedD m ⟨n, h, false⟩ = (⟨n, h ++ m, false⟩, []) := by
  intro m
  induction m with
  | nil => intro n h _ _; simp [feedD]
  | cons c m ih =>
    intro n h hm hl
    have hs : stepD c ⟨n, h, false⟩ = (⟨n, h ++ [c], false⟩, []) := by
      simp only [List.length_cons] at hl
      unfold stepD; rw [if_neg (hm c (by simp))]
      unfold takeD; rw [if_neg (by simp), if_neg (by simp only; omega)]
    simp only [List.length_cons] at hl
    simp only [feedD, hs, ih n (h ++ [c]) (fun x hx => hm x (by simp [hx])) (by simp; omega), List.append_nil, List.append_assoc, List.singleton_append]
theorem feed_over : ∀ (m : List Int) (n h : List Int), (∀ x ∈ m, x ≠ 126) → h.length ≤ 62 → 62 < h.length + m.length → feedD m ⟨n, h, false⟩ = (⟨inc n 10, [], true⟩, []) := by
  intro m
  induction m with
  | nil => intro n h _ h1 h2; simp at h2; omega
  | cons c m ih =>
    intro n h hm hl hlt
    simp only [List.length_cons] at hlt
    by_cases h62 : h.length = 62
    · have hs : stepD c ⟨n, h, false⟩ = (⟨inc n 10, [], true⟩, []) := by
        unfold stepD; rw [if_neg (hm c (by simp))]
        unfold takeD; rw [if_neg (by simp), if_pos h62]
      simp only [feedD, hs, feed_stuck m _ (fun x hx => hm x (by simp [hx])), List.append_nil]
    · have hs : stepD c ⟨n, h, false⟩ = (⟨n, h ++ [c], false⟩, []) := by
        unfold stepD; rw [if_neg (hm c (by simp))]
        unfold takeD; rw [if_neg (by simp), if_neg h62]
      simp only [feedD, hs, ih n (h ++ [c]) (fun x hx => hm x (by simp [hx])) (by simp; omega) (by simp; omega), List.append_nil]
theorem feed_piece {own : List Int} (h : ∀ x ∈ own, x ≠ 126) (n : List Int) : feedD (own ++ [126]) ⟨n, [], false⟩ =
    if 62 < own.length then (⟨inc n 10, [], false⟩, []) else if own = [] then (⟨n, [], false⟩, []) else if (decL own).2 = 0 then (⟨n, [], false⟩, [(decL own).1]) else (⟨inc n (decL own).2.toNat, [], false⟩, []) := by
  rw [feed_app]
  by_cases hl : 62 < own.length
  · rw [if_pos hl, feed_over own n [] h (by simp) (by simpa using hl)]
    simp only [List.nil_append]
    rw [feed_one]
    simp [stepD, endD]
  · rw [if_neg hl, feed_fit own n [] h (by simp; omega)]
    simp only [List.nil_append]
    rw [feed_one]
    unfold stepD endD
    rw [if_pos rfl]
/-- Where the document's loop stands. -/
def AllI (l : List Int) (i fr : Nat) (n : List Int) (F : List Fp) (h : Nat) : Prop :=
  (i ≤ l.length ∧ h = 0 ∧ fr ≤ i ∧ feedD (l.take fr) d0 = (⟨n, [], false⟩, F) ∧ (∀ x ∈ (l.take i).drop fr, x ≠ 126)) ∨ (i = l.length + 1 ∧ ∃ S, feedD l d0 = (S, F) ∧ S.n = n ∧ S.held.length = h)
theorem AllI.zero (l : List Int) : AllI l 0 0 d0.n [] 0 := .inl ⟨by omega, rfl, by omega, rfl, by simp⟩
theorem take_parts (l : List Int) {fr i : Nat} (h : fr ≤ i) : l.take i = l.take fr ++ (l.take i).drop fr := by
  have := List.take_append_drop fr (l.take i)
  rw [List.take_take, Nat.min_eq_left h] at this
  exact this.symm
theorem AllI.skip {l : List Int} {i fr h : Nat} {n : List Int} {F : List Fp} (k : AllI l i fr n F h) (hi : i < l.length) (hc : l.getD i 0 ≠ 126) : AllI l (i + 1) fr n F h := by
  rcases k with ⟨h1, h2, h3, h4, h5⟩ | ⟨h1, _⟩
  · refine .inl ⟨by omega, h2, by omega, h4, ?_⟩
    rw [List.take_succ_eq_append_getElem hi, List.drop_append]
    intro x hx
    rcases List.mem_append.1 hx with hx | hx
    · exact h5 x hx
    · have := List.mem_of_mem_drop hx
      obtain rfl := List.mem_singleton.1 this
      rwa [List.getD_eq_getElem?_getD, List.getElem?_eq_getElem hi] at hc
  · omega
theorem AllI.flag {l : List Int} {i fr h : Nat} {n n' : List Int} {F F' : List Fp} (k : AllI l i fr n F h) (hi : i < l.length) (hc : l.getD i 0 = 126) (hs : feedD (((l.take i).drop fr) ++ [126]) ⟨n, [], false⟩ = (⟨n', [], false⟩, F')) : AllI l (i + 1) (i + 1) n' (F ++ F') h := by
  rcases k with ⟨h1, h2, h3, h4, h5⟩ | ⟨h1, _⟩
  · refine .inl ⟨by omega, h2, by omega, ?_, by simp⟩
    have hg : l[i] = 126 := by rwa [List.getD_eq_getElem?_getD, List.getElem?_eq_getElem hi] at hc
    rw [List.take_succ_eq_append_getElem hi, hg, take_parts l h3, List.append_assoc, feed_app, h4]
    simp only
    rw [hs]
  · omega
theorem AllI.over {l : List Int} {fr h : Nat} {n : List Int} {F : List Fp} (k : AllI l l.length fr n F h) (hl : 62 < (l.drop fr).length) : AllI l (l.length + 1) (l.length + 1) (inc n 10) F 0 := by
  rcases k with ⟨h1, h2, h3, h4, h5⟩ | ⟨h1, _⟩
  · rw [List.take_length] at h5
    refine .inr ⟨rfl, ⟨inc n 10, [], true⟩, ?_, rfl, rfl⟩
    have := feed_app (l.take fr) (l.drop fr) d0
    rw [List.take_append_drop, h4] at this
    simp only at this
    rw [feed_over _ n [] h5 (by simp) (by simpa using hl)] at this
    simpa using this
  · omega
theorem AllI.last {l : List Int} {fr h : Nat} {n : List Int} {F : List Fp} (k : AllI l l.length fr n F h) (hl : (l.drop fr).length ≤ 62) : AllI l (l.length + 1) (l.length + 1) n F (l.drop fr).length := by
  rcases k with ⟨h1, h2, h3, h4, h5⟩ | ⟨h1, _⟩
  · rw [List.take_length] at h5
    refine .inr ⟨rfl, ⟨n, l.drop fr, false⟩, ?_, rfl, rfl⟩
    have := feed_app (l.take fr) (l.drop fr) d0
    rw [List.take_append_drop, h4] at this
    simp only at this
    rw [feed_fit _ n [] h5 (by simpa using hl)] at this
    simpa using this
  · omega
/-- What is told, in its cells. -/
def tcl (v : Value) (n : List Int) (h : Int) : Array Value := (v :: (n.map (fun x => Value.int .i64 x) ++ [.int .i64 h])).toArray
section
variable {v u : Value} {n : List Int} {h x : Int} {i : Nat}
theorem tcl_0 : (tcl v n h)[0]? = some v := rfl
theorem tcl_n (hn : n.length = 12) (hi : i < 12) : (tcl v n h)[1 + i]? = some (.int .i64 (n.getD i 0)) := by
  unfold tcl
  rw [List.getElem?_toArray, Nat.add_comm 1 i, List.getElem?_cons_succ, List.getElem?_append_left (by simp [hn]; omega), List.getElem?_map, List.getD_eq_getElem?_getD, List.getElem?_eq_getElem (by omega)]
  rfl
theorem tcl_h (hn : n.length = 12) : (tcl v n h)[13]? = some (.int .i64 h) := by
  unfold tcl
  rw [List.getElem?_toArray, List.getElem?_cons_succ, List.getElem?_append_right (by simp [hn])]
  simp [hn]
theorem tcl_set_0 : (tcl v n h).setIfInBounds 0 u = tcl u n h := by
  unfold tcl
  rw [List.setIfInBounds_toArray]
  rfl
theorem tcl_set_n (hn : n.length = 12) (hi : i < 12) : (tcl v n h).setIfInBounds (1 + i) (.int .i64 x) = tcl v (n.set i x) h := by
  unfold tcl
  rw [List.setIfInBounds_toArray, Nat.add_comm 1 i, List.set_cons_succ, List.set_append_left (h := by simp [hn]; omega), List.map_set]
theorem tcl_set_h (hn : n.length = 12) : (tcl v n h).setIfInBounds 13 (.int .i64 x) = tcl v n x := by
  unfold tcl
  rw [List.setIfInBounds_toArray, List.set_cons_succ, List.set_append_right (h := by simp [hn])]
  simp [hn]
end
abbrev cR : Fp → List Value := fun f => [.int .u8 f.addr, .int .u8 f.kind, .int .u8 f.ses, .int .u8 f.seq, .int .u8 f.ack, .string (strOfNums f.B)]
theorem info_rframe : (Tryd.prog.info? 45).map (fun i => (i.zero, i.size, i.bytes)) = some (some (.agg #[.int .u8 0, .int .u8 0, .int .u8 0, .int .u8 0, .int .u8 0, .string ⟨#[]⟩]), 6, 24) := by kernel_rfl
end Go.Proofs.YtkihoonjekccgaaDoor.K

/- The walk of the document's answer for layer 5. -/
namespace Go.Proofs.YtkihoonjekccgaaDoor.K
open Go.RowKit
set_option linter.unusedVariables false
set_option linter.unusedSimpArgs false
attribute [local go_sem ↓] Go.wp_at_zero Go.wp_at_succ
theorem row_ownR {base n : Nat} {w : World} {A : Option Addr} {cap : Nat} {F : List Fp} (hn : F.length = n) (h : w.ownsRow base 45 6 (.slice A n cap) n (F.flatMap cR)) : RowOf cR 6 w w.heap.size A F := by
  subst hn
  exact row_own (fun _ => rfl) h
/-- The place of what is told, and what is told so far. -/
structure TD (w : World) (v : Value) (n : List Int) (F : List Fp) (h : Nat) (wr : World) : Prop where
  blk : Blk wr (w.heap.size + 1) 38 (tcl v n (h : Int))
  row : wr.ownsRow (w.heap.size + 2) 45 6 v F.length (F.flatMap cR)
  res : Blk wr w.heap.size 38 (tcl (.slice none 0 0) d0.n 0)
  bel : Below w.heap.size w wr
section
variable {w wr : World} {v : Value} {n : List Int} {F : List Fp} {h : Nat}
theorem TD.fr (k : TD w v n F h wr) {w2 : World} (b : Fr0 wr w2) : TD w v n F h w2 :=
  ⟨k.blk.fr b (fun h => h), own_fr k.row b (fun _ _ h => h), k.res.fr b (fun h => h), fr0_below k.bel b (Nat.le_refl _)⟩
theorem TD.cell (k : TD w v n F h wr) (hn : n.length = 12) {i : Nat} (hi : i < 12) : wr.cell? ⟨w.heap.size + 1, 1 + i, none⟩ = some (.int .i64 (n.getD i 0)) := (k.blk.cell (1 + i)).trans (tcl_n hn hi)
theorem TD.inc_ (k : TD w v n F h wr) (hn : n.length = 12) {i : Nat} (hi : i < 12) : TD w v (inc n i) F h (wr.setCell ⟨w.heap.size + 1, 1 + i, none⟩ (.int .i64 (n.getD i 0 + 1))) := by
  have f : Fr1 (w.heap.size + 1) wr (wr.setCell ⟨w.heap.size + 1, 1 + i, none⟩ (.int .i64 (n.getD i 0 + 1))) := (Fr.refl (fun k => k = w.heap.size + 1) wr).setCell (fun _ => rfl) _
  refine ⟨?_, own_fr k.row f (fun j e h => by have := (k.row.lt j e).1; omega), k.res.fr f (by omega), fr1_below k.bel f (by omega) (Nat.le_refl _)⟩
  have := k.blk.set_ (1 + i) (.int .i64 (n.getD i 0 + 1))
  rw [tcl_set_n hn hi] at this
  exact this
theorem TD.held_ (k : TD w v n F h wr) (hn : n.length = 12) (x : Nat) : TD w v n F x (wr.setCell ⟨w.heap.size + 1, 13, none⟩ (.int .i64 x)) := by
  have f : Fr1 (w.heap.size + 1) wr (wr.setCell ⟨w.heap.size + 1, 13, none⟩ (.int .i64 x)) := (Fr.refl (fun k => k = w.heap.size + 1) wr).setCell (fun _ => rfl) _
  refine ⟨?_, own_fr k.row f (fun j e h => by have := (k.row.lt j e).1; omega), k.res.fr f (by omega), fr1_below k.bel f (by omega) (Nat.le_refl _)⟩
  have := k.blk.set_ 13 (.int .i64 x)
  rw [tcl_set_h hn] at this
  exact this
theorem TD.row_ (k : TD w v n F h wr) {v1 : Value} {F1 : List Fp} {w1 : World} (f1 : Fr (fun k => v.ownBlock = some k) wr w1) (h1 : w1.ownsRow (w.heap.size + 2) 45 6 v1 F1.length (F1.flatMap cR)) : TD w v1 n F1 h (w1.setCell ⟨w.heap.size + 1, 0, none⟩ v1) := by
  have f : Fr1 (w.heap.size + 1) w1 (w1.setCell ⟨w.heap.size + 1, 0, none⟩ v1) := (Fr.refl (fun k => k = w.heap.size + 1) w1).setCell (fun _ => rfl) _
  have hv : ∀ j, v.ownBlock = some j → w.heap.size + 2 ≤ j := fun j e => (k.row.lt j e).1
  have b1 : Below w.heap.size w w1 := below_fr k.bel f1 k.bel.size (fun j e => by have := hv j e; omega)
  refine ⟨?_, own_fr h1 f (fun j e h => by have := (h1.lt j e).1; omega), ((k.res.fr f1 (fun e => by have := hv _ e; omega)).fr f (by omega)), fr1_below b1 f (by omega) (Nat.le_refl _)⟩
  have := (k.blk.fr f1 (fun e => by have := hv _ e; omega)).set_ 0 v1
  rw [tcl_set_0] at this
  exact this
end
def AllPost (l : List Int) (w : World) (e : Ending) (w' : World) : Prop :=
  ∃ (A : Option Addr) (c : Nat) (S : Ds) (F : List Fp), feedD l d0 = (S, F) ∧ e = .returned (.agg (tcl (.slice A F.length c) S.n (S.held.length : Int))) ∧ Hid (RowOf cR 6 w' w'.heap.size A F) ∧ Hid (Below w.heap.size w w')
theorem results_all {w : World} {g : Nat} {v : Value} {h : Int} {a0 a1 a2 a3 a4 a5 a6 a7 a8 a9 a10 a11 : Int} {tm : Array Value} (k : Blk w g 38 #[v, .int .i64 a0, .int .i64 a1, .int .i64 a2, .int .i64 a3, .int .i64 a4, .int .i64 a5, .int .i64 a6, .int .i64 a7, .int .i64 a8, .int .i64 a9, .int .i64 a10, .int .i64 a11, .int .i64 h]) (h2 : tm.getD 2 undef = .pointer (some ⟨g, 0, none⟩)) :
    (results Tryd.f11 tm).run Tryd.prog w = .ok (.agg #[v, .int .i64 a0, .int .i64 a1, .int .i64 a2, .int .i64 a3, .int .i64 a4, .int .i64 a5, .int .i64 a6, .int .i64 a7, .int .i64 a8, .int .i64 a9, .int .i64 a10, .int .i64 a11, .int .i64 h]) w := by
  have k0 : w.cell? ⟨g, 0, none⟩ = some (v) := k.cell 0
  have k1 : w.cell? ⟨g, 1, none⟩ = some (.int .i64 a0) := k.cell 1
  have k2 : w.cell? ⟨g, 2, none⟩ = some (.int .i64 a1) := k.cell 2
  have k3 : w.cell? ⟨g, 3, none⟩ = some (.int .i64 a2) := k.cell 3
  have k4 : w.cell? ⟨g, 4, none⟩ = some (.int .i64 a3) := k.cell 4
  have k5 : w.cell? ⟨g, 5, none⟩ = some (.int .i64 a4) := k.cell 5
  have k6 : w.cell? ⟨g, 6, none⟩ = some (.int .i64 a5) := k.cell 6
  have k7 : w.cell? ⟨g, 7, none⟩ = some (.int .i64 a6) := k.cell 7
  have k8 : w.cell? ⟨g, 8, none⟩ = some (.int .i64 a7) := k.cell 8
  have k9 : w.cell? ⟨g, 9, none⟩ = some (.int .i64 a8) := k.cell 9
  have k10 : w.cell? ⟨g, 10, none⟩ = some (.int .i64 a9) := k.cell 10
  have k11 : w.cell? ⟨g, 11, none⟩ = some (.int .i64 a10) := k.cell 11
  have k12 : w.cell? ⟨g, 12, none⟩ = some (.int .i64 a11) := k.cell 12
  have k13 : w.cell? ⟨g, 13, none⟩ = some (.int .i64 h) := k.cell 13
  clear k
  rw [Array.getD_eq_getD_getElem?] at h2
  simp [results, Tryd.results11, go_sem, h2, k0, k1, k2, k3, k4, k5, k6, k7, k8, k9, k10, k11, k12, k13]
set_option maxHeartbeats 4000000 in
set_option maxRecDepth 20000 in
theorem AllC (l : List Int) (hi : InB l) (hl : l.length ≤ 2000) (w : World) : Calls Tryd.prog 11 #[.string (strOfNums l)] w (AllPost l w) := by
  have hsz := str_size l
  have HI := Lib.hid hi
  clear hi
  go_enter Tryd.func11, Tryd.ntmps11
  go_wp2
  obtain ⟨W0, hW0⟩ : ∃ W0, (w.alloc (.cells #[.slice none 0 0, .int .i64 0, .int .i64 0, .int .i64 0, .int .i64 0, .int .i64 0, .int .i64 0, .int .i64 0, .int .i64 0, .int .i64 0, .int .i64 0, .int .i64 0, .int .i64 0, .int .i64 0] 38)).alloc (.cells #[.slice none 0 0, .int .i64 0, .int .i64 0, .int .i64 0, .int .i64 0, .int .i64 0, .int .i64 0, .int .i64 0, .int .i64 0, .int .i64 0, .int .i64 0, .int .i64 0, .int .i64 0, .int .i64 0] 38) = W0 := ⟨_, rfl⟩
  have hr0 : Blk W0 w.heap.size 38 (tcl (.slice none 0 0) d0.n 0) := hW0 ▸ (Blk.new w 38 (tcl (.slice none 0 0) d0.n 0)).alloc _
  have ht0 : Blk W0 (w.heap.size + 1) 38 (tcl (.slice none 0 0) d0.n ((0 : Nat) : Int)) := by
    rw [← hW0]
    exact Blk.new_at (t := 38) (cs := tcl (.slice none 0 0) d0.n ((0 : Nat) : Int)) (by simp)
  have HT0 : Hid (TD w (.slice none 0 0) d0.n [] 0 W0) := Lib.hid ⟨ht0, own_nil _ _ _ _, hr0, hW0 ▸ ((Below.refl _ w).alloc (Nat.le_refl _) _).alloc (by simp) _⟩
  rw [hW0]
  clear hW0 hr0 ht0
  go_loopw [4, 5] (fun a i wr => ∃ (fr k h : Nat) (n : List Int) (F : List Fp) (v : Value), a = .int .i64 fr ∧ i = .int .i64 k ∧ k ≤ l.length + 1 ∧ AllI l k fr n F h ∧ n.length = 12 ∧ (∀ x ∈ n, 0 ≤ x ∧ x ≤ (k : Int)) ∧ F.length ≤ k ∧ TD w v n F h wr) (fun _ i _ => l.length + 1 - (intOf i).toNat)
  case atStart => exact ⟨0, 0, 0, d0.n, [], .slice none 0 0, rfl, rfl, by omega, AllI.zero l, rfl, fun x hx => by simp [d0] at hx; omega, by simp, HT0.out⟩
  case round =>
    obtain ⟨fr, k, h, n, F, v, rfl, rfl, hk, hA, hn, hc, hF, hT⟩ := hrel
    have HA := Lib.hid hA
    have HN := Lib.hid hn
    have HC := Lib.hid hc
    have HT := Lib.hid hT
    have hgt : w.heap.size + 1 < wr.heap.size := hT.blk.lt
    by_cases hlt : k < l.length
    · have hfk : fr ≤ k := by rcases hA with ⟨_, _, h3, _⟩ | ⟨h1, _⟩ <;> omega
      have hx := fun W => idx_str l HI.out k hlt W
      by_cases h126 : l.getD k 0 = 126
      · have H126 := Lib.hid h126
        rw [h126] at hx
        obtain ⟨own, hown⟩ : ∃ own, (l.take k).drop fr = own := ⟨_, rfl⟩
        have hno : ∀ x ∈ own, x ≠ 126 := by rcases hA with ⟨_, _, _, _, h5⟩ | ⟨h1, _⟩; (rw [← hown]; exact h5); omega
        have hcut : ∀ W, (Instr.slice 9 (.string (strOfNums l)) (some (.int .i64 (fr : Int))) (some (.int .i64 (k : Int))) none).run Tryd.prog W = .ok (.string (strOfNums own)) W := fun W => by rw [← hown]; exact scut_lh l fr k hfk (by omega) W
        have hso := str_size own
        have hol : own.length = k - fr := by rw [← hown, List.length_drop, List.length_take]; omega
        have hoi : InB own := fun x hx => HI.out x (by rw [← hown] at hx; exact List.mem_of_mem_take (List.mem_of_mem_drop hx))
        have hpc := feed_piece hno n
        have HOI := Lib.hid hoi
        have HPC := Lib.hid hpc
        have HAF : Hid (∀ n' F', feedD (own ++ [126]) ⟨n, [], false⟩ = (⟨n', [], false⟩, F') → AllI l (k + 1) (k + 1) n' (F ++ F') h) := Lib.hid (fun n' F' e => HA.out.flag hlt H126.out (by rw [hown]; exact e))
        obtain ⟨m, hm⟩ : ∃ m, own.length = m := ⟨_, rfl⟩
        have HM := Lib.hid hm
        rw [hm] at hso hol
        have hm2 : m ≤ 2000 := by omega
        clear hA hn hc hT h126 hno hpc hoi hown hm hol
        by_cases h62 : 62 < m
        · have k11 : wr.cell? ⟨w.heap.size + 1, 11, none⟩ = some (.int .i64 (n.getD 10 0)) := HT.out.cell HN.out (i := 10) (by omega)
          have f11 := HT.out.blk.frozen 11
          have hb := getD_bd HC.out (by omega) 10
          have HE : Hid (AllI l (k + 1) (k + 1) (inc n 10) F h) := Lib.hid (by have := HAF.out (inc n 10) [] (by rw [HPC.out, if_pos (by rw [HM.out]; exact h62)]); rwa [List.append_nil] at this)
          have HT1 : Hid (TD w v (inc n 10) F h (wr.setCell ⟨w.heap.size + 1, 11, none⟩ (.int .i64 (n.getD 10 0 + 1)))) := Lib.hid (HT.out.inc_ HN.out (i := 10) (by omega))
          have h62' : (62 : Int) < (m : Int) := by omega
          generalize n.getD 10 0 = x at *
          obtain ⟨hb0, hb1⟩ := hb
          have hu := Tryd.underlying25
          go_wp2
          go_roundw
          case rel => exact ⟨k + 1, k + 1, h, inc n 10, F, v, by go_num, by go_num, by omega, HE.out, by rw [inc_len]; exact HN.out, fun y hy => by have := inc_cnt HC.out (by omega) 10 y hy; omega, by omega, HT1.out⟩
          case measure => simp [intOf]; omega
        · have h62' : ¬ (62 : Int) < (m : Int) := by omega
          have hke : ((k : Int) == (l.length : Int)) = false := by simp; omega
          by_cases h0 : own = []
          · subst h0
            have HE : Hid (AllI l (k + 1) (k + 1) n F h) := Lib.hid (by have := HAF.out n [] (by rw [HPC.out, if_neg (by simp), if_pos rfl]); rwa [List.append_nil] at this)
            rw [← nil_str] at hcut hso
            go_wp2
            go_roundw
            case rel => exact ⟨k + 1, k + 1, h, n, F, v, by go_num, by go_num, by omega, HE.out, HN.out, fun y hy => by have := HC.out y hy; omega, by omega, HT.out⟩
            case measure => simp [intOf]; omega
          · have hne : (strOfNums own).toList.isEmpty = false := by rw [str_list]; cases own with
              | nil => exact (h0 rfl).elim
              | cons _ _ => rfl
            have hne2 : ((strOfNums own).toList == []) = false := by rw [str_list]; cases own with
              | nil => exact (h0 rfl).elim
              | cons _ _ => rfl
            have hne3 : ¬ (strOfNums own).toList = [] := by rw [str_list]; cases own with
              | nil => exact (h0 rfl).elim
              | cons _ _ => simp
            obtain ⟨⟨fa, fk, fs, fq, fx, fm⟩, er, hd⟩ : ∃ f er, decL own = (f, er) := ⟨_, _, rfl⟩
            have hde := dec_err own
            rw [hd] at hde
            simp only at hde
            have HD := Lib.hid hd
            have hdc := fun W => RDecC (l := own) HOI.out (by rw [HM.out]; omega) W
            unfold RDecPost at hdc
            rw [hd] at hdc
            have HDC := fun W => Lib.hid (hdc W)
            clear hd hdc
            go_wp2_with fail
            refine Calls.mono (HDC wr).out ?_
            rintro e w2 ⟨rfl, D2⟩
            obtain ⟨W2, hW2⟩ : ∃ W2, w2.alloc (.cells #[.int .u8 fa, .int .u8 fk, .int .u8 fs, .int .u8 fq, .int .u8 fx, .string (strOfNums fm)] 45) = W2 := ⟨_, rfl⟩
            have f2 : Fr0 wr W2 := (Fr.of_below D2.out).trans (hW2 ▸ (Fr.refl (fun _ => False) w2).alloc _) (fun _ _ h => h)
            have HT2 := Lib.hid (HT.out.fr f2)
            have hgt2 : w.heap.size + 1 < w2.heap.size := by have := D2.out.size; omega
            have HW2 := Lib.hid hW2
            have HT2' := Lib.hid (HT.out.fr (Fr.of_below D2.out))
            clear f2 hW2 HDC D2 HT hne hne2 hne3
            by_cases he0 : er = 0
            · subst he0
              obtain ⟨F9, hF9⟩ : ∃ F9 : List Fp, F9 = F ++ [⟨fa, fk, fs, fq, fx, fm⟩] := ⟨_, rfl⟩
              have HF9 := Lib.hid hF9
              have hF9l : F9.length = F.length + 1 := by rw [hF9]; simp
              clear hF9
              have HE : Hid (AllI l (k + 1) (k + 1) n F9 h) := Lib.hid (HF9.out ▸ HAF.out n [⟨fa, fk, fs, fq, fx, fm⟩] (by rw [HPC.out, if_neg (by rw [HM.out]; omega), if_neg h0, HD.out, if_pos rfl]))
              have c0 : (w2.alloc (.cells #[.int .u8 fa, .int .u8 fk, .int .u8 fs, .int .u8 fq, .int .u8 fx, .string (strOfNums fm)] 45)).cell? ⟨w.heap.size + 1, 0, none⟩ = some v := by rw [HW2.out]; exact HT2.out.blk.cell 0
              have HROW : Hid ((w2.alloc (.cells #[.int .u8 fa, .int .u8 fk, .int .u8 fs, .int .u8 fq, .int .u8 fx, .string (strOfNums fm)] 45)).ownsRow (w.heap.size + 2) 45 6 v F.length (F.flatMap cR)) := Lib.hid (by rw [HW2.out]; exact HT2.out.row)
              have hsL : (w2.alloc (.cells #[.int .u8 fa, .int .u8 fk, .int .u8 fs, .int .u8 fq, .int .u8 fx, .string (strOfNums fm)] 45)).heap.size = w2.heap.size + 1 := by simp
              clear hde h0
              go_wp2_with (at_builtin; go_loud (refine app1 rfl _ _ _ rfl 45 (.agg #[.int .u8 0, .int .u8 0, .int .u8 0, .int .u8 0, .int .u8 0, .string ⟨#[]⟩]) 6 24 Tryd.underlying36 info_rframe rfl (by omega) (by omega) (w.heap.size + 2) v F.length (F.flatMap cR) [.int .u8 fa, .int .u8 fk, .int .u8 fs, .int .u8 fq, .int .u8 fx, .string (strOfNums fm)] rfl (by show Value.slice (some ⟨w2.heap.size + 1, 0, none⟩) 1 1 = _; simp) rfl (fun u hu => by simp only [List.mem_cons, List.not_mem_nil, or_false] at hu; rcases hu with rfl | rfl | rfl | rfl | rfl | rfl <;> rfl) HROW.out (by omega) (by omega) ?_; intro v3 w3 h3' h4' h5'; obtain ⟨A3, c3, rfl, _⟩ := own_form h3'; have HF4 : Hid (Fr (fun k => v.ownBlock = some k) W2 w3) := Lib.hid (HW2.out ▸ h4'); have HO4 : Hid (w3.ownsRow (w.heap.size + 2) 45 6 (.slice A3 (F.length + 1) c3) F9.length (F9.flatMap cR)) := Lib.hid (by rw [HF9.out, List.length_append, List.flatMap_append]; exact h3'); have HK4 : Hid (Blk w3 (w.heap.size + 1) 38 (tcl v n (h : Int))) := Lib.hid (HT2.out.blk.fr HF4.out (fun e => by have := (HT2.out.row.lt _ e).1; omega)); have c03 : w3.cell? ⟨w.heap.size + 1, 0, none⟩ = some v := HK4.out.cell 0; have f03 := HK4.out.frozen 0; clear h3' h4' h5'))
              have HT3 := Lib.hid (HT2.out.row_ HF4.out HO4.out)
              go_roundw
              case rel => exact ⟨k + 1, k + 1, h, n, F9, .slice A3 (F.length + 1) c3, by go_num, by go_num, by omega, HE.out, HN.out, fun y hy => by have := HC.out y hy; omega, by omega, HT3.out⟩
              case measure => simp [intOf]; omega
            · obtain ⟨q, hq, hq12⟩ : ∃ q : Nat, er = (q : Int) ∧ q < 12 := ⟨er.toNat, by omega, by omega⟩
              subst hq
              have HE : Hid (AllI l (k + 1) (k + 1) (inc n q) F h) := Lib.hid (by have := HAF.out (inc n q) [] (by rw [HPC.out, if_neg (by rw [HM.out]; omega), if_neg h0, HD.out, if_neg he0]; rfl); rwa [List.append_nil] at this)
              have kq : (w2.alloc (.cells #[.int .u8 fa, .int .u8 fk, .int .u8 fs, .int .u8 fq, .int .u8 fx, .string (strOfNums fm)] 45)).cell? ⟨w.heap.size + 1, 1 + q, none⟩ = some (.int .i64 (n.getD q 0)) := by rw [HW2.out]; exact HT2.out.cell HN.out hq12
              have fq' : (w2.alloc (.cells #[.int .u8 fa, .int .u8 fk, .int .u8 fs, .int .u8 fq, .int .u8 fx, .string (strOfNums fm)] 45)).frozen? ⟨w.heap.size + 1, 1 + q, none⟩ = false := by rw [HW2.out]; exact HT2.out.blk.frozen _
              have kq2 : w2.cell? ⟨w.heap.size + 1, 1 + q, none⟩ = some (.int .i64 (n.getD q 0)) := HT2'.out.cell HN.out hq12
              have fq2 := HT2'.out.blk.frozen (1 + q)
              have cn := World.new_ne w2 _ kq2
              have hb := getD_bd HC.out (by omega) q
              have HT1 : Hid (TD w v (inc n q) F h ((w2.setCell ⟨w.heap.size + 1, 1 + q, none⟩ (.int .i64 (n.getD q 0 + 1))).alloc (.cells #[.int .u8 fa, .int .u8 fk, .int .u8 fs, .int .u8 fq, .int .u8 fx, .string (strOfNums fm)] 45))) := Lib.hid ((HT2'.out.inc_ HN.out hq12).fr ((Fr.refl (fun _ => False) _).alloc _))
              generalize n.getD q 0 = x at *
              obtain ⟨hb0, hb1⟩ := hb
              have hu := Tryd.underlying25
              have i1 : (0 : Int) ≤ (q : Int) := by omega
              have i2 : (q : Int) < 12 := by omega
              have e1 : ((q : Int) == 0) = false := by simpa using he0
              have hx1 : IntKind.i64.wrap (x + 1) = x + 1 := by rw [IntKind.wrap_i64]; omega
              clear hde h0 he0
              go_wp2
              go_roundw
              case rel => exact ⟨k + 1, k + 1, h, inc n q, F, v, by go_num, by go_num, by omega, HE.out, by rw [inc_len]; exact HN.out, fun y hy => by have := inc_cnt HC.out (by omega) q y hy; omega, by omega, HT1.out⟩
              case measure => simp [intOf]; omega
      · have hc := HI.out (l.getD k 0) (by rw [List.getD_eq_getElem?_getD, List.getElem?_eq_getElem hlt]; exact List.getElem_mem _)
        have HE := Lib.hid (hA.skip hlt h126)
        generalize l.getD k 0 = x at *
        have hx1 : (x == 126) = false := by simpa using h126
        have hx2 : (x != 126) = true := by simpa using h126
        clear hA hn hc hT h126
        go_wp2
        go_roundw
        case rel => exact ⟨fr, k + 1, h, n, F, v, rfl, by go_num, by omega, HE.out, HN.out, fun y hy => by have := HC.out y hy; omega, by omega, HT.out⟩
        case measure => simp [intOf]; omega
    · by_cases hke : k = l.length
      · subst hke
        have hfk : fr ≤ l.length := by rcases hA with ⟨_, _, h3, _⟩ | ⟨h1, _⟩ <;> omega
        obtain ⟨own, hown⟩ : ∃ own, l.drop fr = own := ⟨_, rfl⟩
        have hcut : ∀ W, (Instr.slice 9 (.string (strOfNums l)) (some (.int .i64 (fr : Int))) (some (.int .i64 (l.length : Int))) none).run Tryd.prog W = .ok (.string (strOfNums own)) W := fun W => by
          have := scut_lh l fr l.length hfk (Nat.le_refl _) W
          rwa [List.take_length, hown] at this
        have hso := str_size own
        have hol : own.length = l.length - fr := by rw [← hown, List.length_drop]
        obtain ⟨m, hm⟩ : ∃ m, own.length = m := ⟨_, rfl⟩
        have HM := Lib.hid hm
        have HOW := Lib.hid hown
        rw [hm] at hso hol
        have hm2 : m ≤ 2000 := by omega
        clear hA hn hc hT hown hm hol
        by_cases h62 : 62 < m
        · have HE : Hid (AllI l (l.length + 1) (l.length + 1) (inc n 10) F 0) := Lib.hid (by have := HA.out.over (by rw [HOW.out, HM.out]; exact h62); exact this)
          have hh0 : h = 0 := by rcases HA.out with ⟨_, h2, _⟩ | ⟨h1, _⟩; exact h2; omega
          subst hh0
          have k11 : wr.cell? ⟨w.heap.size + 1, 11, none⟩ = some (.int .i64 (n.getD 10 0)) := HT.out.cell HN.out (i := 10) (by omega)
          have f11 := HT.out.blk.frozen 11
          have hb := getD_bd HC.out (by omega) 10
          have HT1 : Hid (TD w v (inc n 10) F 0 (wr.setCell ⟨w.heap.size + 1, 11, none⟩ (.int .i64 (n.getD 10 0 + 1)))) := Lib.hid (HT.out.inc_ HN.out (i := 10) (by omega))
          have h62' : (62 : Int) < (m : Int) := by omega
          generalize n.getD 10 0 = x at *
          obtain ⟨hb0, hb1⟩ := hb
          have hu := Tryd.underlying25
          go_wp2
          go_roundw
          case rel => exact ⟨l.length + 1, l.length + 1, 0, inc n 10, F, v, by go_num, by go_num, by omega, HE.out, by rw [inc_len]; exact HN.out, fun y hy => by have := inc_cnt HC.out (by omega) 10 y hy; omega, by omega, HT1.out⟩
          case measure => simp [intOf] <;> omega
        · have HE : Hid (AllI l (l.length + 1) (l.length + 1) n F m) := Lib.hid (by have := HA.out.last (by rw [HOW.out, HM.out]; omega); rwa [HOW.out, HM.out] at this)
          have k13 : wr.cell? ⟨w.heap.size + 1, 13, none⟩ = some (.int .i64 (h : Int)) := (HT.out.blk.cell 13).trans (tcl_h HN.out)
          have f13 := HT.out.blk.frozen 13
          have HT1 := Lib.hid (HT.out.held_ HN.out m)
          have h62' : ¬ (62 : Int) < (m : Int) := by omega
          go_wp2
          go_roundw
          case rel => exact ⟨l.length + 1, l.length + 1, m, n, F, v, by go_num, by go_num, by omega, HE.out, HN.out, fun y hy => by have := HC.out y hy; omega, by omega, HT1.out⟩
          case measure => simp [intOf] <;> omega
      · obtain rfl : k = l.length + 1 := by omega
        obtain ⟨S, hS, hSn, hSh⟩ : ∃ S, feedD l d0 = (S, F) ∧ S.n = n ∧ S.held.length = h := by rcases hA with ⟨h1, _⟩ | ⟨_, h2⟩; omega; exact h2
        have HS := Lib.hid hS
        have HSH := Lib.hid hSh
        have HSN := Lib.hid hSn
        have hge : ¬ ((l.length : Int) + 1 ≤ (l.length : Int)) := by omega
        obtain ⟨a0, a1, a2, a3, a4, a5, a6, a7, a8, a9, a10, a11, rfl⟩ := twelve hn
        obtain ⟨A, c, hv, _⟩ := own_form hT.row
        subst hv
        clear hA hn hc hS hSn hSh
        have k0 : wr.cell? ⟨w.heap.size + 1, 0, none⟩ = some (.slice A F.length c) := HT.out.blk.cell 0
        have k1 : wr.cell? ⟨w.heap.size + 1, 1, none⟩ = some (.int .i64 a0) := HT.out.blk.cell 1
        have k2 : wr.cell? ⟨w.heap.size + 1, 2, none⟩ = some (.int .i64 a1) := HT.out.blk.cell 2
        have k3 : wr.cell? ⟨w.heap.size + 1, 3, none⟩ = some (.int .i64 a2) := HT.out.blk.cell 3
        have k4 : wr.cell? ⟨w.heap.size + 1, 4, none⟩ = some (.int .i64 a3) := HT.out.blk.cell 4
        have k5 : wr.cell? ⟨w.heap.size + 1, 5, none⟩ = some (.int .i64 a4) := HT.out.blk.cell 5
        have k6 : wr.cell? ⟨w.heap.size + 1, 6, none⟩ = some (.int .i64 a5) := HT.out.blk.cell 6
        have k7 : wr.cell? ⟨w.heap.size + 1, 7, none⟩ = some (.int .i64 a6) := HT.out.blk.cell 7
        have k8 : wr.cell? ⟨w.heap.size + 1, 8, none⟩ = some (.int .i64 a7) := HT.out.blk.cell 8
        have k9 : wr.cell? ⟨w.heap.size + 1, 9, none⟩ = some (.int .i64 a8) := HT.out.blk.cell 9
        have k10 : wr.cell? ⟨w.heap.size + 1, 10, none⟩ = some (.int .i64 a9) := HT.out.blk.cell 10
        have k11 : wr.cell? ⟨w.heap.size + 1, 11, none⟩ = some (.int .i64 a10) := HT.out.blk.cell 11
        have k12 : wr.cell? ⟨w.heap.size + 1, 12, none⟩ = some (.int .i64 a11) := HT.out.blk.cell 12
        have k13 : wr.cell? ⟨w.heap.size + 1, 13, none⟩ = some (.int .i64 (h : Int)) := HT.out.blk.cell 13
        have g0 : wr.cell? ⟨w.heap.size, 0, none⟩ = some (.slice none 0 0) := HT.out.res.cell 0
        have f0 := HT.out.res.frozen 0
        have g1 : wr.cell? ⟨w.heap.size, 1, none⟩ = some (.int .i64 0) := HT.out.res.cell 1
        have f1 := HT.out.res.frozen 1
        have g2 : wr.cell? ⟨w.heap.size, 2, none⟩ = some (.int .i64 0) := HT.out.res.cell 2
        have f2 := HT.out.res.frozen 2
        have g3 : wr.cell? ⟨w.heap.size, 3, none⟩ = some (.int .i64 0) := HT.out.res.cell 3
        have f3 := HT.out.res.frozen 3
        have g4 : wr.cell? ⟨w.heap.size, 4, none⟩ = some (.int .i64 0) := HT.out.res.cell 4
        have f4 := HT.out.res.frozen 4
        have g5 : wr.cell? ⟨w.heap.size, 5, none⟩ = some (.int .i64 0) := HT.out.res.cell 5
        have f5 := HT.out.res.frozen 5
        have g6 : wr.cell? ⟨w.heap.size, 6, none⟩ = some (.int .i64 0) := HT.out.res.cell 6
        have f6 := HT.out.res.frozen 6
        have g7 : wr.cell? ⟨w.heap.size, 7, none⟩ = some (.int .i64 0) := HT.out.res.cell 7
        have f7 := HT.out.res.frozen 7
        have g8 : wr.cell? ⟨w.heap.size, 8, none⟩ = some (.int .i64 0) := HT.out.res.cell 8
        have f8 := HT.out.res.frozen 8
        have g9 : wr.cell? ⟨w.heap.size, 9, none⟩ = some (.int .i64 0) := HT.out.res.cell 9
        have f9 := HT.out.res.frozen 9
        have g10 : wr.cell? ⟨w.heap.size, 10, none⟩ = some (.int .i64 0) := HT.out.res.cell 10
        have f10 := HT.out.res.frozen 10
        have g11 : wr.cell? ⟨w.heap.size, 11, none⟩ = some (.int .i64 0) := HT.out.res.cell 11
        have f11 := HT.out.res.frozen 11
        have g12 : wr.cell? ⟨w.heap.size, 12, none⟩ = some (.int .i64 0) := HT.out.res.cell 12
        have f12 := HT.out.res.frozen 12
        have g13 : wr.cell? ⟨w.heap.size, 13, none⟩ = some (.int .i64 0) := HT.out.res.cell 13
        have f13 := HT.out.res.frozen 13
        clear hT
        go_wp2
        have hb := ((((((((((((((HT.out.res.set_ 0 (.slice A F.length c)).set_ 1 (.int .i64 a0)).set_ 2 (.int .i64 a1)).set_ 3 (.int .i64 a2)).set_ 4 (.int .i64 a3)).set_ 5 (.int .i64 a4)).set_ 6 (.int .i64 a5)).set_ 7 (.int .i64 a6)).set_ 8 (.int .i64 a7)).set_ 9 (.int .i64 a8)).set_ 10 (.int .i64 a9)).set_ 11 (.int .i64 a10)).set_ 12 (.int .i64 a11)).set_ 13 (.int .i64 (h : Int)))
        have hf := (((((((((((((((Fr.refl (fun k => k = w.heap.size) wr).setCell (p := ⟨w.heap.size, 0, none⟩) (fun _ => rfl) (.slice A F.length c)).setCell (p := ⟨w.heap.size, 1, none⟩) (fun _ => rfl) (.int .i64 a0)).setCell (p := ⟨w.heap.size, 2, none⟩) (fun _ => rfl) (.int .i64 a1)).setCell (p := ⟨w.heap.size, 3, none⟩) (fun _ => rfl) (.int .i64 a2)).setCell (p := ⟨w.heap.size, 4, none⟩) (fun _ => rfl) (.int .i64 a3)).setCell (p := ⟨w.heap.size, 5, none⟩) (fun _ => rfl) (.int .i64 a4)).setCell (p := ⟨w.heap.size, 6, none⟩) (fun _ => rfl) (.int .i64 a5)).setCell (p := ⟨w.heap.size, 7, none⟩) (fun _ => rfl) (.int .i64 a6)).setCell (p := ⟨w.heap.size, 8, none⟩) (fun _ => rfl) (.int .i64 a7)).setCell (p := ⟨w.heap.size, 9, none⟩) (fun _ => rfl) (.int .i64 a8)).setCell (p := ⟨w.heap.size, 10, none⟩) (fun _ => rfl) (.int .i64 a9)).setCell (p := ⟨w.heap.size, 11, none⟩) (fun _ => rfl) (.int .i64 a10)).setCell (p := ⟨w.heap.size, 12, none⟩) (fun _ => rfl) (.int .i64 a11)).setCell (p := ⟨w.heap.size, 13, none⟩) (fun _ => rfl) (.int .i64 (h : Int)))
        have hb' : Blk ((((((((((((((wr.setCell ⟨w.heap.size, 0, none⟩ (.slice A F.length c)).setCell ⟨w.heap.size, 1, none⟩ (.int .i64 a0)).setCell ⟨w.heap.size, 2, none⟩ (.int .i64 a1)).setCell ⟨w.heap.size, 3, none⟩ (.int .i64 a2)).setCell ⟨w.heap.size, 4, none⟩ (.int .i64 a3)).setCell ⟨w.heap.size, 5, none⟩ (.int .i64 a4)).setCell ⟨w.heap.size, 6, none⟩ (.int .i64 a5)).setCell ⟨w.heap.size, 7, none⟩ (.int .i64 a6)).setCell ⟨w.heap.size, 8, none⟩ (.int .i64 a7)).setCell ⟨w.heap.size, 9, none⟩ (.int .i64 a8)).setCell ⟨w.heap.size, 10, none⟩ (.int .i64 a9)).setCell ⟨w.heap.size, 11, none⟩ (.int .i64 a10)).setCell ⟨w.heap.size, 12, none⟩ (.int .i64 a11)).setCell ⟨w.heap.size, 13, none⟩ (.int .i64 (h : Int))) w.heap.size 38 #[.slice A F.length c, .int .i64 a0, .int .i64 a1, .int .i64 a2, .int .i64 a3, .int .i64 a4, .int .i64 a5, .int .i64 a6, .int .i64 a7, .int .i64 a8, .int .i64 a9, .int .i64 a10, .int .i64 a11, .int .i64 (h : Int)] := by simpa [tcl, d0] using hb
        refine bodyPost_ret (results_all hb' rfl) rfl ⟨A, c, S, F, HS.out, ?_, ?_, ?_⟩
        · rw [HSN.out, HSH.out]; rfl
        · have hro : RowOf cR 6 wr wr.heap.size A F := row_own (fun _ => rfl) HT.out.row
          exact Lib.hid ((row_fr hro hf (fun ad e => by have := HT.out.row.lt ad.block (by rw [e]; rfl); omega)).more_ hf.size)
        · exact Lib.hid (below_fr HT.out.bel hf HT.out.bel.size (fun j e => by omega))
end Go.Proofs.YtkihoonjekccgaaDoor.K

/- Are frames the document's; the document's answer, as numbers. -/
namespace Go.Proofs.YtkihoonjekccgaaDoor.K
open Go.RowKit
set_option linter.unusedVariables false
set_option linter.unusedSimpArgs false
attribute [local go_sem ↓] Go.wp_at_zero Go.wp_at_succ
/-- The cells of a document's frame in a row of them. -/
def FrC (w : World) (ad : Addr) (i : Nat) (f : Fp) : Prop :=
  w.cell? (ad.add (i * 6)) = some (.int .u8 f.addr) ∧ w.cell? ⟨(ad.add (i * 6)).block, (ad.add (i * 6)).off + 1, none⟩ = some (.int .u8 f.kind) ∧ w.cell? ⟨(ad.add (i * 6)).block, (ad.add (i * 6)).off + 2, none⟩ = some (.int .u8 f.ses) ∧ w.cell? ⟨(ad.add (i * 6)).block, (ad.add (i * 6)).off + 3, none⟩ = some (.int .u8 f.seq) ∧ w.cell? ⟨(ad.add (i * 6)).block, (ad.add (i * 6)).off + 4, none⟩ = some (.int .u8 f.ack) ∧ w.cell? ⟨(ad.add (i * 6)).block, (ad.add (i * 6)).off + 5, none⟩ = some (.string (strOfNums f.B))
theorem fr_at {w : World} {B : Nat} {A : Option Addr} {l : List Fp} (h : RowOf cR 6 w B A l) {i : Nat} (hi : i < l.length) : ∃ ad, A = some ad ∧ ad.block < B ∧ FrC w ad i (l.getD i fr0) := by
  obtain ⟨ad, rfl, hb, hc⟩ := h i (l[i]) (List.getElem?_eq_getElem hi)
  have k1 := hc 1 _ rfl
  have k2 := hc 2 _ rfl
  have k3 := hc 3 _ rfl
  have k4 := hc 4 _ rfl
  have k5 := hc 5 _ rfl
  rw [add_field ad (i * 6) _ (by omega)] at k1 k2 k3 k4 k5
  rw [show l.getD i fr0 = l[i] by rw [List.getD_eq_getElem?_getD, List.getElem?_eq_getElem hi]; rfl]
  exact ⟨ad, rfl, hb, hc 0 _ rfl, k1, k2, k3, k4, k5⟩
theorem FrC.below {B i : Nat} {w w' : World} {ad : Addr} {x : Fp} (h : FrC w ad i x) (hb : Below B w w') (ha : ad.block < B) : FrC w' ad i x := by
  obtain ⟨h0, h1, h2, h3, h4, h5⟩ := h
  have e : (ad.add (i * 6)).block < B := by rw [block_of_add]; exact ha
  exact ⟨(hb.cell e).trans h0, (hb.cell (p := ⟨(ad.add (i * 6)).block, _, none⟩) e).trans h1, (hb.cell (p := ⟨(ad.add (i * 6)).block, _, none⟩) e).trans h2, (hb.cell (p := ⟨(ad.add (i * 6)).block, _, none⟩) e).trans h3, (hb.cell (p := ⟨(ad.add (i * 6)).block, _, none⟩) e).trans h4, (hb.cell (p := ⟨(ad.add (i * 6)).block, _, none⟩) e).trans h5⟩
set_option maxHeartbeats 4000000 in
set_option maxRecDepth 20000 in
theorem same5C {B c m c' : Nat} {A A' : Option Addr} {xs : List Fx} {F : List Fp} {w : World} (ho : OutF B (.slice A m c) xs w) (hx : xs.map (·.1) = F) (hm : F.length = m) (hR : RowOf cR 6 w w.heap.size A' F) (h9 : m ≤ 9223372036854775807) :
    Calls Tryd.prog 12 #[.slice A m c, .slice A' m c'] w fun e w' => e = .returned (.bool true) ∧ Hid (Below w.heap.size w w') := by
  have HO := Lib.hid ho
  have HX := Lib.hid hx
  have HM := Lib.hid hm
  have HR := Lib.hid hR
  clear ho hx hm hR
  go_enter Tryd.func12, Tryd.ntmps12
  go_wp2
  go_loopw [5] (fun i wr => ∃ (j : Nat), i = .int .i64 j ∧ j ≤ m ∧ Below w.heap.size w wr) (fun i _ => m - (intOf i).toNat)
  case atStart => exact ⟨0, rfl, by omega, Below.refl _ _⟩
  case round =>
    obtain ⟨j, rfl, hj, hb⟩ := hrel
    have HBW := Lib.hid hb
    have hsw := hb.size
    clear hb
    by_cases hgo2 : j < m
    · have hjm : j < F.length := by rw [HM.out]; exact hgo2
      obtain ⟨ad1, B1, b1, rfl, ha1, k1, M1⟩ := out_at HO.out HX.out hjm
      obtain ⟨ad2, rfl, ha2, k2⟩ := fr_at HR.out hjm
      obtain ⟨⟨fa, fk, fs, fq, fx, fm⟩, hf⟩ : ∃ f, F.getD j fr0 = f := ⟨_, rfl⟩
      rw [hf] at k1 k2 M1
      obtain ⟨nb, hnb⟩ : ∃ nb, fm.length = nb := ⟨_, rfl⟩
      have HNB := Lib.hid hnb
      have r1 : Hid (∀ w', Below wr.heap.size wr w' → RowOf c8 1 w' w'.heap.size B1 fm) := Lib.hid (fun w' b => M1.2.1.now (HBW.out.trans (b.mono hsw)))
      have sNew : Hid (∀ w', Below wr.heap.size wr w' → (Below wr.heap.size wr w' ∧ (w'.cell? (ad1.add (j * 6)) = some (.int .u8 fa) ∧ w'.cell? ⟨(ad1.add (j * 6)).block, (ad1.add (j * 6)).off + 1, none⟩ = some (.int .u8 fk) ∧ w'.cell? ⟨(ad1.add (j * 6)).block, (ad1.add (j * 6)).off + 2, none⟩ = some (.int .u8 fs) ∧ w'.cell? ⟨(ad1.add (j * 6)).block, (ad1.add (j * 6)).off + 3, none⟩ = some (.int .u8 fq) ∧ w'.cell? ⟨(ad1.add (j * 6)).block, (ad1.add (j * 6)).off + 4, none⟩ = some (.int .u8 fx) ∧ w'.cell? ⟨(ad1.add (j * 6)).block, (ad1.add (j * 6)).off + 5, none⟩ = some (.slice B1 nb b1)) ∧ (w'.cell? (ad2.add (j * 6)) = some (.int .u8 fa) ∧ w'.cell? ⟨(ad2.add (j * 6)).block, (ad2.add (j * 6)).off + 1, none⟩ = some (.int .u8 fk) ∧ w'.cell? ⟨(ad2.add (j * 6)).block, (ad2.add (j * 6)).off + 2, none⟩ = some (.int .u8 fs) ∧ w'.cell? ⟨(ad2.add (j * 6)).block, (ad2.add (j * 6)).off + 3, none⟩ = some (.int .u8 fq) ∧ w'.cell? ⟨(ad2.add (j * 6)).block, (ad2.add (j * 6)).off + 4, none⟩ = some (.int .u8 fx) ∧ w'.cell? ⟨(ad2.add (j * 6)).block, (ad2.add (j * 6)).off + 5, none⟩ = some (.string (strOfNums fm))))) := Lib.hid (fun w' b => by
        have e1 := k1.below (HBW.out.trans (b.mono hsw)) ha1
        have e2 := k2.below (HBW.out.trans (b.mono hsw)) ha2
        subst hnb
        exact ⟨b, e1, e2⟩)
      have eN := neqF fa fk fs fq fx (strOfNums fm)
      have bb : Hid (Below wr.heap.size wr wr.drew) := Lib.hid (Below.refl _ wr).drew
      clear k1 k2 M1 hf hnb ha1 ha2 hjm
      go_wp2_with fail
      go_region_held3 (fun w' => Below wr.heap.size wr w' ∧ (w'.cell? (ad1.add (j * 6)) = some (.int .u8 fa) ∧ w'.cell? ⟨(ad1.add (j * 6)).block, (ad1.add (j * 6)).off + 1, none⟩ = some (.int .u8 fk) ∧ w'.cell? ⟨(ad1.add (j * 6)).block, (ad1.add (j * 6)).off + 2, none⟩ = some (.int .u8 fs) ∧ w'.cell? ⟨(ad1.add (j * 6)).block, (ad1.add (j * 6)).off + 3, none⟩ = some (.int .u8 fq) ∧ w'.cell? ⟨(ad1.add (j * 6)).block, (ad1.add (j * 6)).off + 4, none⟩ = some (.int .u8 fx) ∧ w'.cell? ⟨(ad1.add (j * 6)).block, (ad1.add (j * 6)).off + 5, none⟩ = some (.slice B1 nb b1)) ∧ (w'.cell? (ad2.add (j * 6)) = some (.int .u8 fa) ∧ w'.cell? ⟨(ad2.add (j * 6)).block, (ad2.add (j * 6)).off + 1, none⟩ = some (.int .u8 fk) ∧ w'.cell? ⟨(ad2.add (j * 6)).block, (ad2.add (j * 6)).off + 2, none⟩ = some (.int .u8 fs) ∧ w'.cell? ⟨(ad2.add (j * 6)).block, (ad2.add (j * 6)).off + 3, none⟩ = some (.int .u8 fq) ∧ w'.cell? ⟨(ad2.add (j * 6)).block, (ad2.add (j * 6)).off + 4, none⟩ = some (.int .u8 fx) ∧ w'.cell? ⟨(ad2.add (j * 6)).block, (ad2.add (j * 6)).off + 5, none⟩ = some (.string (strOfNums fm)))) (exact sNew.out _ bb.out) ((go_at_call 15; refine Calls.mono (OfC HNB.out _ (r1.out _ (And.left (by assumption)))) ?_; rintro ee wq ⟨rfl, D⟩; have bo : Below wr.heap.size wr _ := And.left (by assumption); have bb : Hid (Below wr.heap.size wr wq) := Lib.hid (bo.trans (D.out.mono bo.size)); clear bo D))
      have HBQ := Lib.hid (HBW.out.trans (bb.out.mono hsw))
      rename_i hq
      clear hq
      go_wp2
      go_roundw
      case rel => exact ⟨j + 1, by go_num, by omega, HBQ.out⟩
      case measure => simp [intOf]; omega
    · obtain rfl : j = m := by omega
      go_wp2
      go_ret
      exact ⟨rfl, HBW⟩
/-- The document's answer, its numbers one by one. -/
theorem AllE {l : List Int} (hi : InB l) (hl : l.length ≤ 2000) {b0 b1 b2 b3 b4 b5 b6 b7 b8 b9 b10 b11 : Int} {held : List Int} {over : Bool} {Fs : List Fp} {m h : Nat} (hf : feedD l d0 = (⟨[b0, b1, b2, b3, b4, b5, b6, b7, b8, b9, b10, b11], held, over⟩, Fs)) (hm : Fs.length = m) (hh : held.length = h) (w : World) :
    Calls Tryd.prog 11 #[.string (strOfNums l)] w fun e w' => ∃ A c, e = .returned (.agg #[.slice A m c, .int .i64 b0, .int .i64 b1, .int .i64 b2, .int .i64 b3, .int .i64 b4, .int .i64 b5, .int .i64 b6, .int .i64 b7, .int .i64 b8, .int .i64 b9, .int .i64 b10, .int .i64 b11, .int .i64 h]) ∧ Hid (RowOf cR 6 w' w'.heap.size A Fs) ∧ Hid (Below w.heap.size w w') := by
  refine (AllC l hi hl w).mono ?_
  rintro e w' ⟨A, c, S, F', h1, rfl, h2, h3⟩
  rw [hf] at h1
  obtain ⟨rfl, rfl⟩ := Prod.mk.inj h1
  subst hm hh
  exact ⟨A, c, rfl, h2, h3⟩
end Go.Proofs.YtkihoonjekccgaaDoor.K
