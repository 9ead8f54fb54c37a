/- Frames: Decode. -/
import Derived.Test.YtkihoonjekccgaaDoorF2
namespace Go.Proofs.YtkihoonjekccgaaDoor.K
open Go.RowKit
set_option linter.unusedVariables false
set_option linter.unusedSimpArgs false
attribute [local go_sem ↓] Go.wp_at_zero Go.wp_at_succ
abbrev fr0 : Fp := ⟨0, 0, 0, 0, 0, []⟩
/-- The numbers of inner bytes. -/
def fieldsF : List Int → Fp
  | b0 :: b1 :: b2 :: b3 :: _ :: m => ⟨b0, b1, b2, b3 % 2, b3 / 2, m⟩
  | _ => fr0
/-- What inner bytes without their sum are. -/
def formF (own : List Int) : Fp × Int := if rightF (fieldsF own) && own.getD 4 0 == ((fieldsF own).B.length : Int) then (fieldsF own, 0) else (fr0, 3)
/-- What bytes are decoded to. -/
def decL (l : List Int) : Fp × Int :=
  if (unst false l []).2 ≠ 0 then (fr0, (unst false l []).2)
  else if (unst false l []).1.length < 7 then (fr0, 2)
  else if valid (unst false l []).1 = false then (fr0, 4)
  else formF ((unst false l []).1.take ((unst false l []).1.length - 2))
def DecPost (l : List Int) (w : World) (e : Ending) (w' : World) : Prop :=
  ∃ A' c', e = .returned (.tuple #[.agg #[.int .u8 (decL l).1.addr, .int .u8 (decL l).1.kind, .int .u8 (decL l).1.ses, .int .u8 (decL l).1.seq, .int .u8 (decL l).1.ack, .slice A' (decL l).1.B.length c'], .int .i64 (decL l).2]) ∧ Hid (Made w.heap.size A' c' (decL l).1.B w') ∧ Hid (Below w.heap.size w w')
theorem made_nil (B : Nat) (w : World) : Made B none 0 [] w := ⟨own_nil _ _ _ _, row_none, Nat.le_refl _⟩
theorem made_blk {B g : Nat} {l : List Int} {w : World} (h : Blk w g 5 (nums .u8 l).toArray) (hB : B ≤ g) (hl : l.length ≤ 140737488355328) : Made B (some ⟨g, 0, none⟩) l.length l w :=
  ⟨⟨by simp [nums], .inr ⟨g, l.length, _, rfl, hB, h, Nat.le_refl _, by unfold maxLen; omega, by simp [nums], by rw [Nat.mul_one]; exact List.take_of_length_le (by rw [nums_length]; exact Nat.le_refl _)⟩⟩, row_blk h h.lt, Nat.le_refl _⟩
/-- A frame, stored cell by cell. -/
abbrev st6 (w : World) (g : Nat) (f : Fp) (A : Option Addr) (c : Nat) : World := (((((w.setCell ⟨g, 0, none⟩ (.int .u8 f.addr)).setCell ⟨g, 1, none⟩ (.int .u8 f.kind)).setCell ⟨g, 2, none⟩ (.int .u8 f.ses)).setCell ⟨g, 3, none⟩ (.int .u8 f.seq)).setCell ⟨g, 4, none⟩ (.int .u8 f.ack)).setCell ⟨g, 5, none⟩ (.slice A f.B.length c)
theorem st6_blk {w : World} {g : Nat} {t : TypeId} {f0 f : Fp} {A0 A : Option Addr} {c0 c : Nat} (h : Blk w g t (fvs f0 A0 c0)) : Blk (st6 w g f A c) g t (fvs f A c) := by
  have := (((((h.set_ 0 (.int .u8 f.addr)).set_ 1 (.int .u8 f.kind)).set_ 2 (.int .u8 f.ses)).set_ 3 (.int .u8 f.seq)).set_ 4 (.int .u8 f.ack)).set_ 5 (.slice A f.B.length c)
  simpa using this
theorem st6_fr (w : World) (g : Nat) (f : Fp) (A : Option Addr) (c : Nat) : Fr1 g w (st6 w g f A c) :=
  ((((((Fr.refl (fun k => k = g) w).setCell (fun _ => rfl) _).setCell (fun _ => rfl) _).setCell (fun _ => rfl) _).setCell (fun _ => rfl) _).setCell (fun _ => rfl) _).setCell (fun _ => rfl) _
theorem results_dec {w : World} {g : Nat} {f : Fp} {A : Option Addr} {c : Nat} {e : Int} {tm : Array Value} (h : Blk w g 35 (fvs f A c)) (h2 : tm.getD 2 undef = .pointer (some ⟨g, 0, none⟩)) (h3 : tm.getD 3 undef = .int .i64 e) :
    (results Tryd.f18 tm).run Tryd.prog w = .ok (.tuple #[.agg #[.int .u8 f.addr, .int .u8 f.kind, .int .u8 f.ses, .int .u8 f.seq, .int .u8 f.ack, .slice A f.B.length c], .int .i64 e]) w := by
  obtain ⟨k0, k1, k2, k3, k4, k5⟩ := fvs_cells h
  rw [Array.getD_eq_getD_getElem?] at h2 h3
  simp [results, Tryd.results18, go_sem, h2, h3, k0, k1, k2, k3, k4, k5]
/-- What Decode tells, of a frame that was stored as its result. -/
theorem dec_ends {l : List Int} {w w1 : World} {f0 f : Fp} {A0 A : Option Addr} {c0 c : Nat} {e : Int} {tm : Array Value} (hP : decL l = (f, e)) (hk : Blk w1 w.heap.size 35 (fvs f0 A0 c0)) (hb : Below w.heap.size w w1) (hm : Made w.heap.size A c f.B (st6 w1 w.heap.size f A c))
    (h2 : tm.getD 2 undef = .pointer (some ⟨w.heap.size, 0, none⟩)) (h3 : tm.getD 3 undef = .int .i64 e) : bodyPost Tryd.prog Tryd.f18 (DecPost l w) .ret ⟨tm, []⟩ (st6 w1 w.heap.size f A c) := by
  refine bodyPost_ret (results_dec (st6_blk hk) h2 h3) rfl ?_
  unfold DecPost
  rw [hP]
  exact ⟨A, c, rfl, Lib.hid hm, Lib.hid (below_fr hb (st6_fr w1 w.heap.size f A c) hb.size (fun j e => by omega))⟩
set_option maxHeartbeats 1000000 in
set_option maxRecDepth 10000 in
theorem DecodeErr {A : Option Addr} {c n : Nat} {l z : List Int} {f : Int} (hn : l.length = n) (hl : n ≤ 70000000000000) (hu : unst false l [] = (z, f)) (hf : f ≠ 0) (w : World) (h : RowOf c8 1 w w.heap.size A l) :
    Calls Tryd.prog 18 #[.slice A n c] w (DecPost l w) := by
  have HP : Hid (decL l = (fr0, f)) := Lib.hid (by unfold decL; rw [hu]; simp [hf])
  have hf1 : (f == 0) = false := by simp [hf]
  have hf2 : (f != 0) = true := by simp [hf]
  have HU := Lib.hid hu
  have HN := Lib.hid hn
  have HR := Lib.hid h
  clear h hu hf hn
  go_enter Tryd.func18, Tryd.ntmps18
  go_wp2_with fail
  refine Calls.mono (UnstuffM HN.out hl HU.out _ ((HR.out.below ((Below.refl w.heap.size w).alloc (Nat.le_refl _) _)).more_ (by simp))) ?_
  rintro e w1 ⟨A1, c1, rfl, H1, B1⟩
  have hk : Blk w1 w.heap.size 35 (fvs fr0 none 0) := (Blk.new w _ _).fr (Fr.of_below B1.out) (fun h => h)
  obtain ⟨k0, k1, k2, k3, k4, k5⟩ := fvs_cells hk
  have f0 := hk.frozen 0
  have f1 := hk.frozen 1
  have f2 := hk.frozen 2
  have f3 := hk.frozen 3
  have f4 := hk.frozen 4
  have f5 := hk.frozen 5
  have hs1 := B1.out.size
  have B2 := Lib.hid (((Below.refl w.heap.size w).alloc (Nat.le_refl _) (.cells (fvs fr0 none 0) 35)).trans (B1.out.mono (by simp)))
  have HK := Lib.hid hk
  clear hk B1
  go_wp2
  exact dec_ends (f := fr0) (A := none) (c := 0) HP.out HK.out B2.out (made_nil _ _) rfl rfl
theorem unst_inB : ∀ (l : List Int) (b : Bool) (acc z : List Int) (f : Int), unst b l acc = (z, f) → InB l → InB acc → InB z := by
  have nilB : InB [] := fun x h => by cases h
  intro l
  induction l with
  | nil =>
    intro b acc z f h _ ha
    cases b
    · simp [unst] at h; obtain ⟨rfl, _⟩ := h; exact ha
    · simp [unst] at h; obtain ⟨rfl, _⟩ := h; exact nilB
  | cons x l ih =>
    intro b acc z f h hl ha
    have hl2 : InB l := fun y hy => hl y (by simp [hy])
    have snoc : ∀ y, 0 ≤ y ∧ y < 256 → InB (acc ++ [y]) := fun y hy u hu => by
      rcases List.mem_append.1 hu with hu | hu
      · exact ha u hu
      · rw [List.mem_singleton] at hu; subst hu; exact hy
    cases b with
    | false =>
      simp only [unst] at h
      split at h
      · obtain ⟨rfl, _⟩ := Prod.mk.inj h; exact nilB
      · split at h
        · exact ih _ _ _ _ h hl2 ha
        · exact ih _ _ _ _ h hl2 (snoc _ (hl x (by simp)))
    | true =>
      simp only [unst] at h
      split at h
      · exact ih _ _ _ _ h hl2 (snoc _ (by omega))
      · split at h
        · exact ih _ _ _ _ h hl2 (snoc _ (by omega))
        · obtain ⟨rfl, _⟩ := Prod.mk.inj h; exact nilB
theorem UnstuffE {A : Option Addr} {c n m : Nat} {l z : List Int} {f : Int} (hn : l.length = n) (hz : z.length = m) (hl : n ≤ 70000000000000) (hu : unst false l [] = (z, f)) (w : World) (h : RowOf c8 1 w w.heap.size A l) :
    Calls Tryd.prog 26 #[.slice A n c] w fun e w' => ∃ A' c', e = .returned (.tuple #[.slice A' m c', .int .i64 f]) ∧ Hid (Made w.heap.size A' c' z w') ∧ Hid (Below w.heap.size w w') := by subst hz; exact UnstuffM hn hl hu w h
set_option maxHeartbeats 1000000 in
set_option maxRecDepth 10000 in
theorem DecodeShort {A : Option Addr} {c n : Nat} {l z : List Int} (hn : l.length = n) (hl : n ≤ 70000000000000) (hu : unst false l [] = (z, 0)) (hz : z.length < 7) (w : World) (h : RowOf c8 1 w w.heap.size A l) :
    Calls Tryd.prog 18 #[.slice A n c] w (DecPost l w) := by
  have HP : Hid (decL l = (fr0, 2)) := Lib.hid (by unfold decL; rw [hu]; simp [hz])
  have HU := Lib.hid hu
  have HN := Lib.hid hn
  have HR := Lib.hid h
  have hz7 : (z.length : Int) < 7 := by omega
  clear h hu hn
  go_enter Tryd.func18, Tryd.ntmps18
  go_wp2_with fail
  refine Calls.mono (UnstuffM HN.out hl HU.out _ ((HR.out.below ((Below.refl w.heap.size w).alloc (Nat.le_refl _) _)).more_ (by simp))) ?_
  rintro e w1 ⟨A1, c1, rfl, H1, B1⟩
  have hk : Blk w1 w.heap.size 35 (fvs fr0 none 0) := (Blk.new w _ _).fr (Fr.of_below B1.out) (fun h => h)
  obtain ⟨k0, k1, k2, k3, k4, k5⟩ := fvs_cells hk
  have f0 := hk.frozen 0
  have f1 := hk.frozen 1
  have f2 := hk.frozen 2
  have f3 := hk.frozen 3
  have f4 := hk.frozen 4
  have f5 := hk.frozen 5
  have hs1 := B1.out.size
  have B2 := Lib.hid (((Below.refl w.heap.size w).alloc (Nat.le_refl _) (.cells (fvs fr0 none 0) 35)).trans (B1.out.mono (by simp)))
  have HK := Lib.hid hk
  clear hk B1
  go_wp2
  exact dec_ends (f := fr0) (A := none) (c := 0) HP.out HK.out B2.out (made_nil _ _) rfl rfl
set_option maxHeartbeats 1000000 in
set_option maxRecDepth 10000 in
theorem DecodeSum {A : Option Addr} {c n : Nat} {l z : List Int} (hn : l.length = n) (hl : n ≤ 70000000000000) (hi : InB l) (hu : unst false l [] = (z, 0)) (hz : 7 ≤ z.length) (hzm : z.length ≤ 70000000000000) (hv : valid z = false) (w : World) (hT : Turns w) (h : RowOf c8 1 w w.heap.size A l) :
    Calls Tryd.prog 18 #[.slice A n c] w (DecPost l w) := by
  have HP : Hid (decL l = (fr0, 4)) := Lib.hid (by unfold decL; rw [hu]; simp [hv]; omega)
  have HZI := Lib.hid (unst_inB l false [] z 0 hu hi (fun x h => by cases h))
  have HU := Lib.hid hu
  have HN := Lib.hid hn
  have HV := Lib.hid hv
  have HR := Lib.hid h
  have hz7 : ¬ (z.length : Int) < 7 := by omega
  clear h hu hn hv hi
  go_enter Tryd.func18, Tryd.ntmps18
  go_wp2_with fail
  refine Calls.mono (UnstuffM HN.out hl HU.out _ ((HR.out.below ((Below.refl w.heap.size w).alloc (Nat.le_refl _) _)).more_ (by simp))) ?_
  rintro e w1 ⟨A1, c1, rfl, H1, B1⟩
  have hk : Blk w1 w.heap.size 35 (fvs fr0 none 0) := (Blk.new w _ _).fr (Fr.of_below B1.out) (fun h => h)
  obtain ⟨k0, k1, k2, k3, k4, k5⟩ := fvs_cells hk
  have f0 := hk.frozen 0
  have f1 := hk.frozen 1
  have f2 := hk.frozen 2
  have f3 := hk.frozen 3
  have f4 := hk.frozen 4
  have f5 := hk.frozen 5
  have hs1 := B1.out.size
  have B2 := Lib.hid (((Below.refl w.heap.size w).alloc (Nat.le_refl _) (.cells (fvs fr0 none 0) 35)).trans (B1.out.mono (by simp)))
  have HK := Lib.hid hk
  clear hk B1
  clear k0 k1 k2 k3 k4 k5 f0 f1 f2 f3 f4 f5
  go_wp2_with fail
  refine Calls.mono (CValidE (w := w1) (l := z) rfl HV.out ⟨rfl, rfl, rfl, rfl⟩ (hT.below B2.out hT.lt) H1.out.2.1 HZI.out (by omega) H1.out.2.2 (made_cap H1.out)) ?_
  rintro e w2 ⟨rfl, B3⟩
  have hk2 : Blk w2 w.heap.size 35 (fvs fr0 none 0) := HK.out.fr (Fr.of_below B3.out) (fun h => h)
  obtain ⟨k0, k1, k2, k3, k4, k5⟩ := fvs_cells hk2
  have f0 := hk2.frozen 0
  have f1 := hk2.frozen 1
  have f2 := hk2.frozen 2
  have f3 := hk2.frozen 3
  have f4 := hk2.frozen 4
  have f5 := hk2.frozen 5
  have HK2 := Lib.hid hk2
  have B4 := Lib.hid (B2.out.trans (B3.out.mono B2.out.size))
  clear hk2 B3 HK B2
  go_wp2
  exact dec_ends (f := fr0) (A := none) (c := 0) HP.out HK2.out B4.out (made_nil _ _) rfl rfl
theorem mask_u8 (n : Int) (h : 0 ≤ n ∧ n < 256) : bits .and .u8 n 1 = n % 2 := by
  obtain ⟨a, rfl⟩ := Int.eq_ofNat_of_zero_le h.1
  have key : ∀ a : Fin 256, bits .and .u8 (a.val : Int) 1 = (a.val : Int) % 2 := of_decide_eq_true (by kernel_rfl)
  exact key ⟨a, by omega⟩
/-- Where the numbers are taken: the reader, the frame that is filled, the result's place. -/
structure DcS (w : World) (r s : Nat) (G : Option Nat) (l : List Int) (f : Fp) (A : Option Addr) (c : Nat) (wq : World) : Prop where
  rd : Rd r G l wq
  hs : Blk wq s 66 (fvs f A c)
  hk : Blk wq w.heap.size 35 (fvs fr0 none 0)
  hb : Below w.heap.size w wq
  hrs : r ≠ s
  hgs : ∀ g, G = some g → g ≠ s
  hwr : w.heap.size < r
  hws : w.heap.size < s
section
variable {w wq : World} {r s : Nat} {G : Option Nat} {l m : List Int} {f : Fp} {A : Option Addr} {c : Nat} {x : Int}
theorem DcS.u8 (h : DcS w r s G (x :: l) f A c wq) (hb : InB (x :: l)) :
    Calls Tryd.prog 29 #[.pointer (some ⟨r, 0, none⟩)] wq fun e w' => e = .returned (.tuple #[.int .u8 x, .int .i64 0]) ∧ Hid (DcS w r s G l f A c w') := by
  refine (RU8_is (x := x) (m := l) h.rd (by simp) hb (by simp [num]) (by simp)).mono ?_
  rintro e w' ⟨rfl, H1, H2⟩
  exact ⟨rfl, Lib.hid ⟨H1.out, h.hs.fr H2.out (fun e => h.hrs e.symm), h.hk.fr H2.out (fun e => by have := h.hwr; omega), fr1_below h.hb H2.out (Nat.le_of_lt h.hwr) (Nat.le_refl _), h.hrs, h.hgs, h.hwr, h.hws⟩⟩
theorem DcS.set_ (h : DcS w r s G l f A c wq) (i : Nat) (v : Value) {f' : Fp} {A' : Option Addr} {c' : Nat} (e : (fvs f A c).setIfInBounds i v = fvs f' A' c') : DcS w r s G l f' A' c' (wq.setCell ⟨s, i, none⟩ v) := by
  have k : Fr1 s wq (wq.setCell ⟨s, i, none⟩ v) := (Fr.refl (fun k => k = s) wq).setCell (fun _ => rfl) _
  exact ⟨h.rd.fr k h.hrs (fun g e => h.hgs g e), e ▸ h.hs.set_ i v, h.hk.fr k (fun e => by have := h.hws; omega), fr1_below h.hb k (Nat.le_of_lt h.hws) (Nat.le_refl _), h.hrs, h.hgs, h.hwr, h.hws⟩
theorem DcS.cells (h : DcS w r s G l f A c wq) : wq.cell? ⟨s, 0, none⟩ = some (.int .u8 f.addr) ∧ wq.cell? ⟨s, 1, none⟩ = some (.int .u8 f.kind) ∧ wq.cell? ⟨s, 2, none⟩ = some (.int .u8 f.ses) ∧ wq.cell? ⟨s, 3, none⟩ = some (.int .u8 f.seq) ∧ wq.cell? ⟨s, 4, none⟩ = some (.int .u8 f.ack) ∧ wq.cell? ⟨s, 5, none⟩ = some (.slice A f.B.length c) := fvs_cells h.hs
end
set_option maxHeartbeats 1000000 in
set_option maxRecDepth 10000 in
theorem DecodeFin {A : Option Addr} {c n k : Nat} {l z : List Int} {b0 b1 b2 b3 b4 : Int} {m : List Int} (hn : l.length = n) (hl : n ≤ 70000000000000) (hi : InB l) (hu : unst false l [] = (z, 0)) (hz : z.length = k + 2) (hz7 : 5 ≤ k) (hown : z.take k = b0 :: b1 :: b2 :: b3 :: b4 :: m) (hzm : k ≤ 60000000000000) (hv : valid z = true) (w : World) (hT : Turns w) (h : RowOf c8 1 w w.heap.size A l) :
    Calls Tryd.prog 18 #[.slice A n c] w (DecPost l w) := by
  have hP : decL l = formF (b0 :: b1 :: b2 :: b3 :: b4 :: m) := by unfold decL; rw [hu]; simp only [hz, hv, show k + 2 - 2 = k by omega, hown]; simp; omega
  have hzi := unst_inB l false [] z 0 hu hi (fun x h => by cases h)
  have hoi : InB (b0 :: b1 :: b2 :: b3 :: b4 :: m) := hown ▸ hzi.take_ k
  have HZI := Lib.hid hzi
  have HP := Lib.hid hP
  have HU := Lib.hid hu
  have HN := Lib.hid hn
  have HV := Lib.hid hv
  have HR := Lib.hid h
  have HZ := Lib.hid hz
  have HOWN := Lib.hid hown
  have HOI := Lib.hid hoi
  have hkl : (b0 :: b1 :: b2 :: b3 :: b4 :: m).length = k := by rw [← hown, List.length_take]; omega
  have HKL := Lib.hid hkl
  have hi0 := hoi b0 (by simp)
  have hi1 := hoi b1 (by simp)
  have hi2 := hoi b2 (by simp)
  have hi3 := hoi b3 (by simp)
  have hi4 := hoi b4 (by simp)
  obtain ⟨i00, i01⟩ := hi0
  obtain ⟨i10, i11⟩ := hi1
  obtain ⟨i20, i21⟩ := hi2
  obtain ⟨i30, i31⟩ := hi3
  obtain ⟨i40, i41⟩ := hi4
  clear h hu hn hv hi hz hown hkl hoi hzi hP
  go_enter Tryd.func18, Tryd.ntmps18
  go_wp2_with fail
  refine Calls.mono (UnstuffE HN.out HZ.out hl HU.out _ ((HR.out.below ((Below.refl w.heap.size w).alloc (Nat.le_refl _) _)).more_ (by simp))) ?_
  rintro e w1 ⟨A1, c1, rfl, H1, B1⟩
  have hk : Blk w1 w.heap.size 35 (fvs fr0 none 0) := (Blk.new w _ _).fr (Fr.of_below B1.out) (fun h => h)
  have hs1 := B1.out.size
  have B2 := Lib.hid (((Below.refl w.heap.size w).alloc (Nat.le_refl _) (.cells (fvs fr0 none 0) 35)).trans (B1.out.mono (by simp)))
  have HK := Lib.hid hk
  clear hk B1
  have hcc : k + 2 ≤ c1 := by have := H1.out.2.2; rwa [HZ.out] at this
  have hcut := fun W => bcut_hi A1 (k + 2) c1 k (by omega) W
  go_wp2_with fail
  refine Calls.mono (CValidE (w := w1) (l := z) HZ.out HV.out ⟨rfl, rfl, rfl, rfl⟩ (hT.below B2.out hT.lt) H1.out.2.1 HZI.out (by omega) hcc (made_cap H1.out)) ?_
  rintro e w2 ⟨rfl, B3⟩
  have HK2 := Lib.hid (HK.out.fr (Fr.of_below B3.out) (fun h => h))
  have hs2 := B3.out.size
  have RO := Lib.hid (HOWN.out ▸ ((H1.out.2.1.now B3.out).take_ k) : RowOf c8 1 w2 w2.heap.size A1 (b0 :: b1 :: b2 :: b3 :: b4 :: m))
  have B4 := Lib.hid (B2.out.trans (B3.out.mono B2.out.size))
  have hs0 : w.heap.size < w2.heap.size := by simp at hs1; omega
  clear B3 HK B2 H1
  go_wp2_with fail
  refine Calls.mono (ReadE HKL.out (by rw [HKL.out]; omega) RO.out) ?_
  rintro e w3 ⟨r, G, rfl, hr, hG, H3, F3⟩
  have hs3 := F3.out.size
  have hw3 : w.heap.size < w3.heap.size := by omega
  have hr3 := H3.out.lt
  have HD : Hid (DcS w r w3.heap.size G (b0 :: b1 :: b2 :: b3 :: b4 :: m) fr0 none 0 (w3.alloc (.cells (fvs fr0 none 0) 66))) := Lib.hid ⟨H3.out.fr0 ((Fr.refl _ w3).alloc _), Blk.new w3 _ _, (HK2.out.fr F3.out (fun h => h)).alloc _, (fr0_below B4.out F3.out (Nat.le_refl _)).alloc (by omega) _, by omega, fun g e => by have := H3.out.ltG g e; omega, by omega, by omega⟩
  clear F3 H3 hr hG hr3
  go_wp2_with fail
  clear hcut
  generalize w3.heap.size = s at *
  refine Calls.mono (HD.out.u8 HOI.out) ?_
  rintro e w4 ⟨rfl, D4⟩
  have HO1 := Lib.hid (fun y hy => HOI.out y (List.mem_cons_of_mem _ hy) : InB (b1 :: b2 :: b3 :: b4 :: m))
  have hf4 := D4.out.hs.frozen 0
  obtain ⟨k0, -⟩ := D4.out.cells
  have E4 := Lib.hid (D4.out.set_ 0 (.int .u8 b0) (f' := ⟨b0, 0, 0, 0, 0, []⟩) (A' := none) (c' := 0) rfl)
  clear D4 HD
  go_wp2_with fail
  clear k0 hf4
  refine Calls.mono (E4.out.u8 HO1.out) ?_
  rintro e w5 ⟨rfl, D5⟩
  have HO2 := Lib.hid (fun y hy => HO1.out y (List.mem_cons_of_mem _ hy) : InB (b2 :: b3 :: b4 :: m))
  have hf5 := D5.out.hs.frozen 1
  obtain ⟨-, k1, -⟩ := D5.out.cells
  have E5 := Lib.hid (D5.out.set_ 1 (.int .u8 b1) (f' := ⟨b0, b1, 0, 0, 0, []⟩) (A' := none) (c' := 0) rfl)
  clear D5 E4
  go_wp2_with fail
  clear k1 hf5
  refine Calls.mono (E5.out.u8 HO2.out) ?_
  rintro e w6 ⟨rfl, D6⟩
  have HO3 := Lib.hid (fun y hy => HO2.out y (List.mem_cons_of_mem _ hy) : InB (b3 :: b4 :: m))
  have hf6 := D6.out.hs.frozen 2
  obtain ⟨-, -, k2, -⟩ := D6.out.cells
  have E6 := Lib.hid (D6.out.set_ 2 (.int .u8 b2) (f' := ⟨b0, b1, b2, 0, 0, []⟩) (A' := none) (c' := 0) rfl)
  clear D6 E5
  go_wp2_with fail
  clear k2 hf6
  refine Calls.mono (E6.out.u8 HO3.out) ?_
  rintro e w7 ⟨rfl, D7⟩
  have HO4 := Lib.hid (fun y hy => HO3.out y (List.mem_cons_of_mem _ hy) : InB (b4 :: m))
  clear E6
  go_wp2_with fail
  refine Calls.mono (D7.out.u8 HO4.out) ?_
  rintro e w8 ⟨rfl, D8⟩
  clear D7
  have hml : m.length ≤ 60000000000000 := by have := HKL.out; simp at this; omega
  have HAND : Hid (bits .and .u8 b3 1 = b3 % 2) := Lib.hid (by
    have := mask_u8 b3 ⟨i30, i31⟩
    exact this)
  go_wp2_with fail
  generalize bits .and .u8 b3 1 = q at *
  refine Calls.mono (RRestC D8.out.rd (by omega)) ?_
  rintro e w9 ⟨rfl, M9, R9, F9⟩
  have D9 : Hid (DcS w r s G [] ⟨b0, b1, b2, 0, 0, []⟩ none 0 w9) := Lib.hid ⟨R9.out, D8.out.hs.fr F9.out (fun e => D8.out.hrs e.symm), D8.out.hk.fr F9.out (fun e => by have := D8.out.hwr; omega), fr1_below D8.out.hb F9.out (Nat.le_of_lt D8.out.hwr) (Nat.le_refl _), D8.out.hrs, D8.out.hgs, D8.out.hwr, D8.out.hws⟩
  have hf3 := D9.out.hs.frozen 3
  have hf4 := D9.out.hs.frozen 4
  have hf5 := D9.out.hs.frozen 5
  obtain ⟨k0, k1, k2, k3, k4, k5⟩ := D9.out.cells
  have hs8 := D8.out.hb.size
  have hs8s := D8.out.hs.lt
  clear R9 F9
  go_wp2_with fail
  clear k0 k1 k2 k3 k4 k5 hf3 hf4 hf5
  have E9 : Hid (DcS w r s G [] ⟨b0, b1, b2, q, b3 / 2, m⟩ (some ⟨w8.heap.size, 0, none⟩) m.length (((w9.setCell ⟨s, 3, none⟩ (.int .u8 q)).setCell ⟨s, 4, none⟩ (.int .u8 (b3 / 2))).setCell ⟨s, 5, none⟩ (.slice (some ⟨w8.heap.size, 0, none⟩) m.length m.length))) := Lib.hid
    (((D9.out.set_ 3 (.int .u8 q) (f' := ⟨b0, b1, b2, q, 0, []⟩) (A' := none) (c' := 0) rfl).set_ 4 (.int .u8 (b3 / 2)) (f' := ⟨b0, b1, b2, q, b3 / 2, []⟩) (A' := none) (c' := 0) rfl).set_ 5 (.slice (some ⟨w8.heap.size, 0, none⟩) m.length m.length) (f' := ⟨b0, b1, b2, q, b3 / 2, m⟩) (A' := some ⟨w8.heap.size, 0, none⟩) (c' := m.length) rfl)
  have HM9 : Hid (Blk (((w9.setCell ⟨s, 3, none⟩ (.int .u8 q)).setCell ⟨s, 4, none⟩ (.int .u8 (b3 / 2))).setCell ⟨s, 5, none⟩ (.slice (some ⟨w8.heap.size, 0, none⟩) m.length m.length)) w8.heap.size 5 (nums .u8 m).toArray) := Lib.hid (((M9.out.far (by simp; omega) _).far (by simp; omega) _).far (by simp; omega) _)
  have HFF : Hid (fieldsF (b0 :: b1 :: b2 :: b3 :: b4 :: m) = ⟨b0, b1, b2, q, b3 / 2, m⟩) := Lib.hid (by unfold fieldsF; rw [HAND.out])
  generalize (((w9.setCell ⟨s, 3, none⟩ (.int .u8 q)).setCell ⟨s, 4, none⟩ (.int .u8 (b3 / 2))).setCell ⟨s, 5, none⟩ (.slice (some ⟨w8.heap.size, 0, none⟩) m.length m.length)) = w10 at *
  clear M9 D9 D8
  generalize w8.heap.size = g at *
  refine Calls.mono (rightC ⟨b0, b1, b2, q, b3 / 2, m⟩ (some ⟨g, 0, none⟩) m.length w10) ?_
  rintro e w11 ⟨rfl, B11⟩
  have hf := Fr.of_below B11.out
  have hk11 := E9.out.hk.fr hf (fun h => h)
  have hs11 := E9.out.hs.fr hf (fun h => h)
  have HM11 := Lib.hid (HM9.out.fr hf (fun h => h))
  have HB11 := Lib.hid (E9.out.hb.trans (B11.out.mono E9.out.hb.size))
  have HK11 := Lib.hid hk11
  obtain ⟨k0, k1, k2, k3, k4, k5⟩ := fvs_cells hk11
  have f0 := hk11.frozen 0
  have f1 := hk11.frozen 1
  have f2 := hk11.frozen 2
  have f3 := hk11.frozen 3
  have f4 := hk11.frozen 4
  have f5 := hk11.frozen 5
  obtain ⟨s0, s1, s2, s3, s4, s5⟩ := fvs_cells hs11
  simp only at s0 s1 s2 s3 s4 s5
  have hws := E9.out.hws
  have hne : s ≠ w.heap.size := by omega
  have hlt11 := hs11.lt
  clear hf hk11 hs11 E9 HM9 B11
  by_cases hok : rightF ⟨b0, b1, b2, q, b3 / 2, m⟩ = true
  · rw [hok]
    by_cases hlen : b4 = (m.length : Int)
    · have e1 : (b4 == (m.length : Int)) = true := by simp [hlen]
      have e2 : (b4 != (m.length : Int)) = false := by simp [hlen]
      have hP2 : Hid (decL l = (⟨b0, b1, b2, q, b3 / 2, m⟩, 0)) := Lib.hid (by rw [HP.out]; unfold formF; rw [HFF.out, hok]; simp [hlen])
      clear hlen hok
      go_wp2
      exact dec_ends (f := ⟨b0, b1, b2, q, b3 / 2, m⟩) (A := some ⟨g, 0, none⟩) (c := m.length) hP2.out HK11.out HB11.out (made_blk (HM11.out.fr (st6_fr w11 w.heap.size ⟨b0, b1, b2, q, b3 / 2, m⟩ (some ⟨g, 0, none⟩) m.length) (fun e => by omega)) (by omega) (by omega)) rfl rfl
    · have e1 : (b4 == (m.length : Int)) = false := by simp [hlen]
      have e2 : (b4 != (m.length : Int)) = true := by simp [hlen]
      have hP2 : Hid (decL l = (fr0, 3)) := Lib.hid (by rw [HP.out]; unfold formF; rw [HFF.out, hok]; simp [hlen])
      clear hlen hok
      go_wp2
      exact dec_ends (f := fr0) (A := none) (c := 0) hP2.out HK11.out HB11.out (made_nil _ _) rfl rfl
  · have hok : rightF ⟨b0, b1, b2, q, b3 / 2, m⟩ = false := by simpa using hok
    rw [hok]
    have hP2 : Hid (decL l = (fr0, 3)) := Lib.hid (by rw [HP.out]; unfold formF; rw [HFF.out, hok]; simp)
    clear hok
    go_wp2
    exact dec_ends (f := fr0) (A := none) (c := 0) hP2.out HK11.out HB11.out (made_nil _ _) rfl rfl
theorem unst_le : ∀ (l : List Int) (b : Bool) (acc z : List Int) (f : Int), unst b l acc = (z, f) → z.length ≤ acc.length + l.length := by
  intro l
  induction l with
  | nil =>
    intro b acc z f h
    cases b
    · simp [unst] at h; obtain ⟨rfl, _⟩ := h; simp
    · simp [unst] at h; obtain ⟨rfl, _⟩ := h; simp
  | cons x l ih =>
    intro b acc z f h
    cases b with
    | false =>
      simp only [unst] at h
      split at h
      · obtain ⟨rfl, _⟩ := Prod.mk.inj h; simp
      · split at h
        · have := ih _ _ _ _ h; simp at this ⊢; omega
        · have := ih _ _ _ _ h; simp at this ⊢; omega
    | true =>
      simp only [unst] at h
      split at h
      · have := ih _ _ _ _ h; simp at this ⊢; omega
      · split at h
        · have := ih _ _ _ _ h; simp at this ⊢; omega
        · obtain ⟨rfl, _⟩ := Prod.mk.inj h; simp
theorem five_of {α : Type} (l : List α) (h : 5 ≤ l.length) : ∃ a b c d e m, l = a :: b :: c :: d :: e :: m := by
  match l, h with
  | a :: b :: c :: d :: e :: m, _ => exact ⟨a, b, c, d, e, m, rfl⟩
/-- Decode, of any bytes. -/
theorem DecodeC {A : Option Addr} {c n : Nat} {l : List Int} (hn : l.length = n) (hl : n ≤ 60000000000000) (hi : InB l) (w : World) (hT : Turns w) (h : RowOf c8 1 w w.heap.size A l) :
    Calls Tryd.prog 18 #[.slice A n c] w (DecPost l w) := by
  obtain ⟨z, f, hu⟩ : ∃ z f, unst false l [] = (z, f) := ⟨_, _, rfl⟩
  have hzl := unst_le l false [] z f hu
  simp only [List.length_nil, Nat.zero_add] at hzl
  by_cases hf : f = 0
  · subst hf
    by_cases hz : z.length < 7
    · exact DecodeShort hn (by omega) hu hz w h
    · cases hv : valid z with
      | false => exact DecodeSum hn (by omega) hi hu (by omega) (by omega) hv w hT h
      | true =>
        obtain ⟨b0, b1, b2, b3, b4, m, hown⟩ := five_of (z.take (z.length - 2)) (by rw [List.length_take]; omega)
        exact DecodeFin (k := z.length - 2) hn (by omega) hi hu (by omega) (by omega) hown (by omega) hv w hT h
  · exact DecodeErr hn (by omega) hu hf w h
end Go.Proofs.YtkihoonjekccgaaDoor.K
