/- What the laws about frames share. -/
import Derived.Test.YtkihoonjekccgaaDoorF3
import Derived.WalkSpells
import Derived.Deep.QuietTactic
import Derived.BigQuiet
namespace Go.Proofs.YtkihoonjekccgaaDoor.K
open Go.RowKit
set_option linter.unusedVariables false
set_option linter.unusedSimpArgs false
attribute [local go_sem] min2_min min_two
/-- x[lo:hi]. -/
theorem bcut_lh (A : Option Addr) (n c lo hi : Nat) (h1 : lo ≤ hi) (h2 : hi ≤ c) (W : World) : (Instr.slice 32 (.slice A n c) (some (.int .i64 lo)) (some (.int .i64 hi)) none).run Tryd.prog W = .ok (.slice (if c = lo then A else A.map (·.add lo)) (hi - lo) (c - lo)) W := by
  obtain ⟨i, hi0, hi1⟩ := bytes_info
  have hel : Tryd.prog.elem 32 = 5 := by simp [Program.elem, Tryd.underlying32]
  have hu : Tryd.prog.underlying 32 = some (.slice (Tryd.prog.elem 32)) := by rw [hel]; exact Tryd.underlying32
  rw [run_slice_lh W 32 A n c hu .i64 .i64 lo hi (by omega) (by omega) (by omega), hel]
  by_cases hcn : c = lo
  · subst hcn
    cases A <;> simp [sizeOf, typeInfo, hi0, hi1, sliced, Result.andThen]
  · cases A <;> simp [sizeOf, typeInfo, hi0, hi1, sliced, Result.andThen, hcn]
theorem bcut_lh_lit (g n c lo hi : Nat) (h1 : lo ≤ hi) (h2 : hi ≤ c) (h3 : lo < c) (W : World) : (Instr.slice 32 (.slice (some ⟨g, 0, none⟩) n c) (some (.int .i64 lo)) (some (.int .i64 hi)) none).run Tryd.prog W = .ok (.slice (some ⟨g, lo, none⟩) (hi - lo) (c - lo)) W := by
  rw [bcut_lh _ n c lo hi h1 h2 W, if_neg (by omega)]
  simp [add_plain]
theorem bcut_lo_lit (g n c lo : Nat) (h1 : lo ≤ n) (h2 : n ≤ c) (h3 : lo < c) (hcm : c ≤ 9223372036854775807) (W : World) : (Instr.slice 32 (.slice (some ⟨g, 0, none⟩) n c) (some (.int .i64 lo)) none none).run Tryd.prog W = .ok (.slice (some ⟨g, lo, none⟩) (n - lo) (c - lo)) W := by
  rw [bcut_lo _ n c lo h1 h2 hcm W, if_neg (by omega)]
  simp [add_plain]
/-- A row of the call's own that is not empty: where it lies. -/
theorem Made.at0 {B c : Nat} {A : Option Addr} {l : List Int} {w : World} (h : Made B A c l w) (h0 : 0 < l.length) : ∃ g, A = some ⟨g, 0, none⟩ ∧ B ≤ g ∧ g < w.heap.size := by
  obtain ⟨g, cap, hv, hb, hlt⟩ := h.1.form h0
  have hA : A = some ⟨g, 0, none⟩ := by injection hv
  exact ⟨g, hA, hb, hlt⟩
theorem RowOf.cut_lit {w : World} {B g c : Nat} {l : List Int} (h : RowOf c8 1 w B (some ⟨g, 0, none⟩) l) (lo : Nat) (hc : l.length ≤ c) (h3 : lo < c) : RowOf c8 1 w B (some ⟨g, lo, none⟩) (l.drop lo) := by
  have := h.drop_ (cap := c) lo hc
  rw [if_neg (by omega)] at this
  simpa [add_plain] using this
/-- Decode, the frame as numbers. -/
theorem DecodeE {A : Option Addr} {c n nb : Nat} {l m : List Int} {a k s q x e : Int} (hd : decL l = (⟨a, k, s, q, x, m⟩, e)) (hm : m.length = nb) (hn : l.length = n) (hl : n ≤ 60000000000000) (hi : InB l) (w : World) (hT : Turns w) (h : RowOf c8 1 w w.heap.size A l) :
    Calls Tryd.prog 18 #[.slice A n c] w fun ee w' => ∃ A' c', ee = .returned (.tuple #[.agg #[.int .u8 a, .int .u8 k, .int .u8 s, .int .u8 q, .int .u8 x, .slice A' nb c'], .int .i64 e]) ∧ Hid (Made w.heap.size A' c' m w') ∧ Hid (Below w.heap.size w w') := by
  subst hm
  refine (DecodeC hn hl hi w hT h).mono ?_
  rintro ee w' ⟨A', c', h1, h2, h3⟩
  rw [hd] at h1 h2
  exact ⟨A', c', h1, h2, h3⟩
theorem EncodeE {A : Option Addr} {c n nb : Nat} {a k s q x : Int} {m L : List Int} (hf : (⟨a, k, s, q, x, m⟩ : Fp).ok) (hr : rightF ⟨a, k, s, q, x, m⟩ = true) (hL : encL ⟨a, k, s, q, x, m⟩ = L) (hn : m.length = nb) (hln : L.length = n) (w : World) (hT : Turns w) (hB : RowOf c8 1 w w.heap.size A m) (ha : ∀ ad, A = some ad → ad.block < w.heap.size) :
    Calls Tryd.prog 17 #[.agg #[.int .u8 a, .int .u8 k, .int .u8 s, .int .u8 q, .int .u8 x, .slice A nb c]] w fun e w' => ∃ A' c', e = .returned (.tuple #[.slice A' n c', .int .i64 0]) ∧ Hid (Made w.heap.size A' c' L w') ∧ Hid (Below w.heap.size w w') := by
  subst hL hn hln
  exact EncodeC ⟨a, k, s, q, x, m⟩ hf hr A c w hT hB
theorem EncodeN {A : Option Addr} {c nb : Nat} {a k s q x : Int} {m : List Int} (hr : rightF ⟨a, k, s, q, x, m⟩ = false) (hn : m.length = nb) (w : World) :
    Calls Tryd.prog 17 #[.agg #[.int .u8 a, .int .u8 k, .int .u8 s, .int .u8 q, .int .u8 x, .slice A nb c]] w fun e w' => e = .returned (.tuple #[.slice none 0 0, .int .i64 1]) ∧ Hid (Below w.heap.size w w') := by
  subst hn
  exact EncodeNo ⟨a, k, s, q, x, m⟩ hr A c w
theorem below_set {w w1 : World} (h : Below w.heap.size w w1) (g i : Nat) (v : Value) : Fr1 g w (w1.setCell ⟨g, i, none⟩ v) := ((Fr.of_below h).mono (S' := fun k => k = g) (fun _ _ h => h.elim)).setCell (fun _ => rfl) _
abbrev L13 : List Int := [126, 1, 2, 125, 94, 3, 2, 125, 93, 5, 203, 221, 126]
theorem encL13 : encL ⟨1, 2, 126, 1, 1, [125, 5]⟩ = L13 := of_decide_eq_true (by kernel_rfl)
theorem dec11 : decL [1, 2, 125, 94, 3, 2, 125, 93, 5, 203, 221] = (⟨1, 2, 126, 1, 1, [125, 5]⟩, 0) := by kernel_rfl
theorem dec12 : decL [1, 2, 125, 94, 3, 2, 125, 93, 5, 203, 221, 126] = (⟨0, 0, 0, 0, 0, []⟩, 3) := by kernel_rfl
theorem dec0 : decL [] = (⟨0, 0, 0, 0, 0, []⟩, 2) := by kernel_rfl
end Go.Proofs.YtkihoonjekccgaaDoor.K
