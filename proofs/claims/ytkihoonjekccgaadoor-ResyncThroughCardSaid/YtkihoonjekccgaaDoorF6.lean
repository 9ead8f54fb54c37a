/- few: a frame with at most fifty bytes, its own. -/
import Derived.Test.YtkihoonjekccgaaDoorF4
import Derived.Test.YtkihoonjekccgaaDoorF5
namespace Go.Proofs.YtkihoonjekccgaaDoor.K
open Go.RowKit
set_option linter.unusedVariables false
set_option linter.unusedSimpArgs false
attribute [local go_sem] min2_min min_two
/-- The frame that few tells. -/
abbrev fewF (f : Fp) : Fp := ⟨f.addr, f.kind, f.ses, f.seq, f.ack, f.B.take 50⟩
theorem own_lit2 (w : World) (o1 o2 : Obj) : (((w.alloc o1).alloc o2).alloc (.cells #[] 5)).ownsRow (w.heap.size + 2) 5 1 (.slice (some ⟨w.heap.size + 1 + 1, 0, none⟩) 0 0) 0 [] := by
  have := World.ownsRow_lit (base := w.heap.size + 2) (e := 5) (size := 1) ((w.alloc o1).alloc o2) #[] 0 (by simp) (by decide) rfl
  simpa using this
/-- Encode, right or not. -/
def encA (f : Fp) : List Int × Int := if rightF f then (encL f, 0) else ([], 1)
theorem EncodeAny {A : Option Addr} {c n nb : Nat} {a k s q x e : Int} {m L : List Int} (hf : (⟨a, k, s, q, x, m⟩ : Fp).ok) (hL : encA ⟨a, k, s, q, x, m⟩ = (L, e)) (hn : m.length = nb) (hln : L.length = n) (w : World) (hT : Turns w) (hB : RowOf c8 1 w w.heap.size A m) (ha : ∀ ad, A = some ad → ad.block < w.heap.size) :
    Calls Tryd.prog 17 #[.agg #[.int .u8 a, .int .u8 k, .int .u8 s, .int .u8 q, .int .u8 x, .slice A nb c]] w fun ee w' => ∃ A' c', ee = .returned (.tuple #[.slice A' n c', .int .i64 e]) ∧ Hid (Made w.heap.size A' c' L w') ∧ Hid (Below w.heap.size w w') := by
  cases hr : rightF ⟨a, k, s, q, x, m⟩ with
  | true =>
    simp only [encA, hr, if_true, Prod.mk.injEq] at hL
    obtain ⟨h1, rfl⟩ := hL
    exact EncodeE hf hr h1 hn hln w hT hB ha
  | false =>
    have hL2 : (([], 1) : List Int × Int) = (L, e) := by rw [← hL]; unfold encA; rw [hr]; rfl
    obtain ⟨rfl, rfl⟩ := Prod.mk.inj hL2
    subst hln
    refine (EncodeN hr hn w).mono ?_
    rintro ee w' ⟨rfl, H⟩
    exact ⟨none, 0, rfl, Lib.hid (made_nil _ _), H⟩
theorem EncodeW {A : Option Addr} {c n nb : Nat} {a k s q x e : Int} {m L : List Int} (hf : (⟨a, k, s, q, x, m⟩ : Fp).ok) (hL : encA ⟨a, k, s, q, x, m⟩ = (L, e)) (hn : m.length = nb) (hln : L.length = n) (w : World) (hT : Turns w) (hB : RowOf c8 1 w w.heap.size A m) :
    Calls Tryd.prog 17 #[.agg #[.int .u8 a, .int .u8 k, .int .u8 s, .int .u8 q, .int .u8 x, .slice A nb c]] w fun ee w' => ∃ A' c', ee = .returned (.tuple #[.slice A' n c', .int .i64 e]) ∧ Hid (Made w.heap.size A' c' L w') ∧ Hid (Below w.heap.size w w') := by
  cases hr : rightF ⟨a, k, s, q, x, m⟩ with
  | true =>
    simp only [encA, hr, if_true, Prod.mk.injEq] at hL
    obtain ⟨rfl, rfl⟩ := hL
    subst hn hln
    exact EncodeC ⟨a, k, s, q, x, m⟩ hf hr A c w hT hB
  | false =>
    have hL2 : (([], 1) : List Int × Int) = (L, e) := by rw [← hL]; unfold encA; rw [hr]; rfl
    obtain ⟨rfl, rfl⟩ := Prod.mk.inj hL2
    subst hln
    refine (EncodeN hr hn w).mono ?_
    rintro ee w' ⟨rfl, H⟩
    exact ⟨none, 0, rfl, Lib.hid (made_nil _ _), H⟩
/-- A row of the call's own: one byte of it, and the row behind a store there. -/
theorem own_put4 {base : Nat} {e : TypeId} {w : World} {A : Option Addr} {n c : Nat} {xs : List Value} {i : Nat} (h : w.ownsRow base e 1 (.slice A n c) n xs) (hi : i < n) :
    ∃ g x, A = some ⟨g, 0, none⟩ ∧ base ≤ g ∧ g < w.heap.size ∧ w.cell? ⟨g, i, none⟩ = some x ∧ w.frozen? ⟨g, i, none⟩ = false ∧ ∀ u, (w.setCell ⟨g, i, none⟩ u).ownsRow base e 1 (.slice (some ⟨g, 0, none⟩) n c) n (xs.set i u) := by
  obtain ⟨g, cap, hv, hb, hlt⟩ := h.form (by omega)
  have hA : A = some ⟨g, 0, none⟩ := by injection hv
  subst hA
  have hl : i < xs.length := by have := h.1; omega
  exact ⟨g, xs[i], rfl, hb, hlt, (h.cellAt i (by omega)).trans (List.getElem?_eq_getElem hl), h.frozenAt i, fun u => (h.stored i u).1⟩
theorem ok_few {f : Fp} (h : f.ok) : (fewF f).ok := ⟨h.a, h.k, h.s, h.q, h.x, h.b.take_ 50⟩
end Go.Proofs.YtkihoonjekccgaaDoor.K
