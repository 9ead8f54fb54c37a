/- Steps: how they lie in memory; two sets of buttons side by side. -/
import Derived.Test.YtccehjcfphimgaaShort
import Derived.Test.YtccehjcfphimgaaOpen
import Derived.OpenShut
namespace Go.Proofs.Ytccehjcfphimgaa
open Go.RowKit
set_option linter.unusedVariables false
set_option linter.unusedSimpArgs false

structure Stp where
  kind : Int
  btn : Int
  down : Bool
  now : Int
def Stp.c (s : Stp) : List Value := [.int .i64 s.kind, .int .i64 s.btn, .bool s.down, .int .i64 s.now]
theorem add_field (ad : Addr) (m j : Nat) (hj : 0 < j) : ad.add (m + j) = ⟨(ad.add m).block, (ad.add m).off + j, none⟩ := by
  unfold Addr.add
  by_cases hm : m = 0
  · subst hm
    rw [if_neg (by omega), if_pos rfl]
    simp
  · rw [if_neg (by omega), if_neg hm]
    simp [Nat.add_assoc]
theorem stp_at {w : World} {B : Nat} {A : Option Addr} {l : List Stp} (h : RowOf Stp.c 4 w B A l) {i : Nat} (hi : i < l.length) :
    ∃ ad, A = some ad ∧ ad.block < B ∧ w.cell? (ad.add (i * 4)) = some (.int .i64 (l[i]).kind) ∧ w.cell? ⟨(ad.add (i * 4)).block, (ad.add (i * 4)).off + 1, none⟩ = some (.int .i64 (l[i]).btn) ∧
      w.cell? ⟨(ad.add (i * 4)).block, (ad.add (i * 4)).off + 2, none⟩ = some (.bool (l[i]).down) ∧ w.cell? ⟨(ad.add (i * 4)).block, (ad.add (i * 4)).off + 3, none⟩ = some (.int .i64 (l[i]).now) := by
  obtain ⟨ad, rfl, hb, hc⟩ := h i (l[i]) (List.getElem?_eq_getElem hi)
  have k1 := hc 1 _ rfl
  have k2 := hc 2 _ rfl
  have k3 := hc 3 _ rfl
  rw [add_field ad (i * 4) _ (by omega)] at k1 k2 k3
  exact ⟨ad, rfl, hb, hc 0 _ rfl, k1, k2, k3⟩
/-- The same in a later world. -/
theorem stp_later {w w' : World} {B : Nat} {A : Option Addr} {l : List Stp} (h : RowOf Stp.c 4 w B A l) (hb : Below B w w') {i : Nat} (hi : i < l.length) :
    ∃ ad, A = some ad ∧ ad.block < B ∧ w'.cell? (ad.add (i * 4)) = some (.int .i64 (l[i]).kind) ∧ w'.cell? ⟨(ad.add (i * 4)).block, (ad.add (i * 4)).off + 1, none⟩ = some (.int .i64 (l[i]).btn) ∧
      w'.cell? ⟨(ad.add (i * 4)).block, (ad.add (i * 4)).off + 2, none⟩ = some (.bool (l[i]).down) ∧ w'.cell? ⟨(ad.add (i * 4)).block, (ad.add (i * 4)).off + 3, none⟩ = some (.int .i64 (l[i]).now) :=
  stp_at (h.below hb) hi
theorem dec_stp {H : Type} {enc : TypeId × Value → H} {w : World} {base : Nat} {spare : Nat → Bool} {held : Bool} :
    Dec enc Try.prog w base spare held 35 Stp.c (fun s => I64 s.now) := fun n cs y h => by
  obtain ⟨v0, v1, v2, v3, y0, y1, y2, y3, m, rfl, h0, h1, h2, h3⟩ := trod_fields4 Try.underlying35 (by kernel_rfl) (by kernel_rfl) h
  obtain ⟨k, e0, _, _⟩ := DataW.trod_int Try.underlying3 h0
  obtain ⟨b, e1, _, _⟩ := DataW.trod_int Try.underlying3 h1
  obtain ⟨d, e2, _⟩ := DataW.trod_bool Try.underlying4 h2
  obtain ⟨q, e3, _, wq⟩ := DataW.trod_int Try.underlying3 h3
  simp only [List.cons.injEq, and_true] at e0 e1 e2 e3
  subst e0 e1 e2 e3
  have := bounds_i64 wq
  exact ⟨⟨k, b, d, q⟩, rfl, show I64 q by unfold I64; omega⟩
theorem kind_cases (k : Int) : k = 1 ∨ k = 2 ∨ k = 3 ∨ k = 4 ∨ k = 5 ∨ k = 6 ∨ ((k == 1) = false ∧ (k == 2) = false ∧ (k == 3) = false ∧ (k == 4) = false ∧ (k == 5) = false ∧ (k == 6) = false) := by
  simp only [beq_eq_false_iff_ne]; omega
section
variable {w0 w w' : World} {g g' : Nat} {s s' : BS}
theorem Own.alloc (h : Own w0 w g s) (o : Obj) : Own w0 (w.alloc o) g s := h.other0 ((Fr.refl _ w).alloc o)
theorem Own.drewN (h : Own w0 w g s) (n : Nat) : Own w0 (w.drewN n) g s := ⟨h.blk.drewN n, h.wf, h.base, h.fr.drewN n⟩
theorem Own.beside (h : Own w0 w g s) (h' : Own w0 w g' s') (hf : Fr1 g' w w') (hn : g ≠ g') : Own w0 w' g s := h.other hf hn (fun j e => by subst e; exact h'.base)
theorem Own.new2 {w w1 : World} (h : Fr0 w w1) : Own w ((w1.alloc (.cells (enc z4) 29)).alloc (.cells (enc z4) 29)) w1.heap.size z4 ∧ Own w ((w1.alloc (.cells (enc z4) 29)).alloc (.cells (enc z4) 29)) (w1.heap.size + 1) z4 := by
  refine ⟨(Own.new' h).alloc _, ?_⟩
  have := Own.new' (w1 := w1.alloc (.cells (enc z4) 29)) (h.alloc _)
  simpa using this
end
end Go.Proofs.Ytccehjcfphimgaa
