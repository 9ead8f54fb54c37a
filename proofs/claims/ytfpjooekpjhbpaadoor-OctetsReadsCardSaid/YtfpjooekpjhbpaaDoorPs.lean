/- Rows of parts that are only read. -/
import Derived.Test.YtfpjooekpjhbpaaDoorOLater
namespace Go.Proofs.YtfpjooekpjhbpaaDoor.K
open Go.RowKit
set_option linter.unusedVariables false
set_option linter.unusedSimpArgs false
/-- Parts that lie from block B on, below U. -/
structure Ps (B U : Nat) (Q : Option Addr) (ps : List Part) (w : World) : Prop where
  row : RowOf cP 1 w U Q ps
  at_ : ∀ ad, Q = some ad → B ≤ ad.block ∧ ad.block < U
  each : ∀ p ∈ ps, RowOf c8 1 w U p.1 p.2.2 ∧ ∀ ad, p.1 = some ad → B ≤ ad.block ∧ ad.block < U
theorem Own5.ps {B : Nat} {v : Value} {ps : List Part} {w : World} (h : Own5 B v ps w) : ∃ Q c, v = .slice Q ps.length c ∧ ps.length ≤ c ∧ Ps B w.heap.size Q ps w := by
  obtain ⟨Q, c, rfl, h1, h2, h3, h4⟩ := h.open
  exact ⟨Q, c, rfl, h1, h2, h3, h4⟩
section
variable {B U : Nat} {Q : Option Addr} {ps : List Part} {w w' : World} {S : Nat → Prop}
theorem Ps.fr (h : Ps B U Q ps w) (k : Fr S w w') (hU : U ≤ w.heap.size) (hS : ∀ j, B ≤ j → j < U → ¬ S j) : Ps B U Q ps w' :=
  ⟨row_fr h.row k (fun ad e => by have := h.at_ ad e; exact ⟨by omega, hS _ this.1 this.2⟩), h.at_, fun p hp => by
    obtain ⟨h1, h2⟩ := h.each p hp
    exact ⟨row_fr h1 k (fun ad e => by have := h2 ad e; exact ⟨by omega, hS _ this.1 this.2⟩), h2⟩⟩
theorem Ps.fr0 (h : Ps B U Q ps w) (k : Fr0 w w') (hU : U ≤ w.heap.size) : Ps B U Q ps w' := h.fr k hU (fun _ _ _ h => h)
theorem Ps.drew (h : Ps B U Q ps w) : Ps B U Q ps w.drew := ⟨h.row, h.at_, h.each⟩
theorem Ps.take_ (h : Ps B U Q ps w) (n : Nat) : Ps B U Q (ps.take n) w := ⟨h.row.take_ n, h.at_, fun p hp => h.each p (List.mem_of_mem_take hp)⟩
theorem Ps.drop_ {cap : Nat} (h : Ps B U Q ps w) (n : Nat) (hc : ps.length ≤ cap) : Ps B U (if cap = n then Q else Q.map (·.add n)) (ps.drop n) w :=
  ⟨h.row.drop_ n hc, fun ad e => by
    split at e
    · exact h.at_ ad e
    · cases hq : Q with
      | none => rw [hq] at e; cases e
      | some a =>
        rw [hq] at e
        injection e with e
        subst e
        have := h.at_ a hq
        rwa [block_of_add], fun p hp => h.each p (List.mem_of_mem_drop hp)⟩
theorem PsJoin {n c : Nat} (hn : ps.length = n) (h : Ps B U Q ps w) (hU : U ≤ w.heap.size) (hlim : (flat ps).length ≤ 140737488355328) (hps : ps.length ≤ 140737488355328) :
    Calls Tryd.prog 13 #[.slice Q n c] w fun e w' => ∃ A' c', e = .returned (.slice A' (flat ps).length c') ∧ Hid (Made w.heap.size A' c' (flat ps) w') ∧ Hid (Fr0 w w') := by
  subst hn
  exact JoinC hlim hps (h.row.more_ hU) (fun ad e => by have := h.at_ ad e; omega) (fun p hp => ⟨((h.each p hp).1).more_ hU, fun ad e => by have := (h.each p hp).2 ad e; omega⟩)
theorem PsBytes {b n c : Nat} {v : Value} {l : List Int} (hn : ps.length = n) (hw : Wrt b v l w) (h : Ps B U Q ps w) (hU : U ≤ w.heap.size) (hb : b < B ∨ U ≤ b) (hv : ∀ j, v.ownBlock = some j → j < B ∨ U ≤ j) (hlim : l.length + (flat ps).length ≤ 140737488355328) (hps : ps.length ≤ 140737488355328) :
    Calls Tryd.prog 14 #[.pointer (some ⟨b, 0, none⟩), .slice Q n c] w fun e w' => e = .returned (.pointer (some ⟨b, 0, none⟩)) ∧ ∃ v', Hid (Wrt b v' (l ++ flat ps) w') ∧ Hid (WFr b v v' w w') := by
  subst hn
  have aw : ∀ A : Option Addr, (∀ ad, A = some ad → B ≤ ad.block ∧ ad.block < U) → Away b v w A := fun A h ad e => by
    have := h ad e
    exact ⟨by omega, by omega, fun e2 => by have := hv _ e2; omega⟩
  exact WBytes_own hw hlim hps (h.row) hU (aw _ h.at_) (fun p hp => ⟨(h.each p hp).1, aw _ (h.each p hp).2⟩)
end
theorem bytess_info : ∃ i, Tryd.prog.info? 26 = some i ∧ i.size = 1 := by
  obtain ⟨i, h1, _, h2, _⟩ := info_parts info_bytes
  exact ⟨i, h1, h2⟩
theorem ycut_hi (A : Option Addr) (n c k : Nat) (hc : k ≤ c) (W : World) : (Instr.slice 22 (.slice A n c) none (some (.int .i64 k)) none).run Tryd.prog W = .ok (.slice A k c) W := by
  obtain ⟨i, h1, _⟩ := bytess_info
  exact cut_hi Tryd.underlying22 h1 A n c k hc W
theorem ycut_lo (A : Option Addr) (n c k : Nat) (hk : k ≤ n) (hc : n ≤ c) (hcm : c ≤ 9223372036854775807) (W : World) : (Instr.slice 22 (.slice A n c) (some (.int .i64 k)) none none).run Tryd.prog W = .ok (.slice (if c = k then A else A.map (·.add k)) (n - k) (c - k)) W := by
  obtain ⟨i, h1, h2⟩ := bytess_info
  exact cut_lo Tryd.underlying22 h1 h2 A n c k hk hc hcm W
/-- A row of the call's own: one byte of it, and the row behind a store there. -/
theorem own_put {base : Nat} {e : TypeId} {w : World} {A : Option Addr} {n c : Nat} {xs : List Value} {i : Nat} (h : w.ownsRow base e 1 (.slice A n c) n xs) (hi : i < n) :
    ∃ g x, A = some ⟨g, 0, none⟩ ∧ base ≤ g ∧ g < w.heap.size ∧ w.cell? ⟨g, i, none⟩ = some x ∧ w.frozen? ⟨g, i, none⟩ = false ∧ ∀ u, (w.setCell ⟨g, i, none⟩ u).ownsRow base e 1 (.slice (some ⟨g, 0, none⟩) n c) n (xs.set i u) := by
  obtain ⟨g, cap, hv, hb, hlt⟩ := h.form (by omega)
  have hA : A = some ⟨g, 0, none⟩ := by injection hv
  subst hA
  have hl : i < xs.length := by have := h.1; omega
  exact ⟨g, xs[i], rfl, hb, hlt, (h.cellAt i (by omega)).trans (List.getElem?_eq_getElem hl), h.frozenAt i, fun u => (h.stored i u).1⟩
theorem flat_split (ps : List Part) (n : Nat) : flat (ps.take n) ++ flat (ps.drop n) = flat ps := by rw [← flat_app, List.take_append_drop]
theorem flat_take_le (ps : List Part) (n : Nat) : (flat (ps.take n)).length ≤ (flat ps).length := by rw [← flat_split ps n, List.length_append]; omega
theorem flat_drop_le (ps : List Part) (n : Nat) : (flat (ps.drop n)).length ≤ (flat ps).length := by rw [← flat_split ps n, List.length_append]; omega
theorem Made.ps {B c : Nat} {A : Option Addr} {l : List Int} {w : World} (h : Made B A c l w) : RowOf c8 1 w w.heap.size A l ∧ ∀ ad, A = some ad → B ≤ ad.block ∧ ad.block < w.heap.size := ⟨h.2.1, made_lt h⟩
end Go.Proofs.YtfpjooekpjhbpaaDoor.K
