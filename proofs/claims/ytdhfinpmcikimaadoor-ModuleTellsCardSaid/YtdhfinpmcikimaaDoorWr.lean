/- (*bytes.Buffer).WriteByte and Write, with what they leave alone. -/
import Derived.Test.YtdhfinpmcikimaaDoorBuf2
namespace Go.Proofs.YtdhfinpmcikimaaDoor.K
open Go.RowKit
set_option linter.unusedVariables false
set_option linter.unusedSimpArgs false
/-- What may turn where a buffer at b, whose row is v, is written; where its row lies then. -/
structure WFr (b : Nat) (v v' : Value) (w w' : World) : Prop where
  fr : Fr (fun k => k = b ∨ v.ownBlock = some k) w w'
  row : ∀ k, v'.ownBlock = some k → v.ownBlock = some k ∨ w.heap.size ≤ k
theorem WFr.refl (b : Nat) (v : Value) (w : World) : WFr b v v w w := ⟨Fr.refl _ _, fun k h => .inl h⟩
theorem WFr.trans {b : Nat} {v v1 v2 : Value} {w w1 w2 : World} (h : WFr b v v1 w w1) (k : WFr b v1 v2 w1 w2) : WFr b v v2 w w2 :=
  ⟨h.fr.trans k.fr (fun j hj hs => by
      rcases hs with hs | hs
      · exact .inl hs
      · rcases h.row j hs with h' | h'
        · exact .inr h'
        · omega),
   fun j hj => by
      rcases k.row j hj with h' | h'
      · exact h.row j h'
      · exact .inr (Nat.le_trans h.fr.size h')⟩
/-- The buffer has been given room for n more. -/
def Ready (b : Nat) (v : Value) (bs : List Value) (n : Nat) (w w' : World) : Prop :=
  ∃ k cap cells lr, Blk w' b 107 #[.slice (some ⟨k, 0, none⟩) (bs.length + n) cap, .int .i64 0, .int .i8 lr] ∧ Blk w' k 5 cells ∧ cells.size = cap ∧ cap ≤ maxLen ∧ bs.length + n ≤ cap ∧ cells.toList.take bs.length = bs ∧ k ≠ b ∧
    (v.ownBlock = some k ∨ w.heap.size ≤ k) ∧ Fr (fun k => k = b ∨ v.ownBlock = some k) w w'
theorem own_cases {w : World} {v : Value} {bs : List Value} (h : w.ownsRow 0 5 1 v bs.length bs) : (v = .slice none 0 0 ∧ bs = []) ∨ ∃ g cap cur, v = .slice (some ⟨g, 0, none⟩) bs.length cap ∧ Blk w g 5 cur ∧ bs.length ≤ cap ∧ cap ≤ maxLen ∧ cur.size = cap ∧ cur.toList.take bs.length = bs := by
  rcases h.2 with ⟨rfl, h0⟩ | ⟨g, cap, cur, rfl, _, hg, hnc, hcm, hcs, htk⟩
  · exact .inl ⟨rfl, List.eq_nil_of_length_eq_zero h0⟩
  · exact .inr ⟨g, cap, cur, rfl, hg, hnc, hcm, by simpa using hcs, by simpa using htk⟩
/-- Behind tryGrowByReslice and, where it says no, grow. -/
theorem ready_room {b g l cap n : Nat} {lr : Int} {cur : Array Value} {w : World} (hb : Blk w b 107 #[.slice (some ⟨g, 0, none⟩) l cap, .int .i64 0, .int .i8 lr]) (hg : Blk w g 5 cur) (hcs : cur.size = cap) (hcm : cap ≤ maxLen) (hl : l ≤ cap) (hn : n ≤ cap - l) (hgb : g ≠ b) :
    Ready b (.slice (some ⟨g, 0, none⟩) l cap) (cur.toList.take l) n w (w.setCell ⟨b, 0, none⟩ (.slice (some ⟨g, 0, none⟩) (l + n) cap)) := by
  have hlen : (cur.toList.take l).length = l := by rw [List.length_take, Array.length_toList]; omega
  refine ⟨g, cap, cur, lr, ?_, hg.far hgb _, hcs, hcm, by rw [hlen]; omega, by rw [hlen], hgb, .inl (by simp [Value.ownBlock]), (Fr.refl _ w).setCell (fun _ => .inl rfl) _⟩
  rw [hlen]
  have := hb.set_ 0 (.slice (some ⟨g, 0, none⟩) (l + n) cap)
  simpa using this
theorem ready_grown {b : Nat} {v : Value} {bs : List Value} {n : Nat} {w w' : World} {e : Ending} (h : GrowPost b bs n w e w') (hlt : b < w.heap.size) : Ready b v bs n w w' := by
  obtain ⟨_, k, cap, cells, hk, ⟨lr, hb⟩, hg, hcs, hcm, hl, ht, hf⟩ := h
  exact ⟨k, cap, cells, lr, hb, hg, hcs, hcm, hl, ht, by omega, .inr hk, hf.mono (fun j _ e => .inl e)⟩
end Go.Proofs.YtdhfinpmcikimaaDoor.K
