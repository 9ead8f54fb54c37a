/- A Writer of the call's own, beside blocks that stay. -/
import Derived.Test.YtdhfinpmcikimaaDoorSm
import Derived.Test.YtdhfinpmcikimaaDoorSt
import Derived.Test.YtdhfinpmcikimaaDoorSh1
namespace Go.Proofs.YtdhfinpmcikimaaDoor.K
open Go.RowKit
set_option linter.unusedVariables false
set_option linter.unusedSimpArgs false
/-- Blocks that are known whole, and are neither Writers nor bytes. -/
abbrev Kept := List (Nat × TypeId × Array Value)
def Keeps (K : Kept) (w : World) : Prop := ∀ q ∈ K, q.2.1 ≠ 5 ∧ q.2.1 ≠ 107 ∧ Blk w q.1 q.2.1 q.2.2
/-- A Writer at b (made in world w1 just there) holds m, beside blocks that stay. -/
structure WS (K : Kept) (w1 : World) (b : Nat) (v : Value) (m : List Int) (wr : World) : Prop where
  hw : Wrt b v m wr
  base : ∀ j, v.ownBlock = some j → w1.heap.size ≤ j
  hb : Below w1.heap.size w1 wr
  hs : w1.heap.size ≤ b
  keep : Keeps K wr
theorem Keeps.fr {K : Kept} {w w' : World} {b : Nat} {v v' : Value} {m : List Int} (h : Keeps K w) (hw : Wrt b v m w) (k : WFr b v v' w w') : Keeps K w' := fun q hq => by
  obtain ⟨h1, h2, h3⟩ := h q hq
  refine ⟨h1, h2, h3.fr k.fr (fun e => ?_)⟩
  rcases e with e | e
  · obtain ⟨⟨lr, hb⟩, _⟩ := hw
    exact Blk.ne_ h3 hb h2 e
  · exact own_blk_ne hw.2.1 h3 (fun e => h1 e.symm) e
theorem Keeps.same {K : Kept} {w w' : World} (h : Keeps K w) (k : Same w w') : Keeps K w' := fun q hq => by
  obtain ⟨h1, h2, h3⟩ := h q hq
  exact ⟨h1, h2, by unfold Blk; rw [k.heap]; exact h3⟩
theorem WS.step {K : Kept} {w1 wr w' : World} {b : Nat} {v v' : Value} {m m' : List Int} (h : WS K w1 b v m wr) (H1 : Wrt b v' m' w') (H2 : WFr b v v' wr w') : WS K w1 b v' m' w' :=
  ⟨H1, wfr_base H2 h.base h.hb.size, wfr_below h.hb H2 h.hs h.base (Nat.le_refl _), h.hs, h.keep.fr h.hw H2⟩
theorem WS.same {K : Kept} {w1 wr w' : World} {b : Nat} {v : Value} {m : List Int} (h : WS K w1 b v m wr) (k : Same wr w') : WS K w1 b v m w' :=
  ⟨h.hw.fr k.fr0 (fun h => h) (fun _ _ h => h), h.base, (h.hb.trans (Below.refl _ _)).trans (k.below (Below.refl _ _)), h.hs, h.keep.same k⟩
theorem WS.tail {q : Nat × TypeId × Array Value} {K : Kept} {w1 wr : World} {b : Nat} {v : Value} {m : List Int} (h : WS (q :: K) w1 b v m wr) : WS K w1 b v m wr := ⟨h.hw, h.base, h.hb, h.hs, fun p hp => h.keep p (List.mem_cons_of_mem _ hp)⟩
section
variable {K : Kept} {w1 wr wq : World} {b : Nat} {v : Value} {m m' : List Int} {n : Int}
theorem WS.u8 (hs : Same wr wq) (h : WS K w1 b v m wr) (hn0 : 0 ≤ n) (hn1 : n < 256) (hm : m ++ be n 1 = m') (hlim : m.length + 4 ≤ 140737488355328) :
    Calls Tryd.prog 45 #[.pointer (some ⟨b, 0, none⟩), .int .u8 n] wq fun e w' => e = .returned (.pointer (some ⟨b, 0, none⟩)) ∧ ∃ v', Hid (WS K w1 b v' m' w') := by
  subst hm
  refine (WU8_own (h.same hs).hw hn0 hn1 hlim).mono ?_
  rintro e w' ⟨rfl, v', H1, H2⟩
  exact ⟨rfl, v', Lib.hid ((h.same hs).step H1.out H2.out)⟩
theorem WS.u16 (hs : Same wr wq) (h : WS K w1 b v m wr) (hn0 : 0 ≤ n) (hn1 : n < 65536) (hm : m ++ be n 2 = m') (hlim : m.length + 4 ≤ 140737488355328) :
    Calls Tryd.prog 46 #[.pointer (some ⟨b, 0, none⟩), .int .u16 n] wq fun e w' => e = .returned (.pointer (some ⟨b, 0, none⟩)) ∧ ∃ v', Hid (WS K w1 b v' m' w') := by
  subst hm
  refine (WU16_own (h.same hs).hw hn0 hn1 hlim).mono ?_
  rintro e w' ⟨rfl, v', H1, H2⟩
  exact ⟨rfl, v', Lib.hid ((h.same hs).step H1.out H2.out)⟩
end
end Go.Proofs.YtdhfinpmcikimaaDoor.K
