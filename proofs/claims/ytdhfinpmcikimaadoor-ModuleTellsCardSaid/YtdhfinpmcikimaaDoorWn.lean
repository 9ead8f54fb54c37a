/- A Writer as the bytes that it holds: put, U8, U16, U32. -/
import Derived.Test.YtdhfinpmcikimaaDoorWp
import Derived.Laws.Shifts
namespace Go.Proofs.YtdhfinpmcikimaaDoor.K
open Go.RowKit
set_option linter.unusedVariables false
set_option linter.unusedSimpArgs false
/-- The Writer at b (its row is v) holds the bytes l. -/
def Wrt (b : Nat) (v : Value) (l : List Int) (w : World) : Prop := Buf b v (nums .u8 l) w
theorem nums_append (k : IntKind) (l m : List Int) : nums k (l ++ m) = nums k l ++ nums k m := by simp [nums]
theorem WriteByteC {b : Nat} {v : Value} {l : List Int} {c : Int} {w : World} (h : Wrt b v l w) (hlim : l.length + 1 ≤ 140737488355328) :
    Calls Tryd.prog 62 #[.pointer (some ⟨b, 0, none⟩), .int .u8 c] w fun e w' => e = .returned .nilIface ∧ ∃ v', Hid (Wrt b v' (l ++ [c]) w') ∧ Hid (WFr b v v' w w') :=
  (WriteByte_own h (one_nums _ _) (by rw [nums_length]; exact hlim)).mono fun e w' ⟨h1, v', h2, h3⟩ => ⟨h1, v', Lib.hid (by unfold Wrt; rw [nums_append]; exact h2.out), h3⟩
/-- What a part's row must be apart from, where a Writer is written. -/
def Away (b : Nat) (v : Value) (w : World) (A : Option Addr) : Prop := ∀ ad, A = some ad → ad.block < w.heap.size ∧ ad.block ≠ b ∧ v.ownBlock ≠ some ad.block
theorem Away.next {b : Nat} {v v' : Value} {w w' : World} {A : Option Addr} (h : Away b v w A) (k : WFr b v v' w w') : Away b v' w' A := fun ad e => by
  obtain ⟨h1, h2, h3⟩ := h ad e
  refine ⟨Nat.lt_of_lt_of_le h1 k.fr.size, h2, fun h4 => ?_⟩
  rcases k.row _ h4 with h5 | h5
  · exact h3 h5
  · omega
theorem WFr.row_of {α : Type} {c : α → List Value} {size B b : Nat} {v v' : Value} {w w' : World} {A : Option Addr} {l : List α} (k : WFr b v v' w w') (h : RowOf c size w B A l) (ha : Away b v w A) : RowOf c size w' B A l := by
  intro i x hx
  obtain ⟨ad, rfl, hb, hc⟩ := h i x hx
  obtain ⟨h1, h2, h3⟩ := ha ad rfl
  exact ⟨ad, rfl, hb, fun j u hu => by rw [k.fr.cell (by rw [block_of_add]; exact h1) (by rw [block_of_add]; intro h; rcases h with h | h; exact h2 h; exact h3 h)]; exact hc j u hu⟩
/-- An empty row may lie anywhere. -/
theorem WFr.row_of0 {α : Type} {c : α → List Value} {size B b : Nat} {v v' : Value} {w w' : World} {A : Option Addr} {l : List α} (k : WFr b v v' w w') (h : RowOf c size w B A l) (ha : 0 < l.length → Away b v w A) : RowOf c size w' B A l :=
  fun i x hx => k.row_of h (ha (by have := (List.getElem?_eq_some_iff.1 hx).1; omega)) i x hx
/-- The lowest bytes of a number, the highest first. -/
def be (n : Int) : Nat → List Int
  | 0 => []
  | k + 1 => n / 256 ^ k % 256 :: be n k
theorem be_length (n : Int) (k : Nat) : (be n k).length = k := by induction k with
  | zero => rfl
  | succ k ih => simp [be, ih]
theorem pow8 (r : Nat) : (256 : Int) ^ r = 2 ^ (8 * r) := by rw [Int.pow_mul]; rfl
theorem Wrt.drew {b : Nat} {v : Value} {l : List Int} {w : World} (h : Wrt b v l w) : Wrt b v l w.drew := h
theorem WFr.undrew {b : Nat} {v v' : Value} {w w' : World} (h : WFr b v v' w.drew w') : WFr b v v' w w' := ⟨⟨h.fr.os, h.fr.tape, h.fr.output, h.fr.size, h.fr.block⟩, h.row⟩
theorem wrt_cell {b : Nat} {v : Value} {l : List Int} {w : World} (h : Wrt b v l w) : ∃ u, w.cell? ⟨b, 0, none⟩ = some u := by
  obtain ⟨⟨lr, hb⟩, _⟩ := h
  exact ⟨_, hb.cell 0⟩
set_option maxHeartbeats 4000000 in
set_option maxRecDepth 10000 in
theorem put_own {b : Nat} {v : Value} {l : List Int} {n : Int} {size : Nat} {w : World} (h : Wrt b v l w) (hn0 : 0 ≤ n) (hn1 : n < 4294967296) (hs : size ≤ 4) (hlim : l.length + 4 ≤ 140737488355328) :
    Calls Tryd.prog 59 #[.pointer (some ⟨b, 0, none⟩), .int .u32 n, .int .i64 size] w fun e w' => e = .returned (.pointer (some ⟨b, 0, none⟩)) ∧ ∃ v', Hid (Wrt b v' (l ++ be n size) w') ∧ Hid (WFr b v v' w w') := by
  have H := Lib.hid h
  clear h
  go_enter Tryd.func59, Tryd.ntmps59
  go_wp2
  go_loopw [7] (fun at_ wr => ∃ (r : Nat) (acc : List Int) (v' : Value), at_ = .int .i64 ((r : Int) - 1) ∧ r ≤ size ∧ acc ++ be n r = be n size ∧ Wrt b v' (l ++ acc) wr ∧ WFr b v v' w wr) (fun a _ => (intOf a + 1).toNat)
  case atStart => exact ⟨size, [], v, rfl, by omega, rfl, by simpa using H.out, WFr.refl _ _ _⟩
  case round =>
    obtain ⟨r, acc, v1, rfl, hr, hbe, hw, hf⟩ := hrel
    have HW := Lib.hid hw
    have HF := Lib.hid hf
    have HBE := Lib.hid hbe
    clear hw hf hbe
    cases r with
    | zero =>
      go_wp2
      go_ret
      exact ⟨rfl, v1, Lib.hid (by have := HBE.out; simp [be] at this; rw [← this]; exact HW.out), HF⟩
    | succ r =>
      have hlen : acc.length + (r + 1) = size := by
        have := congrArg List.length HBE.out
        rwa [List.length_append, be_length, be_length] at this
      have HL : Hid ((l ++ acc).length + 1 ≤ 140737488355328) := Lib.hid (by rw [List.length_append]; omega)
      clear hlen
      have e1 : (((r + 1 : Nat) : Int) - 1) = (r : Int) := by omega
      rw [e1]
      have e2 : (8 : Int) * (r : Int) ≤ 24 := by omega
      have e3 : 0 ≤ (8 : Int) * (r : Int) := by omega
      have e4 : IntKind.i64.wrap (8 * (r : Int)) = 8 * (r : Int) := by rw [IntKind.wrap_i64]; omega
      have e5 : (8 : Int) * (r : Int) ≤ 32 := by omega
      go_wp2
      go_region_with (go_at_call 62; refine (WriteByteC HW.out.drew HL.out).mono ?_; rintro e w2 ⟨rfl, v2, H2, F2⟩)
      all_goals
        go_wp2
        go_roundw
        case rel =>
          refine ⟨r, acc ++ [n / 256 ^ r % 256], v2, rfl, by omega, by have := HBE.out; rw [← this]; simp [be], ?_, HF.out.trans F2.out.undrew⟩
          have e9 : IntKind.u8.wrap (n / 2 ^ (8 * (r : Int)).toNat) = n / 256 ^ r % 256 := by rw [pow8, show (8 * (r : Int)).toNat = 8 * r by omega]; rfl
          have := H2.out
          rw [e9, List.append_assoc] at this
          exact this
        case measure => simp [intOf]
set_option maxRecDepth 10000 in
theorem WU8_own {b : Nat} {v : Value} {l : List Int} {n : Int} {w : World} (h : Wrt b v l w) (hn0 : 0 ≤ n) (hn1 : n < 256) (hlim : l.length + 4 ≤ 140737488355328) :
    Calls Tryd.prog 45 #[.pointer (some ⟨b, 0, none⟩), .int .u8 n] w fun e w' => e = .returned (.pointer (some ⟨b, 0, none⟩)) ∧ ∃ v', Hid (Wrt b v' (l ++ be n 1) w') ∧ Hid (WFr b v v' w w') := by
  have H := Lib.hid h
  clear h
  go_enter Tryd.func45, Tryd.ntmps45
  go_wp2_with (go_at_call 59; refine (put_own (size := 1) H.out hn0 (by omega) (by omega) hlim).mono ?_; rintro e w1 ⟨rfl, v1, H1, F1⟩)
  go_ret
  exact ⟨rfl, v1, H1, F1⟩
set_option maxRecDepth 10000 in
theorem WU16_own {b : Nat} {v : Value} {l : List Int} {n : Int} {w : World} (h : Wrt b v l w) (hn0 : 0 ≤ n) (hn1 : n < 65536) (hlim : l.length + 4 ≤ 140737488355328) :
    Calls Tryd.prog 46 #[.pointer (some ⟨b, 0, none⟩), .int .u16 n] w fun e w' => e = .returned (.pointer (some ⟨b, 0, none⟩)) ∧ ∃ v', Hid (Wrt b v' (l ++ be n 2) w') ∧ Hid (WFr b v v' w w') := by
  have H := Lib.hid h
  clear h
  go_enter Tryd.func46, Tryd.ntmps46
  go_wp2_with (go_at_call 59; refine (put_own (size := 2) H.out hn0 (by omega) (by omega) hlim).mono ?_; rintro e w1 ⟨rfl, v1, H1, F1⟩)
  go_ret
  exact ⟨rfl, v1, H1, F1⟩
end Go.Proofs.YtdhfinpmcikimaaDoor.K
