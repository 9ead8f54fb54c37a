/- Append: what is handed in, and its sum. -/
import Derived.Test.YtkihoonjekccgaaDoorCs
import Derived.Test.YtkihoonjekccgaaDoorSh1
import Derived.Test.YtkihoonjekccgaaDoorPl
import Derived.Test.YtkihoonjekccgaaDoorSt
namespace Go.Proofs.YtkihoonjekccgaaDoor.K
open Go.RowKit
set_option linter.unusedVariables false
set_option linter.unusedSimpArgs false
theorem flat_one (A : Option Addr) (c : Nat) (l : List Int) : flat [(A, c, l)] = l := by simp [flat]
/-- One part, just laid as a row. -/
theorem row_one {w : World} {A : Option Addr} {c : Nat} {l : List Int} {g B : Nat} (hg : g = w.heap.size) (hB : g < B) : RowOf cP 1 (w.alloc (.cells #[.slice A l.length c] 32)) B (some ⟨g, 0, none⟩) [(A, c, l)] :=
  row_vals (t := 32) (f := fun p => .slice p.1 p.2.2.length p.2.1) (fun _ => rfl) (Blk.new_at hg) hB
theorem CTable1 {g pc : Nat} {A : Option Addr} {c : Nat} {l : List Int} {w : World} (hg : g = w.heap.size) (hT : Turns w) (h : RowOf c8 1 w w.heap.size A l) (hi : InB l) (hl : l.length ≤ 140737488355328) :
    Calls Tryd.prog 43 #[.slice (some ⟨g, 0, none⟩) 1 pc] (w.alloc (.cells #[.slice A l.length c] 32)) fun e w' => e = .returned (.int .u16 (crcN l)) ∧ w' = w.alloc (.cells #[.slice A l.length c] 32) := by
  have := CTableC (pc := pc) (B := w.heap.size + 1) (ps := [(A, c, l)]) (hT.fr0 ((Fr.refl (fun _ => False) w).alloc (.cells #[.slice A l.length c] 32))) (by simp) (row_one hg (by omega))
    (by
      intro p hp
      rw [List.mem_singleton] at hp
      subst hp
      exact ⟨(h.below ((Below.refl w.heap.size w).alloc (Nat.le_refl _) _)).more_ (by omega), hi, hl⟩)
  rw [flat_one] at this
  exact this
set_option maxHeartbeats 4000000 in
set_option maxRecDepth 10000 in
theorem CAppendC {A : Option Addr} {c : Nat} {l : List Int} {w : World} (hT : Turns w) (h : RowOf c8 1 w w.heap.size A l) (ha : ∀ ad, A = some ad → ad.block < w.heap.size) (hi : InB l) (hl : l.length + 4 ≤ 140737488355328) :
    Calls Tryd.prog 40 #[.slice A l.length c] w fun e w' => ∃ A' c', e = .returned (.slice A' (l.length + 2) c') ∧ Hid (Made w.heap.size A' c' (l ++ be (crcN l) 2) w') ∧ Hid (Fr0 w w') := by
  have HR := Lib.hid h
  have HA := Lib.hid ha
  have HI := Lib.hid hi
  have hlen2 : (l ++ be (crcN l) 2).length = l.length + 2 := by rw [List.length_append, be_length]
  have HL2 := Lib.hid hlen2
  clear h ha hi hlen2
  go_enter Tryd.func40, Tryd.ntmps40
  go_wp2_with fail
  refine (WBytes_own (v := .slice none 0 0) (l := []) (ps := [(A, c, l)]) (B := w.heap.size + 2) ?c0 ?c1 ?c2 ?c3 ?c4 ?c5 ?_).mono ?_
  case c0 => exact (wrt_new w).alloc _
  case c1 => rw [flat_one]; simp; omega
  case c2 => simp
  case c3 => exact row_one (by simp) (by omega)
  case c4 => simp
  case c5 => exact away_ge (n := w.heap.size + 1) (by omega) (by simp) (by omega) (fun j e => by simp [Value.ownBlock] at e)
  · intro p hp
    rw [List.mem_singleton] at hp
    subst hp
    refine ⟨(HR.out.below (((Below.refl w.heap.size w).alloc (Nat.le_refl _) _).alloc (by simp) _)).more_ (by omega), fun ad e => ?_⟩
    have := HA.out ad e
    exact ⟨by simp; omega, by omega, by simp [Value.ownBlock]⟩
  rintro e w1 ⟨rfl, v1, H1, F1⟩
  have b1 : Below w.heap.size w w1 := wfr_below (((Below.refl w.heap.size w).alloc (Nat.le_refl _) _).alloc (by simp) _) F1.out (Nat.le_refl _) (base_nil _) (Nat.le_refl _)
  have B1 := Lib.hid b1
  have V1 := Lib.hid (wfr_base F1.out (base_nil w.heap.size) (by simp; omega))
  have H1 : Hid (Wrt w.heap.size v1 l w1) := Lib.hid (H1.out.to (by rw [flat_one]; simp))
  have hs1 := b1.size
  have hT1 := hT.below b1 hT.lt
  have HLT1 := Lib.hid H1.out.lt
  clear F1 b1
  go_wp2_with fail
  refine (CTable1 rfl hT1 (HR.out.now B1.out) HI.out (by omega)).mono ?_
  rintro e w2 ⟨rfl, rfl⟩
  have hcb := crcN_bound l
  go_wp2_with fail
  refine (WU16_own (n := crcN l) (H1.out.alloc _) hcb.1 hcb.2 (by omega)).mono ?_
  rintro e w3 ⟨rfl, v3, H3, F3⟩
  have B3 := Lib.hid (wfr_below (B1.out.alloc hs1 _) F3.out (Nat.le_refl _) V1.out (Nat.le_refl _))
  clear F3 V1
  have hs3 := B3.out.size
  go_wp2_with fail
  refine (WDoneE HL2.out H3.out (by rw [HL2.out]; omega)).mono ?_
  rintro e w4 ⟨A4, c4, rfl, H4, F4⟩
  go_wp2
  go_ret
  exact ⟨A4, c4, rfl, Lib.hid (H4.out.low hs3), Lib.hid (Fr.of_below (fr0_below B3.out F4.out (Nat.le_refl _)))⟩
end Go.Proofs.YtkihoonjekccgaaDoor.K
