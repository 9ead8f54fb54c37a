/- Valid: the last two bytes are the sum of those ahead. -/
import Derived.Test.YtkihoonjekccgaaDoorCa
namespace Go.Proofs.YtkihoonjekccgaaDoor.K
open Go.RowKit
set_option linter.unusedVariables false
set_option linter.unusedSimpArgs false
/-- Bytes with their sum. -/
def valid (l : List Int) : Bool := decide (2 ≤ l.length ∧ num (l.drop (l.length - 2)) = crcN (l.take (l.length - 2)))
set_option maxHeartbeats 4000000 in
set_option maxRecDepth 10000 in
theorem CValidC {A : Option Addr} {c : Nat} {l : List Int} {w : World} (hT : Turns w) (h : RowOf c8 1 w w.heap.size A l) (hi : InB l) (hl : l.length ≤ 140737488355328) (hc : l.length ≤ c) (hcm : c ≤ 9223372036854775807) :
    Calls Tryd.prog 27 #[.slice A l.length c] w fun e w' => e = .returned (.bool (valid l)) ∧ Hid (Below w.heap.size w w') := by
  have HR := Lib.hid h
  have HI := Lib.hid hi
  by_cases h2 : 2 ≤ l.length
  · obtain ⟨n, hn⟩ : ∃ n, l.length = n + 2 := ⟨l.length - 2, by omega⟩
    have hv : valid l = (num (l.drop n) == crcN (l.take n)) := by
      unfold valid
      rw [hn, show n + 2 - 2 = n by omega]
      rw [Bool.eq_iff_iff]
      simp
    have hql : (l.drop n).length = 2 := by rw [List.length_drop]; omega
    have hpl : (l.take n).length = n := by rw [List.length_take]; omega
    have HQ := Lib.hid (h.drop_ (cap := c) n hc)
    have HP := Lib.hid (h.take_ n)
    have HQI : Hid (InB (l.drop n)) := Lib.hid (fun x hx => HI.out x (List.mem_of_mem_drop hx))
    have HPI : Hid (InB (l.take n)) := Lib.hid (fun x hx => HI.out x (List.mem_of_mem_take hx))
    have lo : ∀ W, (Instr.slice 32 (.slice A (n + 2) c) (some (.int .i64 n)) none none).run Tryd.prog W = .ok (.slice (if c = n then A else A.map (·.add n)) 2 (c - n)) W := fun W => by
      have := bcut_lo A (n + 2) c n (by omega) (by omega) hcm W
      rwa [show n + 2 - n = 2 by omega] at this
    have hI := fun W => bcut_hi A (n + 2) c n (by omega) W
    rw [hv]
    rw [hn] at hl hc h2 ⊢
    generalize l.drop n = q at *
    generalize l.take n = p at *
    generalize (if c = n then A else A.map (·.add n)) = A2 at *
    have HQL := Lib.hid hql
    have HPL := Lib.hid hpl
    clear h hi hn hv hql hpl HR HI h2
    go_enter Tryd.func27, Tryd.ntmps27
    go_wp2_with fail
    refine (ReadE HQL.out (by rw [HQL.out]; decide) HQ.out).mono ?_
    rintro e w1 ⟨r, G, rfl, hr, hG, H1, F1⟩
    have B1 := Lib.hid (fr0_below (Below.refl _ w) F1.out (Nat.le_refl _))
    clear hG F1
    go_wp2_with fail
    refine (RU16_is (x := num q) (m := []) H1.out (by rw [HQL.out]; decide) HQI.out (by rw [← HQL.out, List.take_length]) (by rw [← HQL.out, List.drop_length])).mono ?_
    rintro e w2 ⟨rfl, H2, F2⟩
    have b2 := fr1_below B1.out F2.out hr (Nat.le_refl _)
    have B2 := Lib.hid b2
    have hT2 := hT.below b2 hT.lt
    have hs2 := b2.size
    have HC := CTable1 (pc := 1) (g := w2.heap.size) (c := c) (w := w2) rfl hT2 (HP.out.now b2) HPI.out (by rw [HPL.out]; omega)
    rw [HPL.out] at HC
    clear H1 H2 B1 F2 b2
    go_wp2_with fail
    refine HC.mono ?_
    rintro e w3 ⟨rfl, rfl⟩
    go_wp2
    go_ret
    exact ⟨rfl, Lib.hid (B2.out.alloc hs2 _)⟩
  · have hv : valid l = false := by unfold valid; simp [h2]
    rw [hv]
    have hlt : l.length < 2 := by omega
    clear h hi
    go_enter Tryd.func27, Tryd.ntmps27
    go_wp2
    go_ret
    exact ⟨rfl, Lib.hid (Below.refl _ _)⟩
end Go.Proofs.YtkihoonjekccgaaDoor.K
