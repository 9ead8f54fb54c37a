/- The module: what it does at a command. -/
import Derived.Test.YtdhfinpmcikimaaDoorMa
namespace Go.Proofs.YtdhfinpmcikimaaDoor.K
open Go.RowKit
set_option linter.unusedVariables false
set_option linter.unusedSimpArgs false
theorem mStore {m s : Nat} {d : Dp} {bt : BS} {a : Int} {w : World} (h : Blk w m 86 (mdv s d bt a)) (d' : Dp) :
    w.cell? ⟨m, 1, none⟩ = some (.bool d.lit) ∧ w.frozen? ⟨m, 1, none⟩ = false ∧
    (w.setCell ⟨m, 1, none⟩ (.bool d'.lit)).cell? ⟨m, 2, none⟩ = some (.bool d.latched) ∧ (w.setCell ⟨m, 1, none⟩ (.bool d'.lit)).frozen? ⟨m, 2, none⟩ = false ∧
    ((w.setCell ⟨m, 1, none⟩ (.bool d'.lit)).setCell ⟨m, 2, none⟩ (.bool d'.latched)).cell? ⟨m, 3, none⟩ = some (.int .u16 d.tok) ∧ ((w.setCell ⟨m, 1, none⟩ (.bool d'.lit)).setCell ⟨m, 2, none⟩ (.bool d'.latched)).frozen? ⟨m, 3, none⟩ = false ∧
    (((w.setCell ⟨m, 1, none⟩ (.bool d'.lit)).setCell ⟨m, 2, none⟩ (.bool d'.latched)).setCell ⟨m, 3, none⟩ (.int .u16 d'.tok)).cell? ⟨m, 4, none⟩ = some (.int .u16 d.qty) ∧ (((w.setCell ⟨m, 1, none⟩ (.bool d'.lit)).setCell ⟨m, 2, none⟩ (.bool d'.latched)).setCell ⟨m, 3, none⟩ (.int .u16 d'.tok)).frozen? ⟨m, 4, none⟩ = false ∧
    ((((w.setCell ⟨m, 1, none⟩ (.bool d'.lit)).setCell ⟨m, 2, none⟩ (.bool d'.latched)).setCell ⟨m, 3, none⟩ (.int .u16 d'.tok)).setCell ⟨m, 4, none⟩ (.int .u16 d'.qty)).cell? ⟨m, 5, none⟩ = some (.int .u16 d.most) ∧ ((((w.setCell ⟨m, 1, none⟩ (.bool d'.lit)).setCell ⟨m, 2, none⟩ (.bool d'.latched)).setCell ⟨m, 3, none⟩ (.int .u16 d'.tok)).setCell ⟨m, 4, none⟩ (.int .u16 d'.qty)).frozen? ⟨m, 5, none⟩ = false ∧
    Blk (((((w.setCell ⟨m, 1, none⟩ (.bool d'.lit)).setCell ⟨m, 2, none⟩ (.bool d'.latched)).setCell ⟨m, 3, none⟩ (.int .u16 d'.tok)).setCell ⟨m, 4, none⟩ (.int .u16 d'.qty)).setCell ⟨m, 5, none⟩ (.int .u16 d'.most)) m 86 (mdv s d' bt a) ∧ Fr (fun j => j = m) w (((((w.setCell ⟨m, 1, none⟩ (.bool d'.lit)).setCell ⟨m, 2, none⟩ (.bool d'.latched)).setCell ⟨m, 3, none⟩ (.int .u16 d'.tok)).setCell ⟨m, 4, none⟩ (.int .u16 d'.qty)).setCell ⟨m, 5, none⟩ (.int .u16 d'.most)) := by
  have b0 := h
  have b1 := b0.set_ 1 (.bool d'.lit)
  have b2 := b1.set_ 2 (.bool d'.latched)
  have b3 := b2.set_ 3 (.int .u16 d'.tok)
  have b4 := b3.set_ 4 (.int .u16 d'.qty)
  have b5 := b4.set_ 5 (.int .u16 d'.most)
  have hB : (((((mdv s d bt a).setIfInBounds 1 (.bool d'.lit)).setIfInBounds 2 (.bool d'.latched)).setIfInBounds 3 (.int .u16 d'.tok)).setIfInBounds 4 (.int .u16 d'.qty)).setIfInBounds 5 (.int .u16 d'.most) = mdv s d' bt a := by
    unfold mdv
    rw [enc_pre _ _ _ _ (by simp), enc_pre _ _ _ _ (by simp), enc_pre _ _ _ _ (by simp), enc_pre _ _ _ _ (by simp), enc_pre _ _ _ _ (by simp)]
    rfl
  rw [hB] at b5
  refine ⟨b0.cell 1, b0.frozen 1, b1.cell 2, b1.frozen 2, b2.cell 3, b2.frozen 3, b3.cell 4, b3.frozen 4, b4.cell 5, b4.frozen 5, b5, ?_⟩
  exact (((((Fr.refl (fun j => j = m) w).setCell (p := ⟨m, 1, none⟩) (fun _ => rfl) _).setCell (p := ⟨m, 2, none⟩) (fun _ => rfl) _).setCell (p := ⟨m, 3, none⟩) (fun _ => rfl) _).setCell (p := ⟨m, 4, none⟩) (fun _ => rfl) _).setCell (p := ⟨m, 5, none⟩) (fun _ => rfl) _
def sameD (d : Dp) (t : Int) : Bool := d.lit && decide (d.tok = t)
def doesS (d : Dp) (pd : Bool) (k t q : Int) : Dp := if k = 1 ∧ (sameD d t = false ∨ (d.latched = true ∧ pd = false)) then ⟨true, false, t, q, q⟩ else if k = 2 ∧ sameD d t = true then ⟨false, false, 0, 0, 0⟩ else d
set_option maxHeartbeats 4000000 in
set_option maxRecDepth 20000 in
theorem MdoesC {B m s : Nat} {A : Option Addr} {c : Nat} {sl : Sl} {d : Dp} {bt : BS} {a k t q : Int} {w : World} (h : MoB B m s A c sl d bt a w) : Calls Tryd.prog 36 #[.pointer (some ⟨m, 0, none⟩), cmdV k t q] w fun e w' => e = .returned (.tuple #[]) ∧ Hid (MoB B m s A c sl (doesS d (decide (0 < sl.pend.length)) k t q) bt a w') ∧ Hid (Fr (fun j => j = m) w w') := by
  have F1 : Fr0 w (w.alloc (.cells #[.int .u8 k, .int .u16 t, .int .u16 q] 24)) := (Fr.refl (fun _ => False) w).alloc _
  have HM1 := Lib.hid (h.fr0 F1)
  have HC1 := Lib.hid (Blk.new w 24 #[.int .u8 k, .int .u16 t, .int .u16 q])
  have HF1 := Lib.hid F1
  have QD := Lib.hid (fun W => DisC d t W)
  clear h F1
  go_enter Tryd.func36, Tryd.ntmps36
  go_wp2_with fail
  generalize w.alloc (.cells #[.int .u8 k, .int .u16 t, .int .u16 q] 24) = w1 at *
  obtain ⟨_, k1, k2, k3, k4, k5, _⟩ := HM1.out.cells
  have d1 := HC1.out.cell 1
  have hcs : (w1.cell? ⟨m, 1, none⟩ = some (.bool d.lit) ∧ w1.cell? ⟨m, 2, none⟩ = some (.bool d.latched) ∧ w1.cell? ⟨m, 3, none⟩ = some (.int .u16 d.tok) ∧ w1.cell? ⟨m, 4, none⟩ = some (.int .u16 d.qty) ∧ w1.cell? ⟨m, 5, none⟩ = some (.int .u16 d.most)) ∧ w1.cell? ⟨w.heap.size, 1, none⟩ = some (.int .u16 t) := ⟨⟨k1, k2, k3, k4, k5⟩, d1⟩
  clear k1 k2 k3 k4 k5 d1
  go_region_held_law (fun w' => (w'.cell? ⟨m, 1, none⟩ = some (.bool d.lit) ∧ w'.cell? ⟨m, 2, none⟩ = some (.bool d.latched) ∧ w'.cell? ⟨m, 3, none⟩ = some (.int .u16 d.tok) ∧ w'.cell? ⟨m, 4, none⟩ = some (.int .u16 d.qty) ∧ w'.cell? ⟨m, 5, none⟩ = some (.int .u16 d.most)) ∧ w'.cell? ⟨w.heap.size, 1, none⟩ = some (.int .u16 t)) (first | exact hcs | exact hc2) ((go_simp; go_at_call 57; refine Calls.mono (QD.out _) ?_; rintro e w2 ⟨rfl, F2⟩; have HM2 := Lib.hid (HM1.out.fr0 ((Fr.refl (fun _ => False) _).drew.trans F2.out (fun _ _ h => h))); have HC2 := Lib.hid (HC1.out.fr ((Fr.refl (fun _ => False) _).drew.trans F2.out (fun _ _ h => h)) (fun h => h)); have HF2 := Lib.hid ((HF1.out.trans ((Fr.refl (fun _ => False) _).drew) (fun _ _ h => h)).trans F2.out (fun _ _ h => h)); have hc2 : (w2.cell? ⟨m, 1, none⟩ = some (.bool d.lit) ∧ w2.cell? ⟨m, 2, none⟩ = some (.bool d.latched) ∧ w2.cell? ⟨m, 3, none⟩ = some (.int .u16 d.tok) ∧ w2.cell? ⟨m, 4, none⟩ = some (.int .u16 d.qty) ∧ w2.cell? ⟨m, 5, none⟩ = some (.int .u16 d.most)) ∧ w2.cell? ⟨w.heap.size, 1, none⟩ = some (.int .u16 t) := by (obtain ⟨_, k1, k2, k3, k4, k5, _⟩ := HM2.out.cells; exact ⟨⟨k1, k2, k3, k4, k5⟩, HC2.out.cell 1⟩)))
  rename_i hHeld
  clear hHeld hcs HM1 HC1 HF1 QD F2
  obtain ⟨⟨k1, k2, k3, k4, k5⟩, d1⟩ := hc2
  have d0 := HC2.out.cell 0
  have d2 := HC2.out.cell 2
  have qP := SlPendingC HM2.out.sb
  have k0 : w2.cell? ⟨m, 0, none⟩ = some (.pointer (some ⟨s, 0, none⟩)) := HM2.out.cells.1
  obtain ⟨sm, hsm⟩ : ∃ sm, sm = sameD d t := ⟨_, rfl⟩
  rw [show (d.lit && decide (d.tok = t)) = sm from hsm.symm]
  obtain ⟨pb, hpb⟩ : ∃ pb, pb = decide (0 < sl.pend.length) := ⟨_, rfl⟩
  rw [← hpb] at qP
  have HDE : Hid (doesS d (decide (0 < sl.pend.length)) k t q = if k = 1 ∧ (sm = false ∨ (d.latched = true ∧ pb = false)) then ⟨true, false, t, q, q⟩ else if k = 2 ∧ sm = true then ⟨false, false, 0, 0, 0⟩ else d) := Lib.hid (by rw [hsm, hpb]; rfl)
  clear hsm hpb
  obtain ⟨dla, hla⟩ : ∃ dla, dla = d.latched := ⟨_, rfl⟩
  rw [← hla] at HDE k2
  rcases (by omega : k = 1 ∨ k = 2 ∨ (k ≠ 1 ∧ k ≠ 2)) with hk | hk | ⟨n1, n2⟩
  · subst hk
    cases sm
    · have HD : Hid (doesS d (decide (0 < sl.pend.length)) 1 t q = ⟨true, false, t, q, q⟩) := Lib.hid (by rw [HDE.out]; simp)
      clear HDE
      clear hla qP
      obtain ⟨a0, b0, a1, b1, a2, b2, a3, b3, a4, b4, hb, hF⟩ := mStore HM2.out.blk ⟨true, false, t, q, q⟩
      have HB := Lib.hid hb
      have HF := Lib.hid hF
      clear hb hF
      go_wp2
      go_end0
      exact ⟨rfl, Lib.hid (by rw [HD.out]; exact HM2.out.own HF.out HB.out HM2.out.wf), Lib.hid ((HF2.out.mono (fun _ _ h => h.elim)).trans HF.out (fun _ _ e => e))⟩
    · cases dla
      · have HD : Hid (doesS d (decide (0 < sl.pend.length)) 1 t q = d) := Lib.hid (by rw [HDE.out]; simp)
        clear HDE
        clear hla qP
        go_wp2
        go_end0
        exact ⟨rfl, Lib.hid (by rw [HD.out]; exact HM2.out), Lib.hid (HF2.out.mono (fun _ _ h => h.elim))⟩
      · cases pb
        · have HD : Hid (doesS d (decide (0 < sl.pend.length)) 1 t q = ⟨true, false, t, q, q⟩) := Lib.hid (by rw [HDE.out]; simp)
          clear HDE
          clear hla
          go_wp2_with fail
          refine Calls.mono qP ?_
          clear qP
          rintro e w3 ⟨rfl, rfl⟩
          obtain ⟨a0, b0, a1, b1, a2, b2, a3, b3, a4, b4, hb, hF⟩ := mStore HM2.out.blk ⟨true, false, t, q, q⟩
          have HB := Lib.hid hb
          have HF := Lib.hid hF
          clear hb hF
          go_wp2
          go_end0
          exact ⟨rfl, Lib.hid (by rw [HD.out]; exact HM2.out.own HF.out HB.out HM2.out.wf), Lib.hid ((HF2.out.mono (fun _ _ h => h.elim)).trans HF.out (fun _ _ e => e))⟩
        · have HD : Hid (doesS d (decide (0 < sl.pend.length)) 1 t q = d) := Lib.hid (by rw [HDE.out]; simp)
          clear HDE
          clear hla
          go_wp2_with fail
          refine Calls.mono qP ?_
          clear qP
          rintro e w3 ⟨rfl, rfl⟩
          go_wp2
          go_end0
          exact ⟨rfl, Lib.hid (by rw [HD.out]; exact HM2.out), Lib.hid (HF2.out.mono (fun _ _ h => h.elim))⟩
  · subst hk
    clear hla qP
    cases sm
    · have HD : Hid (doesS d (decide (0 < sl.pend.length)) 2 t q = d) := Lib.hid (by rw [HDE.out]; simp)
      clear HDE
      go_wp2
      go_end0
      exact ⟨rfl, Lib.hid (by rw [HD.out]; exact HM2.out), Lib.hid (HF2.out.mono (fun _ _ h => h.elim))⟩
    · have HD : Hid (doesS d (decide (0 < sl.pend.length)) 2 t q = ⟨false, false, 0, 0, 0⟩) := Lib.hid (by rw [HDE.out]; simp)
      clear HDE
      obtain ⟨a0, b0, a1, b1, a2, b2, a3, b3, a4, b4, hb, hF⟩ := mStore HM2.out.blk ⟨false, false, 0, 0, 0⟩
      have HB := Lib.hid hb
      have HF := Lib.hid hF
      clear hb hF
      go_wp2
      go_end0
      exact ⟨rfl, Lib.hid (by rw [HD.out]; exact HM2.out.own HF.out HB.out HM2.out.wf), Lib.hid ((HF2.out.mono (fun _ _ h => h.elim)).trans HF.out (fun _ _ e => e))⟩
  · have HD : Hid (doesS d (decide (0 < sl.pend.length)) k t q = d) := Lib.hid (by rw [HDE.out, if_neg (fun h => n1 h.1), if_neg (fun h => n2 h.1)])
    have e1 : (k == 1) = false := by simp [n1]
    have e2 : (k == 2) = false := by simp [n2]
    clear HDE n1 n2 hla qP
    go_wp2
    go_end0
    exact ⟨rfl, Lib.hid (by rw [HD.out]; exact HM2.out), Lib.hid (HF2.out.mono (fun _ _ h => h.elim))⟩
end Go.Proofs.YtdhfinpmcikimaaDoor.K
