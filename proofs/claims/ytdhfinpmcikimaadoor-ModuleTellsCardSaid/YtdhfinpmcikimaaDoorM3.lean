/- The slave: Offer. -/
import Derived.Test.YtdhfinpmcikimaaDoorM2
namespace Go.Proofs.YtdhfinpmcikimaaDoor.K
open Go.RowKit
set_option linter.unusedVariables false
set_option linter.unusedSimpArgs false
def offN (st : Sl) (l : List Int) : Int := if l.length = 0 ∨ 24 < l.length then 1 else if 0 < st.pend.length then 5 else 0
def offS (st : Sl) (l : List Int) : Sl := if offN st l = 0 then ⟨st.num, st.tells, st.next, st.addr, l⟩ else st
theorem SlOfferC {B s : Nat} {A BA : Option Addr} {c bc : Nat} {st : Sl} {l : List Int} {w : World} (h : SlB B s A c st w) (hr : RowOf c8 1 w w.heap.size BA l) (hl : l.length ≤ 1000) (hp : st.pend.length ≤ 1000) :
    Calls Tryd.prog 58 #[.pointer (some ⟨s, 0, none⟩), .slice BA l.length bc] w fun e w' => e = .returned (.int .i64 (offN st l)) ∧ ∃ A' c', Hid (SlB B s A' c' (offS st l) w') ∧ Hid (Fr (fun j => j = s) w w') := by
  by_cases h1 : l.length = 0 ∨ 24 < l.length
  · have hn : offN st l = 1 := by unfold offN; rw [if_pos h1]
    have HN := Lib.hid hn
    have HH : Hid (SlB B s A c (offS st l) w) := Lib.hid (by unfold offS; rw [if_neg (by rw [hn]; decide)]; exact h)
    clear hn h hr
    by_cases h0 : l.length = 0
    · have h0' : (l.length : Int) = 0 := by omega
      have h0b : ((l.length : Int) == 0) = true := by simp [h0]
      have HN0 := Lib.hid h0
      clear h0 h1
      go_enter Tryd.func58, Tryd.ntmps58
      go_wp2
      go_ret
      exact ⟨ret_int HN.out.symm, A, c, HH, Lib.hid (Fr.refl _ _)⟩
    · have h0b : ((l.length : Int) == 0) = false := beq_eq_false_iff_ne.2 (by omega)
      have h24 : (24 : Int) < (l.length : Int) := by omega
      clear h0 h1
      go_enter Tryd.func58, Tryd.ntmps58
      go_wp2
      go_ret
      exact ⟨ret_int HN.out.symm, A, c, HH, Lib.hid (Fr.refl _ _)⟩
  · have h0b : ((l.length : Int) == 0) = false := beq_eq_false_iff_ne.2 (by omega)
    have h24 : ¬ (24 : Int) < (l.length : Int) := by omega
    have qP := SlPendingC h
    by_cases h2 : 0 < st.pend.length
    · have hn : offN st l = 5 := by unfold offN; rw [if_neg h1, if_pos h2]
      have HN := Lib.hid hn
      have HH : Hid (SlB B s A c (offS st l) w) := Lib.hid (by unfold offS; rw [if_neg (by rw [hn]; decide)]; exact h)
      rw [show decide (0 < st.pend.length) = true by simp [h2]] at qP
      clear hn h hr h1 h2
      go_enter Tryd.func58, Tryd.ntmps58
      go_wp2_with fail
      refine Calls.mono qP ?_
      clear qP
      rintro e w1 ⟨rfl, rfl⟩
      go_wp2
      go_ret
      exact ⟨ret_int HN.out.symm, A, c, HH, Lib.hid (Fr.refl _ _)⟩
    · have hn : offN st l = 0 := by unfold offN; rw [if_neg h1, if_neg h2]
      have HN := Lib.hid hn
      rw [show decide (0 < st.pend.length) = false by simp [h2]] at qP
      have HH := Lib.hid h
      have qC := CloneC (c := bc) (by omega) hr
      have hs : offS st l = ⟨st.num, st.tells, st.next, st.addr, l⟩ := by unfold offS; rw [if_pos hn]
      have HS := Lib.hid hs
      clear hn h hr h1 h2 hs
      go_enter Tryd.func58, Tryd.ntmps58
      go_wp2_with fail
      refine Calls.mono qP ?_
      clear qP
      rintro e w1 ⟨rfl, rfl⟩
      go_wp2_with fail
      refine Calls.mono qC ?_
      clear qC
      rintro e w2 ⟨A', c', rfl, HM, HF⟩
      have hk := HH.out.blk.fr HF.out (fun h => h)
      have k4 : w2.cell? ⟨s, 4, none⟩ = some (.slice A st.pend.length c) := hk.cell 4
      have f4 := hk.frozen 4
      have hk2 : Blk (w2.setCell ⟨s, 4, none⟩ (.slice A' l.length c')) s 121 (slv ⟨st.num, st.tells, st.next, st.addr, l⟩ A' c') := by simpa [slv] using hk.set_ 4 (.slice A' l.length c')
      have HK2 := Lib.hid hk2
      have hF2 : Fr (fun j => j = s) w2 (w2.setCell ⟨s, 4, none⟩ (.slice A' l.length c')) := (Fr.refl (fun j => j = s) w2).setCell (p := ⟨s, 4, none⟩) (fun _ => rfl) _
      have HF2 := Lib.hid hF2
      have HLT := Lib.hid (HH.out.blk.lt)
      have hm2 := made_of (own_fr HM.out.1 hF2 (fun j e e' => own_blk_ne HM.out.1 hk (by decide) (e' ▸ e)))
      have HM2 := Lib.hid hm2
      clear hk hk2 hF2 hm2
      go_wp2
      go_ret
      refine ⟨ret_int HN.out.symm, A', c', ?_, Lib.hid ((HF.out.mono (fun _ _ h => h.elim)).trans HF2.out (fun _ _ e => e))⟩
      rw [HS.out]
      obtain ⟨A2, c2, e2, hm⟩ := HM2.out
      injection e2 with e3 _ e4
      subst e3 e4
      exact Lib.hid ⟨HK2.out, ⟨own_weak hm.1 (by have := HH.out.low; have := HLT.out; omega), hm.2.1, hm.2.2⟩, HH.out.low, HH.out.bits⟩
end Go.Proofs.YtdhfinpmcikimaaDoor.K
