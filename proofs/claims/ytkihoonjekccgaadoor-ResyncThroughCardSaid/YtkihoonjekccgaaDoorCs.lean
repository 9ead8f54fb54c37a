/- sum: all bytes of all parts, by a function that is handed in; Bits, Table. -/
import Derived.Test.YtkihoonjekccgaaDoorCt
import Derived.Test.YtkihoonjekccgaaDoorGe
namespace Go.Proofs.YtkihoonjekccgaaDoor.K
open Go.RowKit
set_option linter.unusedVariables false
set_option linter.unusedSimpArgs false
theorem cf_take (s : B16) (l : List Int) (k : Nat) (h : k < l.length) : cf s (l.take (k + 1)) = sb (cf s (l.take k)) l[k] := by
  rw [List.take_succ_eq_append_getElem h, cf_snoc]
set_option maxHeartbeats 4000000 in
set_option maxRecDepth 10000 in
theorem sumC {g : Nat} (he : ∀ (args : Array Value) (W : World), (callFunc g args).run Tryd.prog W = .ok (.enter g args) W) (hg : ∀ (x : B16) (c : Int), 0 ≤ c ∧ c < 256 → ∀ {w : World}, Turns w → Calls Tryd.prog g #[.int .u16 (iv x), .int .u8 c] w fun e w' => e = .returned (.int .u16 (iv (sb x c))) ∧ w' = w)
    {B pc : Nat} {P : Option Addr} {ps : List Part} {w : World} (hT : Turns w) (hps : ps.length ≤ 140737488355328)
    (hP : RowOf cP 1 w B P ps) (hp : ∀ p ∈ ps, RowOf c8 1 w B p.1 p.2.2 ∧ InB p.2.2 ∧ p.2.2.length ≤ 140737488355328) :
    Calls Tryd.prog 53 #[.func (.func g) #[] #[], .slice P ps.length pc] w fun e w' => e = .returned (.int .u16 (crcN (flat ps))) ∧ w' = w := by
  have HP := Lib.hid hP
  have HPS := Lib.hid hp
  clear hP hp
  go_enter Tryd.func53, Tryd.ntmps53
  go_wp2
  go_loop [5, 12] (fun r i => ∃ k : Nat, k ≤ ps.length ∧ i = .int .i64 k ∧ r = .int .u16 (crcN (flat (ps.take k)))) (fun _ i => ps.length - (intOf i).toNat)
  case atStart => exact ⟨0, by omega, rfl, rfl⟩
  case round =>
    obtain ⟨k, hk2, rfl, rfl⟩ := hrel
    by_cases hlt : k < ps.length
    · obtain ⟨ad, rfl, hb, hcell⟩ := (RowOf.one (fun _ => rfl) HP.out hlt)
      have hft := flat_take ps k hlt
      have hmem := HPS.out (ps[k]) (List.getElem_mem hlt)
      have HFT := Lib.hid hft
      have HM := Lib.hid hmem
      have hlen := hmem.2.2
      clear hft hmem
      generalize ps[k] = p at *
      obtain ⟨pA, pcap, pl⟩ := p
      go_wp2
      go_loop [5, 18] (fun r i => ∃ j : Nat, j ≤ pl.length ∧ i = .int .i64 j ∧ r = .int .u16 (iv (cf (crc (flat (ps.take k))) (pl.take j)))) (fun _ i => pl.length - (intOf i).toNat)
      case atStart => exact ⟨0, by omega, rfl, rfl⟩
      case round =>
        obtain ⟨j, hj2, rfl, rfl⟩ := hrel
        by_cases hjl : j < pl.length
        · obtain ⟨ad2, rfl, hb2, hcell2⟩ := (RowOf.one (fun _ => rfl) HM.out.1 hjl)
          have HB := Lib.hid (HM.out.2.1 _ (List.getElem_mem hjl))
          have HFT2 := Lib.hid (cf_take (crc (flat (ps.take k))) pl j hjl)
          generalize pl[j] = c at *
          go_wp2_with fail
          (with_reducible refine (hg _ c HB.out hT).mono ?_)
          rintro e w2 ⟨rfl, rfl⟩
          go_wp2
          go_round
          case rel => exact ⟨j + 1, by omega, by go_num, by rw [HFT2.out]⟩
          case measure => simp [intOf]; omega
        · obtain rfl : j = pl.length := by omega
          have e : iv (cf (crc (flat (ps.take k))) (pl.take pl.length)) = crcN (flat (ps.take (k + 1))) := by rw [List.take_length, HFT.out]; unfold crcN crc; rw [cf_app]
          rw [e]
          clear e
          go_wp2
          go_round
          case rel => exact ⟨k + 1, by omega, by go_num, rfl⟩
          case measure => simp [intOf]; omega
    · obtain rfl : k = ps.length := by omega
      rw [List.take_length]
      go_wp2
      go_ret
      exact ⟨rfl, rfl⟩
theorem enter_table (args : Array Value) (W : World) : (callFunc 54 args).run Tryd.prog W = .ok (.enter 54 args) W := by kernel_rfl
set_option maxRecDepth 10000 in
theorem CTableC {B pc : Nat} {P : Option Addr} {ps : List Part} {w : World} (hT : Turns w) (hps : ps.length ≤ 140737488355328)
    (hP : RowOf cP 1 w B P ps) (hp : ∀ p ∈ ps, RowOf c8 1 w B p.1 p.2.2 ∧ InB p.2.2 ∧ p.2.2.length ≤ 140737488355328) :
    Calls Tryd.prog 43 #[.slice P ps.length pc] w fun e w' => e = .returned (.int .u16 (crcN (flat ps))) ∧ w' = w := by
  have C := Lib.hid (sumC (pc := pc) enter_table (fun x c hc {w} hT => tableC x c hc hT) hT hps hP hp)
  clear hP hp
  go_enter Tryd.func43, Tryd.ntmps43
  go_wp2_with fail
  (with_reducible refine C.out.mono ?_)
  rintro e w2 ⟨rfl, rfl⟩
  go_wp2
  go_ret
  exact ⟨rfl, rfl⟩
end Go.Proofs.YtkihoonjekccgaaDoor.K
