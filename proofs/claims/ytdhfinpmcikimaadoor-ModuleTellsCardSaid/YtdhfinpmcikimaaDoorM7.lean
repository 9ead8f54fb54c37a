/- The module's bytes. -/
import Derived.Test.YtdhfinpmcikimaaDoorWs
import Derived.Test.YtdhfinpmcikimaaDoorGe
import Derived.Test.YtdhfinpmcikimaaDoorNu
import Derived.Test.YtdhfinpmcikimaaDoorM2
namespace Go.Proofs.YtdhfinpmcikimaaDoor.K
open Go.RowKit
set_option linter.unusedVariables false
set_option linter.unusedSimpArgs false
def bytesM (k t q : Int) : List Int := be k 1 ++ be t 2 ++ be q 2
theorem bytesM_len (k t q : Int) : (bytesM k t q).length = 5 := by simp [bytesM, be_length]
set_option maxHeartbeats 1000000 in
theorem MbytesC {k t q : Int} (w : World) (hk : 0 ≤ k ∧ k < 256) (ht : 0 ≤ t ∧ t < 65536) (hq : 0 ≤ q ∧ q < 65536) :
    Calls Tryd.prog 33 #[.int .u8 k, .int .u16 t, .int .u16 q] w fun e w' => ∃ A' c', e = .returned (.slice A' 5 c') ∧ Hid (Made w.heap.size A' c' (bytesM k t q) w') ∧ Hid (Fr0 w w') := by
  obtain ⟨k0, k1⟩ := hk
  obtain ⟨t0, t1⟩ := ht
  obtain ⟨q0, q1⟩ := hq
  have hws : WS [] w w.heap.size (.slice none 0 0) [] (w.alloc (.cells #[.slice none 0 0, .int .i64 0, .int .i8 0] 107)) :=
    ⟨wrt_new w, base_nil _, (Below.refl _ _).alloc (Nat.le_refl _) _, Nat.le_refl _, fun q hq => by cases hq⟩
  have HWS := Lib.hid hws
  clear hws
  go_enter Tryd.func33, Tryd.ntmps33
  go_wp2_with fail
  refine Calls.mono (WS.u8 (n := k) (m' := be k 1) (by exact ⟨rfl, rfl, rfl, rfl⟩) HWS.out k0 k1 (by simp) (by simp)) ?_
  rintro e w1 ⟨rfl, v1, H1⟩
  go_wp2_with fail
  refine Calls.mono (WS.u16 (n := t) (m' := be k 1 ++ be t 2) (by exact ⟨rfl, rfl, rfl, rfl⟩) H1.out t0 t1 rfl (by simp [be_length])) ?_
  rintro e w2 ⟨rfl, v2, H2⟩
  go_wp2_with fail
  refine Calls.mono (WS.u16 (n := q) (m' := be k 1 ++ be t 2 ++ be q 2) (by exact ⟨rfl, rfl, rfl, rfl⟩) H2.out q0 q1 rfl (by simp [be_length])) ?_
  rintro e w3 ⟨rfl, v3, H3⟩
  go_wp2_with fail
  refine Calls.mono (WDoneE (n := 5) (l := bytesM k t q) (bytesM_len k t q) H3.out.hw (by rw [bytesM_len]; omega)) ?_
  rintro e w4 ⟨A4, c4, rfl, H4, F4⟩
  go_wp2
  go_ret
  exact ⟨A4, c4, rfl, Lib.hid (H4.out.low H3.out.hb.size), Lib.hid (Fr.of_below (H3.out.hb.trans (F4.out.below0.mono H3.out.hb.size)))⟩
def parseM (l : List Int) : Int × Int × Int × Int := if l.length < 5 then (0, 0, 0, 2) else if l.length = 5 ∧ (num (l.take 1) = 1 ∨ num (l.take 1) = 2) then (num (l.take 1), num ((l.drop 1).take 2), num ((l.drop 3).take 2), 0) else (0, 0, 0, 3)
theorem results_parse {w : World} {v4 v5 v6 v7 : Value} {tm : Array Value} (h4 : tm.getD 4 undef = v4) (h5 : tm.getD 5 undef = v5) (h6 : tm.getD 6 undef = v6) (h7 : tm.getD 7 undef = v7) :
    (results Tryd.f34 tm).run Tryd.prog w = .ok (.tuple #[v4, v5, v6, v7]) w := by
  rw [Array.getD_eq_getD_getElem?] at h4 h5 h6 h7
  simp [results, Tryd.results34, go_sem, h4, h5, h6, h7]
def PPost (l : List Int) (w : World) (e : Ending) (w' : World) : Prop := e = .returned (.tuple #[.int .u8 (parseM l).1, .int .u16 (parseM l).2.1, .int .u16 (parseM l).2.2.1, .int .i64 (parseM l).2.2.2]) ∧ Hid (Fr0 w w')
set_option maxHeartbeats 2000000 in
theorem MparseShort {A K : Option Addr} {c : Nat} {l : List Int} {w : World} (hr : RowOf c8 1 w w.heap.size A l) (hb : InB l) (hl : l.length < 5) :
    Calls Tryd.prog 34 #[.slice A l.length c, .slice K 2 2] w (PPost l w) := by
  have hp : parseM l = (0, 0, 0, 2) := by unfold parseM; rw [if_pos hl]
  have HP := Lib.hid hp
  have HB := Lib.hid hb
  have qR := ReadC (c := c) (by omega) hr
  clear hp hr hb
  go_enter Tryd.func34, Tryd.ntmps34
  go_wp2_with fail
  refine Calls.mono qR ?_
  clear qR
  rintro e w1 ⟨r, G, rfl, hr1, hG1, HR1, F1⟩
  have HG1 := Lib.hid hG1
  clear hG1
  rcases (by omega : l.length < 1 ∨ (1 ≤ l.length ∧ l.length < 3) ∨ (3 ≤ l.length ∧ l.length < 5)) with h | ⟨h, h'⟩ | ⟨h, h'⟩
  · have q1 := RU8_short HR1.out h
    have q2 := RU16_short HR1.out (by omega)
    go_wp2_with fail
    refine Calls.mono q1 ?_
    rintro e w2 ⟨rfl, rfl⟩
    go_wp2_with fail
    refine Calls.mono q2 ?_
    rintro e w2 ⟨rfl, rfl⟩
    go_wp2_with fail
    refine Calls.mono q2 ?_
    rintro e w2 ⟨rfl, rfl⟩
    clear q1 q2
    go_wp2
    refine bodyPost_ret (results_parse rfl rfl rfl rfl) rfl ?_
    unfold PPost
    rw [HP.out]
    exact ⟨rfl, F1⟩
  · have q1 := RU8_ok HR1.out h HB.out
    go_wp2_with fail
    refine Calls.mono q1 ?_
    clear q1
    rintro e w2 ⟨rfl, HR2, F2⟩
    have q2 := RU16_short HR2.out (by rw [List.length_drop]; omega)
    have HF2 := Lib.hid (F1.out.trans F2.out (fun j hj e => by omega))
    generalize num (l.take 1) = kk at *
    clear F1 F2 HR1
    go_wp2_with fail
    refine Calls.mono q2 ?_
    rintro e w3 ⟨rfl, rfl⟩
    go_wp2_with fail
    refine Calls.mono q2 ?_
    rintro e w3 ⟨rfl, rfl⟩
    clear q2
    go_wp2
    refine bodyPost_ret (results_parse rfl rfl rfl rfl) rfl ?_
    unfold PPost
    rw [HP.out]
    exact ⟨rfl, HF2⟩
  · have q1 := RU8_ok HR1.out (by omega) HB.out
    go_wp2_with fail
    refine Calls.mono q1 ?_
    clear q1
    rintro e w2 ⟨rfl, HR2, F2⟩
    have q2 := RU16_ok HR2.out (by rw [List.length_drop]; omega) (HB.out.drop_ 1)
    have HF2 := Lib.hid (F1.out.trans F2.out (fun j hj e => by omega))
    generalize num (l.take 1) = kk at *
    clear F1 F2 HR1
    go_wp2_with fail
    refine Calls.mono q2 ?_
    clear q2
    rintro e w3 ⟨rfl, HR3, F3⟩
    have q3 := RU16_short HR3.out (by rw [List.length_drop, List.length_drop]; omega)
    have hw2 := HF2.out.size
    have HF3 := Lib.hid (HF2.out.trans F3.out (fun j hj e => by omega))
    generalize num ((l.drop 1).take 2) = tt at *
    clear HF2 F3 HR2
    go_wp2_with fail
    refine Calls.mono q3 ?_
    rintro e w4 ⟨rfl, rfl⟩
    clear q3
    go_wp2
    refine bodyPost_ret (results_parse rfl rfl rfl rfl) rfl ?_
    unfold PPost
    rw [HP.out]
    exact ⟨rfl, HF3⟩
end Go.Proofs.YtdhfinpmcikimaaDoor.K
