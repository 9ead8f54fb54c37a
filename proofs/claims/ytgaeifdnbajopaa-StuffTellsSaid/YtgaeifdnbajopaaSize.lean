/- The walk of StuffSize. -/
import Derived.Test.YtgaeifdnbajopaaS3
import Derived.BigQuiet
import Derived.Test.YtgaeifdnbajopaaWMore
import Derived.Test.YtgaeifdnbajopaaWLast
namespace Go.Proofs.Ytgaeifdnbajopaa.K
open Go.RowKit Go.Proofs.YtgaeifdnbajopaaW.PrintWords Go.Proofs.YtgaeifdnbajopaaW.PrintLast Go.Proofs.YtgaeifdnbajopaaW.PrintMore
theorem min2_min (k k' : IntKind) (x y : Int) : Builtin.min2 (.int k x) (.int k' y) = pure (.int k (min x y)) := by
  rw [min2_int]; congr 2; split <;> omega
attribute [local go_sem] min2_min min_two
set_option linter.unusedVariables false
set_option linter.unusedSimpArgs false
theorem min_nat (n k : Nat) : ∃ m : Nat, min (n : Int) (k : Int) = (m : Int) ∧ m ≤ n ∧ m ≤ k := ⟨min n k, by omega, by omega, by omega⟩
theorem stf_split {l : List Int} {k : Nat} (h : k < l.length) : stf l = stf (l.take k) ++ (stf1 (l.getD k 0) ++ stf (l.drop (k + 1))) := by
  have e : l.drop k = l.getD k 0 :: l.drop (k + 1) := by rw [List.drop_eq_getElem_cons h, List.getD_eq_getElem?_getD, List.getElem?_eq_getElem h]; rfl
  have e2 : stf (l.getD k 0 :: l.drop (k + 1)) = stf1 (l.getD k 0) ++ stf (l.drop (k + 1)) := by simp [stf]
  rw [← e2, ← e, ← stf_append, List.take_append_drop]
theorem at_split {l p s r : List Int} {j : Nat} (h : l = p ++ (s ++ r)) (hj : j < s.length) : l.getD (p.length + j) 0 = s.getD j 0 := by
  subst h
  simp only [List.getD_eq_getElem?_getD]
  rw [List.getElem?_append_right (by omega), show p.length + j - p.length = j by omega, List.getElem?_append_left hj]
def sp (x : Int) : Bool := x == 126 || x == 125
def cnt (l : List Int) : Nat := (stf l).length - l.length

set_option maxHeartbeats 4000000 in
set_option maxRecDepth 10000 in
theorem size_walk (A : Option Addr) (c : Nat) (zs : List Int) (hc : zs.length ≤ c) (w : World) (h0 : RowOf c8 1 w w.heap.size A zs) (b0 : ∀ x ∈ zs, 0 ≤ x ∧ x < 256) :
    Calls Try.prog 7 #[.slice A zs.length c] w fun e w' => e = .returned (.bool true) ∧ Below w.heap.size w w' := by
  obtain ⟨n, hn, hn1, hn2⟩ := min_nat zs.length 1000
  have hcut := fun W => cut8 A zs.length c n hn1 hc W
  obtain ⟨l, hl⟩ : ∃ l, l = zs.take n := ⟨_, rfl⟩
  have hln : n = l.length := by rw [hl, List.length_take]; omega
  subst hln
  have HR := Lib.hid (hl ▸ h0.take_ l.length : RowOf c8 1 w w.heap.size A l)
  clear h0 b0 hl hc
  have hmin : min (zs.length : Int) 1000 = (l.length : Int) := hn
  clear hn
  go_enter Try.func7, Try.ntmps7
  go_wp2_with fail
  refine (shown3 _).mono ?_
  rintro e w1 ⟨rfl, H1⟩
  go_wp2
  clear hmin hcut
  go_loopw [4, 5] (fun m i wr => ∃ k m' : Nat, k ≤ l.length ∧ m = .int .i64 m' ∧ i = .int .i64 k ∧ m' + k = (stf (l.take k)).length ∧ Below w.heap.size w wr) (fun _ i _ => l.length - (intOf i).toNat)
  case atStart => exact ⟨0, 0, by omega, rfl, rfl, rfl, H1.out⟩
  case round =>
    obtain ⟨k, m, hk, rfl, rfl, hm, hb⟩ := hrel
    have HB := Lib.hid hb
    clear hb
    by_cases hlt : k < l.length
    · have ht := stf_take hlt
      have hsl := stf_take_lt hlt
      have hll := stf_len l
      obtain ⟨ad, rfl, hb, hcell⟩ := (RowOf.below HR.out HB.out).num hlt
      generalize l.getD k 0 = x at *
      have hsum : (stf (l.take (k + 1))).length = m + k + (stf1 x).length := by rw [ht, List.length_append]; omega
      clear ht
      by_cases h1 : x = 126
      · subst h1
        have hs : Hid (m + 1 + (k + 1) = (stf (l.take (k + 1))).length) := Lib.hid (by rw [hsum]; simp [stf1]; omega)
        clear hsum
        go_wp2
        go_roundw
        case rel => exact ⟨k + 1, m + 1, by omega, by go_num, by go_num, hs.out, HB.out⟩
        case measure => simp [intOf]; omega
      · have h1' : (x == 126) = false := by simp [h1]
        by_cases h2 : x = 125
        · subst h2
          have hs : Hid (m + 1 + (k + 1) = (stf (l.take (k + 1))).length) := Lib.hid (by rw [hsum]; simp [stf1]; omega)
          clear hsum h1
          go_wp2
          go_roundw
          case rel => exact ⟨k + 1, m + 1, by omega, by go_num, by go_num, hs.out, HB.out⟩
          case measure => simp [intOf]; omega
        · have h2' : (x == 125) = false := by simp [h2]
          have hs : Hid (m + (k + 1) = (stf (l.take (k + 1))).length) := Lib.hid (by rw [hsum]; simp [stf1, h1, h2]; omega)
          clear hsum h1 h2
          go_wp2
          go_roundw
          case rel => exact ⟨k + 1, m, by omega, rfl, by go_num, hs.out, HB.out⟩
          case measure => simp [intOf]; omega
    · obtain rfl : k = l.length := by omega
      rw [List.take_length] at hm
      have hll := stf_len l
      go_wp2_with fail
      (with_reducible refine (StuffC (by omega) _ (HR.out.now HB.out)).mono ?_)
      rintro e w2 ⟨A2, c2, rfl, hc2, _, HX, HB2⟩
      have HB3 := Lib.hid (HB.out.trans (HB2.out.mono HB.out.size))
      have hlen : ((stf l).length : Int) = (l.length : Int) + (m : Int) := by omega
      have hx94 : bits .xor .u8 126 32 = 94 := by decide
      have hx93 : bits .xor .u8 125 32 = 93 := by decide
      clear hm HB2
      go_wp2
      clear hlen
      go_loopw [7, 8] (fun p i wr => ∃ k p' : Nat, k ≤ l.length ∧ p = .int .i64 p' ∧ i = .int .i64 k ∧ p' = (stf (l.take k)).length ∧ Below w2.heap.size w2 wr) (fun _ i _ => l.length - (intOf i).toNat)
      case atStart => exact ⟨0, 0, by omega, rfl, rfl, rfl, Below.refl _ _⟩
      case round =>
        obtain ⟨k, p, hk, rfl, rfl, hp, hb⟩ := hrel
        have HB := Lib.hid hb
        clear hb
        by_cases hlt : k < l.length
        · have ht := stf_take hlt
          have hsl := stf_take_lt hlt
          have hsp := stf_split hlt
          obtain ⟨ad, e, hb, hcell⟩ := (RowOf.below HR.out (HB3.out.trans (HB.out.mono HB3.out.size))).num hlt
          generalize l.getD k 0 = x at *
          have hsum : (stf (l.take (k + 1))).length = p + (stf1 x).length := by rw [ht, List.length_append]; omega
          have hs0 : ∀ j, j < (stf1 x).length → p + j < (stf l).length ∧ ∃ ad2, A2 = some ad2 ∧ wr.cell? (ad2.add (p + j)) = some (.int .u8 ((stf1 x).getD j 0)) := by
            intro j hj
            have h1 : p + j < (stf l).length := by omega
            obtain ⟨ad2, e2, _, hc⟩ := (RowOf.below HX.out HB.out).num h1
            refine ⟨h1, ad2, e2, ?_⟩
            rw [hc, hp, at_split hsp hj]
          clear ht hsl hsp hp
          by_cases h1 : x = 126
          · subst h1
            have hs : Hid (p + 2 = (stf (l.take (k + 1))).length) := Lib.hid (by rw [hsum]; simp [stf1])
            obtain ⟨hl0, ad2, e2, hd0⟩ := hs0 0 (by simp [stf1])
            obtain ⟨hl1, ad3, e3, hd1⟩ := hs0 1 (by simp [stf1])
            rw [e2] at e3; injection e3 with e3; subst e3
            subst e e2
            have hl0 : p < (stf l).length := hl0
            have hd0 : wr.cell? (ad2.add p) = some (.int .u8 125) := hd0
            have hd1 : wr.cell? (ad2.add (p + 1)) = some (.int .u8 94) := hd1
            have hw : IntKind.i64.wrap ((p : Int) + 1) = ((p + 1 : Nat) : Int) := by rw [IntKind.wrap_i64]; omega
            generalize p + 1 = p1 at *
            clear hsum hs0
            go_wp2
            go_quiet (fail)
            clear hw
            go_wp2
            go_roundw
            case rel => exact ⟨k + 1, p + 2, by omega, by go_num, by go_num, hs.out, pw_below_drewN HB.out _⟩
            case measure => simp [intOf]; omega
          · have h1' : (x == 126) = false := by simp [h1]
            by_cases h2 : x = 125
            · subst h2
              have hs : Hid (p + 2 = (stf (l.take (k + 1))).length) := Lib.hid (by rw [hsum]; simp [stf1])
              obtain ⟨hl0, ad2, e2, hd0⟩ := hs0 0 (by simp [stf1])
              obtain ⟨hl1, ad3, e3, hd1⟩ := hs0 1 (by simp [stf1])
              rw [e2] at e3; injection e3 with e3; subst e3
              subst e e2
              have hl0 : p < (stf l).length := hl0
              have hd0 : wr.cell? (ad2.add p) = some (.int .u8 125) := hd0
              have hd1 : wr.cell? (ad2.add (p + 1)) = some (.int .u8 93) := hd1
              have hw : IntKind.i64.wrap ((p : Int) + 1) = ((p + 1 : Nat) : Int) := by rw [IntKind.wrap_i64]; omega
              generalize p + 1 = p1 at *
              clear hsum hs0
              go_wp2
              go_quiet (fail)
              clear hw
              go_wp2
              go_roundw
              case rel => exact ⟨k + 1, p + 2, by omega, by go_num, by go_num, hs.out, pw_below_drewN HB.out _⟩
              case measure => simp [intOf]; omega
            · have h2' : (x == 125) = false := by simp [h2]
              have e1 : stf1 x = [x] := by simp [stf1, h1, h2]
              rw [e1] at hs0 hsum
              have hs : Hid (p + 1 = (stf (l.take (k + 1))).length) := Lib.hid (by rw [hsum]; rfl)
              obtain ⟨hl0, ad2, e2, hd0⟩ := hs0 0 (by simp)
              subst e e2
              have hl0 : p < (stf l).length := hl0
              have hd0 : wr.cell? (ad2.add p) = some (.int .u8 x) := hd0
              clear hsum hs0 e1 h1 h2
              go_wp2
              go_quiet (fail)
              go_wp2
              go_roundw
              case rel => exact ⟨k + 1, p + 1, by omega, by go_num, by go_num, hs.out, pw_below_drewN HB.out _⟩
              case measure => simp [intOf]; omega
        · obtain rfl : k = l.length := by omega
          rw [List.take_length] at hp
          subst hp
          go_wp2
          go_ret
          exact ⟨rfl, HB3.out.trans (HB.out.mono HB3.out.size)⟩
end Go.Proofs.Ytgaeifdnbajopaa.K
