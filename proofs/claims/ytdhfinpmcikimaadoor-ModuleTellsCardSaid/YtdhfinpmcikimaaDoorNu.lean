/- A Reader: numbers of one, two, four bytes. -/
import Derived.Test.YtdhfinpmcikimaaDoorRd
import Derived.Laws.BitsLemmas
namespace Go.Proofs.YtdhfinpmcikimaaDoor.K
open Go.RowKit
set_option linter.unusedVariables false
set_option linter.unusedSimpArgs false
/-- Bytes as a number, the highest first. -/
def num (l : List Int) : Int := l.foldl (fun n c => n * 256 + c) 0
theorem num_snoc (l : List Int) (c : Int) : num (l ++ [c]) = num l * 256 + c := by simp [num]
theorem num_bound (l : List Int) (h : ∀ x ∈ l, (0 : Int) ≤ x ∧ x < 256) : 0 ≤ num l ∧ num l < 256 ^ l.length := by
  have key : ∀ (n : Nat) (l : List Int), l.length = n → (∀ x ∈ l, (0 : Int) ≤ x ∧ x < 256) → 0 ≤ num l ∧ num l < 256 ^ l.length := by
    intro n
    induction n with
    | zero => intro l hl h; obtain rfl := List.eq_nil_of_length_eq_zero hl; simp [num]
    | succ n ih =>
      intro l hl h
      have hne : l ≠ [] := by rintro rfl; simp at hl
      have e := List.dropLast_concat_getLast hne
      generalize l.dropLast = m at *
      generalize l.getLast hne = c at *
      subst e
      rw [List.length_append, List.length_singleton] at hl
      have h1 := ih m (by omega) (fun x hx => h x (by simp [hx]))
      have h2 := h c (by simp)
      rw [num_snoc, List.length_append, List.length_singleton, Int.pow_succ]
      generalize (256 : Int) ^ m.length = q at *
      omega
  exact key _ l rfl h
theorem or_byte (a c : Int) (ha : 0 ≤ a) (ha1 : a < 16777216) (h0 : 0 ≤ c) (h1 : c < 256) : bits .or .u32 (a * 256) c = a * 256 + c :=
  bits_join .u32 32 (by decide) (fun n h0 h1 => by rw [IntKind.wrap_u32]; omega) 8 (a * 256) c (by omega) (by omega) (by omega) h0 h1 (by omega)
/-- Bytes, each from 0 to 255. -/
def InB (l : List Int) : Prop := ∀ x ∈ l, (0 : Int) ≤ x ∧ x < 256
set_option maxHeartbeats 4000000 in
set_option maxRecDepth 10000 in
theorem numberOk {r n : Nat} {G : Option Nat} {l : List Int} {w : World} (h : Rd r G l w) (hn : n ≤ l.length) (h4 : n ≤ 4) (hb : InB l) :
    Calls Tryd.prog 61 #[.pointer (some ⟨r, 0, none⟩), .int .i64 n] w fun e w' => e = .returned (.tuple #[.int .u32 (num (l.take n)), .int .i64 0]) ∧ Hid (Rd r G (l.drop n) w') ∧ Hid (Fr1 r w w') := by
  have HC := Lib.hid (RBytesOk h hn (by omega))
  have HI := Lib.hid hb
  have hlen : (l.take n).length = n := by rw [List.length_take]; omega
  have HLen := Lib.hid hlen
  have HI2 : Hid (InB (l.take n)) := Lib.hid (fun x hx => HI.out x (List.mem_of_mem_take hx))
  obtain ⟨m, hm⟩ : ∃ m, m = l.take n := ⟨_, rfl⟩
  rw [← hm] at HC HLen HI2 ⊢
  clear h hb hlen hm
  go_enter Tryd.func61, Tryd.ntmps61
  go_wp2_with (go_at_call 63; (with_reducible refine HC.out.mono ?_); rintro e w1 ⟨rfl, H1, H2, H3⟩)
  go_loop [4, 17] (fun t i => ∃ k : Nat, k ≤ n ∧ i = .int .i64 k ∧ t = .int .u32 (num (m.take k))) (fun _ i => n - (intOf i).toNat)
  case atStart => exact ⟨0, Nat.zero_le _, rfl, rfl⟩
  case round =>
    obtain ⟨k, hk, rfl, rfl⟩ := hrel
    by_cases hlt : k < n
    · have hkm : k < m.length := by rw [HLen.out]; exact hlt
      have hc := H1.out.cell k
      have hx : (nums .u8 m).toArray[k]? = some (.int .u8 m[k]) := by simp [nums, hkm]
      rw [hx] at hc
      have hns : num (m.take (k + 1)) = num (m.take k) * 256 + m[k] := by rw [List.take_succ_eq_append_getElem hkm, num_snoc]
      have hbm := HI2.out (m[k]) (List.getElem_mem hkm)
      have hnb := num_bound (m.take k) (fun x hx => HI2.out x (List.mem_of_mem_take hx))
      have hkl : (m.take k).length = k := by rw [List.length_take]; omega
      rw [hkl] at hnb
      have hp : (256 : Int) ^ k ≤ 16777216 := by
        have : k = 0 ∨ k = 1 ∨ k = 2 ∨ k = 3 := by omega
        rcases this with h | h | h | h <;> subst h <;> decide
      have hnb1 : num (m.take k) < 16777216 := by omega
      have HNS := Lib.hid hns
      have hnb0 := hnb.1
      clear hx hns hnb hkl hp
      generalize m[k] = x at *
      generalize num (m.take k) = a at *
      obtain ⟨hx0, hx1⟩ := hbm
      go_wp2
      rw [or_byte a x hnb0 hnb1 hx0 hx1]
      go_round
      case rel => exact ⟨k + 1, by omega, by go_num, by rw [HNS.out]⟩
      case measure => simp [intOf]; omega
    · obtain rfl : k = n := by omega
      have e : m.take k = m := List.take_of_length_le (by rw [HLen.out]; exact Nat.le_refl _)
      rw [e]
      go_wp2
      go_ret2
      exact ⟨rfl, H2, H3⟩
set_option maxHeartbeats 4000000 in
set_option maxRecDepth 10000 in
theorem numberShort {r : Nat} {n : Int} {G : Option Nat} {l : List Int} {w : World} (h : Rd r G l w) (hn : (l.length : Int) < n) :
    Calls Tryd.prog 61 #[.pointer (some ⟨r, 0, none⟩), .int .i64 n] w fun e w' => e = .returned (.tuple #[.int .u32 0, .int .i64 2]) ∧ w' = w := by
  have HC := Lib.hid (RBytesShort h hn)
  clear h
  go_enter Tryd.func61, Tryd.ntmps61
  go_wp2_with (go_at_call 63; (with_reducible refine HC.out.mono ?_); rintro e w1 ⟨rfl, rfl⟩)
  refine wp_loop_rounds 1 ?_
  rw [rounds_succ]
  go_wp2
  go_ret2
  exact ⟨rfl, rfl⟩
theorem num_lt {l : List Int} {k : Nat} (hb : InB l) (hk : l.length ≤ k) : 0 ≤ num l ∧ num l < 256 ^ k := by
  have h := num_bound l hb
  have : (256 : Int) ^ l.length ≤ 256 ^ k := by
    have : (256 : Nat) ^ l.length ≤ 256 ^ k := Nat.pow_le_pow_right (by omega) hk
    have h2 : ((256 ^ l.length : Nat) : Int) ≤ ((256 ^ k : Nat) : Int) := Int.ofNat_le.2 this
    rwa [Int.natCast_pow, Int.natCast_pow] at h2
  omega
theorem InB.take_ {l : List Int} (h : InB l) (n : Nat) : InB (l.take n) := fun x hx => h x (List.mem_of_mem_take hx)
theorem InB.drop_ {l : List Int} (h : InB l) (n : Nat) : InB (l.drop n) := fun x hx => h x (List.mem_of_mem_drop hx)
set_option maxRecDepth 10000 in
theorem RU8_ok {r : Nat} {G : Option Nat} {l : List Int} {w : World} (h : Rd r G l w) (hn : 1 ≤ l.length) (hb : InB l) :
    Calls Tryd.prog 49 #[.pointer (some ⟨r, 0, none⟩)] w fun e w' => e = .returned (.tuple #[.int .u8 (num (l.take 1)), .int .i64 0]) ∧ Hid (Rd r G (l.drop 1) w') ∧ Hid (Fr1 r w w') := by
  have HC := Lib.hid (numberOk (n := 1) h hn (by omega) hb)
  have hnb := num_lt (k := 1) (hb.take_ 1) (by rw [List.length_take]; omega)
  obtain ⟨a, ha⟩ : ∃ a, a = num (l.take 1) := ⟨_, rfl⟩
  have hq : (256 : Int) ^ 1 = 256 := by decide
  rw [← ha] at HC hnb ⊢
  rw [hq] at hnb
  obtain ⟨hn0, hn1⟩ := hnb
  clear h hb ha hq
  go_enter Tryd.func49, Tryd.ntmps49
  go_wp2_with (go_at_call 61; refine HC.out.mono ?_; rintro e w1 ⟨rfl, H2, H3⟩)
  go_ret2
  exact ⟨rfl, H2, H3⟩
set_option maxRecDepth 10000 in
theorem RU8_short {r : Nat} {G : Option Nat} {l : List Int} {w : World} (h : Rd r G l w) (hn : l.length < 1) :
    Calls Tryd.prog 49 #[.pointer (some ⟨r, 0, none⟩)] w fun e w' => e = .returned (.tuple #[.int .u8 0, .int .i64 2]) ∧ w' = w := by
  have HC := Lib.hid (numberShort (n := 1) h (by omega))
  clear h
  go_enter Tryd.func49, Tryd.ntmps49
  go_wp2_with (go_at_call 61; refine HC.out.mono ?_; rintro e w1 ⟨rfl, rfl⟩)
  go_ret2
  exact ⟨rfl, rfl⟩
set_option maxRecDepth 10000 in
theorem RU16_ok {r : Nat} {G : Option Nat} {l : List Int} {w : World} (h : Rd r G l w) (hn : 2 ≤ l.length) (hb : InB l) :
    Calls Tryd.prog 50 #[.pointer (some ⟨r, 0, none⟩)] w fun e w' => e = .returned (.tuple #[.int .u16 (num (l.take 2)), .int .i64 0]) ∧ Hid (Rd r G (l.drop 2) w') ∧ Hid (Fr1 r w w') := by
  have HC := Lib.hid (numberOk (n := 2) h hn (by omega) hb)
  have hnb := num_lt (k := 2) (hb.take_ 2) (by rw [List.length_take]; omega)
  obtain ⟨a, ha⟩ : ∃ a, a = num (l.take 2) := ⟨_, rfl⟩
  have hq : (256 : Int) ^ 2 = 65536 := by decide
  rw [← ha] at HC hnb ⊢
  rw [hq] at hnb
  obtain ⟨hn0, hn1⟩ := hnb
  clear h hb ha hq
  go_enter Tryd.func50, Tryd.ntmps50
  go_wp2_with (go_at_call 61; refine HC.out.mono ?_; rintro e w1 ⟨rfl, H2, H3⟩)
  go_ret2
  exact ⟨rfl, H2, H3⟩
set_option maxRecDepth 10000 in
theorem RU16_short {r : Nat} {G : Option Nat} {l : List Int} {w : World} (h : Rd r G l w) (hn : l.length < 2) :
    Calls Tryd.prog 50 #[.pointer (some ⟨r, 0, none⟩)] w fun e w' => e = .returned (.tuple #[.int .u16 0, .int .i64 2]) ∧ w' = w := by
  have HC := Lib.hid (numberShort (n := 2) h (by omega))
  clear h
  go_enter Tryd.func50, Tryd.ntmps50
  go_wp2_with (go_at_call 61; refine HC.out.mono ?_; rintro e w1 ⟨rfl, rfl⟩)
  go_ret2
  exact ⟨rfl, rfl⟩
end Go.Proofs.YtdhfinpmcikimaaDoor.K
