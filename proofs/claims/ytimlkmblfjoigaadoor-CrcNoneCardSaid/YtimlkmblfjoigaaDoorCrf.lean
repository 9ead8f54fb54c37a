/- The document's Sum and Sealed: the walks. -/
import Derived.Test.YtimlkmblfjoigaaDoorCr
import Derived.Test.YtimlkmblfjoigaaDoorStr
import Derived.Test.YtimlkmblfjoigaaDoorSt
namespace Go.Proofs.YtimlkmblfjoigaaDoor.K
open Go.RowKit
set_option linter.unusedVariables false
set_option linter.unusedSimpArgs false
/-- Bits of the call's own. -/
def Bs (B : Nat) (v : Value) (L : List Bool) (w : World) : Prop := w.ownsRow B 4 1 v L.length (L.map Value.bool)
theorem info_bool : (Tryd.prog.info? 4).map (fun i => (i.zero, i.size, i.bytes)) = some (some (.bool false), 1, 1) := by kernel_rfl
def kq (j : Nat) : Int := [128, 64, 32, 16, 8, 4, 2, 1].getD j 0
theorem kq_step (c : Int) (j : Nat) (h : j < 8) : ∃ q : Int, kq j = q ∧ kq (j + 1) = q / 2 ∧ (byteBits c).take (j + 1) = (byteBits c).take j ++ [c / q % 2 == 1] ∧ (q = 128 ∨ q = 64 ∨ q = 32 ∨ q = 16 ∨ q = 8 ∨ q = 4 ∨ q = 2 ∨ q = 1) := by
  have : j = 0 ∨ j = 1 ∨ j = 2 ∨ j = 3 ∨ j = 4 ∨ j = 5 ∨ j = 6 ∨ j = 7 := by omega
  rcases this with h | h | h | h | h | h | h | h <;> subst h
  · exact ⟨128, rfl, rfl, rfl, by omega⟩
  · exact ⟨64, rfl, rfl, rfl, by omega⟩
  · exact ⟨32, rfl, rfl, rfl, by omega⟩
  · exact ⟨16, rfl, rfl, rfl, by omega⟩
  · exact ⟨8, rfl, rfl, rfl, by omega⟩
  · exact ⟨4, rfl, rfl, rfl, by omega⟩
  · exact ⟨2, rfl, rfl, rfl, by omega⟩
  · exact ⟨1, rfl, rfl, rfl, by omega⟩
theorem Bs.snoc {B : Nat} {v : Value} {L L' : List Bool} {b : Bool} {w : World} (h : w.ownsRow B 4 1 v (L.length + 1) (L.map Value.bool ++ [.bool b])) (e : L' = L ++ [b]) : Bs B v L' w := by
  subst e
  unfold Bs
  rw [List.length_append, List.map_append]
  exact h
/-- Bits of the call's own, each by a function. -/
def Bf (B : Nat) (A : Option Addr) (n c : Nat) (f : Nat → Bool) (w : World) : Prop := w.ownsRow B 4 1 (.slice A n c) n ((List.range n).map fun j => Value.bool (f j))
theorem Bf.of {B n c : Nat} {A : Option Addr} {L : List Bool} {f : Nat → Bool} {w : World} (h : Bs B (.slice A n c) L w) (hn : L.length = n) (hf : ∀ j, j < n → L.getD j false = f j) : Bf B A n c f w := by
  subst hn
  unfold Bf
  unfold Bs at h
  have : L.map Value.bool = (List.range L.length).map fun j => Value.bool (f j) := by
    apply List.ext_getElem
    · simp
    · intro i h1 h2
      simp only [List.length_map] at h1
      simp only [List.getElem_map, List.getElem_range]
      rw [← hf i h1, List.getD_eq_getElem?_getD, List.getElem?_eq_getElem h1]; rfl
  rw [← this]; exact h
theorem Bf.put {B n c i : Nat} {A : Option Addr} {f : Nat → Bool} {w : World} (h : Bf B A n c f w) (hi : i < n) :
    ∃ g, A = some ⟨g, 0, none⟩ ∧ B ≤ g ∧ g < w.heap.size ∧ (∀ i, i < n → w.cell? ⟨g, i, none⟩ = some (.bool (f i))) ∧ (∀ i, i < n → w.frozen? ⟨g, i, none⟩ = false) := by
  obtain ⟨g, cap, hv, hb, hlt⟩ := h.form (by omega)
  have hA : A = some ⟨g, 0, none⟩ := by injection hv
  subst hA
  exact ⟨g, rfl, hb, hlt, fun i hi => (h.cellAt i (by omega)).trans (by simp [hi]), fun i hi => h.frozenAt i⟩
theorem Bf.set {B n c g i : Nat} {f f' : Nat → Bool} {b : Bool} {w : World} (h : Bf B (some ⟨g, 0, none⟩) n c f w) (hi : i < n) (hf : ∀ j, j < n → f' j = if j = i then b else f j) : Bf B (some ⟨g, 0, none⟩) n c f' (w.setCell ⟨g, i, none⟩ (.bool b)) := by
  have h4 := (h.stored i (.bool b)).1
  unfold Bf
  have e : ((List.range n).map fun j => Value.bool (f j)).set i (.bool b) = (List.range n).map fun j => Value.bool (f' j) := by
    apply List.ext_getElem
    · simp
    · intro k h1 h2
      simp at h2
      rw [List.getElem_set]
      simp only [List.getElem_map, List.getElem_range]
      rw [hf k h2]
      by_cases hk : k = i
      · simp [hk]
      · simp [hk, Ne.symm hk]
  rw [e] at h4
  exact h4
theorem Bf.congr {B n c : Nat} {A : Option Addr} {f f' : Nat → Bool} {w : World} (h : Bf B A n c f w) (hf : ∀ j, f' j = f j) : Bf B A n c f' w := by
  have : f' = f := funext hf
  rw [this]; exact h
theorem bset_below {B g i : Nat} {v : Value} {w0 w : World} (h : Below B w0 w) (hg : B ≤ g) : Below B w0 (w.setCell ⟨g, i, none⟩ v) :=
  ⟨h.os, h.tape, h.output, by simpa [World.setCell] using h.size, fun k hk => (Below.heap_setCell w _ v k (by rintro rfl; exact absurd hk (by simp; omega))).trans (h.block k hk)⟩
theorem msb_bound (x : B16) (k : Nat) (hk : k < 16) : x.toNat / 2 ^ (16 - k) ≤ 32767 := by
  have hx := x.isLt
  have h1 : 2 ≤ 2 ^ (16 - k) := by
    have : 2 ^ 1 ≤ 2 ^ (16 - k) := Nat.pow_le_pow_right (by omega) (by omega)
    omega
  have h2 : x.toNat / 2 ^ (16 - k) ≤ x.toNat / 2 := Nat.div_le_div_left h1 (by omega)
  omega
set_option maxHeartbeats 8000000 in
set_option maxRecDepth 10000 in
theorem SumRC (l : List Int) (w : World) (hi : InB l) (hl : l.length ≤ 3000) : Calls Tryd.prog 13 #[.string (strOfNums l)] w fun e w' => e = .returned (.int .u16 (crcN l)) ∧ Hid (Below w.heap.size w w') := by
  have hsz := str_size l
  have HI := Lib.hid hi
  have HLT : Hid (∀ k, (textBits (l.take k)).length ≤ 24000) := Lib.hid (fun k => by rw [textBits_len, List.length_take]; omega)
  clear hi
  go_enter Tryd.func13, Tryd.ntmps13
  go_wp2
  go_loopw [3, 4] (fun b i wr => ∃ k : Nat, k ≤ l.length ∧ i = .int .i64 k ∧ Bs w.heap.size b (textBits (l.take k)) wr ∧ Below w.heap.size w wr) (fun _ i _ => l.length - (intOf i).toNat)
  case atStart => exact ⟨0, Nat.zero_le _, rfl, World.ownsRow_lit w #[] 0 (Nat.le_refl _) (by decide) rfl, (Below.refl _ w).alloc (Nat.le_refl _) _⟩
  case round =>
    obtain ⟨k, hk, rfl, hbs, hb⟩ := hrel
    have HB := Lib.hid hb
    have HS := Lib.hid hbs
    clear hb hbs
    by_cases hlt : k < l.length
    · have hx : ∀ W, (Instr.index 9 (.string (strOfNums l)) (.int .i64 k)).run Tryd.prog W = .ok (.int .u8 l[k]) W := fun W => by
        rw [run_index_string _ 9 _ _ _ Tryd.underlying9, dif_pos ⟨by omega, by omega⟩, ← str_at l k hlt HI.out (by omega)]
        simp
      have hc := HI.out _ (List.getElem_mem hlt)
      have HTS : Hid (textBits (l.take (k + 1)) = textBits (l.take k) ++ byteBits l[k]) := Lib.hid (by rw [List.take_succ_eq_append_getElem hlt, textBits_snoc])
      have HTL := Lib.hid (HLT.out k)
      generalize l[k] = c at *
      generalize textBits (l.take k) = T at *
      obtain ⟨hc0, hc1⟩ := hc
      go_wp2
      obtain ⟨wo, rfl⟩ : ∃ wo : World, wo = wr := ⟨_, rfl⟩
      go_loopw [3, 5] (fun b q wz => ∃ j : Nat, j ≤ 8 ∧ q = .int .i64 (kq j) ∧ Bs w.heap.size b (T ++ (byteBits c).take j) wz ∧ Below w.heap.size w wz) (fun _ q _ => (intOf q).toNat)
      case atStart => exact ⟨0, by omega, rfl, by simpa using HS.out, HB.out⟩
      case round =>
        obtain ⟨j, hj, rfl, hbs, hb⟩ := hrel
        have HB := Lib.hid hb
        have HS := Lib.hid hbs
        clear hb hbs
        by_cases hj8 : j < 8
        · obtain ⟨q, hq, hq', htk, hcase⟩ := kq_step c j hj8
          have HQ := Lib.hid hq'
          have HTK : Hid (T ++ (byteBits c).take (j + 1) = (T ++ (byteBits c).take j) ++ [c / q % 2 == 1]) := Lib.hid (by rw [htk, List.append_assoc])
          have HLN : Hid ((T ++ (byteBits c).take j).length ≤ 24008) := Lib.hid (by have := HTL.out; rw [List.length_append, List.length_take]; simp only [byteBits, List.length_cons, List.length_nil]; omega)
          have HSZ := Lib.hid HB.out.size
          rw [hq]
          clear htk hq hq'
          generalize T ++ (byteBits c).take j = L at *
          rcases hcase with rfl | rfl | rfl | rfl | rfl | rfl | rfl | rfl
          all_goals
            try simp only [Int.ediv_one] at HTK
            go_wp2_with (at_builtin; (refine app1 rfl _ _ _ rfl 4 (.bool false) 1 1 Tryd.underlying38 info_bool rfl (by omega) (by omega) w.heap.size u3 L.length (L.map Value.bool) _ rfl rfl rfl (fun u hu => by obtain rfl := List.mem_singleton.1 hu; rfl) HS.out (by have := HSZ.out; omega) (by have := HLN.out; omega) ?_; intro v3 w3 h3 h4 h5; have HS3 := Lib.hid (Bs.snoc h3 HTK.out); have HB3 : Hid (Below w.heap.size w w3) := Lib.hid (below_fr HB.out h4 HSZ.out (fun j e => (HS.out.lt j e).1)); clear h3 h4 h5))
            go_roundw
            case rel => exact ⟨j + 1, by omega, by rw [HQ.out]; rfl, HS3.out, HB3.out⟩
            case measure => simp [intOf]
        · obtain rfl : j = 8 := by omega
          have HS2 : Hid (Bs w.heap.size u3 (textBits (l.take (k + 1))) wr) := Lib.hid (by rw [HTS.out]; exact HS.out)
          rw [show kq 8 = 0 from rfl]
          go_wp2
          go_roundw
          case rel => exact ⟨k + 1, by omega, by go_num, HS2.out, HB.out⟩
          case measure => simp [intOf]; omega
    · obtain rfl : k = l.length := by omega
      rw [List.take_length] at HS
      obtain ⟨m, hm⟩ : ∃ m, m = textBits l := ⟨_, rfl⟩
      obtain ⟨M, hM⟩ : ∃ M, M = 8 * l.length := ⟨_, rfl⟩
      have HML : Hid (m.length = M) := Lib.hid (by rw [hm, hM, textBits_len])
      have HDV : Hid (∀ t, t < 16 → dv m M (M + t) = (crc l).getMsbD t) := Lib.hid (fun t ht => by rw [hm, hM]; exact dv_text l HI.out t ht)
      have hM2 : M ≤ 24000 := by omega
      rw [← hm] at HS
      clear hm hM
      go_wp2
      obtain ⟨wo, rfl⟩ : ∃ wo : World, wo = wr := ⟨_, rfl⟩
      go_loopw [3, 6] (fun b i wz => ∃ k : Nat, k ≤ 16 ∧ i = .int .i64 k ∧ Bs w.heap.size b (m ++ List.replicate k false) wz ∧ Below w.heap.size w wz) (fun _ i _ => 16 - (intOf i).toNat)
      case atStart => exact ⟨0, by omega, rfl, by simpa using HS.out, HB.out⟩
      case round =>
        obtain ⟨k, hk, rfl, hbs, hb⟩ := hrel
        have HB := Lib.hid hb
        have HS := Lib.hid hbs
        have HLN : Hid ((m ++ List.replicate k false).length = M + k) := Lib.hid (by rw [List.length_append, List.length_replicate, HML.out])
        have HSZ := Lib.hid HB.out.size
        clear hb hbs
        by_cases h16 : k < 16
        · have HTK : Hid (m ++ List.replicate (k + 1) false = (m ++ List.replicate k false) ++ [false]) := Lib.hid (by rw [List.replicate_succ', List.append_assoc])
          generalize m ++ List.replicate k false = L at *
          go_wp2_with (at_builtin; (refine app1 rfl _ _ _ rfl 4 (.bool false) 1 1 Tryd.underlying38 info_bool rfl (by omega) (by omega) w.heap.size u3 L.length (L.map Value.bool) _ rfl rfl rfl (fun u hu => by obtain rfl := List.mem_singleton.1 hu; rfl) HS.out (by have := HSZ.out; omega) (by have := HLN.out; omega) ?_; intro v3 w3 h3 h4 h5; have HS3 := Lib.hid (Bs.snoc h3 HTK.out); have HB3 : Hid (Below w.heap.size w w3) := Lib.hid (below_fr HB.out h4 HSZ.out (fun j e => (HS.out.lt j e).1)); clear h3 h4 h5))
          go_roundw
          case rel => exact ⟨k + 1, by omega, by go_num, HS3.out, HB3.out⟩
          case measure => simp [intOf]; omega
        · obtain rfl : k = 16 := by omega
          obtain ⟨n, hn⟩ : ∃ n, n = (m ++ List.replicate 16 false).length := ⟨_, rfl⟩
          have hn1 : n ≤ M + 16 := by rw [hn, HLN.out]; omega
          have hn2 : M + 16 ≤ n := by rw [hn, HLN.out]; omega
          obtain ⟨A, c, rfl, hc⟩ := own_form HS.out
          have HF : Hid (Bf w.heap.size A n c (fun j => m.getD j false) wr) := Lib.hid (Bf.of (L := m ++ List.replicate 16 false) (hn ▸ HS.out) hn.symm (fun j hj => by
            rw [List.getD_eq_getElem?_getD, List.getD_eq_getElem?_getD, List.getElem?_append]
            split
            · rfl
            · rename_i h
              rw [List.getElem?_eq_none (l := m) (by omega), List.getElem?_replicate]
              split <;> rfl))
          rw [← hn] at hc ⊢
          clear hn HS HLN
          go_wp2
          obtain ⟨wo, rfl⟩ : ∃ wo : World, wo = wr := ⟨_, rfl⟩
          go_loopw [7] (fun i wz => ∃ k : Nat, k ≤ 16 ∧ i = .int .i64 k ∧ Bf w.heap.size A n c (fun j => if j < k then !m.getD j false else m.getD j false) wz ∧ Below w.heap.size w wz) (fun i _ => 16 - (intOf i).toNat)
          case atStart => exact ⟨0, by omega, rfl, HF.out.congr (fun j => by simp), HB.out⟩
          case round =>
            obtain ⟨k, hk, rfl, hbf, hb⟩ := hrel
            have HB := Lib.hid hb
            have HF := Lib.hid hbf
            clear hb hbf
            by_cases h16 : k < 16
            · obtain ⟨g, rfl, hbg, hgl, hcell, hfroz⟩ := HF.out.put (i := k) (by omega)
              have c1 : wr.cell? ⟨g, k, none⟩ = some (.bool (m.getD k false)) := by have := hcell k (by omega); simpa using this
              have f1 := hfroz k (by omega)
              have HF2 := Lib.hid (HF.out.set (i := k) (b := !m.getD k false) (f' := fun j => if j < k + 1 then !m.getD j false else m.getD j false) (by omega) (fun j hj => by
                by_cases e : j = k
                · subst e; simp
                · have : (j < k + 1) = (j < k) := by rw [eq_iff_iff]; omega
                  simp [e, this]))
              have HB2 := Lib.hid (bset_below (i := k) (v := .bool (!m.getD k false)) HB.out hbg)
              generalize m.getD k false = b at *
              clear hcell hfroz
              go_wp2
              go_roundw
              case rel => exact ⟨k + 1, by omega, by go_num, HF2.out, HB2.out⟩
              case measure => simp [intOf]; omega
            · obtain rfl : k = 16 := by omega
              have HF : Hid (Bf w.heap.size A n c (dv m 0) wr) := Lib.hid (HF.out.congr (fun j => dv_start m j))
              go_wp2
              obtain ⟨wo, rfl⟩ : ∃ wo : World, wo = wr := ⟨_, rfl⟩
              go_loopw [8] (fun i wz => ∃ k : Nat, k ≤ M ∧ i = .int .i64 k ∧ Bf w.heap.size A n c (dv m k) wz ∧ Below w.heap.size w wz) (fun i _ => M - (intOf i).toNat)
              case atStart => exact ⟨0, by omega, rfl, HF.out, HB.out⟩
              case round =>
                obtain ⟨k, hk, rfl, hbf, hb⟩ := hrel
                have HB := Lib.hid hb
                have HF := Lib.hid hbf
                clear hb hbf
                by_cases hkM : k < M
                · have HST : Hid (∀ j, dv m (k + 1) j = if dv m k k then (if j = k then false else if j = k + 4 ∨ j = k + 11 ∨ j = k + 16 then !dv m k j else dv m k j) else dv m k j) := Lib.hid (fun j => dv_step m k j (by rw [HML.out]; exact hkM))
                  obtain ⟨g, rfl, hbg, hgl, hcell, hfroz⟩ := HF.out.put (i := k) (by omega)
                  have c0 := hcell k (by omega)
                  have c4 := hcell (k + 4) (by omega)
                  have c11 := hcell (k + 11) (by omega)
                  have c16 := hcell (k + 16) (by omega)
                  have f0 := hfroz k (by omega)
                  have f4 := hfroz (k + 4) (by omega)
                  have f11 := hfroz (k + 11) (by omega)
                  have f16 := hfroz (k + 16) (by omega)
                  cases hd : dv m k k with
                  | false =>
                    rw [hd] at c0
                    have HF2 : Hid (Bf w.heap.size (some ⟨g, 0, none⟩) n c (dv m (k + 1)) wr) := Lib.hid (HF.out.congr (fun j => by rw [HST.out j, hd]; rfl))
                    clear hcell hfroz c4 c11 c16 f4 f11 f16 hd
                    go_wp2
                    go_roundw
                    case rel => exact ⟨k + 1, by omega, by go_num, HF2.out, HB.out⟩
                    case measure => simp [intOf]; omega
                  | true =>
                    rw [hd] at c0
                    have s0 := HF.out.set (i := k) (b := false) (f' := fun j => if j = k then false else dv m k j) (by omega) (fun j hj => rfl)
                    have s4 := s0.set (i := k + 4) (b := !dv m k (k + 4)) (f' := fun j => if j = k then false else if j = k + 4 then !dv m k j else dv m k j) (by omega) (fun j hj => by
                      by_cases e : j = k + 4
                      · subst e; simp
                      · simp [e])
                    have s11 := s4.set (i := k + 11) (b := !dv m k (k + 11)) (f' := fun j => if j = k then false else if j = k + 4 ∨ j = k + 11 then !dv m k j else dv m k j) (by omega) (fun j hj => by
                      by_cases e : j = k + 11
                      · subst e; simp
                      · simp [e])
                    have s16 := s11.set (i := k + 16) (b := !dv m k (k + 16)) (f' := dv m (k + 1)) (by omega) (fun j hj => by
                      rw [HST.out j, hd]
                      by_cases e : j = k + 16
                      · subst e; simp
                      · simp [e])
                    have HF2 := Lib.hid s16
                    have HB2 := Lib.hid (bset_below (i := k + 16) (v := .bool (!dv m k (k + 16))) (bset_below (i := k + 11) (v := .bool (!dv m k (k + 11))) (bset_below (i := k + 4) (v := .bool (!dv m k (k + 4))) (bset_below (i := k) (v := .bool false) HB.out hbg) hbg) hbg) hbg)
                    clear s0 s4 s11 s16 hcell hfroz hd HST
                    generalize dv m k (k + 4) = b4 at *
                    generalize dv m k (k + 11) = b11 at *
                    generalize dv m k (k + 16) = b16 at *
                    go_wp2
                    go_roundw
                    case rel => exact ⟨k + 1, by omega, by go_num, HF2.out, HB2.out⟩
                    case measure => simp [intOf]; omega
                · obtain rfl : k = M := by omega
                  obtain ⟨X, hX⟩ : ∃ X, X = (crc l).toNat := ⟨_, rfl⟩
                  have HX : Hid (crcN l = (X : Int)) := Lib.hid (by rw [hX]; rfl)
                  have HXS : Hid (∀ t, t < 16 → X / 2 ^ (16 - (t + 1)) = 2 * (X / 2 ^ (16 - t)) + (if (crc l).getMsbD t then 1 else 0)) := Lib.hid (fun t ht => by rw [hX]; exact msb_step _ t ht)
                  have HXB : Hid (∀ t, t < 16 → X / 2 ^ (16 - t) ≤ 32767) := Lib.hid (fun t ht => by rw [hX]; exact msb_bound _ t ht)
                  have HX0 : Hid (X / 2 ^ 16 = 0) := Lib.hid (by rw [hX]; have := (crc l).isLt; omega)
                  clear hX
                  go_wp2
                  go_loop [9, 10] (fun q i => ∃ t : Nat, t ≤ 16 ∧ i = .int .i64 (k + t : Nat) ∧ q = .int .u16 (X / 2 ^ (16 - t) : Nat)) (fun _ i => (k + 16) - (intOf i).toNat)
                  case atStart => exact ⟨0, by omega, by congr 1; omega, by rw [show 16 - 0 = 16 from rfl, HX0.out]; rfl⟩
                  case round =>
                    obtain ⟨t, ht, rfl, rfl⟩ := hrel
                    by_cases ht16 : t < 16
                    · obtain ⟨g, rfl, hbg, hgl, hcell, hfroz⟩ := HF.out.put (i := k + t) (by omega)
                      have c1 := hcell (k + t) (by omega)
                      rw [HDV.out t ht16] at c1
                      have hq := HXB.out t ht16
                      have HQ := Lib.hid (HXS.out t ht16)
                      clear hcell hfroz
                      generalize X / 2 ^ (16 - t) = q at *
                      cases hb : (crc l).getMsbD t with
                      | false =>
                        rw [hb] at c1 HQ
                        clear hb
                        go_wp2
                        go_round
                        case rel => exact ⟨t + 1, by omega, by go_num, by rw [HQ.out]; go_num⟩
                        case measure => simp [intOf]; omega
                      | true =>
                        rw [hb] at c1 HQ
                        clear hb
                        go_wp2
                        go_round
                        case rel => exact ⟨t + 1, by omega, by go_num, by rw [HQ.out]; go_num⟩
                        case measure => simp [intOf]; omega
                    · obtain rfl : t = 16 := by omega
                      go_wp2
                      go_ret
                      exact ⟨ret_int (by rw [HX.out]; try simp), HB⟩
theorem be_two' (n : Int) (h0 : 0 ≤ n) (h1 : n < 65536) : be n 2 = [n / 256, n % 256] := by
  have : be n 2 = [n / 256 ^ 1 % 256, n / 256 ^ 0 % 256] := rfl
  rw [this]
  congr 1
  · omega
  · congr 1; omega
set_option maxHeartbeats 4000000 in
set_option maxRecDepth 10000 in
theorem SealedRN (l : List Int) (n : Int) (hn : crcN l = n) (w : World) (hi : InB l) (hl : l.length ≤ 3000) : Calls Tryd.prog 14 #[.string (strOfNums l)] w fun e w' => e = .returned (.string (strOfNums (l ++ be n 2))) ∧ Hid (Below w.heap.size w w') := by
  have hb := crcN_bound l
  have C := SumRC l w hi hl
  rw [hn] at hb C
  have HE : Hid (strOfNums l ++ strOfNums [n / 256, n % 256] = strOfNums (l ++ be n 2)) := Lib.hid (by rw [str_append, be_two' _ hb.1 hb.2])
  have C := Lib.hid C
  have hs1 := str_size l
  obtain ⟨hb0, hb1⟩ := hb
  clear hi hn
  have hconv : ∀ (W : World) (x y : Int), (convert 23 9 (.slice (some ⟨W.heap.size, 0, none⟩) 2 2)).run Tryd.prog (W.alloc (.cells #[.int .u8 x, .int .u8 y] 5)) = .ok (.string (strOfNums [x, y])) (W.alloc (.cells #[.int .u8 x, .int .u8 y] 5)) := fun W x y =>
    str_row (w := W.alloc (.cells #[.int .u8 x, .int .u8 y] 5)) (B := W.heap.size + 1) (l := [x, y]) (c := 2) (row_blk (g := W.heap.size) (l := [x, y]) (Blk.new W 5 _) (by omega))
  have hs2 : ∀ x y : Int, (strOfNums [x, y]).size = 2 := fun x y => by rw [str_size]; rfl
  have hd : IntKind.u16.wrap (n.tdiv 256) = n / 256 := by rw [Int.tdiv_eq_ediv_of_nonneg hb0, IntKind.wrap_u16]; omega
  go_enter Tryd.func14, Tryd.ntmps14
  go_wp2_with fail
  (with_reducible refine C.out.mono ?_)
  rintro e w1 ⟨rfl, H1⟩
  go_wp2
  go_ret
  have hs := H1.out.size
  exact ⟨by rw [← HE.out]; rfl, Lib.hid (H1.out.alloc hs _)⟩
theorem SealedRC (l : List Int) (w : World) (hi : InB l) (hl : l.length ≤ 3000) : Calls Tryd.prog 14 #[.string (strOfNums l)] w fun e w' => e = .returned (.string (strOfNums (l ++ be (crcN l) 2))) ∧ Hid (Below w.heap.size w w') := SealedRN l _ rfl w hi hl
end Go.Proofs.YtimlkmblfjoigaaDoor.K
