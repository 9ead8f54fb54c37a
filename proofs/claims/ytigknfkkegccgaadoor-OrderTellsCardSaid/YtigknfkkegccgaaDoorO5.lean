/- Orders: Parse. -/
import Derived.Test.YtigknfkkegccgaaDoorO6
namespace Go.Proofs.YtigknfkkegccgaaDoor.K
open Go.RowKit
set_option linter.unusedVariables false
set_option linter.unusedSimpArgs false
attribute [local go_sem ↓] Go.wp_at_zero Go.wp_at_succ
set_option maxRecDepth 10000 in
theorem door_err {Qf : Ending → World → Prop} {ts : Array Value} {e0 : Int} {w wr : World} {x y z : Value} (h2 : ts[2]? = some (.pointer (some ⟨w.heap.size, 0, none⟩))) (h3 : ts[3]? = some (.pointer (some ⟨w.heap.size + 1, 0, none⟩))) (hp : Blk wr w.heap.size 25 #[x, y]) (hq : Blk wr (w.heap.size + 1) 29 #[z]) (hb : Below w.heap.size w wr)
    (hQ : ∀ w', Below w.heap.size w w' → Qf (.returned (.tuple #[.agg #[.int .u32 0, .slice none 0 0], .int .i64 e0])) w') :
    bodyPostD Tryd.prog Tryd.f15 Qf (Exit.panic (errP e0)) { tmps := ts, defers := [{ target := .fn (.func 34) #[.pointer (some ⟨w.heap.size, 0, none⟩), .pointer (some ⟨w.heap.size + 1, 0, none⟩)], args := #[] }] } wr := by
  refine leaves_cons (f := 34) (args := #[.pointer (some ⟨w.heap.size, 0, none⟩), .pointer (some ⟨w.heap.size + 1, 0, none⟩)]) (by simp) (by simp [go_sem]) ?_
  refine (parse1P e0 _ hp hq).mono ?_
  rintro e u' w'' ⟨rfl, rfl, rfl⟩
  have hp1 : Blk ((wr.setCell ⟨w.heap.size, 0, none⟩ (.int .u32 0)).setCell ⟨w.heap.size, 1, none⟩ (.slice none 0 0)) w.heap.size 25 #[.int .u32 0, .slice none 0 0] := by simpa using (hp.set_ 0 (.int .u32 0)).set_ 1 (.slice none 0 0)
  have hp2 := hp1.far (p := ⟨w.heap.size + 1, 0, none⟩) (by simp) (.int .i64 e0)
  have hq1 : Blk ((wr.setCell ⟨w.heap.size, 0, none⟩ (.int .u32 0)).setCell ⟨w.heap.size, 1, none⟩ (.slice none 0 0)) (w.heap.size + 1) 29 #[z] := (hq.far (p := ⟨w.heap.size, 0, none⟩) (by simp) _).far (p := ⟨w.heap.size, 1, none⟩) (by simp) _
  have hq2 : Blk (((wr.setCell ⟨w.heap.size, 0, none⟩ (.int .u32 0)).setCell ⟨w.heap.size, 1, none⟩ (.slice none 0 0)).setCell ⟨w.heap.size + 1, 0, none⟩ (.int .i64 e0)) (w.heap.size + 1) 29 #[.int .i64 e0] := by simpa using hq1.set_ 0 (.int .i64 e0)
  have hbb := hQ _ (((hb.setCell (p := ⟨w.heap.size, 0, none⟩) (Nat.le_refl _) (.int .u32 0)).setCell (p := ⟨w.heap.size, 1, none⟩) (Nat.le_refl _) (.slice none 0 0)).setCell (p := ⟨w.heap.size + 1, 0, none⟩) (Nat.le_succ _) (.int .i64 e0))
  generalize (((wr.setCell ⟨w.heap.size, 0, none⟩ (.int .u32 0)).setCell ⟨w.heap.size, 1, none⟩ (.slice none 0 0)).setCell ⟨w.heap.size + 1, 0, none⟩ (.int .i64 e0)) = wz at *
  have c0 : wz.cell? ⟨w.heap.size, 0, none⟩ = some (.int .u32 0) := hp2.cell 0
  have c1 : wz.cell? ⟨w.heap.size, 1, none⟩ = some (.slice none 0 0) := hp2.cell 1
  have d0 : wz.cell? ⟨w.heap.size + 1, 0, none⟩ = some (.int .i64 e0) := hq2.cell 0
  simp [Leaves, settle, results, Tryd.results15, go_sem, h2, h3, c0, c1, d0]
  exact hbb
set_option maxRecDepth 10000 in
theorem door_ok {Qf : Ending → World → Prop} {ts : Array Value} {id e0 : Int} {v : Value} {w wz : World} (h2 : ts[2]? = some (.pointer (some ⟨w.heap.size, 0, none⟩))) (h3 : ts[3]? = some (.pointer (some ⟨w.heap.size + 1, 0, none⟩))) (hp : Blk wz w.heap.size 25 #[.int .u32 id, v]) (hq : Blk wz (w.heap.size + 1) 29 #[.int .i64 e0])
    (hQ : Qf (.returned (.tuple #[.agg #[.int .u32 id, v], .int .i64 e0])) wz) :
    bodyPostD Tryd.prog Tryd.f15 Qf Exit.ret { tmps := ts, defers := [{ target := .fn (.func 34) #[.pointer (some ⟨w.heap.size, 0, none⟩), .pointer (some ⟨w.heap.size + 1, 0, none⟩)], args := #[] }] } wz := by
  refine leaves_cons (f := 34) (args := #[.pointer (some ⟨w.heap.size, 0, none⟩), .pointer (some ⟨w.heap.size + 1, 0, none⟩)]) (by simp) (by simp [go_sem]) ?_
  refine (parse1I ⟨w.heap.size, 0, none⟩ ⟨w.heap.size + 1, 0, none⟩ _).mono ?_
  rintro e u' w'' ⟨rfl, rfl, rfl⟩
  have c0 : w''.cell? ⟨w.heap.size, 0, none⟩ = some (.int .u32 id) := hp.cell 0
  have c1 : w''.cell? ⟨w.heap.size, 1, none⟩ = some v := hp.cell 1
  have d0 : w''.cell? ⟨w.heap.size + 1, 0, none⟩ = some (.int .i64 e0) := hq.cell 0
  simp [Leaves, settle, results, Tryd.results15, go_sem, h2, h3, c0, c1, d0]
  exact hQ
/-- The error's way out, said of what Parse tells. -/
theorem told_err {b : List Int} {w : World} {e0 : Int} (h : parseO b = (e0, 0, [])) : ∀ w', Below w.heap.size w w' → ∃ A' c', Ending.returned (.tuple #[.agg #[.int .u32 0, .slice none 0 0], .int .i64 e0]) = .returned (.tuple #[.agg #[.int .u32 (parseO b).2.1, .slice A' (parseO b).2.2.length c'], .int .i64 (parseO b).1]) ∧ Hid (MadeL w.heap.size A' c' (parseO b).2.2 w') ∧ Hid (Below w.heap.size w w') := by
  intro w' hb
  rw [h]
  exact ⟨none, 0, rfl, Lib.hid (MadeL.nil_ _ _), Lib.hid hb⟩
theorem parse_full {b : List Int} (h5 : ¬ b.length < 5) (h : b.length = 5 + 6 * nOf b) : parseO b = if rightO (lnsOf (nOf b) (b.drop 5)) = 0 then (0, num (b.take 4), lnsOf (nOf b) (b.drop 5)) else (rightO (lnsOf (nOf b) (b.drop 5)), 0, []) := by
  unfold parseO
  rw [if_neg (by omega), if_neg (by omega)]
set_option maxHeartbeats 4000000 in
set_option maxRecDepth 10000 in
theorem ParseC {c : Nat} {A : Option Addr} {b : List Int} {w : World} (hr : RowOf c8 1 w w.heap.size A b) (hi : InB b) (hl : b.length ≤ 1000) :
    Calls Tryd.prog 15 #[.slice A b.length c] w fun e w' => ∃ A' c', e = .returned (.tuple #[.agg #[.int .u32 (parseO b).2.1, .slice A' (parseO b).2.2.length c'], .int .i64 (parseO b).1]) ∧ Hid (MadeL w.heap.size A' c' (parseO b).2.2 w') ∧ Hid (Below w.heap.size w w') := by
  have hmf : ∀ (fn : Fn) (first cap : Array Value) (w : World), (Instr.makeFunc fn first cap).run Tryd.prog w = .ok (.func fn first cap) w := fun _ _ _ _ => rfl
  obtain ⟨W, hW⟩ : ∃ W, W = (w.alloc (.cells #[.int .u32 0, .slice none 0 0] 25)).alloc (.cells #[.int .i64 0] 29) := ⟨_, rfl⟩
  have hp : Blk W w.heap.size 25 #[.int .u32 0, .slice none 0 0] := by rw [hW]; exact (Blk.new w _ _).alloc _
  have hq : Blk W (w.heap.size + 1) 29 #[.int .i64 0] := by rw [hW]; have := Blk.new (w.alloc (.cells #[.int .u32 0, .slice none 0 0] 25)) 29 #[.int .i64 0]; simpa using this
  have hb : Below w.heap.size w W := by rw [hW]; exact ((Below.refl _ w).alloc (Nat.le_refl _) _).alloc (by simp) _
  have HRow := Lib.hid (RowOf.now hr hb)
  have HP := Lib.hid hp
  have HQ := Lib.hid hq
  have HB := Lib.hid hb
  have HI := Lib.hid hi
  have HWE := Lib.hid hW.symm
  clear hp hq hb hr hi hW
  go_enter_defers Tryd.func15, Tryd.ntmps15
  go_wp2_with fail
  rw [HWE.out]
  refine Calls.mono (ReadC (by omega) HRow.out) ?_
  rintro e w1 ⟨r, G, rfl, hr1, hg1, HRd, HFr⟩
  have hps : PS w r G 0 (.slice none 0 0) [] b w1 := ⟨HP.out.fr HFr.out (fun h => h), HQ.out.fr HFr.out (fun h => h), own_nil _ _ _ _, HRd.out, HB.out.trans (HFr.out.below0.mono HB.out.size), Nat.le_trans HB.out.size hr1, fun g e => Nat.le_trans HB.out.size (hg1 g e)⟩
  have HPS := Lib.hid hps
  clear hps HRd HFr hr1 hg1 HP HQ HB HRow HWE
  by_cases h4 : b.length < 4
  · have hpe : parseO b = (2, 0, []) := by unfold parseO; rw [if_pos (.inl (by omega))]
    have HE := Lib.hid (fun W (h : Below w.heap.size w W) => told_err hpe W h)
    clear hpe
    go_wp2_with (first | (go_at_call 37; refine Calls.mono (RU32_short HPS.out.hr h4) ?_; rintro e w2 ⟨rfl, rfl⟩) | (go_at_call 36; refine Calls.mono (must32P 0 2 (by decide) _) ?_; rintro e w2 ⟨rfl, rfl⟩))
    exact door_err rfl rfl HPS.out.hp HPS.out.hq HPS.out.hb HE.out
  · have c0 := HPS.out.hp.cell 0
    have f0 := HPS.out.hp.frozen 0
    have hidb := num_lt (k := 4) (HI.out.take_ 4) (by rw [List.length_take]; omega)
    go_wp2_with (first | (go_at_call 37; refine Calls.mono (RU32_ok HPS.out.hr (by omega) HI.out) ?_; rintro e w2 ⟨rfl, HR2, HF2⟩; have HPS2 := Lib.hid (HPS.out.read HR2.out HF2.out); have c1 := HPS2.out.hp.cell 0; have f1 := HPS2.out.hp.frozen 0; clear HPS HR2 HF2) | (go_at_call 36; refine Calls.mono (must32C _ _) ?_; rintro e w3 ⟨rfl, rfl⟩))
    have HPS3 := Lib.hid (HPS2.out.setid (num (b.take 4)))
    clear HPS2 c0 f0 c1 f1
    generalize w3.setCell ⟨w.heap.size, 0, none⟩ (.int .u32 (num (b.take 4))) = wa at *
    by_cases h5 : b.length < 5
    · have hpe : parseO b = (2, 0, []) := by unfold parseO; rw [if_pos (.inl h5)]
      have HE := Lib.hid (fun W (h : Below w.heap.size w W) => told_err hpe W h)
      clear hpe
      refine Calls.mono (RU8_short HPS3.out.hr (by rw [List.length_drop]; omega)) ?_
      rintro e w2 ⟨rfl, rfl⟩
      go_wp2_with (go_at_call 38; refine Calls.mono (must8P 0 2 (by decide) _) ?_; rintro e w2 ⟨rfl, rfl⟩)
      exact door_err rfl rfl HPS3.out.hp HPS3.out.hq HPS3.out.hb HE.out
    · refine Calls.mono (RU8_ok HPS3.out.hr (by rw [List.length_drop]; omega) (HI.out.drop_ 4)) ?_
      rintro e w2 ⟨rfl, HR4, HF4⟩
      have hnb := num_lt (k := 1) ((HI.out.drop_ 4).take_ 1) (by rw [List.length_take]; omega)
      have hps4 := HPS3.out.read HR4.out HF4.out
      rw [List.drop_drop, show 4 + 1 = 5 from rfl] at hps4
      have HPS4 := Lib.hid hps4
      have hnn : num ((b.drop 4).take 1) = (nOf b : Int) := by unfold nOf; omega
      rw [hnn] at hnb ⊢
      have hn256 : nOf b < 256 := by have : (256 : Int) ^ 1 = 256 := by decide
                                     omega
      clear HPS3 HR4 HF4 hps4 hnn hnb hidb
      have HN := Lib.hid (rfl : nOf b = nOf b)
      generalize hn : nOf b = n at *
      have HNE := Lib.hid hn
      clear hn HN
      go_wp2_with (go_at_call 38; refine Calls.mono (must8C _ _) ?_; rintro e w2 ⟨rfl, rfl⟩)
      obtain ⟨id, hid⟩ : ∃ id, num (b.take 4) = id := ⟨_, rfl⟩
      rw [hid] at HPS4 ⊢
      have HID := Lib.hid hid
      clear hid
      go_loopw [19] (fun i wr => ∃ (k : Nat) (v : Value), i = .int .u8 k ∧ k ≤ n ∧ 5 + 6 * k ≤ b.length ∧ PS w r G id v (lnsOf k (b.drop 5)) ((b.drop 5).drop (6 * k)) wr) (fun i _ => n - (intOf i).toNat)
      case atStart => exact ⟨0, _, rfl, by omega, by omega, by simpa [lnsOf] using HPS4.out⟩
      case round =>
        clear HPS4
        obtain ⟨k, v, rfl, hk, hkl, hps⟩ := hrel
        have HPS := Lib.hid hps
        obtain ⟨VA, vc, rfl, hvc⟩ := own_form hps.hv
        clear hps
        have hib : InB ((b.drop 5).drop (6 * k)) := (HI.out.drop_ 5).drop_ _
        have HIB := Lib.hid hib
        have hlen : ((b.drop 5).drop (6 * k)).length + 5 + 6 * k = b.length := by rw [List.length_drop, List.length_drop]; omega
        have HLL := Lib.hid (lnsOf_len k (b.drop 5))
        clear hib
        by_cases hlt : k < n
        · have hsn := lnsOf_snoc k (b.drop 5)
          have HSN := Lib.hid hsn
          have hdd : ((b.drop 5).drop (6 * k)).drop 6 = b.drop (5 + 6 * (k + 1)) := by rw [List.drop_drop, List.drop_drop]; congr 1
          have HDD := Lib.hid hdd
          clear hsn hdd
          generalize lnsOf k (b.drop 5) = ls at *
          generalize (b.drop 5).drop (6 * k) = m at *
          have hpe : m.length < 6 → parseO b = (2, 0, []) := fun h6 => by unfold parseO; rw [HNE.out, if_pos (.inr (by omega))]
          have HE := Lib.hid (fun h6 W (h : Below w.heap.size w W) => told_err (hpe h6) W h)
          have hll : ls.length ≤ 1000 := by have := HLL.out; omega
          clear hpe
          go_wp2_with fail
          refine region_inv (fun a0 => ParI ⟨w, r, G, id, VA, vc, ls, m, a0⟩) (by kernel_rfl) ?init ?done ?step
          case init => exact ParI.init (c := ⟨w, r, G, id, VA, vc, ls, m, _⟩) rfl (HPS.out.same ⟨rfl, rfl, rfl, rfl⟩)
          case done =>
            rintro listed a w' hsz hI hr
            obtain ⟨tm, df⟩ := a
            obtain ⟨x0, x1, x2, x3, x4, x5, x6, x7, x8, x9, x10, x11, x12, x13, x14, x15, x16, x17, x18, x19, x20, x21, x22, x23, x24, x25, x26, x27, x28, x29, x30, x31, x32, x33, x34, x35, x36, x37, x38, x39, x40, x41, x42, x43, x44, x45, x46, x47, x48, x49, x50, rfl⟩ := shape51 tm hI.size
            obtain ⟨h6, A2, c2, hp9⟩ := hI.all (fun j hj => ready_nil hsz (by kernel_rfl) hr j hj)
            obtain rfl : df = [{ target := .fn (.func 34) #[.pointer (some ⟨w.heap.size, 0, none⟩), .pointer (some ⟨w.heap.size + 1, 0, none⟩)], args := #[] }] := hI.defs
            obtain rfl : x0 = .slice A b.length c := hI.base 0 (by omega)
            obtain rfl : x1 = undef := hI.base 1 (by omega)
            obtain rfl : x2 = .pointer (some ⟨w.heap.size, 0, none⟩) := hI.base 2 (by omega)
            obtain rfl : x3 = .pointer (some ⟨w.heap.size + 1, 0, none⟩) := hI.base 3 (by omega)
            obtain rfl : x4 = .pointer (some ⟨r, 0, none⟩) := hI.base 4 (by omega)
            obtain rfl : x5 = .func (.func 34) #[] #[.pointer (some ⟨w.heap.size, 0, none⟩), .pointer (some ⟨w.heap.size + 1, 0, none⟩)] := hI.base 5 (by omega)
            obtain rfl : x6 = .slice A b.length c := hI.base 6 (by omega)
            obtain rfl : x7 = .pointer (some ⟨r, 0, none⟩) := hI.base 7 (by omega)
            obtain rfl : x8 = .pointer (some ⟨r, 0, none⟩) := hI.base 8 (by omega)
            obtain rfl : x9 = .tuple #[.int .u32 id, .int .i64 0] := hI.base 9 (by omega)
            obtain rfl : x10 = .int .u32 id := hI.base 10 (by omega)
            obtain rfl : x11 = .int .i64 0 := hI.base 11 (by omega)
            obtain rfl : x12 = .int .u32 id := hI.base 12 (by omega)
            obtain rfl : x13 = .pointer (some ⟨w.heap.size, 0, none⟩) := hI.base 13 (by omega)
            obtain rfl : x14 = .pointer (some ⟨r, 0, none⟩) := hI.base 14 (by omega)
            obtain rfl : x15 = .tuple #[.int .u8 n, .int .i64 0] := hI.base 15 (by omega)
            obtain rfl : x16 = .int .u8 n := hI.base 16 (by omega)
            obtain rfl : x17 = .int .i64 0 := hI.base 17 (by omega)
            obtain rfl : x18 = .int .u8 n := hI.base 18 (by omega)
            obtain rfl : x19 = .int .u8 k := hI.base 19 (by omega)
            obtain rfl : x20 = .bool true := hI.base 20 (by omega)
            obtain rfl : x44 = undef := hI.base 44 (by omega)
            obtain rfl : x45 = undef := hI.base 45 (by omega)
            obtain rfl : x46 = undef := hI.base 46 (by omega)
            obtain rfl : x47 = undef := hI.base 47 (by omega)
            obtain rfl : x48 = undef := hI.base 48 (by omega)
            obtain rfl : x49 = undef := hI.base 49 (by omega)
            obtain rfl : x50 = undef := hI.base 50 (by omega)
            clear hI hr hsz
            have HP9 := Lib.hid hp9
            clear hp9
            go_wp2
            go_roundw
            case rel => exact ⟨k + 1, by omega, by omega, by omega, .slice A2 (ls ++ [lnOf m]).length c2, by rw [HSN.out]; have h9 : PS w r G id (.slice A2 (ls ++ [lnOf m]).length c2) (ls ++ [lnOf m]) (m.drop 6) w' := HP9.out; rw [HDD.out] at h9; exact h9⟩
            case measure => simp [intOf]; omega
          case step =>
            rintro listed a w' hsz hI j hj
            obtain ⟨hj0, o, ho, hafter⟩ := mem_ready.1 hj
            match j, ho with
            | 0, ho =>
              obtain rfl := Option.some.inj ho
              exact stepV rfl (wanted_none rfl) (run_field1 rfl (hI.base 2 (by omega))) (hI.stay (j := 0) (by decide) hsz (fun u hu => Option.some.inj hu) (by decide) (fun e => absurd e (by decide)) (fun e => absurd e (by decide)) (fun e => absurd e (by decide)) (fun e => absurd e (by decide)) (fun e => absurd e (by decide)))
            | 1, ho =>
              obtain rfl := Option.some.inj ho
              obtain ⟨n9, hl9, hw9⟩ := hI.ph
              have hn9 : n9 < 5 := by
                rcases Nat.lt_or_ge n9 5 with h | h
                · exact h
                · exact absurd (hl9.l1 h) (hfalse hj0)
              exact stepV rfl (wanted_none rfl) (run_loadL rfl (hI.vals 0 _ rfl (hafter ⟨0, .data⟩ (by simp) rfl)) (hw9.cell hn9)) (hI.stay (j := 1) (by decide) hsz (fun u hu => Option.some.inj hu) (by decide) (fun e => absurd e (by decide)) (fun e => absurd e (by decide)) (fun e => absurd e (by decide)) (fun e => absurd e (by decide)) (fun e => absurd e (by decide)))
            | 2, ho =>
              obtain rfl := Option.some.inj ho
              exact stepV rfl (wanted_none rfl) (run_move rfl (hI.base 4 (by omega))) (hI.stay (j := 2) (by decide) hsz (fun u hu => Option.some.inj hu) (by decide) (fun e => absurd e (by decide)) (fun e => absurd e (by decide)) (fun e => absurd e (by decide)) (fun e => absurd e (by decide)) (fun e => absurd e (by decide)))
            | 3, ho =>
              obtain rfl := Option.some.inj ho
              obtain ⟨n9, hl9, hw9⟩ := hI.ph
              have hup : ¬ 1 ≤ n9 := fun h => hfalse hj0 (hl9.u1.trans (decide_eq_true h))
              obtain rfl : n9 = 0 := by omega
              refine stepC rfl (wanted_none rfl) (run_call_U16 rfl (hI.vals 2 _ rfl (hafter ⟨2, .data⟩ (by simp) rfl))) (PS.u16g hw9 HIB.out) ?_
              rintro e w2 ⟨rfl, H2⟩
              exact ⟨_, rfl, hI.slots (by decide) hsz (fun u hu => Option.some.inj hu) (fun e => absurd e (by decide)) (fun e => absurd e (by decide)) (fun e => absurd e (by decide)) ⟨_, hl9.step hsz (by decide) (fun e => absurd e (by decide)) (fun e => absurd e (by decide)) (fun e => absurd e (by decide)) (fun e => absurd e (by decide)), H2⟩⟩
            | 4, ho =>
              obtain rfl := Option.some.inj ho
              exact stepV rfl (wanted_none rfl) (run_extract (k := 0) rfl (hI.vals 3 _ rfl (hafter ⟨3, .data⟩ (by simp) rfl)) rfl) (hI.stay (j := 4) (by decide) hsz (fun u hu => Option.some.inj hu) (by decide) (fun e => absurd e (by decide)) (fun e => absurd e (by decide)) (fun e => absurd e (by decide)) (fun e => absurd e (by decide)) (fun e => absurd e (by decide)))
            | 5, ho =>
              obtain rfl := Option.some.inj ho
              exact stepV rfl (wanted_none rfl) (run_extract (k := 1) rfl (hI.vals 3 _ rfl (hafter ⟨3, .data⟩ (by simp) rfl)) rfl) (hI.stay (j := 5) (by decide) hsz (fun u hu => Option.some.inj hu) (by decide) (fun e => absurd e (by decide)) (fun e => absurd e (by decide)) (fun e => absurd e (by decide)) (fun e => absurd e (by decide)) (fun e => absurd e (by decide)))
            | 6, ho =>
              obtain rfl := Option.some.inj ho
              have hva := (hI.vals 4 _ rfl (hafter ⟨4, .data⟩ (by simp) rfl))
              have hvb := (hI.vals 5 _ rfl (hafter ⟨5, .data⟩ (by simp) rfl))
              by_cases h0 : eo m = 0
              · rw [h0] at hvb
                refine stepC rfl (wanted_none rfl) (run_call_must16 rfl hva hvb) (must16C _ _) ?_
                rintro e w2 ⟨rfl, rfl⟩
                exact ⟨_, rfl, (hI.stay (j := 6) (by decide) hsz (fun u hu => Option.some.inj hu) (by decide) (fun _ => ⟨h0, hafter ⟨3, .chain⟩ (by simp) rfl⟩) (fun e => absurd e (by decide)) (fun e => absurd e (by decide)) (fun e => absurd e (by decide)) (fun e => absurd e (by decide)))⟩
              · rw [eo_two h0] at hvb
                obtain ⟨n9, hl9, hw9⟩ := hI.ph
                have hup : ¬ 2 ≤ n9 := fun h => hfalse hj0 (hl9.l6 h)
                obtain ⟨x9, y9, z9, hd1, hd2, hd3⟩ := hw9.door (by omega)
                have hs2 := hI.base 2 (by omega)
                have hs3 := hI.base 3 (by omega)
                have hdf := hI.defs
                have hsz9 := hI.size
                obtain ⟨tm, df⟩ := a
                simp only at hdf
                subst hdf
                exact stepP rfl (wanted_none rfl) (run_call_must16 rfl hva hvb) (must16P _ 2 (by decide) _) (fun e w2 h => ⟨_, h.1, h.2 ▸ door_err (slot_some (by rw [show tm.size = 51 from hsz9]; decide) hs2) (slot_some (by rw [show tm.size = 51 from hsz9]; decide) hs3) hd1 hd2 hd3 (HE.out (eo_lt1 h0))⟩)
            | 7, ho =>
              obtain rfl := Option.some.inj ho
              exact stepV rfl (wanted_none rfl) (run_move rfl (hI.base 4 (by omega))) (hI.stay (j := 7) (by decide) hsz (fun u hu => Option.some.inj hu) (by decide) (fun e => absurd e (by decide)) (fun e => absurd e (by decide)) (fun e => absurd e (by decide)) (fun e => absurd e (by decide)) (fun e => absurd e (by decide)))
            | 8, ho =>
              obtain rfl := Option.some.inj ho
              obtain ⟨n9, hl9, hw9⟩ := hI.ph
              have hup : ¬ 2 ≤ n9 := fun h => hfalse hj0 (hl9.u2.trans (decide_eq_true h))
              have hlo : 1 ≤ n9 := hl9.d6 (hafter ⟨6, .chain⟩ (by simp) rfl)
              obtain rfl : n9 = 1 := by omega
              refine stepC rfl (wanted_none rfl) (run_call_U16 rfl (hI.vals 7 _ rfl (hafter ⟨7, .data⟩ (by simp) rfl))) (PS.u16g hw9 (ro_inB HIB.out)) ?_
              rintro e w2 ⟨rfl, H2⟩
              exact ⟨_, rfl, hI.slots (by decide) hsz (fun u hu => Option.some.inj hu) (fun e => absurd e (by decide)) (fun e => absurd e (by decide)) (fun e => absurd e (by decide)) ⟨_, hl9.step hsz (by decide) (fun _ => hafter ⟨6, .chain⟩ (by simp) rfl) (fun e => absurd e (by decide)) (fun e => absurd e (by decide)) (fun e => absurd e (by decide)), H2⟩⟩
            | 9, ho =>
              obtain rfl := Option.some.inj ho
              exact stepV rfl (wanted_none rfl) (run_extract (k := 0) rfl (hI.vals 8 _ rfl (hafter ⟨8, .data⟩ (by simp) rfl)) rfl) (hI.stay (j := 9) (by decide) hsz (fun u hu => Option.some.inj hu) (by decide) (fun e => absurd e (by decide)) (fun e => absurd e (by decide)) (fun e => absurd e (by decide)) (fun e => absurd e (by decide)) (fun e => absurd e (by decide)))
            | 10, ho =>
              obtain rfl := Option.some.inj ho
              exact stepV rfl (wanted_none rfl) (run_extract (k := 1) rfl (hI.vals 8 _ rfl (hafter ⟨8, .data⟩ (by simp) rfl)) rfl) (hI.stay (j := 10) (by decide) hsz (fun u hu => Option.some.inj hu) (by decide) (fun e => absurd e (by decide)) (fun e => absurd e (by decide)) (fun e => absurd e (by decide)) (fun e => absurd e (by decide)) (fun e => absurd e (by decide)))
            | 11, ho =>
              obtain rfl := Option.some.inj ho
              have hva := (hI.vals 9 _ rfl (hafter ⟨9, .data⟩ (by simp) rfl))
              have hvb := (hI.vals 10 _ rfl (hafter ⟨10, .data⟩ (by simp) rfl))
              by_cases h0 : eo (ro m) = 0
              · rw [h0] at hvb
                refine stepC rfl (wanted_none rfl) (run_call_must16 rfl hva hvb) (must16C _ _) ?_
                rintro e w2 ⟨rfl, rfl⟩
                exact ⟨_, rfl, (hI.stay (j := 11) (by decide) hsz (fun u hu => Option.some.inj hu) (by decide) (fun e => absurd e (by decide)) (fun _ => ⟨h0, hafter ⟨8, .chain⟩ (by simp) rfl⟩) (fun e => absurd e (by decide)) (fun e => absurd e (by decide)) (fun e => absurd e (by decide)))⟩
              · rw [eo_two h0] at hvb
                obtain ⟨n9, hl9, hw9⟩ := hI.ph
                have hup : ¬ 3 ≤ n9 := fun h => hfalse hj0 (hl9.l11 h)
                obtain ⟨x9, y9, z9, hd1, hd2, hd3⟩ := hw9.door (by omega)
                have hs2 := hI.base 2 (by omega)
                have hs3 := hI.base 3 (by omega)
                have hdf := hI.defs
                have hsz9 := hI.size
                obtain ⟨tm, df⟩ := a
                simp only at hdf
                subst hdf
                exact stepP rfl (wanted_none rfl) (run_call_must16 rfl hva hvb) (must16P _ 2 (by decide) _) (fun e w2 h => ⟨_, h.1, h.2 ▸ door_err (slot_some (by rw [show tm.size = 51 from hsz9]; decide) hs2) (slot_some (by rw [show tm.size = 51 from hsz9]; decide) hs3) hd1 hd2 hd3 (HE.out (eo_lt2 h0))⟩)
            | 12, ho =>
              obtain rfl := Option.some.inj ho
              exact stepV rfl (wanted_none rfl) (run_move rfl (hI.base 4 (by omega))) (hI.stay (j := 12) (by decide) hsz (fun u hu => Option.some.inj hu) (by decide) (fun e => absurd e (by decide)) (fun e => absurd e (by decide)) (fun e => absurd e (by decide)) (fun e => absurd e (by decide)) (fun e => absurd e (by decide)))
            | 13, ho =>
              obtain rfl := Option.some.inj ho
              obtain ⟨n9, hl9, hw9⟩ := hI.ph
              have hup : ¬ 3 ≤ n9 := fun h => hfalse hj0 (hl9.u3.trans (decide_eq_true h))
              have hlo : 2 ≤ n9 := hl9.d11 (hafter ⟨11, .chain⟩ (by simp) rfl)
              obtain rfl : n9 = 2 := by omega
              refine stepC rfl (wanted_none rfl) (run_call_U16 rfl (hI.vals 12 _ rfl (hafter ⟨12, .data⟩ (by simp) rfl))) (PS.u16g hw9 (ro_inB (ro_inB HIB.out))) ?_
              rintro e w2 ⟨rfl, H2⟩
              exact ⟨_, rfl, hI.slots (by decide) hsz (fun u hu => Option.some.inj hu) (fun e => absurd e (by decide)) (fun e => absurd e (by decide)) (fun e => absurd e (by decide)) ⟨_, hl9.step hsz (by decide) (fun e => absurd e (by decide)) (fun _ => hafter ⟨11, .chain⟩ (by simp) rfl) (fun e => absurd e (by decide)) (fun e => absurd e (by decide)), H2⟩⟩
            | 14, ho =>
              obtain rfl := Option.some.inj ho
              exact stepV rfl (wanted_none rfl) (run_extract (k := 0) rfl (hI.vals 13 _ rfl (hafter ⟨13, .data⟩ (by simp) rfl)) rfl) (hI.stay (j := 14) (by decide) hsz (fun u hu => Option.some.inj hu) (by decide) (fun e => absurd e (by decide)) (fun e => absurd e (by decide)) (fun e => absurd e (by decide)) (fun e => absurd e (by decide)) (fun e => absurd e (by decide)))
            | 15, ho =>
              obtain rfl := Option.some.inj ho
              exact stepV rfl (wanted_none rfl) (run_extract (k := 1) rfl (hI.vals 13 _ rfl (hafter ⟨13, .data⟩ (by simp) rfl)) rfl) (hI.stay (j := 15) (by decide) hsz (fun u hu => Option.some.inj hu) (by decide) (fun e => absurd e (by decide)) (fun e => absurd e (by decide)) (fun e => absurd e (by decide)) (fun e => absurd e (by decide)) (fun e => absurd e (by decide)))
            | 16, ho =>
              obtain rfl := Option.some.inj ho
              have hva := (hI.vals 14 _ rfl (hafter ⟨14, .data⟩ (by simp) rfl))
              have hvb := (hI.vals 15 _ rfl (hafter ⟨15, .data⟩ (by simp) rfl))
              by_cases h0 : eo (ro (ro m)) = 0
              · rw [h0] at hvb
                refine stepC rfl (wanted_none rfl) (run_call_must16 rfl hva hvb) (must16C _ _) ?_
                rintro e w2 ⟨rfl, rfl⟩
                exact ⟨_, rfl, (hI.stay (j := 16) (by decide) hsz (fun u hu => Option.some.inj hu) (by decide) (fun e => absurd e (by decide)) (fun e => absurd e (by decide)) (fun _ => ⟨h0, hafter ⟨13, .chain⟩ (by simp) rfl⟩) (fun e => absurd e (by decide)) (fun e => absurd e (by decide)))⟩
              · rw [eo_two h0] at hvb
                obtain ⟨n9, hl9, hw9⟩ := hI.ph
                have hup : ¬ 4 ≤ n9 := fun h => hfalse hj0 (hl9.l16 h)
                obtain ⟨x9, y9, z9, hd1, hd2, hd3⟩ := hw9.door (by omega)
                have hs2 := hI.base 2 (by omega)
                have hs3 := hI.base 3 (by omega)
                have hdf := hI.defs
                have hsz9 := hI.size
                obtain ⟨tm, df⟩ := a
                simp only at hdf
                subst hdf
                exact stepP rfl (wanted_none rfl) (run_call_must16 rfl hva hvb) (must16P _ 2 (by decide) _) (fun e w2 h => ⟨_, h.1, h.2 ▸ door_err (slot_some (by rw [show tm.size = 51 from hsz9]; decide) hs2) (slot_some (by rw [show tm.size = 51 from hsz9]; decide) hs3) hd1 hd2 hd3 (HE.out (eo_lt3 h0))⟩)
            | 17, ho =>
              obtain rfl := Option.some.inj ho
              have hxx := xo_lt (ro_inB (ro_inB HIB.out))
              exact stepV rfl (wanted_none rfl) (run_conv rfl (hI.vals 16 _ rfl (hafter ⟨16, .data⟩ (by simp) rfl)) hxx.1 hxx.2) (hI.stay (j := 17) (by decide) hsz (fun u hu => Option.some.inj hu) (by decide) (fun e => absurd e (by decide)) (fun e => absurd e (by decide)) (fun e => absurd e (by decide)) (fun _ => hafter ⟨16, .data⟩ (by simp) rfl) (fun e => absurd e (by decide)))
            | 18, ho =>
              obtain rfl := Option.some.inj ho
              exact stepV rfl (wanted_none rfl) (run_buildL (l := yO m) rfl (hI.vals 6 _ rfl (hafter ⟨6, .data⟩ (by simp) rfl)) (hI.vals 11 _ rfl (hafter ⟨11, .data⟩ (by simp) rfl)) (hI.vals 17 _ rfl (hafter ⟨17, .data⟩ (by simp) rfl))) (hI.stay (j := 18) (by decide) hsz (fun u hu => Option.some.inj hu) (by decide) (fun e => absurd e (by decide)) (fun e => absurd e (by decide)) (fun e => absurd e (by decide)) (fun e => absurd e (by decide)) (fun _ => hafter ⟨17, .data⟩ (by simp) rfl))
            | 19, ho =>
              obtain rfl := Option.some.inj ho
              obtain ⟨n9, hl9, hw9⟩ := hI.ph
              have hup : ¬ 4 ≤ n9 := fun h => hfalse hj0 (hl9.b.trans (decide_eq_true h))
              have h16 := hl9.d17 (hl9.d18 (hafter ⟨18, .data⟩ (by simp) rfl))
              have hlo : 3 ≤ n9 := hl9.d16 h16
              obtain rfl : n9 = 3 := by omega
              have hv18 := (hI.vals 18 _ rfl (hafter ⟨18, .data⟩ (by simp) rfl))
              refine stepV rfl (wanted_none rfl) (run_rowL (l := yO m) rfl hv18) ?_
              exact hI.slots (by decide) hsz (fun u hu => by cases hu) (fun e => absurd e (by decide)) (fun e => absurd e (by decide)) (fun e => absurd e (by decide)) ⟨_, hl9.step hsz (by decide) (fun e => absurd e (by decide)) (fun e => absurd e (by decide)) (fun _ => h16) (fun e => absurd e (by decide)), ⟨w', rfl, hw9, (put_at (by rw [hI.size]; decide)).trans (if_pos rfl)⟩⟩
            | 20, ho =>
              obtain rfl := Option.some.inj ho
              obtain ⟨n9, hl9, hw9⟩ := hI.ph
              have hup : ¬ 5 ≤ n9 := fun h => hfalse hj0 (hl9.p.trans (decide_eq_true h))
              have h19 := hafter ⟨19, .data⟩ (by simp) rfl
              rw [hl9.b] at h19
              have hlo : 4 ≤ n9 := of_decide_eq_true h19
              obtain rfl : n9 = 4 := by omega
              obtain ⟨W9, rfl, hp9, hs9⟩ := hw9
              have hv1 := (hI.vals 1 _ rfl (hafter ⟨1, .data⟩ (by simp) rfl))
              have h1l := hafter ⟨1, .data⟩ (by simp) rfl
              refine stepA rfl (wanted_none rfl) (PS.step1 rfl (.tmp 22) (.tmp 40) rfl (yO m) hp9 hll hv1 hs9 ?_)
              intro A2 c2 w2 H2 hk2 hf2
              exact hI.slots (by decide) hsz (fun u hu => by cases hu) (fun e => absurd e (by decide)) (fun e => absurd e (by decide)) (fun e => absurd e (by decide)) ⟨_, hl9.step hsz (by decide) (fun e => absurd e (by decide)) (fun e => absurd e (by decide)) (fun e => absurd e (by decide)) (fun _ => h1l), ⟨A2, c2, (put_at (by rw [hI.size]; decide)).trans (if_pos rfl), hk2, hf2, H2.out⟩⟩
            | 21, ho =>
              obtain rfl := Option.some.inj ho
              exact stepV rfl (wanted_none rfl) (run_field1 rfl (hI.base 2 (by omega))) (hI.stay (j := 21) (by decide) hsz (fun u hu => Option.some.inj hu) (by decide) (fun e => absurd e (by decide)) (fun e => absurd e (by decide)) (fun e => absurd e (by decide)) (fun e => absurd e (by decide)) (fun e => absurd e (by decide)))
            | 22, ho =>
              obtain rfl := Option.some.inj ho
              obtain ⟨n9, hl9, hw9⟩ := hI.ph
              have hup : ¬ 6 ≤ n9 := fun h => hfalse hj0 (hl9.s.trans (decide_eq_true h))
              have h20 := hafter ⟨20, .data⟩ (by simp) rfl
              rw [hl9.p] at h20
              have hlo : 5 ≤ n9 := of_decide_eq_true h20
              obtain rfl : n9 = 5 := by omega
              obtain ⟨A2, c2, hs9, hk9, hf9, hp9⟩ := hw9
              refine stepS rfl (wanted_none rfl) rfl (run_storeL rfl (hI.vals 21 _ rfl (hafter ⟨21, .data⟩ (by simp) rfl)) hs9 hk9 hf9) ?_
              exact hI.last hsz ⟨_, hl9.step hsz (by decide) (fun e => absurd e (by decide)) (fun e => absurd e (by decide)) (fun e => absurd e (by decide)) (fun e => absurd e (by decide)), ⟨A2, c2, hp9⟩⟩
        · obtain rfl : k = n := by omega
          by_cases hz : ((b.drop 5).drop (6 * k)).length = 0
          · have hpe := parse_full (b := b) (by omega) (by rw [HNE.out]; omega)
            rw [HNE.out] at hpe
            have HPE := Lib.hid hpe
            have HOK := Lib.hid (lnsOf_ok k _ (HI.out.drop_ 5))
            clear hpe
            generalize (b.drop 5).drop (6 * k) = m at *
            generalize lnsOf k (b.drop 5) = ls at *
            have hrow : RowOf cL 3 wr wr.heap.size VA ls := row_own (c := cL) (fun _ => rfl) HPS.out.hv
            have HC := Lib.hid (RightC (id := id) (c := vc) hrow (Nat.le_refl _) (by have := HLL.out; omega) hvc HOK.out)
            have HD := Lib.hid (RDoneC HPS.out.hr)
            rw [if_pos hz] at HD
            have HRG := rightO_range ls
            clear hrow
            have p0 := HPS.out.hp.cell 0
            have p1 := HPS.out.hp.cell 1
            go_wp2_with fail
            refine Calls.mono HD.out ?_
            rintro e w2 ⟨rfl, rfl⟩
            go_wp2_with (go_at_call 42; refine Calls.mono (checkC _) ?_; rintro e w2 ⟨rfl, rfl⟩)
            refine Calls.mono HC.out ?_
            rintro e w3 ⟨rfl, F3⟩
            have HP3 := Lib.hid (HPS.out.hp.below F3.out HPS.out.hp.lt)
            have HQ3 := Lib.hid (HPS.out.hq.below F3.out HPS.out.hq.lt)
            have HB3 := Lib.hid (HPS.out.hb.trans (F3.out.mono HPS.out.hb.size))
            by_cases hr0 : rightO ls = 0
            · rw [if_pos hr0] at HPE
              rw [hr0]
              have s0 := HP3.out.cell 0
              have s1 := HP3.out.cell 1
              have z0 := HP3.out.frozen 0
              have z1 := HP3.out.frozen 1
              have d0 := HQ3.out.cell 0
              have y0 := HQ3.out.frozen 0
              clear p0 p1 HC HD
              go_wp2_with (go_at_call 42; refine Calls.mono (checkC _) ?_; rintro e w2 ⟨rfl, rfl⟩)
              have hr2 : Blk (w2.setCell ⟨w.heap.size, 0, none⟩ (.int .u32 id)) w.heap.size 25 #[.int .u32 id, .slice VA ls.length vc] := by simpa using HP3.out.set_ 0 (.int .u32 id)
              have hr3 : Blk ((w2.setCell ⟨w.heap.size, 0, none⟩ (.int .u32 id)).setCell ⟨w.heap.size, 1, none⟩ (.slice VA ls.length vc)) w.heap.size 25 #[.int .u32 id, .slice VA ls.length vc] := by simpa using hr2.set_ 1 (.slice VA ls.length vc)
              have hr4 := hr3.far (p := ⟨w.heap.size + 1, 0, none⟩) (by simp) (.int .i64 0)
              have hq3 : Blk ((w2.setCell ⟨w.heap.size, 0, none⟩ (.int .u32 id)).setCell ⟨w.heap.size, 1, none⟩ (.slice VA ls.length vc)) (w.heap.size + 1) 29 #[.int .i64 0] := (HQ3.out.far (p := ⟨w.heap.size, 0, none⟩) (by simp) _).far (p := ⟨w.heap.size, 1, none⟩) (by simp) _
              have hq4 : Blk (((w2.setCell ⟨w.heap.size, 0, none⟩ (.int .u32 id)).setCell ⟨w.heap.size, 1, none⟩ (.slice VA ls.length vc)).setCell ⟨w.heap.size + 1, 0, none⟩ (.int .i64 0)) (w.heap.size + 1) 29 #[.int .i64 0] := by simpa using hq3.set_ 0 (.int .i64 0)
              have hown := own_fr HPS.out.hv (Fr.of_below F3.out) (fun _ _ h => h)
              have hF : Fr (fun j => j = w.heap.size ∨ j = w.heap.size + 1) w2 (((w2.setCell ⟨w.heap.size, 0, none⟩ (.int .u32 id)).setCell ⟨w.heap.size, 1, none⟩ (.slice VA ls.length vc)).setCell ⟨w.heap.size + 1, 0, none⟩ (.int .i64 0)) :=
                (((Fr.refl (fun j => j = w.heap.size ∨ j = w.heap.size + 1) w2).setCell (p := ⟨w.heap.size, 0, none⟩) (fun _ => .inl rfl) _).setCell (p := ⟨w.heap.size, 1, none⟩) (fun _ => .inl rfl) _).setCell (p := ⟨w.heap.size + 1, 0, none⟩) (fun _ => .inr rfl) _
              have hown2 := own_fr hown hF (fun j e h => by
                rcases h with rfl | rfl
                · exact own_blk_ne hown HP3.out (by decide) e
                · exact own_blk_ne hown HQ3.out (by decide) e)
              obtain ⟨A5, c5, e5, hm5⟩ := madeL_of hown2
              injection e5 with e6 _ e7
              subst e6 e7
              refine door_ok rfl rfl hr4 hq4 ?_
              rw [HPE.out]
              exact ⟨VA, vc, by rw [HID.out], Lib.hid hm5, Lib.hid (below_fr HB3.out hF HB3.out.size (fun j e => by omega))⟩
            · rw [if_neg hr0] at HPE
              have HE := Lib.hid (fun W (h : Below w.heap.size w W) => told_err HPE.out W h)
              clear HPE p0 p1 HC HD
              generalize rightO ls = v at *
              go_wp2_with (go_at_call 42; refine Calls.mono (checkP v hr0 _) ?_; rintro e w2 ⟨rfl, rfl⟩)
              exact door_err rfl rfl HP3.out HQ3.out HB3.out HE.out
          · have hpe : parseO b = (3, 0, []) := by unfold parseO; rw [HNE.out, if_neg (by omega), if_pos (by omega)]
            have HE := Lib.hid (fun W (h : Below w.heap.size w W) => told_err hpe W h)
            clear hpe
            generalize (b.drop 5).drop (6 * k) = m at *
            generalize lnsOf k (b.drop 5) = ls at *
            have HD := Lib.hid (RDoneC HPS.out.hr)
            rw [if_neg hz] at HD
            go_wp2_with fail
            refine Calls.mono HD.out ?_
            rintro e w2 ⟨rfl, rfl⟩
            go_wp2_with (go_at_call 42; refine Calls.mono (checkP 3 (by decide) _) ?_; rintro e w2 ⟨rfl, rfl⟩)
            exact door_err rfl rfl HPS.out.hp HPS.out.hq HPS.out.hb HE.out
end Go.Proofs.YtigknfkkegccgaaDoor.K
