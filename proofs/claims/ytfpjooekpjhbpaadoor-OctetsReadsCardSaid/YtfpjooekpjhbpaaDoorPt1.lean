/- 'parts' of layer 1's laws. -/
import Derived.Test.YtfpjooekpjhbpaaDoorSt
namespace Go.Proofs.YtfpjooekpjhbpaaDoor.K
open Go.RowKit
set_option linter.unusedVariables false
set_option linter.unusedSimpArgs false
attribute [local go_sem] min2_min min_two
theorem Own5.fr {B : Nat} {v : Value} {ps : List Part} {S : Nat → Prop} {w w' : World} (h : Own5 B v ps w) (k : Fr S w w') (hS : ∀ j, B ≤ j → j < w.heap.size → ¬ S j) : Own5 B v ps w' :=
  ⟨own_fr h.row k (fun j e => by have := h.row.lt j e; exact hS j this.1 this.2), fun p hp => by
    obtain ⟨h1, h2, h3⟩ := h.each p hp
    exact ⟨h1.fr k (fun j e => by have := h1.1.lt j e; exact hS j this.1 this.2), h2, h3⟩, h.few⟩
theorem Own5.add {B : Nat} {v v1 : Value} {ps : List Part} {p : Part} {w w1 : World} (h : Own5 B v ps w) (hp : Made B p.1 p.2.1 p.2.2 w) (h50 : p.2.2.length ≤ 50) (hi : InB p.2.2) (h5 : ps.length < 5)
    (h1 : w1.ownsRow B 26 1 v1 (ps ++ [p]).length ((ps ++ [p]).flatMap cP)) (hf : Fr (fun k => v.ownBlock = some k) w w1) : Own5 B v1 (ps ++ [p]) w1 :=
  ⟨h1, fun q hq => by
    rcases List.mem_append.1 hq with hq | hq
    · obtain ⟨a1, a2, a3⟩ := h.each q hq
      exact ⟨a1.fr hf (fun j e e2 => own_ne a1.1 h.row (by decide) j e e2), a2, a3⟩
    · obtain rfl : q = p := by simpa using hq
      exact ⟨hp.fr hf (fun j e e2 => own_ne hp.1 h.row (by decide) j e e2), h50, hi⟩, by simp; omega⟩
theorem flat_app (a b : List Part) : flat (a ++ b) = flat a ++ flat b := by simp [flat]
theorem flat_le {ps : List Part} {n : Nat} (h : ∀ p ∈ ps, p.2.2.length ≤ n) : (flat ps).length ≤ ps.length * n := by
  induction ps with
  | nil => simp [flat]
  | cons p ps ih =>
    have := ih (fun q hq => h q (by simp [hq]))
    have h1 := h p (by simp)
    rw [show flat (p :: ps) = p.2.2 ++ flat ps from rfl, List.length_append, List.length_cons, Nat.succ_mul]; omega
theorem flat_inB {ps : List Part} (h : ∀ p ∈ ps, InB p.2.2) : InB (flat ps) := fun x hx => by
  obtain ⟨p, hp, hx⟩ := List.mem_flatMap.1 hx
  exact h p hp x hx
/-- The input: rows of bytes, each as it can be read. -/
structure In2 (B : Nat) (P : Option Addr) (qs : List Part) (w : World) : Prop where
  row : RowOf cP 1 w B P qs
  each : ∀ p ∈ qs, RowOf c8 1 w B p.1 p.2.2 ∧ InB p.2.2 ∧ p.2.2.length ≤ p.2.1 ∧ p.2.1 ≤ 9223372036854775807
theorem In2.below {B : Nat} {P : Option Addr} {qs : List Part} {w w' : World} (h : In2 B P qs w) (hb : Below B w w') : In2 B P qs w' := ⟨h.row.below hb, fun p hp => ⟨((h.each p hp).1).below hb, (h.each p hp).2⟩⟩
set_option maxHeartbeats 8000000 in
set_option maxRecDepth 10000 in
theorem parts1_walk {P : Option Addr} {qs : List Part} {pc : Nat} {w : World} (hin : In2 w.heap.size P qs w) (hq : qs.length ≤ 9223372036854775807) :
    Calls Tryd.prog 12 #[.slice P qs.length pc] w fun e w' => ∃ v ps, e = .returned (.tuple #[v, .string (strOfNums (flat ps))]) ∧ Hid (Own5 w.heap.size v ps w') ∧ Hid (ps.map (fun p => p.2.2) = (qs.take 5).map fun p => p.2.2.take 50) ∧ Hid (Below w.heap.size w w') := by
  have HIN := Lib.hid hin
  clear hin
  go_enter Tryd.func12, Tryd.ntmps12
  go_wp2
  go_loopw [4, 5, 6] (fun v s i wr => ∃ (k : Nat) (ps : List Part), i = .int .i64 k ∧ s = .string (strOfNums (flat ps)) ∧ k ≤ qs.length ∧ k ≤ 5 ∧ ps.length = k ∧ Own5 w.heap.size v ps wr ∧ ps.map (fun p => p.2.2) = (qs.take k).map (fun p => p.2.2.take 50) ∧ Below w.heap.size w wr) (fun _ _ i _ => qs.length - (intOf i).toNat)
  case atStart => exact ⟨0, [], rfl, by rw [show flat [] = [] from rfl, str_nil]; rfl, by omega, by omega, rfl, ⟨own_nil _ _ _ _, by simp, by simp⟩, rfl, Below.refl _ _⟩
  case round =>
    obtain ⟨k, ps, rfl, rfl, hk, hk5, hpl, hown, hmap, hb⟩ := hrel
    have HOWN := Lib.hid hown
    have HMAP := Lib.hid hmap
    have HB := Lib.hid hb
    have HPL := Lib.hid hpl
    clear hown hmap hb hpl
    by_cases hgo : k < qs.length ∧ k < 5
    · obtain ⟨hlt, h5⟩ := hgo
      have hi := HIN.out.below HB.out
      obtain ⟨ad, rfl, hbd, hcell⟩ := hi.row.one (g := fun p => .slice p.1 p.2.2.length p.2.1) (fun _ => rfl) hlt
      obtain ⟨e1, e2, e3, e4⟩ := hi.each qs[k] (List.getElem_mem hlt)
      have hmk : (qs.take (k + 1)).map (fun p => p.2.2.take 50) = (qs.take k).map (fun p => p.2.2.take 50) ++ [(qs[k]).2.2.take 50] := by rw [List.take_succ_eq_append_getElem hlt, List.map_append]; rfl
      have HMK := Lib.hid hmk
      clear hi hmk
      generalize qs[k] = q at *
      obtain ⟨qA, qc, ql⟩ := q
      simp only at hcell e1 e2 e3 e4 HMK
      obtain ⟨n, hn, hn1, hn2⟩ := min_nat ql.length 50
      have hcut := fun W => bcut_hi qA ql.length qc n (by omega) W
      have hmin : min (ql.length : Int) 50 = (n : Int) := hn
      obtain ⟨l, hl⟩ : ∃ l, l = ql.take n := ⟨_, rfl⟩
      have hln : n = l.length := by rw [hl, List.length_take]; omega
      have hl50 : l = ql.take 50 := by rw [hl, hln, hl, List.length_take]; rw [show min n ql.length = min 50 ql.length by omega]; simp [List.take_eq_take_iff]
      subst hln
      have HR := Lib.hid (hl ▸ e1.take_ l.length : RowOf c8 1 wr w.heap.size qA l)
      have HI := Lib.hid (hl ▸ e2.take_ l.length : InB l)
      have HL50 := Lib.hid hl50
      have hcd : wr.drew.cell? (ad.add k) = some (.slice qA ql.length qc) := hcell
      have hsz := HB.out.size
      clear hl hl50 hn e1 e2 e3 e4
      have hne := World.new_ne wr.drew (ad.add k) hcd
      go_wp2_with fail
      go_region_held_law (fun w' => w'.cell? (ad.add k) = some (.slice qA ql.length qc)) (first | go_keep | exact hk2) ((refine stepR (c := c8) rfl _ _ _ rfl 5 (.int .u8 0) 1 1 Tryd.underlying26 info_u8 rfl (by omega) (by omega) (fun _ => rfl) (fun y u hu => by simp at hu; subst hu; rfl) wr.heap.size w.heap.size _ [] l _ _ rfl rfl (RowOf.below HR.out ((Below.refl w.heap.size wr).drew.alloc hsz _)) (World.ownsRow_lit wr.drew #[] 0 (Nat.le_refl _) (by decide) rfl) (by simp) (by simp only [List.length_nil]; omega) ?_; intro v2 w2 h3 h4 h5; have hk2 : w2.cell? (ad.add k) = some (.slice qA ql.length qc) := (h4.cell (p := ad.add k) (by rw [block_of_add]; simp; omega) (by rw [block_of_add]; intro e; have := Option.some.inj e; simp at this; omega)).trans ((World.cell?_alloc_lt wr.drew _ (ad.add k) (by rw [block_of_add]; show ad.block < wr.heap.size; omega)).trans hcd); have G2 := Lib.hid (made_of (B := wr.heap.size) (v := v2) (l := l) (by rw [nums_flat]; exact h3)); have F2 : Hid (Fr0 wr w2) := Lib.hid (lit_fr (w := wr.drew) h4 (fun k hk => Nat.le_of_eq (Option.some.inj hk))).undrew; clear h3 h4 h5))
      all_goals
        obtain ⟨A2, c2, rfl, hm2⟩ := G2.out
        have hs2 := F2.out.size
        have HM2 : Hid (Made w.heap.size A2 c2 l w2) := Lib.hid (hm2.low hsz)
        have HO2 : Hid (Own5 w.heap.size u4 ps w2) := Lib.hid (HOWN.out.fr F2.out (fun _ _ _ h => h))
        have HB2 : Hid (Below w.heap.size w w2) := Lib.hid (fr0_below HB.out F2.out (Nat.le_refl _))
        have hps := HPL.out
        have hfl : (flat ps).length ≤ 250 := by have := flat_le (n := 50) (fun p hp => ((HOWN.out.each p hp).2.1)); omega
        clear hm2 G2 hne hcut hmin hk2 hcd
        have HROW := Lib.hid HO2.out.row
        go_wp2_with (at_builtin; (refine app1 rfl _ _ _ rfl 26 (.slice none 0 0) 1 24 Tryd.underlying22 info_bytes rfl (by omega) (by omega) w.heap.size u4 ps.length (ps.flatMap cP) [.slice A2 l.length c2] rfl rfl rfl (fun u hu => by obtain rfl := List.mem_singleton.1 hu; rfl) HROW.out (by omega) (by omega) ?_; intro v3 w3 h3 h4 h5; have HO3 : Hid (Own5 w.heap.size v3 (ps ++ [(A2, c2, l)]) w3) := Lib.hid (HO2.out.add (p := (A2, c2, l)) HM2.out hn2 HI.out (by omega) (by rw [List.length_append, List.flatMap_append]; exact h3) h4); have HB3 : Hid (Below w.heap.size w w3) := Lib.hid (below_fr HB2.out h4 (by omega) (fun j e => (HROW.out.lt j e).1)); have s3 := str_row (c := c2) (HO3.out.each (A2, c2, l) (List.mem_append_right ps (List.mem_singleton_self _))).1.2.1; have hss : (strOfNums (flat ps)).size + (strOfNums l).size ≤ 9223372036854775807 := (by rw [str_size, str_size]; omega); have happ := str_append (flat ps) l; clear h3 h4 h5))
        go_roundw
        case rel => exact ⟨k + 1, ps ++ [(A2, c2, l)], by go_num, by rw [flat_app, show flat [(A2, c2, l)] = l by simp [flat]], by omega, by omega, by simp; omega, HO3.out, by rw [List.map_append, HMAP.out, HMK.out, HL50.out]; rfl, HB3.out⟩
        case measure => simp [intOf]; omega
    · rcases (by omega : (¬ k < qs.length) ∨ (k < qs.length ∧ ¬ k < 5)) with hlt | ⟨hlt, h5⟩
      all_goals
        go_wp2
        go_ret2
        have e : qs.take k = qs.take 5 := by
          first
            | (rw [List.take_of_length_le (by omega), List.take_of_length_le (by omega)])
            | (rw [show k = 5 by omega])
        exact ⟨_, ps, rfl, HOWN, Lib.hid (by rw [HMAP.out, e]), HB⟩
end Go.Proofs.YtfpjooekpjhbpaaDoor.K
