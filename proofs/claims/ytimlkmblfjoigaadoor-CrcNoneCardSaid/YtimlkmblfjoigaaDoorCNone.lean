/- The walk of CrcNone. -/
import Derived.Test.YtimlkmblfjoigaaDoorCTells
namespace Go.Proofs.YtimlkmblfjoigaaDoor.K
open Go.RowKit
set_option linter.unusedVariables false
set_option linter.unusedSimpArgs false
attribute [local go_sem] min2_min min_two
attribute [local go_sem ↓] Go.wp_at_zero Go.wp_at_succ
theorem flat_none {ps : List Part} (h : ∀ p ∈ ps, p.2.2 = []) : flat ps = [] := by
  unfold flat
  rw [List.flatMap_eq_nil_iff]
  exact h
theorem parts_none {w : World} {ps : List Part} (h : ∀ p ∈ ps, p.2.2 = []) : Parts w ps := fun p hp => by
  rw [h p hp]
  exact ⟨fun i x hx => by simp at hx, fun x hx => by simp at hx, by simp⟩
theorem Parts.app {w : World} {ps qs : List Part} (h : Parts w ps) (k : Parts w qs) : Parts w (ps ++ qs) := fun p hp => (List.mem_append.1 hp).elim (h p) (k p)
/-- A row of parts of the call's own. -/
def Pw (B : Nat) (v : Value) (ps : List Part) (w : World) : Prop := w.ownsRow B 23 1 v ps.length (ps.flatMap cP)
theorem Pw.fr0 {B : Nat} {v : Value} {ps : List Part} {w w' : World} (h : Pw B v ps w) (k : Fr0 w w') : Pw B v ps w' := own_fr h k (fun _ _ h => h)
theorem Pw.below {B B' : Nat} {v : Value} {ps : List Part} {w w' : World} (h : Pw B v ps w) (k : Below B' w w') (hB : w.heap.size ≤ B') : Pw B v ps w' := own_fr h (Fr.of_below (k.mono hB)) (fun _ _ h => h)
theorem Pw.row {B : Nat} {v : Value} {ps : List Part} {w : World} (h : Pw B v ps w) : ∃ Q c, v = .slice Q ps.length c ∧ ps.length ≤ c ∧ RowOf cP 1 w w.heap.size Q ps := by
  obtain ⟨Q, c, rfl, hc⟩ := own_form h
  exact ⟨Q, c, rfl, hc, row_own (c := cP) (fun _ => rfl) h⟩
theorem row_onep {w : World} {A : Option Addr} {c n : Nat} {l : List Int} {g B : Nat} (hn : l.length = n) (hg : g = w.heap.size) (hB : g < B) : RowOf cP 1 (w.alloc (.cells #[.slice A n c] 23)) B (some ⟨g, 0, none⟩) [(A, c, l)] := by
  subst hn
  exact row_one hg hB
/-- As app1, the new cell's block by a number of its own. -/
theorem app1g {P : Program} {W : World} {ops : Array Oper} {rest : List Oper} {o : Oper} {a : Act} {Q : Exit → Act → World → Prop} (hgd : o.guard = none) (s x : Operand) (t : TypeId)
    (ho : o.op = .call { callee := .builtin .append, args := #[s, x], argTypes := #[t, t] })
    (e : TypeId) (z : Value) (size bytes : Nat) (ht : P.underlying t = some (.slice e)) (hinfo : (P.info? e).map (fun i => (i.zero, i.size, i.bytes)) = some (some z, size, bytes))
    (hzs : z.cells.size = size) (hsz : 0 < size) (hby : 0 < bytes)
    (base g : Nat) (hg : W.heap.size = g) (v : Value) (n : Nat) (xs ys : List Value) (hs : a.eval s = v) (hx : a.eval x = .slice (some ⟨g, 0, none⟩) 1 1)
    (hy : ys.length = size) (h1 : ∀ u ∈ ys, u.oneCell' = true) (HO : W.ownsRow base e size v n xs) (hbase : base ≤ W.heap.size) (hl : (n + 1) * bytes ≤ 140737488355328)
    (h : ∀ v1 w1, w1.ownsRow base e size v1 (n + 1) (xs ++ ys) → Fr (fun k => v.ownBlock = some k) W w1 → (∀ k, v1.ownBlock = some k → v.ownBlock = some k ∨ W.heap.size ≤ k) → wpList P ops Q rest (a.put o.dst v1) w1) :
    wpList P ops Q (o :: rest) a (W.alloc (.cells ys.toArray e)) := by
  subst hg
  exact app1 hgd s x t ho e z size bytes ht hinfo hzs hsz hby base v n xs ys hs hx hy h1 HO hbase hl h
set_option maxHeartbeats 8000000 in
set_option maxRecDepth 10000 in
theorem cnone_walk (A : Option Addr) (c : Nat) (zs : List Int) (hc : zs.length ≤ c) (hcm : c ≤ 9223372036854775807) (a1 a2 : Int) (w : World) (hT : Turns w) (h0 : RowOf c8 1 w w.heap.size A zs) (b0 : InB zs) :
    Calls Tryd.prog 11 #[.slice A zs.length c, .int .i64 a1, .int .i64 a2] w fun e w' => e = .returned (.bool true) ∧ Below w.heap.size w w' := by
  obtain ⟨n, hn, hn1, hn2⟩ := min_nat zs.length 300
  have hcut := fun W => bcut_hi A zs.length c n (by omega) W
  obtain ⟨l, hl⟩ : ∃ l, l = zs.take n := ⟨_, rfl⟩
  have hln : n = l.length := by rw [hl, List.length_take]; omega
  subst hln
  have HR := Lib.hid (hl ▸ h0.take_ l.length : RowOf c8 1 w w.heap.size A l)
  have HI := Lib.hid (hl ▸ b0.take_ l.length : InB l)
  have hcc : l.length ≤ c := by omega
  clear h0 b0 hl hc
  have hmin : min (zs.length : Int) 300 = (l.length : Int) := hn
  obtain ⟨mk, hmk, hbits⟩ := and_mask a1 65535 (by omega)
  have hbits : bits .and .i64 a1 65535 = (mk : Int) := hbits
  obtain ⟨mk2, hmk2, hbits2⟩ := and_mask a2 65535 (by omega)
  have hbits2 : bits .and .i64 a2 65535 = (mk2 : Int) := hbits2
  obtain ⟨p, hp⟩ : ∃ p : Nat, p = mk % (l.length + 1) := ⟨_, rfl⟩
  have hp1 : p ≤ l.length := by have := Nat.mod_lt mk (show 0 < l.length + 1 by omega); omega
  have hmod : (mk : Int) % ((l.length : Int) + 1) = (p : Int) := by rw [hp]; simp
  obtain ⟨K, hK⟩ : ∃ K : Nat, K = mk2 % 11 := ⟨_, rfl⟩
  have hK1 : K ≤ 10 := by omega
  have hmod2 : (mk2 : Int) % 11 = (K : Int) := by rw [hK]; simp
  have hhi := fun W => bcut_hi A l.length c p (by omega) W
  have hlo := fun W => bcut_lo A l.length c p hp1 hcc hcm W
  have HT1 : Hid ((l.take p).length = p) := Lib.hid (by rw [List.length_take]; omega)
  have HTd : Hid ((l.drop p).length = l.length - p) := Lib.hid (by rw [List.length_drop])
  have HRt := Lib.hid (HR.out.take_ p)
  have HRd := Lib.hid (HR.out.drop_ (cap := c) p hcc)
  have HIt := Lib.hid (HI.out.take_ p)
  have HId := Lib.hid (HI.out.drop_ p)
  have HLE : Hid (l.take p ++ l.drop p = l) := Lib.hid (List.take_append_drop p l)
  generalize (if c = p then A else A.map (·.add p)) = A2 at *
  generalize l.take p = lt at *
  generalize l.drop p = ld at *
  obtain ⟨q, hq⟩ : ∃ q, l.length - p = q := ⟨_, rfl⟩
  rw [hq] at hlo HTd
  obtain ⟨X, hX⟩ : ∃ X, crcN l = X := ⟨_, rfl⟩
  have HX := Lib.hid hX
  obtain ⟨L, hL⟩ : ∃ L, L = l.length := ⟨_, rfl⟩
  have HL := Lib.hid hL
  have hp3 : p ≤ 300 := by omega
  have hq3 : q ≤ 300 := by omega
  have HTB : Hid (∀ w' : World, Below w.heap.size w w' → Turns w') := Lib.hid (fun w' b => hT.below b hT.lt)
  clear hp hmk hmk2 hn hn1 hq hX hK
  rw [← hL] at hcut hmin hmod hhi hlo hcc hn2 hp1
  clear hL
  go_enter Tryd.func11, Tryd.ntmps11
  go_wp2_with fail
  refine (shown2_walk hT).mono ?_
  rintro e w1 ⟨rfl, H1⟩
  go_wp2
  simp only [hmod, hmod2]
  clear hcut hmin hbits hbits2 hmod hmod2
  go_loopw [8, 9] (fun v i wr => ∃ (k : Nat) (ps : List Part), i = .int .i64 k ∧ k ≤ K ∧ ps.length = k ∧ (∀ p ∈ ps, p.2.2 = []) ∧ Pw w.heap.size v ps wr ∧ Below w.heap.size w wr) (fun _ i _ => K - (intOf i).toNat)
  case atStart => exact ⟨0, [], rfl, by omega, rfl, by simp, own_nil _ _ _ _, H1.out⟩
  case round =>
    obtain ⟨k, ps, rfl, hk, hpl, hnone, hown, hb⟩ := hrel
    have HOWN := Lib.hid hown
    have HB := Lib.hid hb
    have HPL := Lib.hid hpl
    have HNO := Lib.hid hnone
    have hsz := hb.size
    clear hown hb hpl hnone
    by_cases hgo : k < K
    · have hpl10 : ps.length ≤ 10 := by have := HPL.out; omega
      go_wp2_with (at_builtin; (refine app1g rfl _ _ _ rfl 23 (.slice none 0 0) 1 24 Tryd.underlying22 info_bytes rfl (by omega) (by omega) w.heap.size (wr.heap.size + 1) (by simp) u8 ps.length (ps.flatMap cP) [.slice (some ⟨wr.heap.size, 0, none⟩) 0 0] rfl rfl rfl (fun u hu => by obtain rfl := List.mem_singleton.1 hu; rfl) (HOWN.out.alloc _) (by simp; omega) (by omega) ?_; intro v3 w3 h3 h4 h5; have HO3 : Hid (Pw w.heap.size v3 (ps ++ [(some ⟨wr.heap.size, 0, none⟩, 0, [])]) w3) := Lib.hid (by unfold Pw; rw [List.length_append, List.flatMap_append]; exact h3); have HB3 : Hid (Below w.heap.size w w3) := Lib.hid (below_fr (HB.out.alloc hsz _) h4 (by simp; omega) (fun j e => (HOWN.out.lt j e).1)); clear h3 h4 h5))
      go_roundw
      case rel => exact ⟨k + 1, ps ++ [(some ⟨wr.heap.size, 0, none⟩, 0, [])], by go_num, by omega, by simp; exact HPL.out, (fun p hp => by
        rcases List.mem_append.1 hp with hp | hp
        · exact HNO.out p hp
        · rw [List.mem_singleton] at hp; subst hp; rfl), HO3.out, HB3.out⟩
      case measure => simp [intOf]; omega
    · have hkK : k = K := by omega
      have hpl10 : ps.length ≤ 10 := by have := HPL.out; omega
      obtain ⟨Q, qc, rfl, hqc, hrow⟩ := HOWN.out.row
      have HROW := Lib.hid hrow
      have HTr := Lib.hid (HTB.out _ HB.out)
      have HRt := Lib.hid ((HRt.out.below HB.out).more_ hsz)
      have HRd := Lib.hid ((HRd.out.below HB.out).more_ hsz)
      have HRl := Lib.hid ((HR.out.below HB.out).more_ hsz)
      have HPN : Hid (Parts wr ps) := Lib.hid (parts_none HNO.out)
      have HPt : Hid (Parts wr [(A, c, lt)]) := Lib.hid (Parts.cons HRt.out HIt.out (by rw [HT1.out]; omega) (Parts.nil _))
      have HPd : Hid (Parts wr [(A2, c - p, ld)]) := Lib.hid (Parts.cons HRd.out HId.out (by rw [HTd.out]; omega) (Parts.nil _))
      have k1 : Hid True := Lib.hid trivial
      have hn0 : ([] ++ ps : List Part) = ps := rfl
      clear hrow HOWN HPL hgo
      have HL2 : Hid (((wr.drew.alloc (.cells #[] 23)).alloc (.cells #[.slice A p c] 23)).ownsRow wr.heap.size 23 1 (.slice (some ⟨wr.heap.size, 0, none⟩) 0 0) 0 []) := Lib.hid ((World.ownsRow_lit wr.drew #[] 0 (Nat.le_refl _) (by decide) rfl).alloc _)
      have HL3 : Hid (((wr.drew.alloc (.cells #[.slice A p c] 23)).alloc (.cells #[] 23)).ownsRow wr.heap.size 23 1 (.slice (some ⟨wr.heap.size + 1, 0, none⟩) 0 0) 0 []) := Lib.hid (by
        have := World.ownsRow_lit (base := wr.heap.size) (e := 23) (size := 1) (wr.drew.alloc (.cells #[.slice A p c] 23)) #[] 0 (by simp) (by decide) rfl
        simpa using this)
      have HA2 : Hid (RowOf cP 1 ((wr.drew.alloc (.cells #[] 23)).alloc (.cells #[.slice A p c] 23)) (wr.heap.size + 2) (some ⟨wr.heap.size + 1, 0, none⟩) [(A, c, lt)]) := Lib.hid (row_onep HT1.out (by simp) (by omega))
      have HA3 : Hid (RowOf cP 1 ((wr.drew.alloc (.cells #[.slice A p c] 23)).alloc (.cells #[] 23)) (wr.heap.size + 2) (some ⟨wr.heap.size, 0, none⟩) [(A, c, lt)]) := Lib.hid (((row_onep (w := wr.drew) (B := wr.heap.size + 1) HT1.out rfl (Nat.lt_succ_self _)).below ((Below.refl (wr.heap.size + 1) _).alloc (by simp) _)).more_ (by omega))
      have HQ2 : Hid (RowOf cP 1 ((wr.drew.alloc (.cells #[] 23)).alloc (.cells #[.slice A p c] 23)) wr.heap.size Q ps) := Lib.hid (RowOf.below HROW.out (((Below.refl wr.heap.size wr).drew.alloc (Nat.le_refl _) _).alloc (by simp) _))
      have HQ3 : Hid (RowOf cP 1 ((wr.drew.alloc (.cells #[.slice A p c] 23)).alloc (.cells #[] 23)) wr.heap.size Q ps) := Lib.hid (RowOf.below HROW.out (((Below.refl wr.heap.size wr).drew.alloc (Nat.le_refl _) _).alloc (by simp) _))
      go_wp2_with fail
      go_region_held_law (fun _ => True) (trivial) (first
        | (refine stepR (c := cP) rfl _ _ _ rfl 23 (.slice none 0 0) 1 24 Tryd.underlying22 info_bytes rfl (by omega) (by omega) (fun _ => rfl) (fun y u hu => by simp at hu; subst hu; rfl) wr.heap.size wr.heap.size _ [] ps Q qc rfl rfl (RowOf.below HROW.out ((Below.refl wr.heap.size wr).drew.alloc (Nat.le_refl _) _)) (World.ownsRow_lit wr.drew #[] 0 (Nat.le_refl _) (by decide) rfl) (by simp) (by simp only [List.length_nil]; omega) ?_; intro v4 w4 h3 h4 h5; have ka := k1; clear k1; have G4 : Hid (Pw wr.heap.size v4 ps w4) := Lib.hid h3; have F4 : Hid (Fr0 wr w4) := Lib.hid (lit_fr (w := wr.drew) h4 (fun k hk => Nat.le_of_eq (Option.some.inj hk))).undrew; clear h3 h4 h5)
        | (refine stepR (c := cP) rfl _ _ _ rfl 23 (.slice none 0 0) 1 24 Tryd.underlying22 info_bytes rfl (by omega) (by omega) (fun _ => rfl) (fun y u hu => by simp at hu; subst hu; rfl) wr.heap.size (w4.heap.size + 1) _ ps [(A, c, lt)] (some ⟨w4.heap.size, 0, none⟩) 1 rfl rfl (row_onep HT1.out rfl (by omega)) (G4.out.alloc _) (by have := F4.out.size; simp; omega) (by simp; omega) ?_; intro v5 w5 h3 h4 h5; have _t := ka; have G5 : Hid (Pw wr.heap.size v5 (ps ++ [(A, c, lt)]) w5) := Lib.hid h3; have F5 : Hid (Fr0 wr w5) := Lib.hid ((F4.out.alloc _).trans h4 (fun j hj e => by have := (G4.out.lt j e).1; omega)); clear h3 h4 h5 ka G4 F4)
        | (refine stepR (c := cP) rfl _ _ _ rfl 23 (.slice none 0 0) 1 24 Tryd.underlying22 info_bytes rfl (by omega) (by omega) (fun _ => rfl) (fun y u hu => by simp at hu; subst hu; rfl) wr.heap.size wr.heap.size _ [] ps Q qc rfl rfl HQ2.out HL2.out (by simp; omega) (by simp only [List.length_nil]; omega) ?_; intro v4 w4 h3 h4 h5; have kb := k1; clear k1; have G4 : Hid (Pw wr.heap.size v4 ps w4) := Lib.hid h3; have F4 : Hid (Fr0 wr w4) := Lib.hid ((((Fr.refl (fun _ => False) wr).drew.alloc _).alloc _).trans h4 (fun j hj e => by have := Option.some.inj e; simp at this; omega)); have R4 := Lib.hid (row_fr HA2.out h4 (fun ad e => by obtain rfl := Option.some.inj e; exact ⟨by simp, fun e => by have := Option.some.inj e; simp at this⟩)); clear h3 h4 h5)
        | (refine stepR (c := cP) rfl _ _ _ rfl 23 (.slice none 0 0) 1 24 Tryd.underlying22 info_bytes rfl (by omega) (by omega) (fun _ => rfl) (fun y u hu => by simp at hu; subst hu; rfl) wr.heap.size (wr.heap.size + 2) _ ps [(A, c, lt)] (some ⟨wr.heap.size + 1, 0, none⟩) 1 rfl rfl R4.out G4.out (by have := F4.out.size; omega) (by simp; omega) ?_; intro v5 w5 h3 h4 h5; have _t := kb; have G5 : Hid (Pw wr.heap.size v5 (ps ++ [(A, c, lt)]) w5) := Lib.hid h3; have F5 : Hid (Fr0 wr w5) := Lib.hid (F4.out.trans h4 (fun j hj e => by have := (G4.out.lt j e).1; omega)); clear h3 h4 h5 kb G4 F4 R4)
        | (refine stepR (c := cP) rfl _ _ _ rfl 23 (.slice none 0 0) 1 24 Tryd.underlying22 info_bytes rfl (by omega) (by omega) (fun _ => rfl) (fun y u hu => by simp at hu; subst hu; rfl) wr.heap.size wr.heap.size _ [] ps Q qc rfl rfl HQ3.out HL3.out (by simp; omega) (by simp only [List.length_nil]; omega) ?_; intro v4 w4 h3 h4 h5; have kc := k1; clear k1; have G4 : Hid (Pw wr.heap.size v4 ps w4) := Lib.hid h3; have F4 : Hid (Fr0 wr w4) := Lib.hid ((((Fr.refl (fun _ => False) wr).drew.alloc _).alloc _).trans h4 (fun j hj e => by have := Option.some.inj e; simp at this; omega)); have R4 := Lib.hid (row_fr HA3.out h4 (fun ad e => by obtain rfl := Option.some.inj e; exact ⟨by simp; omega, fun e => by have := Option.some.inj e; simp at this⟩)); clear h3 h4 h5)
        | (refine stepR (c := cP) rfl _ _ _ rfl 23 (.slice none 0 0) 1 24 Tryd.underlying22 info_bytes rfl (by omega) (by omega) (fun _ => rfl) (fun y u hu => by simp at hu; subst hu; rfl) wr.heap.size (wr.heap.size + 2) _ ps [(A, c, lt)] (some ⟨wr.heap.size, 0, none⟩) 1 rfl rfl R4.out G4.out (by have := F4.out.size; omega) (by simp; omega) ?_; intro v5 w5 h3 h4 h5; have _t := kc; have G5 : Hid (Pw wr.heap.size v5 (ps ++ [(A, c, lt)]) w5) := Lib.hid h3; have F5 : Hid (Fr0 wr w5) := Lib.hid (F4.out.trans h4 (fun j hj e => by have := (G4.out.lt j e).1; omega)); clear h3 h4 h5 kc G4 F4 R4))
      all_goals
        clear HL2 HL3 HA2 HA3 HQ2 HQ3
        simp only [List.getElem_toArray, List.getElem_cons_succ, List.getElem_cons_zero, List.setIfInBounds_toArray, List.set_cons_succ, List.set_cons_zero]
        have hs5 := F5.out.size
        have HQ5 : Hid (RowOf cP 1 w5 wr.heap.size Q ps) := Lib.hid (HROW.out.below F5.out.below0)
        have HQ5d : Hid (RowOf cP 1 w5.drew wr.heap.size Q ps) := HQ5
        have HG5d : Hid (w5.drew.ownsRow wr.heap.size 23 1 v5 (ps ++ [(A, c, lt)]).length ((ps ++ [(A, c, lt)]).flatMap cP)) := G5
        have HL6 : Hid ((w5.drew.alloc (.cells #[.slice A2 q (c - p)] 23)).ownsRow wr.heap.size 23 1 v5 (ps ++ [(A, c, lt)]).length ((ps ++ [(A, c, lt)]).flatMap cP)) := Lib.hid (HG5d.out.alloc _)
        have HQ6 : Hid (RowOf cP 1 (w5.drew.alloc (.cells #[.slice A2 q (c - p)] 23)) wr.heap.size Q ps) := Lib.hid (RowOf.below HQ5.out ((Below.refl wr.heap.size w5).drew.alloc hs5 _))
        have HA6 : Hid (RowOf cP 1 (w5.drew.alloc (.cells #[.slice A2 q (c - p)] 23)) (w5.heap.size + 1) (some ⟨w5.heap.size, 0, none⟩) [(A2, c - p, ld)]) := Lib.hid (row_onep (w := w5.drew) HTd.out rfl (Nat.lt_succ_self _))
        have HV5 : Hid (∀ j, v5.ownBlock = some j → wr.heap.size ≤ j ∧ j < w5.heap.size) := Lib.hid (fun j e => G5.out.lt j e)
        have k1 : Hid True := Lib.hid trivial
        go_wp2_with fail
        go_region_held_law (fun _ => True) (trivial) (first
          | (refine stepR (c := cP) rfl _ _ _ rfl 23 (.slice none 0 0) 1 24 Tryd.underlying22 info_bytes rfl (by omega) (by omega) (fun _ => rfl) (fun y u hu => by simp at hu; subst hu; rfl) wr.heap.size wr.heap.size v5 (ps ++ [(A, c, lt)]) ps Q qc rfl rfl HQ5d.out HG5d.out (by show wr.heap.size ≤ w5.heap.size; omega) (by simp; omega) ?_; intro v6 w6 h3 h4 h5; have ka := k1; clear k1; have G6 : Hid (Pw wr.heap.size v6 ((ps ++ [(A, c, lt)]) ++ ps) w6) := Lib.hid h3; have F6 : Hid (Fr0 wr w6) := Lib.hid (F5.out.trans (Fr.undrew h4) (fun j hj e => by have := (HV5.out j e).1; omega)); clear h3 h4 h5)
          | (refine stepR (c := cP) rfl _ _ _ rfl 23 (.slice none 0 0) 1 24 Tryd.underlying22 info_bytes rfl (by omega) (by omega) (fun _ => rfl) (fun y u hu => by simp at hu; subst hu; rfl) wr.heap.size (w6.heap.size + 1) _ ((ps ++ [(A, c, lt)]) ++ ps) [(A2, c - p, ld)] (some ⟨w6.heap.size, 0, none⟩) 1 rfl rfl (row_onep HTd.out rfl (by omega)) (G6.out.alloc _) (by have := F6.out.size; simp; omega) (by simp; omega) ?_; intro v7 w7 h3 h4 h5; have _t := ka; have G7 : Hid (Pw wr.heap.size v7 (((ps ++ [(A, c, lt)]) ++ ps) ++ [(A2, c - p, ld)]) w7) := Lib.hid h3; have F7 : Hid (Fr0 wr w7) := Lib.hid ((F6.out.alloc _).trans h4 (fun j hj e => by have := (G6.out.lt j e).1; omega)); clear h3 h4 h5 ka G6 F6)
          | (refine stepR (c := cP) rfl _ _ _ rfl 23 (.slice none 0 0) 1 24 Tryd.underlying22 info_bytes rfl (by omega) (by omega) (fun _ => rfl) (fun y u hu => by simp at hu; subst hu; rfl) wr.heap.size wr.heap.size v5 (ps ++ [(A, c, lt)]) ps Q qc rfl rfl HQ6.out HL6.out (by simp; omega) (by simp; omega) ?_; intro v6 w6 h3 h4 h5; have kb := k1; clear k1; have G6 : Hid (Pw wr.heap.size v6 ((ps ++ [(A, c, lt)]) ++ ps) w6) := Lib.hid h3; have F6 : Hid (Fr0 wr w6) := Lib.hid (((F5.out.drew).alloc _).trans h4 (fun j hj e => by have := (HV5.out j e).1; omega)); have R6 := Lib.hid (row_fr HA6.out h4 (fun ad e => by obtain rfl := Option.some.inj e; exact ⟨by simp, fun e => by have := (HV5.out _ e).2; simp at this⟩)); clear h3 h4 h5)
          | (refine stepR (c := cP) rfl _ _ _ rfl 23 (.slice none 0 0) 1 24 Tryd.underlying22 info_bytes rfl (by omega) (by omega) (fun _ => rfl) (fun y u hu => by simp at hu; subst hu; rfl) wr.heap.size (w5.heap.size + 1) _ ((ps ++ [(A, c, lt)]) ++ ps) [(A2, c - p, ld)] (some ⟨w5.heap.size, 0, none⟩) 1 rfl rfl R6.out G6.out (by have := F6.out.size; omega) (by simp; omega) ?_; intro v7 w7 h3 h4 h5; have _t := kb; have G7 : Hid (Pw wr.heap.size v7 (((ps ++ [(A, c, lt)]) ++ ps) ++ [(A2, c - p, ld)]) w7) := Lib.hid h3; have F7 : Hid (Fr0 wr w7) := Lib.hid (F6.out.trans h4 (fun j hj e => by have := (G6.out.lt j e).1; omega)); clear h3 h4 h5 kb G6 F6 R6))
        all_goals
          clear HL6 HQ6 HA6 HV5 HQ5 HQ5d HG5d G5 F5
          simp only [List.getElem_toArray, List.getElem_cons_succ, List.getElem_cons_zero, List.setIfInBounds_toArray, List.set_cons_succ, List.set_cons_zero]
          have hs7 := F7.out.size
          have HQ7 : Hid (RowOf cP 1 w7 wr.heap.size Q ps) := Lib.hid (HROW.out.below F7.out.below0)
          go_wp2_with (at_builtin; (refine appR (c := cP) rfl _ _ _ rfl 23 (.slice none 0 0) 1 24 Tryd.underlying22 info_bytes rfl (by omega) (by omega) (fun _ => rfl) (fun y u hu => by simp at hu; subst hu; rfl) wr.heap.size wr.heap.size v7 (((ps ++ [(A, c, lt)]) ++ ps) ++ [(A2, c - p, ld)]) ps Q qc rfl rfl HQ7.out G7.out (by omega) (by simp; omega) ?_; intro v8 w8 h3 h4 h5; have G8 : Hid (Pw wr.heap.size v8 ((((ps ++ [(A, c, lt)]) ++ ps) ++ [(A2, c - p, ld)]) ++ ps) w8) := Lib.hid h3; have F8 : Hid (Fr0 wr w8) := Lib.hid (F7.out.trans h4 (fun j hj e => by have := (G7.out.lt j e).1; omega)); clear h3 h4 h5))
          have hs8 := F8.out.size
          have HB8 := Lib.hid (HB.out.trans (F8.out.below0.mono hsz))
          have hT8 := HTB.out _ HB8.out
          have HQ8 := Lib.hid (HROW.out.now F8.out.below0)
          have HP8 := Lib.hid (((((HPN.out.app HPt.out).app HPN.out).app HPd.out).app HPN.out).below F8.out.below0)
          have HF8 : Hid (crcN (flat ((((ps ++ [(A, c, lt)]) ++ ps) ++ [(A2, c - p, ld)]) ++ ps)) = X) := Lib.hid (by
            simp only [flat_app, flat_none HNO.out, flat_one, List.nil_append, List.append_nil]
            rw [HLE.out]; exact HX.out)
          have HN8 : Hid (((((ps ++ [(A, c, lt)]) ++ ps) ++ [(A2, c - p, ld)]) ++ ps).length ≤ 100) := Lib.hid (by simp; omega)
          have HPL8 : Hid (Parts w8 [(A, c, l)]) := Lib.hid (Parts.cons (HRl.out.now F8.out.below0) HI.out (by have := HL.out; omega) (Parts.nil _))
          have HC1 : Hid (([(A, c, l)] : List Part).map pv = [.slice A L c]) := Lib.hid (by simp only [List.map_cons, List.map_nil, pv, ← HL.out])
          have HF1 : Hid (crcN (flat [(A, c, l)]) = X) := Lib.hid (by rw [flat_one]; exact HX.out)
          have HF0 : Hid (crcN (flat ps) = 65535) := Lib.hid (by rw [flat_none HNO.out]; rfl)
          have HPN8 := Lib.hid (HPN.out.below F8.out.below0)
          obtain ⟨Q8, cc8, rfl, _, hrow8⟩ := G8.out.row
          have HR8 := Lib.hid hrow8
          generalize (((ps ++ [(A, c, lt)]) ++ ps) ++ [(A2, c - p, ld)]) ++ ps = LL at *
          clear hrow8 G8 G7 F7 HQ7 F8
          refine Calls.mono (CBitsP (w := w8) (x := X) rfl (Same.refl' w8) hT8 HR8.out HP8.out (by have := HN8.out; omega) HF8.out) ?_
          rintro e w9 ⟨rfl, H9⟩
          have hT9 := hT8.below H9.out hT8.lt
          go_wp2_with fail
          refine Calls.mono (CBitsM (w := w9) (x := X) (cs := #[.slice A L c]) (ps := [(A, c, l)]) rfl rfl ⟨rfl, rfl, rfl, rfl⟩ (by rw [HC1.out]) hT9 (HPL8.out.below H9.out) (by decide) HF1.out) ?_
          rintro e w10 ⟨rfl, H10⟩
          have B10 := Lib.hid (H9.out.trans (H10.out.mono H9.out.size))
          have hT10 := hT8.below B10.out hT8.lt
          clear H9 H10 hT9
          go_wp2_with fail
          refine Calls.mono (CTableP (w := w10) (x := X) rfl (Same.refl' w10) hT10 (HR8.out.now B10.out) (HP8.out.below B10.out) (by have := HN8.out; omega) HF8.out) ?_
          rintro e w11 ⟨rfl, H11⟩
          have B11 := Lib.hid (B10.out.trans (H11.out.mono B10.out.size))
          have hT11 := hT8.below B11.out hT8.lt
          clear B10 H11 hT10
          go_wp2_with fail
          refine Calls.mono (CBitsM (w := w11) (x := X) (cs := #[.slice A L c]) (ps := [(A, c, l)]) rfl rfl ⟨rfl, rfl, rfl, rfl⟩ (by rw [HC1.out]) hT11 (HPL8.out.below B11.out) (by decide) HF1.out) ?_
          rintro e w12 ⟨rfl, H12⟩
          have B12 := Lib.hid (B11.out.trans (H12.out.mono B11.out.size))
          have hT12 := hT8.below B12.out hT8.lt
          clear B11 H12 hT11
          go_wp2_with fail
          refine Calls.mono (CTableP (w := w12) (x := 65535) rfl (Same.refl' w12) hT12 (HQ8.out.now B12.out) (HPN8.out.below B12.out) (by omega) HF0.out) ?_
          rintro e w13 ⟨rfl, H13⟩
          go_wp2
          go_ret
          exact ⟨rfl, HB8.out.trans ((B12.out.trans (H13.out.mono B12.out.size)).mono HB8.out.size)⟩
end Go.Proofs.YtimlkmblfjoigaaDoor.K
