/- Orders: a book. -/
import Derived.Test.YtigknfkkegccgaaDoorOB2
namespace Go.Proofs.YtigknfkkegccgaaDoor.K
open Go.RowKit
set_option linter.unusedVariables false
set_option linter.unusedSimpArgs false
attribute [local go_sem ↓] Go.wp_at_zero Go.wp_at_succ
/-- An order that is kept: where its lines lie. -/
structure So where
  id : Int
  A : Option Addr
  c : Nat
  ls : List Ln
abbrev cO : So → List Value := fun o => [.int .u32 o.id, .slice o.A o.ls.length o.c]
/-- The book at b: open orders os, in the row v; all that ever were in the map at g. -/
structure Bk (B b g : Nat) (v : Value) (os : List So) (ids : List Int) (w : World) : Prop where
  blk : Blk w b 95 #[v, .map (some g)]
  row : w.ownsRow B 25 2 v os.length (os.flatMap cO)
  each : ∀ o ∈ os, MadeL B o.A o.c o.ls w
  ever : Ever g ids w
  low : B ≤ b ∧ B ≤ g ∧ g ≠ b
theorem Bk.lt {B b g : Nat} {v : Value} {os : List So} {ids : List Int} {w : World} (h : Bk B b g v os ids w) : B ≤ w.heap.size := Nat.le_trans h.low.1 (Nat.le_of_lt h.blk.lt)
theorem Bk.fr {B b g : Nat} {v : Value} {os : List So} {ids : List Int} {S : Nat → Prop} {w w' : World} (h : Bk B b g v os ids w) (k : Fr S w w') (hs : ∀ j, B ≤ j → j < w.heap.size → ¬ S j) : Bk B b g v os ids w' :=
  ⟨h.blk.fr k (hs b h.low.1 h.blk.lt), own_fr h.row k (fun j e => hs j (h.row.lt j e).1 (h.row.lt j e).2), fun o ho => (h.each o ho).fr k (fun j e => hs j ((h.each o ho).1.lt j e).1 ((h.each o ho).1.lt j e).2), h.ever.fr k (hs g h.low.2.1 h.ever.lt), h.low⟩
set_option maxHeartbeats 1000000 in
set_option maxRecDepth 10000 in
theorem NewBookC (w : World) : Calls Tryd.prog 18 #[] w fun e w' => ∃ b g, e = .returned (.pointer (some ⟨b, 0, none⟩)) ∧ Hid (Bk w.heap.size b g (.slice none 0 0) [] [] w') ∧ Hid (Fr0 w w') := by
  have hmm : ∀ W, (Instr.makeMap 93 none).run Tryd.prog W = .ok (.map (some W.heap.size)) (W.alloc (.map #[] 0)) := fun W => rfl
  go_enter Tryd.func18, Tryd.ntmps18
  go_wp2
  go_ret
  have hb : Blk ((w.alloc (.map #[] 0)).alloc (.cells #[.slice none 0 0, .map (some w.heap.size)] 95)) (w.heap.size + 1) 95 #[.slice none 0 0, .map (some w.heap.size)] := by have := Blk.new (w.alloc (.map #[] 0)) 95 #[.slice none 0 0, .map (some w.heap.size)]; simpa using this
  exact ⟨_, w.heap.size, rfl, Lib.hid ⟨hb, own_nil _ _ _ _, (fun o ho => by cases ho), ((ever_made w).fr ((Fr.refl (fun _ => False) _).alloc _) (fun h => h)), ⟨by omega, Nat.le_refl _, by omega⟩⟩, Lib.hid (((Fr.refl _ w).alloc _).alloc _)⟩
/-- The place of an order in a row of them. -/
def idxO (id : Int) (os : List So) : Option Nat := os.findIdx? (fun o => decide (o.id = id))
def idxI (id : Int) (os : List So) : Int := match idxO id os with
  | some k => k
  | none => -1
set_option maxHeartbeats 1000000 in
set_option maxRecDepth 10000 in
theorem place1C {q : Nat} {id oid : Int} {A : Option Addr} {n c : Nat} {w : World} (h0 : w.cell? ⟨q, 0, none⟩ = some (.int .u32 id)) (hb : q < w.heap.size) :
    Calls Tryd.prog 58 #[.agg #[.int .u32 oid, .slice A n c], .pointer (some ⟨q, 0, none⟩)] w fun e w' => e = .returned (.bool (decide (oid = id))) ∧ Hid (Below w.heap.size w w') := by
  have g0 : (w.alloc (.cells #[.int .u32 oid, .slice A n c] 25)).cell? ⟨q, 0, none⟩ = some (.int .u32 id) := (World.cell?_alloc_lt w _ _ hb).trans h0
  clear h0
  go_enter Tryd.func58, Tryd.ntmps58
  go_wp2
  go_ret
  exact ⟨ret_bool (by rw [Bool.eq_iff_iff]; simp), Lib.hid ((Below.refl _ w).alloc (Nat.le_refl _) _)⟩
/-- An order of a row, at its place. -/
theorem RowOf.so {w : World} {B : Nat} {A : Option Addr} {os : List So} (h : RowOf cO 2 w B A os) {k : Nat} (hk : k < os.length) : ∃ ad, A = some ad ∧ ad.block < B ∧ w.cell? (ad.add (k * 2)) = some (.int .u32 (os[k]).id) ∧
    w.cell? ⟨(ad.add (k * 2)).block, (ad.add (k * 2)).off + 1, none⟩ = some (.slice (os[k]).A (os[k]).ls.length (os[k]).c) := by
  obtain ⟨ad, rfl, hb, hcc⟩ := h k (os[k]) (List.getElem?_eq_getElem hk)
  have c0 := hcc 0 _ rfl
  have c1 := hcc 1 _ rfl
  rw [add_field ad (k * 2) _ (by omega)] at c1
  exact ⟨ad, rfl, hb, c0, c1⟩
set_option maxHeartbeats 1000000 in
set_option maxRecDepth 10000 in
theorem IndexOC {q B c : Nat} {id : Int} {A : Option Addr} {os : List So} {w : World} (h0 : w.cell? ⟨q, 0, none⟩ = some (.int .u32 id)) (hb : q < w.heap.size)
    (hr : RowOf cO 2 w B A os) (hB : B ≤ w.heap.size) (hl : os.length ≤ 1000) :
    Calls Tryd.prog 57 #[.slice A os.length c, .func (.func 58) #[] #[.pointer (some ⟨q, 0, none⟩)]] w fun e w' => e = .returned (.int .i64 (idxI id os)) ∧ Hid (Below w.heap.size w w') := by
  have H0 := Lib.hid h0
  have HR := Lib.hid hr
  clear h0 hr
  go_enter Tryd.func57, Tryd.ntmps57
  go_wp2
  go_loopw [8] (fun i wr => ∃ k : Nat, i = .int .i64 k ∧ k ≤ os.length ∧ (∀ j (hj : j < os.length), j < k → (os[j]).id ≠ id) ∧ Below w.heap.size w wr) (fun i _ => os.length - (intOf i).toNat)
  case atStart => exact ⟨0, rfl, by omega, fun j _ h => by omega, Below.refl _ _⟩
  case round =>
    obtain ⟨k, rfl, hk, hno, hf⟩ := hrel
    have HN := Lib.hid hno
    have HF := Lib.hid hf
    clear hno hf
    by_cases hlt : k < os.length
    · obtain ⟨ad, rfl, hb', c0, c1⟩ := (RowOf.below HR.out (HF.out.mono hB)).so hlt
      have hsz := HF.out.size
      have HI1 : Hid ((os[k]).id = id → idxO id os = some k) := Lib.hid (fun h => by
        unfold idxO
        rw [List.findIdx?_eq_some_iff_getElem]
        exact ⟨hlt, by simpa using h, fun j hj => by simpa using HN.out j (by omega) hj⟩)
      have HI2 : Hid ((os[k]).id ≠ id → ∀ j (hj : j < os.length), j < k + 1 → (os[j]).id ≠ id) := Lib.hid (fun h j hj hjk => by
        by_cases e : j = k
        · subst e; exact h
        · exact HN.out j hj (by omega))
      clear hb' HN
      have HC := Lib.hid (place1C (oid := (os[k]).id) (A := (os[k]).A) (n := (os[k]).ls.length) (c := (os[k]).c) ((HF.out.cell (p := ⟨q, 0, none⟩) hb).trans H0.out) (by omega))
      generalize (os[k]).id = x at *
      generalize (os[k]).A = xa at *
      generalize (os[k]).c = xc at *
      generalize (os[k]).ls.length = xn at *
      by_cases hs : x = id
      · rw [show decide (x = id) = true by simp [hs]] at HC
        have HI4 : Hid (idxI id os = k) := Lib.hid (by unfold idxI; rw [HI1.out hs])
        subst hs
        go_wp2_with fail
        refine Calls.mono HC.out ?_
        rintro e w1 ⟨rfl, F1⟩
        go_wp2
        go_ret
        exact ⟨ret_int HI4.out.symm, Lib.hid (HF.out.trans (F1.out.mono hsz))⟩
      · rw [show decide (x = id) = false by simp [hs]] at HC
        have HI3 := Lib.hid (HI2.out hs)
        clear hs HI2 HI1
        go_wp2_with fail
        refine Calls.mono HC.out ?_
        rintro e w1 ⟨rfl, F1⟩
        go_wp2
        go_roundw
        case rel => exact ⟨k + 1, by go_num, by omega, HI3.out, HF.out.trans (F1.out.mono hsz)⟩
        case measure => simp [intOf]; omega
    · obtain rfl : k = os.length := by omega
      have hnone : idxO id os = none := by
        unfold idxO
        rw [List.findIdx?_eq_none_iff]
        intro x hx
        obtain ⟨j, hj, rfl⟩ := List.getElem_of_mem hx
        simpa using HN.out j hj hj
      go_wp2
      go_ret
      exact ⟨ret_int (by unfold idxI; rw [hnone]), Lib.hid HF.out⟩
end Go.Proofs.YtigknfkkegccgaaDoor.K
