/- Orders: whether one is right. -/
import Derived.Test.YtigknfkkegccgaaDoorGe
import Derived.Test.YtigknfkkegccgaaDoorWj
namespace Go.Proofs.YtigknfkkegccgaaDoor.K
open Go.RowKit
set_option linter.unusedVariables false
set_option linter.unusedSimpArgs false
attribute [local go_sem ↓] Go.wp_at_zero Go.wp_at_succ
/-- A line, plain. -/
structure Ln where
  item : Int
  loc : Int
  qty : Int
deriving DecidableEq
abbrev lvs (l : Ln) : Array Value := #[.int .u16 l.item, .int .u16 l.loc, .int .i64 l.qty]
abbrev cL : Ln → List Value := fun l => [.int .u16 l.item, .int .u16 l.loc, .int .i64 l.qty]
/-- Its numbers are of their types. -/
structure Ln.ok (l : Ln) : Prop where
  i : 0 ≤ l.item ∧ l.item < 65536
  o : 0 ≤ l.loc ∧ l.loc < 65536
  q : -9223372036854775808 ≤ l.qty ∧ l.qty < 9223372036854775808
def sameL (l x : Ln) : Bool := decide (x.item = l.item) || decide (x.loc = l.loc)
def lineF (ahead : List Ln) (l : Ln) : Int := if 64 ≤ l.loc then 1 else if l.qty < 1 ∨ 9999 < l.qty then 10 else if ahead.any (sameL l) then 8 else 0
def rightL : List Ln → List Ln → Int
  | _, [] => 0
  | a, x :: r => if lineF a x = 0 then rightL (a ++ [x]) r else lineF a x
def rightO (ls : List Ln) : Int := if ls.length = 0 then 3 else if 8 < ls.length then 5 else rightL [] ls
/-- A line of a row, at its place. -/
theorem RowOf.ln {w : World} {B : Nat} {A : Option Addr} {ls : List Ln} (h : RowOf cL 3 w B A ls) {k : Nat} (hk : k < ls.length) : ∃ ad, A = some ad ∧ ad.block < B ∧ w.cell? (ad.add (k * 3)) = some (.int .u16 (ls[k]).item) ∧
    w.cell? ⟨(ad.add (k * 3)).block, (ad.add (k * 3)).off + 1, none⟩ = some (.int .u16 (ls[k]).loc) ∧ w.cell? ⟨(ad.add (k * 3)).block, (ad.add (k * 3)).off + 2, none⟩ = some (.int .i64 (ls[k]).qty) := by
  obtain ⟨ad, rfl, hb, hcc⟩ := h k (ls[k]) (List.getElem?_eq_getElem hk)
  have c0 := hcc 0 _ rfl
  have c1 := hcc 1 _ rfl
  have c2 := hcc 2 _ rfl
  rw [add_field ad (k * 3) _ (by omega)] at c1 c2
  exact ⟨ad, rfl, hb, c0, c1, c2⟩
set_option maxHeartbeats 1000000 in
set_option maxRecDepth 10000 in
theorem line1C {b : Nat} {l x : Ln} {w : World} (h0 : w.cell? ⟨b, 0, none⟩ = some (.int .u16 l.item)) (h1 : w.cell? ⟨b, 1, none⟩ = some (.int .u16 l.loc)) (hb : b < w.heap.size) :
    Calls Tryd.prog 53 #[.agg (lvs x), .pointer (some ⟨b, 0, none⟩)] w fun e w' => e = .returned (.bool (sameL l x)) ∧ Hid (Below w.heap.size w w') := by
  obtain ⟨li, ll, lq⟩ := l
  obtain ⟨xi, xl, xq⟩ := x
  simp only at h0 h1
  have g0 : (w.alloc (.cells #[.int .u16 xi, .int .u16 xl, .int .i64 xq] 51)).cell? ⟨b, 0, none⟩ = some (.int .u16 li) := (World.cell?_alloc_lt w _ _ hb).trans h0
  have g1 : (w.alloc (.cells #[.int .u16 xi, .int .u16 xl, .int .i64 xq] 51)).cell? ⟨b, 1, none⟩ = some (.int .u16 ll) := (World.cell?_alloc_lt w _ _ hb).trans h1
  clear h0 h1
  unfold sameL
  simp only
  by_cases hi : xi = li
  · subst hi
    go_enter Tryd.func53, Tryd.ntmps53
    go_wp2
    go_ret
    exact ⟨ret_bool (by simp), Lib.hid ((Below.refl _ w).alloc (Nat.le_refl _) _)⟩
  · go_enter Tryd.func53, Tryd.ntmps53
    go_wp2
    go_ret
    exact ⟨ret_bool (by rw [Bool.eq_iff_iff]; simp [hi]), Lib.hid ((Below.refl _ w).alloc (Nat.le_refl _) _)⟩
set_option maxHeartbeats 1000000 in
set_option maxRecDepth 10000 in
theorem IndexLC {b B c : Nat} {l : Ln} {A : Option Addr} {ls : List Ln} {w : World} (h0 : w.cell? ⟨b, 0, none⟩ = some (.int .u16 l.item)) (h1 : w.cell? ⟨b, 1, none⟩ = some (.int .u16 l.loc)) (hb : b < w.heap.size)
    (hr : RowOf cL 3 w B A ls) (hB : B ≤ w.heap.size) (hl : ls.length ≤ 1000) :
    Calls Tryd.prog 60 #[.slice A ls.length c, .func (.func 53) #[] #[.pointer (some ⟨b, 0, none⟩)]] w fun e w' => ∃ r : Int, e = .returned (.int .i64 r) ∧ (0 ≤ r ↔ ls.any (sameL l) = true) ∧ r < 1001 ∧ -2 < r ∧ Hid (Below w.heap.size w w') := by
  have H0 := Lib.hid h0
  have H1 := Lib.hid h1
  have HR := Lib.hid hr
  clear h0 h1 hr
  go_enter Tryd.func60, Tryd.ntmps60
  go_wp2
  go_loopw [8] (fun i wr => ∃ k : Nat, i = .int .i64 k ∧ k ≤ ls.length ∧ (ls.take k).any (sameL l) = false ∧ Below w.heap.size w wr) (fun i _ => ls.length - (intOf i).toNat)
  case atStart => exact ⟨0, rfl, by omega, by simp, Below.refl _ _⟩
  case round =>
    obtain ⟨k, rfl, hk, hno, hf⟩ := hrel
    have HN := Lib.hid hno
    have HF := Lib.hid hf
    clear hno hf
    by_cases hlt : k < ls.length
    · obtain ⟨ad, rfl, hb', c0, c1, c2⟩ := (RowOf.below HR.out (HF.out.mono hB)).ln hlt
      have hsz := HF.out.size
      have HT : Hid ((ls.take (k + 1)).any (sameL l) = ((ls.take k).any (sameL l) || sameL l (ls[k]))) := Lib.hid (by rw [List.take_succ_eq_append_getElem hlt, List.any_append]; simp)
      have HA : Hid (sameL l (ls[k]) = true → ls.any (sameL l) = true) := Lib.hid (fun h => List.any_eq_true.2 ⟨_, List.getElem_mem hlt, h⟩)
      clear hb'
      generalize ls[k] = x at *
      have HC := Lib.hid (line1C (x := x) ((HF.out.cell (p := ⟨b, 0, none⟩) hb).trans H0.out) ((HF.out.cell (p := ⟨b, 1, none⟩) hb).trans H1.out) (by omega))
      cases hs : sameL l x with
      | true =>
        simp only [hs] at HC
        go_wp2_with fail
        refine Calls.mono HC.out ?_
        rintro e w1 ⟨rfl, F1⟩
        go_wp2
        go_ret
        exact ⟨_, rfl, ⟨fun _ => HA.out hs, fun _ => by omega⟩, by omega, by omega, Lib.hid (HF.out.trans (F1.out.mono hsz))⟩
      | false =>
        simp only [hs] at HC
        go_wp2_with fail
        refine Calls.mono HC.out ?_
        rintro e w1 ⟨rfl, F1⟩
        go_wp2
        go_roundw
        case rel => exact ⟨k + 1, by go_num, by omega, by rw [HT.out, HN.out, hs]; rfl, HF.out.trans (F1.out.mono hsz)⟩
        case measure => simp [intOf]; omega
    · obtain rfl : k = ls.length := by omega
      rw [List.take_length] at HN
      go_wp2
      go_ret
      exact ⟨_, rfl, ⟨fun h => by omega, fun h => by rw [HN.out] at h; cases h⟩, by omega, by omega, Lib.hid HF.out⟩
set_option maxHeartbeats 1000000 in
set_option maxRecDepth 10000 in
theorem ContainsLC {b B c : Nat} {l : Ln} {A : Option Addr} {ls : List Ln} {w : World} (h0 : w.cell? ⟨b, 0, none⟩ = some (.int .u16 l.item)) (h1 : w.cell? ⟨b, 1, none⟩ = some (.int .u16 l.loc)) (hb : b < w.heap.size)
    (hr : RowOf cL 3 w B A ls) (hB : B ≤ w.heap.size) (hl : ls.length ≤ 1000) :
    Calls Tryd.prog 54 #[.slice A ls.length c, .func (.func 53) #[] #[.pointer (some ⟨b, 0, none⟩)]] w fun e w' => e = .returned (.bool (ls.any (sameL l))) ∧ Hid (Below w.heap.size w w') := by
  have HC := Lib.hid (IndexLC (c := c) h0 h1 hb hr hB hl)
  clear h0 h1 hr
  go_enter Tryd.func54, Tryd.ntmps54
  go_wp2_with fail
  refine Calls.mono HC.out ?_
  rintro e w1 ⟨r, rfl, hr, h3, h4, F1⟩
  have HE := Lib.hid hr
  clear hr
  go_wp2
  go_ret
  exact ⟨ret_bool (by rw [Bool.eq_iff_iff, ← HE.out]; simp), F1⟩
set_option maxHeartbeats 1000000 in
set_option maxRecDepth 10000 in
theorem lineC {B c : Nat} {l : Ln} {A : Option Addr} {ls : List Ln} {w : World} (hr : RowOf cL 3 w B A ls) (hB : B ≤ w.heap.size) (hl : ls.length ≤ 1000) (ho : l.ok) :
    Calls Tryd.prog 32 #[.slice A ls.length c, .agg (lvs l)] w fun e w' => e = .returned (.int .i64 (lineF ls l)) ∧ Hid (Below w.heap.size w w') := by
  have hmf : ∀ (fn : Fn) (first cap : Array Value) (w : World), (Instr.makeFunc fn first cap).run Tryd.prog w = .ok (.func fn first cap) w := fun _ _ _ _ => rfl
  obtain ⟨o1, o2, o3⟩ := ho
  have hbl : Below w.heap.size w (w.alloc (.cells (lvs l) 51)) := (Below.refl _ w).alloc (Nat.le_refl _) _
  have HBL := Lib.hid hbl
  have hblk := Blk.new w 51 (lvs l)
  have HC := Lib.hid (ContainsLC (c := c) (l := l) (hblk.cell 0) (hblk.cell 1) hblk.lt (RowOf.below hr (hbl.mono hB)) (by have := hbl.size; omega) hl)
  clear hr hbl hblk
  unfold lineF
  by_cases g1 : 64 ≤ l.loc
  · rw [if_pos g1]
    go_enter Tryd.func32, Tryd.ntmps32
    go_wp2
    go_ret
    exact ⟨rfl, Lib.hid HBL.out⟩
  · rw [if_neg g1]
    rcases (by omega : l.qty < 1 ∨ 1 ≤ l.qty ∧ 9999 < l.qty ∨ 1 ≤ l.qty ∧ l.qty ≤ 9999) with g2 | ⟨g2, g3⟩ | ⟨g2, g3⟩
    · rw [if_pos (.inl g2)]
      go_enter Tryd.func32, Tryd.ntmps32
      go_wp2
      go_ret
      exact ⟨rfl, Lib.hid HBL.out⟩
    · rw [if_pos (.inr g3)]
      go_enter Tryd.func32, Tryd.ntmps32
      go_wp2
      go_ret
      exact ⟨rfl, Lib.hid HBL.out⟩
    · rw [if_neg (by omega)]
      cases hs : ls.any (sameL l) with
      | true =>
        simp only [hs] at HC
        clear hs
        simp only [↓reduceIte]
        go_enter Tryd.func32, Tryd.ntmps32
        go_wp2_with fail
        refine Calls.mono HC.out ?_
        rintro e w1 ⟨rfl, F1⟩
        go_wp2
        go_ret
        exact ⟨rfl, Lib.hid (HBL.out.trans (F1.out.mono HBL.out.size))⟩
      | false =>
        simp only [hs] at HC
        clear hs
        simp only [Bool.false_eq_true, ↓reduceIte]
        go_enter Tryd.func32, Tryd.ntmps32
        go_wp2_with fail
        refine Calls.mono HC.out ?_
        rintro e w1 ⟨rfl, F1⟩
        go_wp2
        go_ret
        exact ⟨rfl, Lib.hid (HBL.out.trans (F1.out.mono HBL.out.size))⟩
theorem lineF_range (a : List Ln) (l : Ln) : lineF a l = 0 ∨ lineF a l = 1 ∨ lineF a l = 8 ∨ lineF a l = 10 := by
  unfold lineF
  split
  · omega
  · split
    · omega
    · split <;> omega
theorem rightL_take (ls : List Ln) (k : Nat) (hk : k < ls.length) : rightL (ls.take k) (ls.drop k) = if lineF (ls.take k) ls[k] = 0 then rightL (ls.take (k + 1)) (ls.drop (k + 1)) else lineF (ls.take k) ls[k] := by
  rw [List.drop_eq_getElem_cons hk]
  conv => lhs; unfold rightL
  rw [List.take_succ_eq_append_getElem hk]
theorem info_ln : (Tryd.prog.info? 51).map (fun i => (i.zero, i.size, i.bytes)) = some (some (.agg #[.int .u16 0, .int .u16 0, .int .i64 0]), 3, 16) := by kernel_rfl
theorem lcut_hi (A : Option Addr) (n c k : Nat) (hc : k ≤ c) (W : World) : (Instr.slice 23 (.slice A n c) none (some (.int .i64 k)) none).run Tryd.prog W = .ok (.slice A k c) W := by
  obtain ⟨i, h1, _⟩ := info_parts info_ln
  exact cut_hi Tryd.underlying23 h1 A n c k hc W
set_option maxHeartbeats 2000000 in
set_option maxRecDepth 10000 in
theorem RightC {B c : Nat} {id : Int} {A : Option Addr} {ls : List Ln} {w : World} (hr : RowOf cL 3 w B A ls) (hB : B ≤ w.heap.size) (hl : ls.length ≤ 140737488355328) (hc : ls.length ≤ c) (ho : ∀ l ∈ ls, l.ok) :
    Calls Tryd.prog 13 #[.agg #[.int .u32 id, .slice A ls.length c]] w fun e w' => e = .returned (.int .i64 (rightO ls)) ∧ Hid (Below w.heap.size w w') := by
  unfold rightO
  rcases (by omega : ls.length = 0 ∨ 8 < ls.length ∨ 1 ≤ ls.length ∧ ls.length ≤ 8) with h0 | h8 | ⟨h1, h8⟩
  · rw [if_pos h0]
    clear hr ho
    rw [h0]
    go_enter Tryd.func13, Tryd.ntmps13
    go_wp2
    go_ret
    exact ⟨rfl, Lib.hid ((Below.refl _ w).alloc (Nat.le_refl _) _)⟩
  · rw [if_neg (by omega), if_pos h8]
    clear hr ho
    go_enter Tryd.func13, Tryd.ntmps13
    go_wp2
    go_ret
    exact ⟨rfl, Lib.hid ((Below.refl _ w).alloc (Nat.le_refl _) _)⟩
  · rw [if_neg (by omega), if_neg (by omega)]
    have HR := Lib.hid hr
    have HO := Lib.hid ho
    clear hr ho
    go_enter Tryd.func13, Tryd.ntmps13
    go_wp2
    go_loopw [19] (fun i wr => ∃ k : Nat, i = .int .i64 k ∧ k ≤ ls.length ∧ rightL [] ls = rightL (ls.take k) (ls.drop k) ∧ Below w.heap.size w wr ∧ Blk wr w.heap.size 25 #[.int .u32 id, .slice A ls.length c]) (fun i _ => ls.length - (intOf i).toNat)
    case atStart => exact ⟨0, rfl, by omega, by simp, (Below.refl _ w).alloc (Nat.le_refl _) _, Blk.new _ _ _⟩
    case round =>
      obtain ⟨k, rfl, hk, hno, hf, hblk⟩ := hrel
      rename ((ls.length : Int) == 0) = false => hz
      clear hz
      have HN := Lib.hid hno
      have HF := Lib.hid hf
      have HBK := Lib.hid hblk
      have b1 := hblk.cell 1
      clear hno hf hblk
      by_cases hlt : k < ls.length
      · obtain ⟨ad, rfl, hb', c0, c1, c2⟩ := (RowOf.below HR.out (HF.out.mono hB)).ln hlt
        have hsz := HF.out.size
        have HT := Lib.hid (rightL_take ls k hlt)
        have HRG := Lib.hid (lineF_range (ls.take k) ls[k])
        have HC := Lib.hid (fun W (h : Below w.heap.size wr W) => lineC (w := W) (c := c) (l := ls[k]) ((RowOf.below HR.out (HF.out.mono hB)).take_ k |>.below (h.mono hB)) (by have := h.size; omega) (by rw [List.length_take]; omega) (HO.out _ (List.getElem_mem hlt)))
        clear hb'
        generalize ls[k] = x at *
        obtain ⟨xi, xl, xq⟩ := x
        have hbs : Below w.heap.size wr (wr.alloc (.cells #[.int .u16 xi, .int .u16 xl, .int .i64 xq] 51)) := (Below.refl _ wr).alloc hsz _
        have HBS := Lib.hid hbs
        have hnb := Blk.new wr 51 #[.int .u16 xi, .int .u16 xl, .int .i64 xq]
        have n0 := hnb.cell 0
        have n1 := hnb.cell 1
        have n2 := hnb.cell 2
        have b1' : (wr.alloc (.cells #[.int .u16 xi, .int .u16 xl, .int .i64 xq] 51)).cell? ⟨w.heap.size, 1, none⟩ = some (.slice (some ad) ls.length c) := (HBK.out.alloc _).cell 1
        have hcut := fun W => lcut_hi (some ad) ls.length c k (by omega) W
        have htk : (ls.take k).length = k := by rw [List.length_take]; omega
        rw [htk] at HC
        clear hbs hnb htk b1
        have hrg := HRG.out
        clear HRG
        generalize hv : lineF (ls.take k) ⟨xi, xl, xq⟩ = v at *
        have HV := Lib.hid hv
        clear hv
        have HB3 := Lib.hid (fun w1 (F1 : Below (wr.alloc (.cells #[.int .u16 xi, .int .u16 xl, .int .i64 xq] 51)).drew.heap.size (wr.alloc (.cells #[.int .u16 xi, .int .u16 xl, .int .i64 xq] 51)).drew w1) => HF.out.trans ((below_dr HBS.out).trans (F1.mono (Nat.le_trans hsz HBS.out.size))))
        rcases hrg with rfl | hrg
        · go_wp2_with fail
          go_region_with (go_at_call 32; refine Calls.mono (HC.out _ (below_dr HBS.out)) ?_; rintro e w1 ⟨rfl, F1⟩)
          all_goals
            go_wp2
            go_roundw
            case rel => exact ⟨k + 1, by go_num, by omega, by rw [HN.out, HT.out]; rfl, HB3.out _ F1.out, ((HBK.out.alloc _).drew).below F1.out (by simp; omega)⟩
            case measure => simp [intOf]; omega
        · rcases hrg with rfl | rfl | rfl
          all_goals
            go_wp2_with fail
            go_region_with (go_at_call 32; refine Calls.mono (HC.out _ (below_dr HBS.out)) ?_; rintro e w1 ⟨rfl, F1⟩)
            all_goals
              go_wp2
              go_ret
              exact ⟨ret_int (by rw [HN.out, HT.out]; rfl), Lib.hid (HB3.out _ F1.out)⟩
      · obtain rfl : k = ls.length := by omega
        have hend : rightL [] ls = 0 := by rw [HN.out, List.drop_length]; rfl
        go_wp2
        go_ret
        exact ⟨ret_int hend.symm, Lib.hid HF.out⟩
end Go.Proofs.YtigknfkkegccgaaDoor.K
