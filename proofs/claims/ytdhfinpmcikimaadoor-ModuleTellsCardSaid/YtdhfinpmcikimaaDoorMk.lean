/- Module: Reset. -/
import Derived.Test.YtdhfinpmcikimaaDoorMj
import Derived.Deep.MidRow
namespace Go.Proofs.YtdhfinpmcikimaaDoor.K
open Go.RowKit
set_option linter.unusedVariables false
set_option linter.unusedSimpArgs false
def putAll (w : World) (m : Nat) : Nat → List Value → World
  | _, [] => w
  | k, v :: vs => putAll (w.setCell ⟨m, k, none⟩ v) m (k + 1) vs
theorem setCells_put (m : Nat) : ∀ (vs : List Value) (k : Nat) (w : World), w.setCells m k vs = putAll w m k vs
  | [], _, _ => rfl
  | v :: vs, k, w => setCells_put m vs (k + 1) (w.setCell ⟨m, k, none⟩ v)
theorem putAll_fr (m : Nat) (w0 : World) : ∀ (vs : List Value) (k : Nat) (w : World), Fr (fun j => j = m) w0 w → Fr (fun j => j = m) w0 (putAll w m k vs)
  | [], _, _, h => h
  | v :: vs, k, w, h => putAll_fr m w0 vs (k + 1) _ (h.setCell (p := ⟨m, k, none⟩) (fun _ => rfl) v)
theorem putAll_blk (m : Nat) (t : TypeId) : ∀ (vs : List Value) (k : Nat) (w : World) (cs : Array Value), Blk w m t cs → k + vs.length = cs.size → Blk (putAll w m k vs) m t (cs.toList.take k ++ vs).toArray
  | [], k, w, cs, h, hk => by
    rw [List.append_nil, List.take_of_length_le (by simp at hk; simp [hk])]
    exact h
  | v :: vs, k, w, cs, h, hk => by
    have hk' : k < cs.size := by simp at hk; omega
    have ih := putAll_blk m t vs (k + 1) _ _ (h.set_ k v) (by simp at hk ⊢; omega)
    have e : ((cs.setIfInBounds k v).toList.take (k + 1)) = cs.toList.take k ++ [v] := by
      rw [Array.toList_setIfInBounds, List.take_succ_eq_append_getElem (by simpa using hk'), List.take_set_of_le (by omega)]
      simp
    rw [e, List.append_assoc] at ih
    exact ih
set_option maxHeartbeats 2000000 in
set_option maxRecDepth 20000 in
theorem MResetC {B m s : Nat} {A : Option Addr} {c : Nat} {sl : Sl} {d : Dp} {bt : BS} {a : Int} {w : World} (h : MoB B m s A c sl d bt a w) : Calls Tryd.prog 20 #[.pointer (some ⟨m, 0, none⟩)] w fun e w' => ∃ s', e = .returned (.tuple #[]) ∧ Hid (MoB B m s' none 0 ⟨0, 0, 0, a, []⟩ ⟨false, false, 0, 0, 0⟩ z4 a w') ∧ Hid (Fr (fun j => j = m) w w') := by
  have m18 : w.cell? ⟨m, 18, none⟩ = some (.int .u8 a) := h.blk.cell 18
  have H := Lib.hid h
  have HB : Hid (B ≤ w.heap.size) := Lib.hid (Nat.le_trans h.low (Nat.le_of_lt h.blk.lt))
  clear h
  go_enter Tryd.func20, Tryd.ntmps20
  go_wp2_with fail
  refine Calls.mono (MNewC a w) ?_
  rintro e w1 ⟨m', s', rfl, H1, F1⟩
  have hb1 : Blk w1 m' 86 #[.pointer (some ⟨s', 0, none⟩), .bool false, .bool false, .int .u16 0, .int .u16 0, .int .u16 0, .bool false, .bool false, .int .i64 0, .bool false, .bool false, .int .i64 0, .bool false, .bool false, .int .i64 0, .bool false, .bool false, .int .i64 0, .int .u8 a] := H1.out.blk
  have hm1 := H.out.blk.fr F1.out (fun h => h)
  have hs1 := H1.out.sb
  have hbO : Blk w1 m 86 #[.pointer (some ⟨s, 0, none⟩), .bool d.lit, .bool d.latched, .int .u16 d.tok, .int .u16 d.qty, .int .u16 d.most, .bool (bt 0).down, .bool (bt 0).told, .int .i64 (bt 0).since, .bool (bt 1).down, .bool (bt 1).told, .int .i64 (bt 1).since, .bool (bt 2).down, .bool (bt 2).told, .int .i64 (bt 2).since, .bool (bt 3).down, .bool (bt 3).told, .int .i64 (bt 3).since, .int .u8 a] := hm1
  have HS1 := Lib.hid hs1
  have HM1 := Lib.hid hm1
  have HMLT : Hid (m < w.heap.size) := Lib.hid H.out.blk.lt
  have hT : w1.there m 0 19 := fun j hj => ⟨by rw [Nat.zero_add, hbO.cell j]; simpa using hj, by rw [Nat.zero_add]; exact hm1.frozen j⟩
  have HT := Lib.hid hT
  have hR : w1.rangeAt m' 0 [.pointer (some ⟨s', 0, none⟩), .bool false, .bool false, .int .u16 0, .int .u16 0, .int .u16 0, .bool false, .bool false, .int .i64 0, .bool false, .bool false, .int .i64 0, .bool false, .bool false, .int .i64 0, .bool false, .bool false, .int .i64 0, .int .u8 a] := fun j v hv => by rw [Nat.zero_add, hb1.cell j]; simpa using hv
  have HR := Lib.hid hR
  have hsz : (Tryd.prog.info? 86).map (·.size) = some (19 : Nat) := by kernel_rfl
  have hone : (#[.pointer (some ⟨s', 0, none⟩), .bool false, .bool false, .int .u16 0, .int .u16 0, .int .u16 0, .bool false, .bool false, .int .i64 0, .bool false, .bool false, .int .i64 0, .bool false, .bool false, .int .i64 0, .bool false, .bool false, .int .i64 0, .int .u8 a] : Array Value).all (·.oneCell') = true := by simp [Value.oneCell']
  clear m18 hb1 hbO hm1 hs1 H1 hT hR
  go_wp2_with (first
    | refine Go.wpList_load_mid rfl 86 (.tmp 8) rfl m' 0 rfl [.pointer (some ⟨s', 0, none⟩), .bool false, .bool false, .int .u16 0, .int .u16 0, .int .u16 0, .bool false, .bool false, .int .i64 0, .bool false, .bool false, .int .i64 0, .bool false, .bool false, .int .i64 0, .bool false, .bool false, .int .i64 0, .int .u8 a] _ HR.out Tryd.underlying86 rfl hsz ?_
    | refine Go.wpList_store_mid rfl 86 (.tmp 10) (.tmp 9) rfl m 0 #[.pointer (some ⟨s', 0, none⟩), .bool false, .bool false, .int .u16 0, .int .u16 0, .int .u16 0, .bool false, .bool false, .int .i64 0, .bool false, .bool false, .int .i64 0, .bool false, .bool false, .int .i64 0, .bool false, .bool false, .int .i64 0, .int .u8 a] rfl rfl HT.out hsz hone ?_)
  go_end0
  rw [setCells_put]
  refine ⟨rfl, ⟨s', Lib.hid ?_⟩, Lib.hid ((F1.out.mono (fun _ _ e => e.elim)).trans (putAll_fr m w1 [.pointer (some ⟨s', 0, none⟩), .bool false, .bool false, .int .u16 0, .int .u16 0, .int .u16 0, .bool false, .bool false, .int .i64 0, .bool false, .bool false, .int .i64 0, .bool false, .bool false, .int .i64 0, .bool false, .bool false, .int .i64 0, .int .u8 a] 0 w1 (Fr.refl _ _)) (fun j hj e => e))⟩
  have hF := putAll_fr m w1 [.pointer (some ⟨s', 0, none⟩), .bool false, .bool false, .int .u16 0, .int .u16 0, .int .u16 0, .bool false, .bool false, .int .i64 0, .bool false, .bool false, .int .i64 0, .bool false, .bool false, .int .i64 0, .bool false, .bool false, .int .i64 0, .int .u8 a] 0 w1 (Fr.refl _ _)
  have hB := putAll_blk m 86 [.pointer (some ⟨s', 0, none⟩), .bool false, .bool false, .int .u16 0, .int .u16 0, .int .u16 0, .bool false, .bool false, .int .i64 0, .bool false, .bool false, .int .i64 0, .bool false, .bool false, .int .i64 0, .bool false, .bool false, .int .i64 0, .int .u8 a] 0 w1 _ HM1.out rfl
  have hne : s' ≠ m := fun e => by have := HS1.out.low; have := HMLT.out; omega
  exact ⟨hB, ⟨HS1.out.blk.fr hF hne, made_nil _ _, Nat.le_trans HB.out HS1.out.low, HS1.out.bits⟩, H.out.low, fun n => by simp [z4, I64]⟩
end Go.Proofs.YtdhfinpmcikimaaDoor.K
