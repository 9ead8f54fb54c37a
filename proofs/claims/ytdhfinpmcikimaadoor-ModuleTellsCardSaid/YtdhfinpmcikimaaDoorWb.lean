/- (*bytes.Buffer).WriteByte. -/
import Derived.Test.YtdhfinpmcikimaaDoorWr
namespace Go.Proofs.YtdhfinpmcikimaaDoor.K
open Go.RowKit
set_option linter.unusedVariables false
set_option linter.unusedSimpArgs false
/-- A byte is put at the end. -/
theorem ready_poke {b : Nat} {v : Value} {bs : List Value} {w w' : World} {c : Int} {k cap : Nat} {cells : Array Value} {lr : Int} (hv : v.ownBlock ≠ some b)
    (hb : Blk w' b 107 #[.slice (some ⟨k, 0, none⟩) (bs.length + 1) cap, .int .i64 0, .int .i8 lr]) (hg : Blk w' k 5 cells) (hcs : cells.size = cap) (hcm : cap ≤ maxLen) (hl : bs.length + 1 ≤ cap) (ht : cells.toList.take bs.length = bs) (hkb : k ≠ b)
    (hk : v.ownBlock = some k ∨ w.heap.size ≤ k) (hf : Fr (fun k => k = b ∨ v.ownBlock = some k) w w') :
    Buf b (.slice (some ⟨k, 0, none⟩) (bs.length + 1) cap) (bs ++ [.int .u8 c]) (w'.setCell ⟨k, bs.length, none⟩ (.int .u8 c)) ∧ WFr b v (.slice (some ⟨k, 0, none⟩) (bs.length + 1) cap) w (w'.setCell ⟨k, bs.length, none⟩ (.int .u8 c)) := by
  have hlt : bs.length < cells.toList.length := by have := Array.length_toList (xs := cells); omega
  have htk : cells.toList.take (bs.length + 1) = bs ++ [cells.toList[bs.length]] := by rw [List.take_succ_eq_append_getElem hlt, ht]
  have hown0 : w'.ownsRow 0 5 1 (.slice (some ⟨k, 0, none⟩) (bs.length + 1) cap) (bs.length + 1) (cells.toList.take (bs.length + 1)) :=
    ⟨by rw [htk]; simp, .inr ⟨k, cap, cells, rfl, Nat.zero_le _, hg, hl, hcm, by simpa using hcs, by rw [Nat.mul_one]⟩⟩
  have hset : (cells.toList.take (bs.length + 1)).set bs.length (Value.int .u8 c) = bs ++ [Value.int .u8 c] := by rw [htk]; simp
  have hown : (w'.setCell ⟨k, bs.length, none⟩ (.int .u8 c)).ownsRow 0 5 1 (.slice (some ⟨k, 0, none⟩) (bs.length + 1) cap) (bs ++ [Value.int .u8 c]).length (bs ++ [Value.int .u8 c]) := by
    have := (hown0.stored bs.length (.int .u8 c)).1
    rw [hset] at this
    simpa using this
  refine ⟨⟨⟨lr, hb.far (Ne.symm hkb) _⟩, hown, by simp [Value.ownBlock]; exact hkb⟩, hf.setCell (fun hlt => ?_) _, fun j hj => ?_⟩
  · rcases hk with h | h
    · exact .inr h
    · exact absurd hlt (by simpa using h)
  · have : k = j := by simpa [Value.ownBlock] using hj
    subst this; exact hk
theorem try_room {b g l cap n : Nat} {lr : Int} {cur : Array Value} {w : World} (hb : Blk w b 107 #[.slice (some ⟨g, 0, none⟩) l cap, .int .i64 0, .int .i8 lr]) (hg : Blk w g 5 cur) (hcs : cur.size = cap) (hcm : cap ≤ maxLen) (hl : l ≤ cap) (hn : n ≤ cap - l) (hgb : g ≠ b) :
    Calls Tryd.prog 64 #[.pointer (some ⟨b, 0, none⟩), .int .i64 n] w fun e w' => e = .returned (.tuple #[.int .i64 l, .bool true]) ∧ Hid (Ready b (.slice (some ⟨g, 0, none⟩) l cap) (cur.toList.take l) n w w') :=
  (Tryd.Buffer_tryGrow_room_at b 0 _ l cap n w (hb.cell 0) (hb.frozen 0) hl hcm hn).mono fun e w' ⟨h1, h2⟩ => ⟨h1, Lib.hid (h2 ▸ ready_room hb hg hcs hcm hl hn hgb)⟩
set_option maxHeartbeats 4000000 in
set_option maxRecDepth 10000 in
theorem WriteByte_own {b : Nat} {v : Value} {bs : List Value} {c : Int} {w : World} (h : Buf b v bs w) (h1 : ∀ u ∈ bs, u.oneCell' = true) (hlim : bs.length + 1 ≤ 140737488355328) :
    Calls Tryd.prog 62 #[.pointer (some ⟨b, 0, none⟩), .int .u8 c] w fun e w' => e = .returned .nilIface ∧ ∃ v', Hid (Buf b v' (bs ++ [.int .u8 c]) w') ∧ Hid (WFr b v v' w w') := by
  obtain ⟨⟨lr, hb⟩, hown, hvb⟩ := h
  have HVB := Lib.hid hvb
  have c2 : w.cell? ⟨b, 2, none⟩ = some (.int .i8 lr) := hb.cell 2
  have f2 := hb.frozen 2
  have hb0 : Blk (w.setCell ⟨b, 2, none⟩ (.int .i8 0)) b 107 #[v, .int .i64 0, .int .i8 0] := by simpa using hb.set_ 2 (.int .i8 0)
  have HB0 := Lib.hid hb0
  have F0 : Hid (Fr (fun k => k = b ∨ v.ownBlock = some k) w (w.setCell ⟨b, 2, none⟩ (.int .i8 0))) := Lib.hid ((Fr.refl _ w).setCell (fun _ => .inl rfl) _)
  have hs0 : (w.setCell ⟨b, 2, none⟩ (.int .i8 0)).heap.size = w.heap.size := by simp [World.setCell]
  have HS0 := Lib.hid hs0
  have HLT := Lib.hid hb.lt
  rcases own_cases hown with ⟨rfl, rfl⟩ | ⟨g, cap, cur, rfl, hg, hnc, hcm, hcs, htk⟩
  · have c0 : (w.setCell ⟨b, 2, none⟩ (.int .i8 0)).cell? ⟨b, 0, none⟩ = some (.slice none 0 0) := hb0.cell 0
    clear hb hown hvb hb0 hs0 h1 hlim
    go_enter Tryd.func62, Tryd.ntmps62
    go_wp2_with (first | (go_at_call 64; refine (Tryd.Buffer_tryGrow_none_at b 0 none 0 0 1 _ c0 (by omega) (by decide) (by omega)).mono ?_; rintro e w2 ⟨rfl, rfl⟩) | (go_at_call 65; refine (grow_small (n := 1) HB0.out (by omega) (by omega)).mono ?_; rintro e w3 ⟨rfl, k, cap, cells, hk, ⟨lr3, hb3⟩, hg3, hcs3, hcm3, hl3, ht3, hf3⟩; have d0 := hb3.cell 0; have e3 : ∃ x, w3.cell? ⟨k, 0, none⟩ = some x := ⟨_, (hg3.cell 0).trans (Array.getElem?_eq_getElem (by simp at hl3; omega))⟩; obtain ⟨x3, e3⟩ := e3; have f3 := hg3.frozen 0; have B3 := Lib.hid hb3; have G3 := Lib.hid hg3; have T3 := Lib.hid ht3; have F3 := Lib.hid hf3; have K3 := Lib.hid hk; clear hb3 hg3 ht3 hf3 hk))
    go_ret
    have hlt := HLT.out
    have hs := HS0.out
    have hk : w.heap.size ≤ k := by have := K3.out; omega
    have := ready_poke (c := c) (w := w) HVB.out B3.out G3.out hcs3 hcm3 hl3 T3.out (by omega) (.inr hk) (F0.out.trans F3.out (fun _ _ e => .inl e))
    exact ⟨rfl, _, Lib.hid this.1, Lib.hid this.2⟩
  · have hgb : g ≠ b := by rintro rfl; exact hvb (by simp [Value.ownBlock])
    obtain ⟨l, hl⟩ : ∃ l, l = bs.length := ⟨_, rfl⟩
    have HL := Lib.hid hl
    rw [← hl] at hnc hlim htk hb0 HB0 F0 HVB
    have c0 : (w.setCell ⟨b, 2, none⟩ (.int .i8 0)).cell? ⟨b, 0, none⟩ = some (.slice (some ⟨g, 0, none⟩) l cap) := hb0.cell 0
    have f0 := hb0.frozen 0
    have hg0 : Blk (w.setCell ⟨b, 2, none⟩ (.int .i8 0)) g 5 cur := hg.far hgb _
    have HG0 := Lib.hid hg0
    have HTK := Lib.hid htk
    have H1 := Lib.hid h1
    rw [← hl]
    clear hb hown hvb hb0 hs0 h1 hg hg0 htk hl
    have hcm' := hcm
    unfold maxLen at hcm'
    by_cases hroom : 1 ≤ cap - l
    · go_enter Tryd.func62, Tryd.ntmps62
      go_wp2_with (go_at_call 64; refine (try_room (n := 1) HB0.out HG0.out hcs hcm hnc hroom hgb).mono ?_; rintro e w3 ⟨rfl, R⟩; obtain ⟨k, cap3, cells, lr3, hb3, hg3, hcs3, hcm3, hl3, ht3, hkb, hk, hf3⟩ := R.out; rw [HTK.out, ← HL.out] at hb3 hl3; rw [HTK.out] at ht3; have d0 := hb3.cell 0; have e3 : ∃ x, w3.cell? ⟨k, l, none⟩ = some x := ⟨_, (hg3.cell l).trans (Array.getElem?_eq_getElem (by omega))⟩; obtain ⟨x3, e3⟩ := e3; have f3 := hg3.frozen l; have B3 := Lib.hid hb3; have G3 := Lib.hid hg3; have T3 := Lib.hid ht3; have F3 := Lib.hid hf3; have K3 := Lib.hid hk; clear hb3 hg3 ht3 hf3 hk R)
      go_ret
      have hs := HS0.out
      have hl9 := HL.out
      clear HL
      subst hl9
      have := ready_poke (c := c) (w := w) HVB.out B3.out G3.out hcs3 hcm3 hl3 T3.out hkb (by have := K3.out; rwa [hs] at this) (F0.out.trans F3.out (fun _ _ e => e))
      exact ⟨rfl, _, Lib.hid this.1, Lib.hid this.2⟩
    · have hz : cur.toList.take l = bs := HTK.out
      have hlen : (cur.toList.take l).length = l := by rw [hz]; exact HL.out.symm
      have HLEN := Lib.hid hlen
      clear hz hlen
      go_enter Tryd.func62, Tryd.ntmps62
      go_wp2_with (first | (go_at_call 64; refine (Tryd.Buffer_tryGrow_none_at b 0 _ l cap 1 _ c0 hnc hcm (by omega)).mono ?_; rintro e w2 ⟨rfl, rfl⟩) | (go_at_call 65; refine (grow_row (n := 1) HB0.out HG0.out hcs hnc hcm (by omega) (by omega) hlim (by rw [HTK.out]; exact H1.out) hgb).mono ?_; rintro e w3 ⟨rfl, k, cap3, cells, hk, ⟨lr3, hb3⟩, hg3, hcs3, hcm3, hl3, ht3, hf3⟩; rw [HLEN.out] at hb3 hl3 ht3; rw [HTK.out] at ht3; rw [HLEN.out]; have d0 := hb3.cell 0; have e3 : ∃ x, w3.cell? ⟨k, l, none⟩ = some x := ⟨_, (hg3.cell l).trans (Array.getElem?_eq_getElem (by omega))⟩; obtain ⟨x3, e3⟩ := e3; have f3 := hg3.frozen l; have B3 := Lib.hid hb3; have G3 := Lib.hid hg3; have T3 := Lib.hid ht3; have F3 := Lib.hid hf3; have K3 := Lib.hid hk; clear hb3 hg3 ht3 hf3 hk))
      go_ret
      have hlt := HLT.out
      have hs := HS0.out
      have hk : w.heap.size ≤ k := by have := K3.out; omega
      have hl9 := HL.out
      clear HL HLEN
      subst hl9
      have := ready_poke (c := c) (w := w) HVB.out B3.out G3.out hcs3 hcm3 hl3 T3.out (by omega) (.inr hk) (F0.out.trans F3.out (fun _ _ e => .inl e))
      exact ⟨rfl, _, Lib.hid this.1, Lib.hid this.2⟩
end Go.Proofs.YtdhfinpmcikimaaDoor.K
