/- (*bytes.Buffer).Write. -/
import Derived.Test.YtkihoonjekccgaaDoorWb
import Derived.Laws.CopyOwn
import Derived.Outline
namespace Go.Proofs.YtkihoonjekccgaaDoor.K
open Go.RowKit
set_option linter.unusedVariables false
set_option linter.unusedSimpArgs false
abbrev c8 : Int → List Value := fun x => [.int .u8 x]
theorem Fr.cell {S : Nat → Prop} {w w' : World} (h : Fr S w w') {p : Addr} (hp : p.block < w.heap.size) (hn : ¬ S p.block) : w'.cell? p = w.cell? p := World.cell?_of_block (h.block _ hp hn)
/-- copy(dst, src), dst in a row that is known whole; nothing else turns. -/
theorem copyF {P : Program} {w : World} {ops : Array Oper} {rest : List Oper} {o : Oper} {a : Act} {Q : Exit → Act → World → Prop} (hgd : o.guard = none) (d s : Operand) (dT sT : TypeId)
    (ho : o.op = .call { callee := .builtin .copy, args := #[d, s], argTypes := #[dT, sT] }) (elem : TypeId) (hu : P.underlying dT = some (.slice elem)) (hsz : (P.info? elem).map (·.size) = some 1)
    (dp sp : Option Addr) (dLen dCap sLen sCap : Nat) (hd : a.eval d = .slice dp dLen dCap) (hs : a.eval s = .slice sp sLen sCap)
    (g off : Nat) (cur : Array Value) (t : TypeId) (hg : Blk w g t cur) (cs : List Value) (hn : cs.length = Nat.min sLen dLen)
    (hpos : 0 < cs.length → dp = some ⟨g, off, none⟩ ∧ ∃ ad, sp = some ad ∧ ∀ j v, cs[j]? = some v → w.cell? (ad.add j) = some v)
    (hfit : off + cs.length ≤ cur.size) (h1 : ∀ v ∈ cs, v.oneCell' = true)
    (h : ∀ w', Hid (Blk w' g t (splice cur.toList off cs).toArray) → Hid (Fr1 g w w') → wpList P ops Q rest (a.put o.dst (goInt cs.length)) w') :
    wpList P ops Q (o :: rest) a w := by
  by_cases h0 : cs.length = 0
  · obtain rfl : cs = [] := List.eq_nil_of_length_eq_zero h0
    refine wpList_copy_nothing hgd d s dT sT ho elem hu hsz dp sp dLen dCap sLen sCap hd hs (by simpa using hn.symm) ?_
    exact h w (Lib.hid (by simpa [splice] using hg)) (Lib.hid (Fr.refl _ _))
  · obtain ⟨rfl, ad, rfl, hsrc⟩ := hpos (by omega)
    refine wpList_copy_own hgd d s dT sT ho elem hu hsz g off dLen dCap ad sLen sCap hd hs cur t hg cs hn hsrc hfit h1 ?_
    exact h _ (Lib.hid (show _ = _ by simpa [splice] using setRow_heap w g _ _ t _ hg)) (Lib.hid ⟨rfl, rfl, rfl, by simp [World.setRow], fun k hk hn => setRow_other w g k _ hn⟩)
theorem grow_nil {b n : Nat} {lr : Int} {w : World} (h : Blk w b 89 #[.slice none 0 0, .int .i64 0, .int .i8 lr]) (hn : 1 ≤ n) (hlim : n ≤ 140737488355328) :
    Calls Tryd.prog 56 #[.pointer (some ⟨b, 0, none⟩), .int .i64 n] w (GrowPost b [] n w) := by
  by_cases h64 : n ≤ 64
  · exact grow_small h hn h64
  · exact grow_big h (by omega) hlim
theorem ready_copy {b : Nat} {v : Value} {bs cs : List Value} {w w3 w4 : World} {k cap m : Nat} {cells : Array Value} {lr : Int} (hcm0 : cs.length = m)
    (hb : Blk w3 b 89 #[.slice (some ⟨k, 0, none⟩) (bs.length + m) cap, .int .i64 0, .int .i8 lr]) (hg : Blk w3 k 5 cells) (hcs : cells.size = cap) (hcm : cap ≤ maxLen) (hl : bs.length + m ≤ cap) (ht : cells.toList.take bs.length = bs) (hkb : k ≠ b)
    (hk : v.ownBlock = some k ∨ w.heap.size ≤ k) (hf : Fr (fun k => k = b ∨ v.ownBlock = some k) w w3) (hg4 : Blk w4 k 5 (splice cells.toList bs.length cs).toArray) (hf4 : Fr1 k w3 w4) :
    Buf b (.slice (some ⟨k, 0, none⟩) (bs.length + m) cap) (bs ++ cs) w4 ∧ WFr b v (.slice (some ⟨k, 0, none⟩) (bs.length + m) cap) w w4 := by
  subst hcm0
  have hsz : cells.toList.length = cap := by rw [Array.length_toList, hcs]
  have hlen : (splice cells.toList bs.length cs).length = cap := by rw [length_splice cells.toList bs.length cs (by omega), hsz]
  have htk : (splice cells.toList bs.length cs).take (bs.length + cs.length) = bs ++ cs := by
    unfold splice
    rw [ht, ← List.append_assoc, List.take_append_of_le_length (by simp), List.take_of_length_le (by simp)]
  refine ⟨⟨⟨lr, hb.fr hf4 (Ne.symm hkb)⟩, ⟨by simp, .inr ⟨k, cap, _, by rw [List.length_append], Nat.zero_le _, hg4, by rw [List.length_append]; exact hl, hcm, by simpa using hlen, by rw [Nat.mul_one, List.length_append]; simpa using htk⟩⟩, by simp [Value.ownBlock]; exact hkb⟩, hf.trans hf4 (fun j hj e => ?_), fun j hj => ?_⟩
  · subst e
    rcases hk with h | h
    · exact .inr h
    · omega
  · have : k = j := by simpa [Value.ownBlock] using hj
    subst this; exact hk
theorem src_now {w w3 : World} {b B : Nat} {v : Value} {A : Option Addr} {l : List Int} (h : RowOf c8 1 w B A l) (hB : B ≤ w.heap.size) (hA : 0 < l.length → ∀ ad, A = some ad → ad.block ≠ b ∧ v.ownBlock ≠ some ad.block)
    (hf : Fr (fun k => k = b ∨ v.ownBlock = some k) w w3) (hl : 0 < (nums .u8 l).length) : ∃ ad, A = some ad ∧ ∀ j u, (nums .u8 l)[j]? = some u → w3.cell? (ad.add j) = some u := by
  rw [nums_length] at hl
  obtain ⟨ad, rfl, _, _⟩ := h.num hl
  refine ⟨ad, rfl, fun j u hu => ?_⟩
  have hj : j < l.length := by have := (List.getElem?_eq_some_iff.1 hu).1; rwa [nums_length] at this
  obtain ⟨ad', e, hb, hc⟩ := h.num hj
  injection e with e; subst e
  have hne := hA hl ad rfl
  rw [hf.cell (by rw [block_of_add]; omega) (by rw [block_of_add]; intro h; rcases h with h | h; exact hne.1 h; exact hne.2 h), hc]
  have : (nums .u8 l)[j]? = some (.int .u8 (l.getD j 0)) := by simp [nums, List.getD_eq_getElem?_getD, List.getElem?_eq_getElem hj]
  rw [this] at hu; exact hu
theorem one_nums (k : IntKind) (l : List Int) : ∀ u ∈ nums k l, u.oneCell' = true := by
  intro u hu
  simp only [nums, List.mem_map] at hu
  obtain ⟨x, _, rfl⟩ := hu
  rfl
theorem info1_u8 : (Tryd.prog.info? 5).map (·.size) = some 1 := by kernel_rfl
set_option maxHeartbeats 4000000 in
set_option maxRecDepth 10000 in
theorem Write_own {b B c : Nat} {v : Value} {bs : List Value} {A : Option Addr} {l : List Int} {w : World} (h : Buf b v bs w) (h1 : ∀ u ∈ bs, u.oneCell' = true) (hlim : bs.length + l.length ≤ 140737488355328)
    (hr : RowOf c8 1 w B A l) (hB : B ≤ w.heap.size) (hA : 0 < l.length → ∀ ad, A = some ad → ad.block ≠ b ∧ v.ownBlock ≠ some ad.block) :
    Calls Tryd.prog 48 #[.pointer (some ⟨b, 0, none⟩), .slice A l.length c] w fun e w' => e = .returned (.tuple #[.int .i64 l.length, .nilIface]) ∧ ∃ v', Hid (Buf b v' (bs ++ nums .u8 l) w') ∧ Hid (WFr b v v' w w') := by
  obtain ⟨⟨lr, hb⟩, hown, hvb⟩ := h
  have HVB := Lib.hid hvb
  have c2 : w.cell? ⟨b, 2, none⟩ = some (.int .i8 lr) := hb.cell 2
  have f2 := hb.frozen 2
  have hb0 : Blk (w.setCell ⟨b, 2, none⟩ (.int .i8 0)) b 89 #[v, .int .i64 0, .int .i8 0] := by simpa using hb.set_ 2 (.int .i8 0)
  have HB0 := Lib.hid hb0
  have F0 : Hid (Fr (fun k => k = b ∨ v.ownBlock = some k) w (w.setCell ⟨b, 2, none⟩ (.int .i8 0))) := Lib.hid ((Fr.refl _ w).setCell (fun _ => .inl rfl) _)
  have hs0 : (w.setCell ⟨b, 2, none⟩ (.int .i8 0)).heap.size = w.heap.size := by simp [World.setCell]
  have HS0 := Lib.hid hs0
  have HLT := Lib.hid hb.lt
  have HR := Lib.hid hr
  have HAN := Lib.hid hA
  obtain ⟨m, hm⟩ : ∃ m, m = l.length := ⟨_, rfl⟩
  have HM := Lib.hid hm
  obtain ⟨cs, hcs0⟩ : ∃ cs, cs = nums .u8 l := ⟨_, rfl⟩
  have HCS := Lib.hid hcs0
  have hml : cs.length = m := by rw [hcs0, nums_length, hm]
  have HML := Lib.hid hml
  rw [← hm] at hlim ⊢
  rw [← hcs0]
  have HOne : Hid (∀ u ∈ cs, u.oneCell' = true) := Lib.hid (hcs0 ▸ one_nums _ _)
  clear hml hcs0 hr hA hm
  rcases own_cases hown with ⟨rfl, rfl⟩ | ⟨g, cap, cur, rfl, hg, hnc, hcm, hcs, htk⟩
  · have c0 : (w.setCell ⟨b, 2, none⟩ (.int .i8 0)).cell? ⟨b, 0, none⟩ = some (.slice none 0 0) := hb0.cell 0
    have f0 := hb0.frozen 0
    clear hb hown hvb hb0 hs0 h1
    simp only [List.length_nil, Nat.zero_add] at hlim
    by_cases hm0 : m = 0
    · obtain rfl : cs = [] := List.eq_nil_of_length_eq_zero (HML.out.trans hm0)
      subst hm0
      go_enter Tryd.func48, Tryd.ntmps48
      go_wp2_with (first | (go_at_call 55; refine (Tryd.Buffer_tryGrow_room_at b 0 none 0 0 0 _ c0 f0 (by omega) (by decide) (by omega)).mono ?_; rintro e w2 ⟨rfl, rfl⟩) | (refine wpList_copy_nothing rfl (.tmp 29) (.tmp 30) 32 32 rfl 5 Tryd.underlying32 info1_u8 _ _ _ _ _ _ rfl rfl (by simp) ?_))
      go_ret2
      refine ⟨rfl, .slice none 0 0, Lib.hid ⟨⟨0, ?_⟩, by simpa using own_nil _ _ _ _, by simp [Value.ownBlock]⟩, Lib.hid ⟨F0.out.setCell (fun _ => .inl rfl) _, fun k hk => by simp [Value.ownBlock] at hk⟩⟩
      simpa using HB0.out.set_ 0 (.slice none 0 0)
    · go_enter Tryd.func48, Tryd.ntmps48
      go_wp2_with (first | (go_at_call 55; refine (Tryd.Buffer_tryGrow_none_at b 0 none 0 0 m _ c0 (by omega) (by decide) (by omega)).mono ?_; rintro e w2 ⟨rfl, rfl⟩) | (go_at_call 56; refine (grow_nil (n := m) HB0.out (by omega) hlim).mono ?_; rintro e w3 ⟨rfl, k, cap, cells, hk, ⟨lr3, hb3⟩, hg3, hcs3, hcm3, hl3, ht3, hf3⟩; have d0 := hb3.cell 0; have B3 := Lib.hid hb3; have G3 := Lib.hid hg3; have T3 := Lib.hid ht3; have F3 := Lib.hid hf3; have K3 := Lib.hid hk; simp only [List.length_nil, Nat.zero_add] at d0 hl3; have S3 := Lib.hid (fun hl => src_now HR.out hB HAN.out (F0.out.trans F3.out (fun _ _ e => .inl e)) (by rw [← HCS.out]; exact hl)); rw [← HCS.out] at S3; clear hb3 hg3 ht3 hf3 hk) | (refine copyF rfl (.tmp 29) (.tmp 30) 32 32 rfl 5 Tryd.underlying32 info1_u8 _ _ _ _ _ _ rfl rfl k 0 cells 5 G3.out cs ?d1 ?d2 ?d3 HOne.out ?_; (case d1 => rw [HML.out]; simp; try omega); (case d2 => exact fun h => ⟨by (first | rfl | (have := HML.out; simp; omega)), S3.out h⟩); (case d3 => rw [HML.out, hcs3]; omega); intro w4 G4 F4; rw [HML.out]))
      go_ret2
      have hlt := HLT.out
      have hs := HS0.out
      have hk : w.heap.size ≤ k := by have := K3.out; omega
      have := ready_copy HML.out B3.out G3.out hcs3 hcm3 (by simpa using hl3) T3.out (by omega) (.inr hk) (F0.out.trans F3.out (fun _ _ e => .inl e)) G4.out F4.out
      exact ⟨rfl, _, Lib.hid this.1, Lib.hid this.2⟩
  · have hgb : g ≠ b := by rintro rfl; exact hvb (by simp [Value.ownBlock])
    obtain ⟨n, hl⟩ : ∃ n, n = bs.length := ⟨_, rfl⟩
    have HL := Lib.hid hl
    rw [← hl] at hnc hlim htk hb0 HB0 F0 HVB HAN
    have c0 : (w.setCell ⟨b, 2, none⟩ (.int .i8 0)).cell? ⟨b, 0, none⟩ = some (.slice (some ⟨g, 0, none⟩) n cap) := hb0.cell 0
    have hg0 : Blk (w.setCell ⟨b, 2, none⟩ (.int .i8 0)) g 5 cur := hg.far hgb _
    have HG0 := Lib.hid hg0
    have HTK := Lib.hid htk
    have H1 := Lib.hid h1
    rw [← hl]
    clear hb hown hvb hb0 hs0 h1 hg hg0 htk hl
    have hcm' := hcm
    unfold maxLen at hcm'
    by_cases hroom : m ≤ cap - n
    · go_enter Tryd.func48, Tryd.ntmps48
      go_wp2_with (first | (go_at_call 55; refine (try_room (n := m) HB0.out HG0.out hcs hcm hnc hroom hgb).mono ?_; rintro e w3 ⟨rfl, R⟩; obtain ⟨k, cap3, cells, lr3, hb3, hg3, hcs3, hcm3, hl3, ht3, hkb, hk, hf3⟩ := R.out; rw [HTK.out, ← HL.out] at hb3 hl3; rw [HTK.out] at ht3; have d0 := hb3.cell 0; have B3 := Lib.hid hb3; have G3 := Lib.hid hg3; have T3 := Lib.hid ht3; have F3 := Lib.hid hf3; have K3 := Lib.hid hk; have S3 := Lib.hid (fun hl => src_now HR.out hB HAN.out (F0.out.trans F3.out (fun _ _ e => e)) (by rw [← HCS.out]; exact hl)); rw [← HCS.out] at S3; clear hb3 hg3 ht3 hf3 hk R) | (refine copyF rfl (.tmp 29) (.tmp 30) 32 32 rfl 5 Tryd.underlying32 info1_u8 _ _ _ _ _ _ rfl rfl k n cells 5 G3.out cs ?c1 ?c2 ?c3 HOne.out ?_; (case c1 => rw [HML.out]; simp; try omega); (case c2 => exact fun h => ⟨by (first | rfl | (have := HML.out; simp; omega)), S3.out h⟩); (case c3 => rw [HML.out, hcs3]; omega); intro w4 G4 F4; rw [HML.out]))
      all_goals
        go_ret2
        have hs := HS0.out
        have hl9 := HL.out
        clear HL
        subst hl9
        have := ready_copy HML.out B3.out G3.out hcs3 hcm3 hl3 T3.out hkb (by have := K3.out; rwa [hs] at this) (F0.out.trans F3.out (fun _ _ e => e)) G4.out F4.out
        exact ⟨rfl, _, Lib.hid this.1, Lib.hid this.2⟩
    · have hz : cur.toList.take n = bs := HTK.out
      have hlen : (cur.toList.take n).length = n := by rw [hz]; exact HL.out.symm
      have HLEN := Lib.hid hlen
      clear hz hlen
      go_enter Tryd.func48, Tryd.ntmps48
      go_wp2_with (first | (go_at_call 55; refine (Tryd.Buffer_tryGrow_none_at b 0 _ n cap m _ c0 hnc hcm (by omega)).mono ?_; rintro e w2 ⟨rfl, rfl⟩) | (go_at_call 56; refine (grow_row (n := m) HB0.out HG0.out hcs hnc hcm (by omega) (by omega) hlim (by rw [HTK.out]; exact H1.out) hgb).mono ?_; rintro e w3 ⟨rfl, k, cap3, cells, hk, ⟨lr3, hb3⟩, hg3, hcs3, hcm3, hl3, ht3, hf3⟩; rw [HLEN.out] at hb3 hl3 ht3; rw [HTK.out] at ht3; rw [HLEN.out]; have d0 := hb3.cell 0; have B3 := Lib.hid hb3; have G3 := Lib.hid hg3; have T3 := Lib.hid ht3; have F3 := Lib.hid hf3; have K3 := Lib.hid hk; have S3 := Lib.hid (fun hl => src_now HR.out hB HAN.out (F0.out.trans F3.out (fun _ _ e => .inl e)) (by rw [← HCS.out]; exact hl)); rw [← HCS.out] at S3; clear hb3 hg3 ht3 hf3 hk) | (refine copyF rfl (.tmp 29) (.tmp 30) 32 32 rfl 5 Tryd.underlying32 info1_u8 _ _ _ _ _ _ rfl rfl k n cells 5 G3.out cs ?e1 ?e2 ?e3 HOne.out ?_; (case e1 => rw [HML.out]; simp; try omega); (case e2 => exact fun h => ⟨by (first | rfl | (have := HML.out; simp; omega)), S3.out h⟩); (case e3 => rw [HML.out, hcs3]; omega); intro w4 G4 F4; rw [HML.out]))
      all_goals
        go_ret2
        have hlt := HLT.out
        have hs := HS0.out
        have hk : w.heap.size ≤ k := by have := K3.out; omega
        have hl9 := HL.out
        clear HL HLEN
        subst hl9
        have := ready_copy HML.out B3.out G3.out hcs3 hcm3 hl3 (by rw [HTK.out] at *; exact T3.out) (by omega) (.inr hk) (F0.out.trans F3.out (fun _ _ e => .inl e)) G4.out F4.out
        exact ⟨rfl, _, Lib.hid this.1, Lib.hid this.2⟩
end Go.Proofs.YtkihoonjekccgaaDoor.K
