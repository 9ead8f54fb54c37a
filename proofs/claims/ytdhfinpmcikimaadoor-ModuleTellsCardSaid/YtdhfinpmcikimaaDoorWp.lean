/- (*bytes.Buffer).Write. -/
import Derived.Test.YtdhfinpmcikimaaDoorWb
import Derived.Laws.CopyOwn
import Derived.Outline
namespace Go.Proofs.YtdhfinpmcikimaaDoor.K
open Go.RowKit
set_option linter.unusedVariables false
set_option linter.unusedSimpArgs false
abbrev c8 : Int → List Value := fun x => [.int .u8 x]
theorem Fr.cell {S : Nat → Prop} {w w' : World} (h : Fr S w w') {p : Addr} (hp : p.block < w.heap.size) (hn : ¬ S p.block) : w'.cell? p = w.cell? p := World.cell?_of_block (h.block _ hp hn)
/-- copy(dst, src), dst in a row that is known whole; nothing else turns. -/
theorem copyF {P : Program} {w : World} {ops : Array Oper} {rest : List Oper} {o : Oper} {a : Act} {Q : Exit → Act → World → Prop} (hgd : o.guard = none) (d s : Operand) (dT sT : TypeId)
    (ho : o.op = .call { callee := .builtin .copy, args := #[d, s], argTypes := #[dT, sT] }) (elem : TypeId) (hu : P.underlying dT = some (.slice elem)) (hsz : (P.info? elem).map (·.size) = some 1)
    (dp sp : Option Addr) (dLen dCap sLen sCap : Nat) (hd : a.eval d = .slice dp dLen dCap) (hs : a.eval s = .slice sp sLen sCap)
    (g off : Nat) (cur : Array Value) (t : TypeId) (hg : Blk w g t cur) (cs : List Value) (hn : cs.length = Nat.min sLen dLen)
    (hpos : 0 < cs.length → dp = some ⟨g, off, none⟩ ∧ ∃ ad, sp = some ad ∧ ∀ j v, cs[j]? = some v → w.cell? (ad.add j) = some v)
    (hfit : off + cs.length ≤ cur.size) (h1 : ∀ v ∈ cs, v.oneCell' = true)
    (h : ∀ w', Hid (Blk w' g t (splice cur.toList off cs).toArray) → Hid (Fr1 g w w') → wpList P ops Q rest (a.put o.dst (goInt cs.length)) w') :
    wpList P ops Q (o :: rest) a w := by
  by_cases h0 : cs.length = 0
  · obtain rfl : cs = [] := List.eq_nil_of_length_eq_zero h0
    refine wpList_copy_nothing hgd d s dT sT ho elem hu hsz dp sp dLen dCap sLen sCap hd hs (by simpa using hn.symm) ?_
    exact h w (Lib.hid (by simpa [splice] using hg)) (Lib.hid (Fr.refl _ _))
  · obtain ⟨rfl, ad, rfl, hsrc⟩ := hpos (by omega)
    refine wpList_copy_own hgd d s dT sT ho elem hu hsz g off dLen dCap ad sLen sCap hd hs cur t hg cs hn hsrc hfit h1 ?_
    exact h _ (Lib.hid (show _ = _ by simpa [splice] using setRow_heap w g _ _ t _ hg)) (Lib.hid ⟨rfl, rfl, rfl, by simp [World.setRow], fun k hk hn => setRow_other w g k _ hn⟩)
theorem grow_nil {b n : Nat} {lr : Int} {w : World} (h : Blk w b 107 #[.slice none 0 0, .int .i64 0, .int .i8 lr]) (hn : 1 ≤ n) (hlim : n ≤ 140737488355328) :
    Calls Tryd.prog 65 #[.pointer (some ⟨b, 0, none⟩), .int .i64 n] w (GrowPost b [] n w) := by
  by_cases h64 : n ≤ 64
  · exact grow_small h hn h64
  · exact grow_big h (by omega) hlim
theorem ready_copy {b : Nat} {v : Value} {bs cs : List Value} {w w3 w4 : World} {k cap m : Nat} {cells : Array Value} {lr : Int} (hcm0 : cs.length = m)
    (hb : Blk w3 b 107 #[.slice (some ⟨k, 0, none⟩) (bs.length + m) cap, .int .i64 0, .int .i8 lr]) (hg : Blk w3 k 5 cells) (hcs : cells.size = cap) (hcm : cap ≤ maxLen) (hl : bs.length + m ≤ cap) (ht : cells.toList.take bs.length = bs) (hkb : k ≠ b)
    (hk : v.ownBlock = some k ∨ w.heap.size ≤ k) (hf : Fr (fun k => k = b ∨ v.ownBlock = some k) w w3) (hg4 : Blk w4 k 5 (splice cells.toList bs.length cs).toArray) (hf4 : Fr1 k w3 w4) :
    Buf b (.slice (some ⟨k, 0, none⟩) (bs.length + m) cap) (bs ++ cs) w4 ∧ WFr b v (.slice (some ⟨k, 0, none⟩) (bs.length + m) cap) w w4 := by
  subst hcm0
  have hsz : cells.toList.length = cap := by rw [Array.length_toList, hcs]
  have hlen : (splice cells.toList bs.length cs).length = cap := by rw [length_splice cells.toList bs.length cs (by omega), hsz]
  have htk : (splice cells.toList bs.length cs).take (bs.length + cs.length) = bs ++ cs := by
    unfold splice
    rw [ht, ← List.append_assoc, List.take_append_of_le_length (by simp), List.take_of_length_le (by simp)]
  refine ⟨⟨⟨lr, hb.fr hf4 (Ne.symm hkb)⟩, ⟨by simp, .inr ⟨k, cap, _, by rw [List.length_append], Nat.zero_le _, hg4, by rw [List.length_append]; exact hl, hcm, by simpa using hlen, by rw [Nat.mul_one, List.length_append]; simpa using htk⟩⟩, by simp [Value.ownBlock]; exact hkb⟩, hf.trans hf4 (fun j hj e => ?_), fun j hj => ?_⟩
  · subst e
    rcases hk with h | h
    · exact .inr h
    · omega
  · have : k = j := by simpa [Value.ownBlock] using hj
    subst this; exact hk
theorem src_now {w w3 : World} {b B : Nat} {v : Value} {A : Option Addr} {l : List Int} (h : RowOf c8 1 w B A l) (hB : B ≤ w.heap.size) (hA : 0 < l.length → ∀ ad, A = some ad → ad.block ≠ b ∧ v.ownBlock ≠ some ad.block)
    (hf : Fr (fun k => k = b ∨ v.ownBlock = some k) w w3) (hl : 0 < (nums .u8 l).length) : ∃ ad, A = some ad ∧ ∀ j u, (nums .u8 l)[j]? = some u → w3.cell? (ad.add j) = some u := by
  rw [nums_length] at hl
  obtain ⟨ad, rfl, _, _⟩ := h.num hl
  refine ⟨ad, rfl, fun j u hu => ?_⟩
  have hj : j < l.length := by have := (List.getElem?_eq_some_iff.1 hu).1; rwa [nums_length] at this
  obtain ⟨ad', e, hb, hc⟩ := h.num hj
  injection e with e; subst e
  have hne := hA hl ad rfl
  rw [hf.cell (by rw [block_of_add]; omega) (by rw [block_of_add]; intro h; rcases h with h | h; exact hne.1 h; exact hne.2 h), hc]
  have : (nums .u8 l)[j]? = some (.int .u8 (l.getD j 0)) := by simp [nums, List.getD_eq_getElem?_getD, List.getElem?_eq_getElem hj]
  rw [this] at hu; exact hu
theorem one_nums (k : IntKind) (l : List Int) : ∀ u ∈ nums k l, u.oneCell' = true := by
  intro u hu
  simp only [nums, List.mem_map] at hu
  obtain ⟨x, _, rfl⟩ := hu
  rfl
theorem info1_u8 : (Tryd.prog.info? 5).map (·.size) = some 1 := by kernel_rfl
end Go.Proofs.YtdhfinpmcikimaaDoor.K
