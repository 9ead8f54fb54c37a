/- What each function of package button does to four buttons in memory. -/
import Derived.Test.YtdhfinpmcikimaaDoorRows
import Derived.Test.YtdhfinpmcikimaaDoorRow
import Derived.Deep.LoopGhost
import Derived.WalkKit
import Derived.Outline
import Derived.BigQuiet
import Derived.Deep.QuietTactic
namespace Go.Proofs.YtdhfinpmcikimaaDoor.K
open Go.RowKit
set_option linter.unusedVariables false
set_option linter.unusedSimpArgs false

structure Bt where
  down : Bool
  told : Bool
  since : Int
theorem Bt.eta (b : Bt) : (⟨b.down, b.told, b.since⟩ : Bt) = b := rfl
abbrev BS := Nat → Bt
def z4 : BS := fun _ => ⟨false, false, 0⟩
def encL (s : BS) : List Value := [.bool (s 0).down, .bool (s 0).told, .int .i64 (s 0).since, .bool (s 1).down, .bool (s 1).told, .int .i64 (s 1).since,
  .bool (s 2).down, .bool (s 2).told, .int .i64 (s 2).since, .bool (s 3).down, .bool (s 3).told, .int .i64 (s 3).since]
def upd (s : BS) (n : Nat) (b : Bt) : BS := fun i => if i = n then b else s i
def pressB (b : Bt) (d : Bool) (now : Int) : Bt := if b.down = d then b else ⟨d, false, now⟩
def tellsB (b : Bt) (now : Int) : Bool := b.down && !b.told && decide (b.since + 3 ≤ now)
def toldB (b : Bt) (now : Int) : Bt := if tellsB b now then ⟨b.down, true, b.since⟩ else b

theorem upd_self (s : BS) (n : Nat) : upd s n (s n) = s := by
  funext i; unfold upd; split
  · subst_vars; rfl
  · rfl

/-- Four buttons in a block, behind o cells. -/
def enc (pre post : List Value) (s : BS) : Array Value := (pre ++ (encL s ++ post)).toArray
section
variable {t : TypeId} {pre post : List Value} {o : Nat}
theorem enc_get (ho : pre.length = o) (s : BS) (i : Nat) (hi : i < 12) : (enc pre post s)[o + i]? = (encL s)[i]? := by
  unfold enc
  rw [List.getElem?_toArray, List.getElem?_append_right (by omega), show o + i - pre.length = i by omega, List.getElem?_append_left (by simpa [encL] using hi)]
theorem enc_put (ho : pre.length = o) (s : BS) (i : Nat) (hi : i < 12) (u : Value) : (enc pre post s).setIfInBounds (o + i) u = (pre ++ ((encL s).set i u ++ post)).toArray := by
  unfold enc
  rw [List.setIfInBounds_toArray, List.set_append_right _ _ (by omega), show o + i - pre.length = i by omega, List.set_append_left _ _ (by simpa [encL] using hi)]
theorem enc_put' (ho : pre.length = o) (l : List Value) (i : Nat) (hi : i < l.length) (u : Value) : ((pre ++ (l ++ post)).toArray).setIfInBounds (o + i) u = (pre ++ (l.set i u ++ post)).toArray := by
  rw [List.setIfInBounds_toArray, List.set_append_right _ _ (by omega), show o + i - pre.length = i by omega, List.set_append_left _ _ hi]
/-- The cells of button n in the block of four. -/
theorem enc_cell {w : World} {g : Nat} {s : BS} (ho : pre.length = o) (h : Blk w g t (enc pre post s)) {n : Nat} (hn : n < 4) :
    w.cell? ⟨g, o + n * 3, none⟩ = some (.bool (s n).down) ∧ w.cell? ⟨g, o + n * 3 + 1, none⟩ = some (.bool (s n).told) ∧ w.cell? ⟨g, o + n * 3 + 2, none⟩ = some (.int .i64 (s n).since) := by
  rw [h.cell, h.cell, h.cell, enc_get ho s _ (by omega), Nat.add_assoc, Nat.add_assoc, enc_get ho s _ (by omega), enc_get ho s _ (by omega)]
  match n, hn with
  | 0, _ => exact ⟨rfl, rfl, rfl⟩
  | 1, _ => exact ⟨rfl, rfl, rfl⟩
  | 2, _ => exact ⟨rfl, rfl, rfl⟩
  | 3, _ => exact ⟨rfl, rfl, rfl⟩
theorem enc_set3 {w : World} {g : Nat} {s : BS} (ho : pre.length = o) (h : Blk w g t (enc pre post s)) {n : Nat} (hn : n < 4) (b : Bt) :
    Blk (((w.setCell ⟨g, o + n * 3, none⟩ (.bool b.down)).setCell ⟨g, o + n * 3 + 1, none⟩ (.bool b.told)).setCell ⟨g, o + n * 3 + 2, none⟩ (.int .i64 b.since)) g t (enc pre post (upd s n b)) := by
  have h3 := ((h.set_ (o + n * 3) (.bool b.down)).set_ (o + n * 3 + 1) (.bool b.told)).set_ (o + n * 3 + 2) (.int .i64 b.since)
  rw [Nat.add_assoc, Nat.add_assoc, enc_put ho s _ (by omega), enc_put' ho _ _ (by simp [encL]; omega), enc_put' ho _ _ (by simp [encL]; omega)] at h3
  rw [Nat.add_assoc, Nat.add_assoc]
  match n, hn with
  | 0, _ => exact h3
  | 1, _ => exact h3
  | 2, _ => exact h3
  | 3, _ => exact h3
theorem enc_set1 {w : World} {g : Nat} {s : BS} (ho : pre.length = o) (h : Blk w g t (enc pre post s)) {n : Nat} (hn : n < 4) (tt : Bool) :
    Blk (w.setCell ⟨g, o + n * 3 + 1, none⟩ (.bool tt)) g t (enc pre post (upd s n ⟨(s n).down, tt, (s n).since⟩)) := by
  have h3 := h.set_ (o + n * 3 + 1) (.bool tt)
  rw [Nat.add_assoc, enc_put ho s _ (by omega)] at h3
  rw [Nat.add_assoc]
  match n, hn with
  | 0, _ => exact h3
  | 1, _ => exact h3
  | 2, _ => exact h3
  | 3, _ => exact h3
end
theorem fr1_set {w : World} {g : Nat} (i : Nat) (u : Value) : Fr1 g w (w.setCell ⟨g, i, none⟩ u) := Fr.setCell (S := fun k => k = g) (Fr.refl _ w) (fun _ => rfl) u

/-- Where press ends. -/
def PressPost (t : TypeId) (pre post : List Value) (g n : Nat) (s : BS) (d : Bool) (now : Int) (w : World) (e : Ending) (w' : World) : Prop :=
  e = .returned (.tuple #[]) ∧ Blk w' g t (enc pre post (upd s n (pressB (s n) d now))) ∧ Fr1 g w w'

theorem press_at {t : TypeId} {pre post : List Value} {o : Nat} (ho : pre.length = o) (g n : Nat) (hn : n < 4) (s : BS) (d : Bool) (now : Int) (w : World) (h : Blk w g t (enc pre post s)) :
    Calls Tryd.prog 41 #[.pointer (some ⟨g, o + n * 3, none⟩), .bool d, .int .i64 now] w (PressPost t pre post g n s d now w) := by
  obtain ⟨c0, c1, c2⟩ := enc_cell ho h hn
  have f0 := h.frozen (o + n * 3)
  have f1 := h.frozen (o + n * 3 + 1)
  have f2 := h.frozen (o + n * 3 + 2)
  by_cases hd : (s n).down = d
  · have hq : ((s n).down == d) = true := by simp [hd]
    have hfin : PressPost t pre post g n s d now w (.returned (.tuple #[])) w := ⟨rfl, by rw [pressB, if_pos hd, upd_self]; exact h, Fr.refl _ _⟩
    have H := Lib.hid hfin
    clear hfin
    clear hd h
    go_enter Tryd.func41, Tryd.ntmps41
    go_wp2
    go_end0
    exact H.out
  · have hq : ((s n).down == d) = false := by simp [hd]
    have hfin : PressPost t pre post g n s d now w (.returned (.tuple #[])) (((w.setCell ⟨g, o + n * 3, none⟩ (.bool d)).setCell ⟨g, o + n * 3 + 1, none⟩ (.bool false)).setCell ⟨g, o + n * 3 + 2, none⟩ (.int .i64 now)) :=
      ⟨rfl, by rw [pressB, if_neg hd]; exact enc_set3 ho h hn ⟨d, false, now⟩, ((fr1_set _ _).trans (fr1_set _ _) (fun _ _ h => h)).trans (fr1_set _ _) (fun _ _ h => h)⟩
    have H := Lib.hid hfin
    clear hfin
    clear hd h
    go_enter Tryd.func41, Tryd.ntmps41
    go_wp2
    go_end0
    exact H.out

/-- A number that an int64 holds. -/
def I64 (x : Int) : Prop := -9223372036854775808 ≤ x ∧ x < 9223372036854775808
def WfS (s : BS) : Prop := ∀ n, I64 (s n).since
theorem u64_diff (a b : Int) (ha : I64 a) (hb : I64 b) (h : b ≤ a) : IntKind.u64.wrap (IntKind.u64.wrap a - IntKind.u64.wrap b) = a - b := by
  unfold I64 at ha hb
  simp only [IntKind.wrap_u64]
  omega

/-- Where tells ends. -/
def TellsPost (t : TypeId) (pre post : List Value) (g n : Nat) (s : BS) (now : Int) (w : World) (e : Ending) (w' : World) : Prop :=
  e = .returned (.bool (tellsB (s n) now)) ∧ Blk w' g t (enc pre post (upd s n (toldB (s n) now))) ∧ Fr1 g w w'
theorem tells_no {t : TypeId} {pre post : List Value} {g n : Nat} {s : BS} {now : Int} {w : World} (h : Blk w g t (enc pre post s)) (ht : tellsB (s n) now = false) : TellsPost t pre post g n s now w (.returned (.bool false)) w :=
  ⟨by rw [ht], by rw [toldB, ht, if_neg (by simp), upd_self]; exact h, Fr.refl _ _⟩
theorem tells_yes {t : TypeId} {pre post : List Value} {o : Nat} (ho : pre.length = o) {g n : Nat} (hn : n < 4) {s : BS} {now : Int} {w : World} (h : Blk w g t (enc pre post s)) (ht : tellsB (s n) now = true) : TellsPost t pre post g n s now w (.returned (.bool true)) (w.setCell ⟨g, o + n * 3 + 1, none⟩ (.bool true)) :=
  ⟨by rw [ht], by rw [toldB, ht, if_pos rfl]; exact enc_set1 ho h hn true, fr1_set _ _⟩

theorem tells_at {t : TypeId} {pre post : List Value} {o : Nat} (ho : pre.length = o) (g n : Nat) (hn : n < 4) (s : BS) (now : Int) (w : World) (h : Blk w g t (enc pre post s)) (hs : WfS s) (hnow : I64 now) :
    Calls Tryd.prog 43 #[.pointer (some ⟨g, o + n * 3, none⟩), .int .i64 now] w (TellsPost t pre post g n s now w) := by
  obtain ⟨c0, c1, c2⟩ := enc_cell ho h hn
  have f1 := h.frozen (o + n * 3 + 1)
  have hno : tellsB (s n) now = false → TellsPost t pre post g n s now w (.returned (.bool false)) w := tells_no h
  have hyes : tellsB (s n) now = true → TellsPost t pre post g n s now w (.returned (.bool true)) (w.setCell ⟨g, o + n * 3 + 1, none⟩ (.bool true)) := tells_yes ho hn h
  have hdiff := u64_diff now (s n).since hnow (hs n)
  unfold tellsB at hno hyes
  clear h hs hnow
  generalize s n = b at *
  obtain ⟨d, td, q⟩ := b
  dsimp only at *
  cases d
  · have H := Lib.hid (hno rfl)
    clear hno hyes hdiff
    go_enter Tryd.func43, Tryd.ntmps43
    go_wp2
    go_ret
    exact H.out
  cases td
  case true =>
    have H := Lib.hid (hno rfl)
    clear hno hyes hdiff
    go_enter Tryd.func43, Tryd.ntmps43
    go_wp2
    go_ret
    exact H.out
  by_cases h1 : now < q
  · have H := Lib.hid (hno (by simp; omega))
    clear hno hyes hdiff
    go_enter Tryd.func43, Tryd.ntmps43
    go_wp2
    go_ret
    exact H.out
  have hd := hdiff (by omega)
  clear hdiff
  by_cases h2 : now - q < 3
  · have H := Lib.hid (hno (by simp; omega))
    have hlt : IntKind.u64.wrap (IntKind.u64.wrap now - IntKind.u64.wrap q) < 3 := by rw [hd]; exact h2
    clear hno hyes hd h2
    go_enter Tryd.func43, Tryd.ntmps43
    go_wp2
    go_ret
    exact H.out
  · have H := Lib.hid (hyes (by simp; omega))
    have hlt : ¬ IntKind.u64.wrap (IntKind.u64.wrap now - IntKind.u64.wrap q) < 3 := by rw [hd]; exact h2
    clear hno hyes hd h2
    go_enter Tryd.func43, Tryd.ntmps43
    go_wp2
    go_ret
    exact H.out
def okN (n : Int) : Bool := decide (0 ≤ n) && decide (n < 4)
theorem okN_nat {n : Int} (h : okN n = true) : ∃ k : Nat, n = k ∧ k < 4 := by
  simp [okN] at h
  exact ⟨n.toNat, by omega, by omega⟩
theorem there_any (p : Value) (n : Int) (w : World) : Calls Tryd.prog 40 #[p, .int .i64 n] w fun e w' => e = .returned (.bool (okN n)) ∧ w = w' := by
  cases hn : okN n
  · by_cases h0 : 0 ≤ n
    · have h1 : ¬ n < 4 := by simp [okN] at hn; omega
      clear hn
      go_enter Tryd.func40, Tryd.ntmps40
      go_wp2
      go_ret
      exact ⟨rfl, rfl⟩
    · clear hn
      go_enter Tryd.func40, Tryd.ntmps40
      go_wp2
      go_ret
      exact ⟨rfl, rfl⟩
  · obtain ⟨k, rfl, hk⟩ := okN_nat hn
    have h1 : (k : Int) < 4 := by omega
    clear hn
    go_enter Tryd.func40, Tryd.ntmps40
    go_wp2
    go_ret
    exact ⟨rfl, rfl⟩

def setS (s : BS) (n : Int) (d : Bool) (now : Int) : BS := if okN n then upd s n.toNat (pressB (s n.toNat) d now) else s
def SetPost (t : TypeId) (pre post : List Value) (g : Nat) (s : BS) (n : Int) (d : Bool) (now : Int) (w : World) (e : Ending) (w' : World) : Prop :=
  e = .returned (.int .i64 (if okN n then 0 else 1)) ∧ Blk w' g t (enc pre post (setS s n d now)) ∧ Fr1 g w w'
theorem Set_any {t : TypeId} {pre post : List Value} {o : Nat} (ho : pre.length = o) (g : Nat) (s : BS) (n : Int) (d : Bool) (now : Int) (w : World) (h : Blk w g t (enc pre post s)) :
    Calls Tryd.prog 27 #[.pointer (some ⟨g, o, none⟩), .int .i64 n, .bool d, .int .i64 now] w (SetPost t pre post g s n d now w) := by
  cases hn : okN n
  · have H := Lib.hid (show SetPost t pre post g s n d now w (.returned (.int .i64 1)) w from ⟨by rw [hn]; rfl, by rw [setS, hn]; exact h, Fr.refl _ _⟩)
    have HN := Lib.hid hn
    clear hn h
    go_enter Tryd.func27, Tryd.ntmps27
    go_wp2_with fail
    refine (there_any _ _ _).mono ?_
    rintro e w' ⟨rfl, rfl⟩
    rw [HN.out]
    go_wp2
    go_ret
    exact H.out
  · obtain ⟨k, rfl, hk⟩ := okN_nat hn
    have H := Lib.hid (show ∀ w', Blk w' g t (enc pre post (upd s k (pressB (s k) d now))) → Fr1 g w w' → SetPost t pre post g s k d now w (.returned (.int .i64 0)) w' from
      fun w' h1 h2 => ⟨by rw [hn]; rfl, by rw [setS, hn, if_pos rfl]; exact h1, h2⟩)
    have HN := Lib.hid hn
    have HB := Lib.hid h
    clear hn h
    have hi : (k : Int) < 4 := by omega
    go_enter Tryd.func27, Tryd.ntmps27
    go_wp2_with fail
    refine (there_any _ _ _).mono ?_
    rintro e w' ⟨rfl, rfl⟩
    rw [HN.out]
    go_wp2_with fail
    refine (press_at ho g k hk s d now _ HB.out).mono ?_
    rintro e w' ⟨rfl, h1, h2⟩
    have H1 := Lib.hid h1
    have H2 := Lib.hid h2
    clear h1 h2
    go_wp2
    go_ret
    exact H.out _ H1.out H2.out
/-- Which of the first k are pressed; what is left behind. -/
def prs (s : BS) (now : Int) : Nat → List Int
  | 0 => []
  | k + 1 => if tellsB (s k) now then prs s now k ++ [(k : Int)] else prs s now k
def tld (s : BS) (now : Int) (k : Nat) : BS := fun n => if n < k then toldB (s n) now else s n
theorem tld_zero (s : BS) (now : Int) : tld s now 0 = s := by funext n; simp [tld]
theorem tld_at (s : BS) (now : Int) (k : Nat) : tld s now k k = s k := by simp [tld]
theorem tld_succ (s : BS) (now : Int) (k : Nat) : upd (tld s now k) k (toldB (tld s now k k) now) = tld s now (k + 1) := by
  funext n
  simp only [upd, tld, Nat.lt_irrefl, if_false]
  by_cases h : n = k
  · subst h; simp
  · by_cases h2 : n < k
    · simp [h, h2, Nat.lt_succ_of_lt h2]
    · have : ¬ n < k + 1 := by omega
      simp [h, h2, this]
theorem wf_tld {s : BS} (h : WfS s) (now : Int) (k : Nat) : WfS (tld s now k) := by
  intro n
  unfold tld toldB
  split
  · split <;> exact h n
  · exact h n
theorem prs_len (s : BS) (now : Int) (k : Nat) : (prs s now k).length ≤ k := by
  induction k with
  | zero => simp [prs]
  | succ k ih => simp only [prs]; split <;> (try simp only [List.length_append, List.length_cons, List.length_nil]) <;> omega

def PressedPost (t : TypeId) (pre post : List Value) (g : Nat) (s : BS) (now : Int) (w : World) (e : Ending) (w' : World) : Prop :=
  ∃ v, e = .returned v ∧ Blk w' g t (enc pre post (tld s now 4)) ∧ w'.ownsRow w.heap.size 3 1 v (prs s now 4).length (nums .i64 (prs s now 4)) ∧ Fr1 g w w'
theorem info_int : (Tryd.prog.info? 3).map (fun i => (i.zero, i.size, i.bytes)) = some (some (.int .i64 0), 1, 8) := by kernel_rfl
/-- The loop of Pressed, at its head. -/
structure PrsRel (t : TypeId) (pre post : List Value) (g : Nat) (s : BS) (now : Int) (w : World) (k : Nat) (v : Value) (wr : World) : Prop where
  blk : Blk wr g t (enc pre post (tld s now k))
  own : wr.ownsRow w.heap.size 3 1 v (prs s now k).length (nums .i64 (prs s now k))
  fr : Fr1 g w wr
theorem prs_skip {t : TypeId} {pre post : List Value} (hti : 3 ≠ t) {g : Nat} {s : BS} {now : Int} {w : World} {k : Nat} {v : Value} {wr w1 : World} (hg : g < w.heap.size) (h : PrsRel t pre post g s now w k v wr) (ht : tellsB (s k) now = false)
    (h1 : Blk w1 g t (enc pre post (upd (tld s now k) k (toldB (tld s now k k) now)))) (h2 : Fr1 g wr w1) : PrsRel t pre post g s now w (k + 1) v w1 := by
  have e : prs s now (k + 1) = prs s now k := by simp [prs, ht]
  refine ⟨by rw [← tld_succ]; exact h1, ?_, h.fr.trans h2 (fun _ _ h => h)⟩
  rw [e]
  exact own_fr h.own h2 (fun j hj e => by subst e; exact own_blk_ne h.own h.blk hti hj)
theorem prs_take {t : TypeId} {pre post : List Value} (hti : 3 ≠ t) {g : Nat} {s : BS} {now : Int} {w : World} {k : Nat} {v v2 : Value} {wr w1 w2 : World} (hg : g < w.heap.size) (h : PrsRel t pre post g s now w k v wr) (ht : tellsB (s k) now = true)
    (h1 : Blk w1 g t (enc pre post (upd (tld s now k) k (toldB (tld s now k k) now)))) (h2 : Fr1 g wr w1)
    (h3 : w2.ownsRow w.heap.size 3 1 v2 ((prs s now k).length + 1) (nums .i64 (prs s now k) ++ [.int .i64 k])) (h4 : Fr (fun j => v.ownBlock = some j) w1 w2) : PrsRel t pre post g s now w (k + 1) v2 w2 := by
  have e : prs s now (k + 1) = prs s now k ++ [(k : Int)] := by simp [prs, ht]
  have ho1 : w1.ownsRow w.heap.size 3 1 v (prs s now k).length (nums .i64 (prs s now k)) := own_fr h.own h2 (fun j hj e => by subst e; exact own_blk_ne h.own h.blk hti hj)
  refine ⟨?_, ?_, ?_⟩
  · rw [← tld_succ]
    exact h1.fr h4 (own_blk_ne ho1 h1 hti)
  · rw [e, nums_snoc, List.length_append]
    exact h3
  · exact (h.fr.trans h2 (fun _ _ h => h)).trans h4 (fun j hj hv => by have := ho1.lt j hv; omega)

set_option maxHeartbeats 400000 in
theorem Pressed_any {t : TypeId} {pre post : List Value} (hti : 3 ≠ t) {o : Nat} (ho : pre.length = o) (g : Nat) (s : BS) (now : Int) (w : World) (h : Blk w g t (enc pre post s)) (hs : WfS s) (hnow : I64 now) :
    Calls Tryd.prog 29 #[.pointer (some ⟨g, o, none⟩), .int .i64 now] w (PressedPost t pre post g s now w) := by
  have hg := h.lt
  have H0 := Lib.hid (show PrsRel t pre post g s now w 0 (.slice none 0 0) w from ⟨by rw [tld_zero]; exact h, own_nil _ _ _ _, Fr.refl _ _⟩)
  have HS := Lib.hid hs
  have HN := Lib.hid hnow
  clear h hs hnow
  go_enter Tryd.func29, Tryd.ntmps29
  go_wp2
  go_loopw [4, 6] (fun v i wr => ∃ k : Nat, k ≤ 4 ∧ i = .int .i64 k ∧ PrsRel t pre post g s now w k v wr) (fun _ i _ => 4 - (intOf i).toNat)
  case atStart => exact ⟨0, by omega, rfl, H0.out⟩
  case round =>
    obtain ⟨k, hk, rfl, hR⟩ := hrel
    by_cases hlt : k < 4
    · have HR := Lib.hid hR
      clear hR H0
      go_wp2_with fail
      refine (tells_at ho g k hlt (tld s now k) now _ HR.out.blk (wf_tld HS.out _ _) HN.out).mono ?_
      rintro e w1 ⟨rfl, h1, h2⟩
      rw [tld_at]
      have H1 := Lib.hid h1
      have H2 := Lib.hid h2
      clear h1 h2
      cases ht : tellsB (s k) now
      · have HT := Lib.hid ht
        clear ht
        go_wp2
        go_roundw
        case rel => exact ⟨k + 1, by omega, by go_num, prs_skip hti hg HR.out HT.out H1.out H2.out⟩
        case measure => simp [intOf]; omega
      · have HT := Lib.hid ht
        clear ht
        have ho1 := Lib.hid (own_fr HR.out.own H2.out (fun j hj e => by subst e; exact own_blk_ne HR.out.own HR.out.blk hti hj))
        have hl := Lib.hid (prs_len s now k)
        have hz := Lib.hid (HR.out.fr.trans H2.out (fun _ _ h => h)).size
        go_wp2_with (at_builtin; refine app1 rfl _ _ _ rfl 3 (.int .i64 0) 1 8 Tryd.underlying76 info_int rfl (by omega) (by omega) _ _ _ _ [.int .i64 k] rfl rfl rfl (by simp [Value.oneCell']) ho1.out hz.out (by have := hl.out; omega) ?_; intro v2 w2 h3 h4 _; have H3 := Lib.hid h3; have H4 := Lib.hid h4; clear h3 h4)
        go_roundw
        case rel => exact ⟨k + 1, by omega, by go_num, prs_take hti hg HR.out HT.out H1.out H2.out H3.out H4.out⟩
        case measure => simp [intOf]; omega
    · obtain rfl : k = 4 := by omega
      have HR := Lib.hid hR
      clear hR H0
      go_wp2
      go_ret
      exact ⟨_, rfl, HR.out.blk, HR.out.own, HR.out.fr⟩
end Go.Proofs.YtdhfinpmcikimaaDoor.K
