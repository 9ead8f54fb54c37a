/- What each function of package button does to four buttons in memory. -/
import Derived.Test.YtccehjcfphimgaaRows
import Derived.Test.YtccehjcfphimgaaKit
import Derived.WalkKit
import Derived.Outline
import Derived.BigQuiet
import Derived.Deep.QuietTactic
namespace Go.Proofs.Ytccehjcfphimgaa
open Go.RowKit
set_option linter.unusedVariables false
set_option linter.unusedSimpArgs false

structure Bt where
  down : Bool
  told : Bool
  since : Int
theorem Bt.eta (b : Bt) : (⟨b.down, b.told, b.since⟩ : Bt) = b := rfl
abbrev BS := Nat → Bt
def z4 : BS := fun _ => ⟨false, false, 0⟩
def enc (s : BS) : Array Value := #[.bool (s 0).down, .bool (s 0).told, .int .i64 (s 0).since, .bool (s 1).down, .bool (s 1).told, .int .i64 (s 1).since,
  .bool (s 2).down, .bool (s 2).told, .int .i64 (s 2).since, .bool (s 3).down, .bool (s 3).told, .int .i64 (s 3).since]
def upd (s : BS) (n : Nat) (b : Bt) : BS := fun i => if i = n then b else s i
def pressB (b : Bt) (d : Bool) (now : Int) : Bt := if b.down = d then b else ⟨d, false, now⟩
def tellsB (b : Bt) (now : Int) : Bool := b.down && !b.told && decide (b.since + 3 ≤ now)
def toldB (b : Bt) (now : Int) : Bt := if tellsB b now then ⟨b.down, true, b.since⟩ else b

theorem upd_self (s : BS) (n : Nat) : upd s n (s n) = s := by
  funext i; unfold upd; split
  · subst_vars; rfl
  · rfl

/-- The cells of button n in the block of four. -/
theorem enc_cell {w : World} {g : Nat} {s : BS} (h : Blk w g 29 (enc s)) {n : Nat} (hn : n < 4) :
    w.cell? ⟨g, n * 3, none⟩ = some (.bool (s n).down) ∧ w.cell? ⟨g, n * 3 + 1, none⟩ = some (.bool (s n).told) ∧ w.cell? ⟨g, n * 3 + 2, none⟩ = some (.int .i64 (s n).since) := by
  rw [h.cell, h.cell, h.cell]
  match n, hn with
  | 0, _ => exact ⟨rfl, rfl, rfl⟩
  | 1, _ => exact ⟨rfl, rfl, rfl⟩
  | 2, _ => exact ⟨rfl, rfl, rfl⟩
  | 3, _ => exact ⟨rfl, rfl, rfl⟩

theorem enc_set3 {w : World} {g : Nat} {s : BS} (h : Blk w g 29 (enc s)) {n : Nat} (hn : n < 4) (b : Bt) :
    Blk (((w.setCell ⟨g, n * 3, none⟩ (.bool b.down)).setCell ⟨g, n * 3 + 1, none⟩ (.bool b.told)).setCell ⟨g, n * 3 + 2, none⟩ (.int .i64 b.since)) g 29 (enc (upd s n b)) := by
  have h3 := ((h.set_ (n * 3) (.bool b.down)).set_ (n * 3 + 1) (.bool b.told)).set_ (n * 3 + 2) (.int .i64 b.since)
  match n, hn with
  | 0, _ => exact h3
  | 1, _ => exact h3
  | 2, _ => exact h3
  | 3, _ => exact h3
theorem enc_set1 {w : World} {g : Nat} {s : BS} (h : Blk w g 29 (enc s)) {n : Nat} (hn : n < 4) (t : Bool) :
    Blk (w.setCell ⟨g, n * 3 + 1, none⟩ (.bool t)) g 29 (enc (upd s n ⟨(s n).down, t, (s n).since⟩)) := by
  have h3 := h.set_ (n * 3 + 1) (.bool t)
  match n, hn with
  | 0, _ => exact h3
  | 1, _ => exact h3
  | 2, _ => exact h3
  | 3, _ => exact h3
theorem fr1_set {w : World} {g : Nat} (i : Nat) (u : Value) : Fr1 g w (w.setCell ⟨g, i, none⟩ u) := Fr.setCell (S := fun k => k = g) (Fr.refl _ w) (fun _ => rfl) u

/-- Where press ends. -/
def PressPost (g n : Nat) (s : BS) (d : Bool) (now : Int) (w : World) (e : Ending) (w' : World) : Prop :=
  e = .returned (.tuple #[]) ∧ Blk w' g 29 (enc (upd s n (pressB (s n) d now))) ∧ Fr1 g w w'

theorem press_at (g n : Nat) (hn : n < 4) (s : BS) (d : Bool) (now : Int) (w : World) (h : Blk w g 29 (enc s)) :
    Calls Try.prog 20 #[.pointer (some ⟨g, n * 3, none⟩), .bool d, .int .i64 now] w (PressPost g n s d now w) := by
  obtain ⟨c0, c1, c2⟩ := enc_cell h hn
  have f0 := h.frozen (n * 3)
  have f1 := h.frozen (n * 3 + 1)
  have f2 := h.frozen (n * 3 + 2)
  by_cases hd : (s n).down = d
  · have hq : ((s n).down == d) = true := by simp [hd]
    have hfin : PressPost g n s d now w (.returned (.tuple #[])) w := ⟨rfl, by rw [pressB, if_pos hd, upd_self]; exact h, Fr.refl _ _⟩
    have H := Lib.hid hfin
    clear hfin
    clear hd h
    go_enter Try.func20, Try.ntmps20
    go_wp2
    go_end0
    exact H.out
  · have hq : ((s n).down == d) = false := by simp [hd]
    have hfin : PressPost g n s d now w (.returned (.tuple #[])) (((w.setCell ⟨g, n * 3, none⟩ (.bool d)).setCell ⟨g, n * 3 + 1, none⟩ (.bool false)).setCell ⟨g, n * 3 + 2, none⟩ (.int .i64 now)) :=
      ⟨rfl, by rw [pressB, if_neg hd]; exact enc_set3 h hn ⟨d, false, now⟩, ((fr1_set _ _).trans (fr1_set _ _) (fun _ _ h => h)).trans (fr1_set _ _) (fun _ _ h => h)⟩
    have H := Lib.hid hfin
    clear hfin
    clear hd h
    go_enter Try.func20, Try.ntmps20
    go_wp2
    go_end0
    exact H.out

/-- A number that an int64 holds. -/
def I64 (x : Int) : Prop := -9223372036854775808 ≤ x ∧ x < 9223372036854775808
def WfS (s : BS) : Prop := ∀ n, I64 (s n).since
theorem u64_diff (a b : Int) (ha : I64 a) (hb : I64 b) (h : b ≤ a) : IntKind.u64.wrap (IntKind.u64.wrap a - IntKind.u64.wrap b) = a - b := by
  unfold I64 at ha hb
  simp only [IntKind.wrap_u64]
  omega

/-- Where tells ends. -/
def TellsPost (g n : Nat) (s : BS) (now : Int) (w : World) (e : Ending) (w' : World) : Prop :=
  e = .returned (.bool (tellsB (s n) now)) ∧ Blk w' g 29 (enc (upd s n (toldB (s n) now))) ∧ Fr1 g w w'
theorem tells_no {g n : Nat} {s : BS} {now : Int} {w : World} (h : Blk w g 29 (enc s)) (ht : tellsB (s n) now = false) : TellsPost g n s now w (.returned (.bool false)) w :=
  ⟨by rw [ht], by rw [toldB, ht, if_neg (by simp), upd_self]; exact h, Fr.refl _ _⟩
theorem tells_yes {g n : Nat} (hn : n < 4) {s : BS} {now : Int} {w : World} (h : Blk w g 29 (enc s)) (ht : tellsB (s n) now = true) : TellsPost g n s now w (.returned (.bool true)) (w.setCell ⟨g, n * 3 + 1, none⟩ (.bool true)) :=
  ⟨by rw [ht], by rw [toldB, ht, if_pos rfl]; exact enc_set1 h hn true, fr1_set _ _⟩

theorem tells_at (g n : Nat) (hn : n < 4) (s : BS) (now : Int) (w : World) (h : Blk w g 29 (enc s)) (hs : WfS s) (hnow : I64 now) :
    Calls Try.prog 21 #[.pointer (some ⟨g, n * 3, none⟩), .int .i64 now] w (TellsPost g n s now w) := by
  obtain ⟨c0, c1, c2⟩ := enc_cell h hn
  have f1 := h.frozen (n * 3 + 1)
  have hno : tellsB (s n) now = false → TellsPost g n s now w (.returned (.bool false)) w := tells_no h
  have hyes : tellsB (s n) now = true → TellsPost g n s now w (.returned (.bool true)) (w.setCell ⟨g, n * 3 + 1, none⟩ (.bool true)) := tells_yes hn h
  have hdiff := u64_diff now (s n).since hnow (hs n)
  unfold tellsB at hno hyes
  clear h hs hnow
  generalize s n = b at *
  obtain ⟨d, t, q⟩ := b
  dsimp only at *
  cases d
  · have H := Lib.hid (hno rfl)
    clear hno hyes hdiff
    go_enter Try.func21, Try.ntmps21
    go_wp2
    go_ret
    exact H.out
  cases t
  case true =>
    have H := Lib.hid (hno rfl)
    clear hno hyes hdiff
    go_enter Try.func21, Try.ntmps21
    go_wp2
    go_ret
    exact H.out
  by_cases h1 : now < q
  · have H := Lib.hid (hno (by simp; omega))
    clear hno hyes hdiff
    go_enter Try.func21, Try.ntmps21
    go_wp2
    go_ret
    exact H.out
  have hd := hdiff (by omega)
  clear hdiff
  by_cases h2 : now - q < 3
  · have H := Lib.hid (hno (by simp; omega))
    have hlt : IntKind.u64.wrap (IntKind.u64.wrap now - IntKind.u64.wrap q) < 3 := by rw [hd]; exact h2
    clear hno hyes hd h2
    go_enter Try.func21, Try.ntmps21
    go_wp2
    go_ret
    exact H.out
  · have H := Lib.hid (hyes (by simp; omega))
    have hlt : ¬ IntKind.u64.wrap (IntKind.u64.wrap now - IntKind.u64.wrap q) < 3 := by rw [hd]; exact h2
    clear hno hyes hd h2
    go_enter Try.func21, Try.ntmps21
    go_wp2
    go_ret
    exact H.out
end Go.Proofs.Ytccehjcfphimgaa
