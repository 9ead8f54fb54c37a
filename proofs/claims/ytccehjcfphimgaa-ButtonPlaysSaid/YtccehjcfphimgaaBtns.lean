/- What the exported functions of package button do. -/
import Derived.Test.YtccehjcfphimgaaBtn
import Derived.Deep.LoopGhost
namespace Go.Proofs.Ytccehjcfphimgaa
open Go.RowKit
set_option linter.unusedVariables false
set_option linter.unusedSimpArgs false

def okN (n : Int) : Bool := decide (0 ≤ n) && decide (n < 4)
theorem okN_nat {n : Int} (h : okN n = true) : ∃ k : Nat, n = k ∧ k < 4 := by
  simp [okN] at h
  exact ⟨n.toNat, by omega, by omega⟩
theorem there_any (p : Value) (n : Int) (w : World) : Calls Try.prog 19 #[p, .int .i64 n] w fun e w' => e = .returned (.bool (okN n)) ∧ w = w' := by
  cases hn : okN n
  · by_cases h0 : 0 ≤ n
    · have h1 : ¬ n < 4 := by simp [okN] at hn; omega
      clear hn
      go_enter Try.func19, Try.ntmps19
      go_wp2
      go_ret
      exact ⟨rfl, rfl⟩
    · clear hn
      go_enter Try.func19, Try.ntmps19
      go_wp2
      go_ret
      exact ⟨rfl, rfl⟩
  · obtain ⟨k, rfl, hk⟩ := okN_nat hn
    have h1 : (k : Int) < 4 := by omega
    clear hn
    go_enter Try.func19, Try.ntmps19
    go_wp2
    go_ret
    exact ⟨rfl, rfl⟩

def setS (s : BS) (n : Int) (d : Bool) (now : Int) : BS := if okN n then upd s n.toNat (pressB (s n.toNat) d now) else s
def SetPost (g : Nat) (s : BS) (n : Int) (d : Bool) (now : Int) (w : World) (e : Ending) (w' : World) : Prop :=
  e = .returned (.int .i64 (if okN n then 0 else 1)) ∧ Blk w' g 29 (enc (setS s n d now)) ∧ Fr1 g w w'
theorem Set_any (g : Nat) (s : BS) (n : Int) (d : Bool) (now : Int) (w : World) (h : Blk w g 29 (enc s)) :
    Calls Try.prog 11 #[.pointer (some ⟨g, 0, none⟩), .int .i64 n, .bool d, .int .i64 now] w (SetPost g s n d now w) := by
  cases hn : okN n
  · have H := Lib.hid (show SetPost g s n d now w (.returned (.int .i64 1)) w from ⟨by rw [hn]; rfl, by rw [setS, hn]; exact h, Fr.refl _ _⟩)
    have HN := Lib.hid hn
    clear hn h
    go_enter Try.func11, Try.ntmps11
    go_wp2_with fail
    refine (there_any _ _ _).mono ?_
    rintro e w' ⟨rfl, rfl⟩
    rw [HN.out]
    go_wp2
    go_ret
    exact H.out
  · obtain ⟨k, rfl, hk⟩ := okN_nat hn
    have H := Lib.hid (show ∀ w', Blk w' g 29 (enc (upd s k (pressB (s k) d now))) → Fr1 g w w' → SetPost g s k d now w (.returned (.int .i64 0)) w' from
      fun w' h1 h2 => ⟨by rw [hn]; rfl, by rw [setS, hn, if_pos rfl]; exact h1, h2⟩)
    have HN := Lib.hid hn
    have HB := Lib.hid h
    clear hn h
    have hi : (k : Int) < 4 := by omega
    go_enter Try.func11, Try.ntmps11
    go_wp2_with fail
    refine (there_any _ _ _).mono ?_
    rintro e w' ⟨rfl, rfl⟩
    rw [HN.out]
    go_wp2_with fail
    refine (press_at g k hk s d now _ HB.out).mono ?_
    rintro e w' ⟨rfl, h1, h2⟩
    have H1 := Lib.hid h1
    have H2 := Lib.hid h2
    clear h1 h2
    go_wp2
    go_ret
    exact H.out _ H1.out H2.out
theorem Down_any (g : Nat) (s : BS) (n : Int) (w : World) (h : Blk w g 29 (enc s)) :
    Calls Try.prog 18 #[.pointer (some ⟨g, 0, none⟩), .int .i64 n] w fun e w' => e = .returned (.bool (okN n && (s n.toNat).down)) ∧ w = w' := by
  cases hn : okN n
  · have HN := Lib.hid hn
    clear hn h
    go_enter Try.func18, Try.ntmps18
    go_wp2_with fail
    refine (there_any _ _ _).mono ?_
    rintro e w' ⟨rfl, rfl⟩
    rw [HN.out]
    go_wp2
    go_ret
    exact ⟨rfl, rfl⟩
  · obtain ⟨k, rfl, hk⟩ := okN_nat hn
    have HN := Lib.hid hn
    obtain ⟨c0, _, _⟩ := enc_cell h hk
    clear hn h
    have hi : (k : Int) < 4 := by omega
    go_enter Try.func18, Try.ntmps18
    go_wp2_with fail
    refine (there_any _ _ _).mono ?_
    rintro e w' ⟨rfl, rfl⟩
    rw [HN.out]
    go_wp2
    go_ret
    exact ⟨ret_bool (by simp), rfl⟩
def ResetPost (g : Nat) (w : World) (e : Ending) (w' : World) : Prop := e = .returned (.tuple #[]) ∧ Blk w' g 29 (enc z4) ∧ Fr1 g w w'
theorem Fr1.set {g : Nat} {w w1 : World} (h : Fr1 g w w1) (i : Nat) (u : Value) : Fr1 g w (w1.setCell ⟨g, i, none⟩ u) := h.setCell (fun _ => rfl) u
theorem reset_enc (s : BS) : (((((((((((((enc s).setIfInBounds 0 (.bool false)).setIfInBounds 1 (.bool false)).setIfInBounds 2 (.int .i64 0)).setIfInBounds 3 (.bool false)).setIfInBounds 4 (.bool false)).setIfInBounds 5 (.int .i64 0)).setIfInBounds 6 (.bool false)).setIfInBounds 7 (.bool false)).setIfInBounds 8 (.int .i64 0)).setIfInBounds 9 (.bool false)).setIfInBounds 10 (.bool false)).setIfInBounds 11 (.int .i64 0)) = enc z4 := by
  simp [enc, z4, List.setIfInBounds_toArray, List.set_cons_zero, List.set_cons_succ]
theorem reset_blk {g : Nat} {s : BS} {w : World} (h : Blk w g 29 (enc s)) : Blk ((((((((((((w.setCell ⟨g, 0, none⟩ (.bool false)).setCell ⟨g, 1, none⟩ (.bool false)).setCell ⟨g, 2, none⟩ (.int .i64 0)).setCell ⟨g, 3, none⟩ (.bool false)).setCell ⟨g, 4, none⟩ (.bool false)).setCell ⟨g, 5, none⟩ (.int .i64 0)).setCell ⟨g, 6, none⟩ (.bool false)).setCell ⟨g, 7, none⟩ (.bool false)).setCell ⟨g, 8, none⟩ (.int .i64 0)).setCell ⟨g, 9, none⟩ (.bool false)).setCell ⟨g, 10, none⟩ (.bool false)).setCell ⟨g, 11, none⟩ (.int .i64 0)) g 29 (enc z4) := by
  rw [← reset_enc s]
  exact (((((((((((h.set_ 0 _).set_ 1 _).set_ 2 _).set_ 3 _).set_ 4 _).set_ 5 _).set_ 6 _).set_ 7 _).set_ 8 _).set_ 9 _).set_ 10 _).set_ 11 _
theorem Reset_any (g : Nat) (s : BS) (w : World) (h : Blk w g 29 (enc s)) :
    Calls Try.prog 16 #[.pointer (some ⟨g, 0, none⟩)] w (ResetPost g w) := by
  have hc := fun i => h.cell i
  have hf := fun i => h.frozen i
  have H := Lib.hid h
  have c0 := hc 0; have c1 := hc 1; have c2 := hc 2; have c3 := hc 3; have c4 := hc 4; have c5 := hc 5
  have c6 := hc 6; have c7 := hc 7; have c8 := hc 8; have c9 := hc 9; have c10 := hc 10; have c11 := hc 11
  clear h hc
  simp only [enc, List.getElem?_toArray] at c0 c1 c2 c3 c4 c5 c6 c7 c8 c9 c10 c11
  go_enter Try.func16, Try.ntmps16
  go_wp2
  go_end0
  exact ⟨rfl, reset_blk H.out, (((((((((((Fr1.set (Fr.refl _ _) 0 _).set 1 _).set 2 _).set 3 _).set 4 _).set 5 _).set 6 _).set 7 _).set 8 _).set 9 _).set 10 _).set 11 _⟩

/-- Which of the first k are pressed; what is left behind. -/
def prs (s : BS) (now : Int) : Nat → List Int
  | 0 => []
  | k + 1 => if tellsB (s k) now then prs s now k ++ [(k : Int)] else prs s now k
def tld (s : BS) (now : Int) (k : Nat) : BS := fun n => if n < k then toldB (s n) now else s n
theorem tld_zero (s : BS) (now : Int) : tld s now 0 = s := by funext n; simp [tld]
theorem tld_at (s : BS) (now : Int) (k : Nat) : tld s now k k = s k := by simp [tld]
theorem tld_succ (s : BS) (now : Int) (k : Nat) : upd (tld s now k) k (toldB (tld s now k k) now) = tld s now (k + 1) := by
  funext n
  simp only [upd, tld, Nat.lt_irrefl, if_false]
  by_cases h : n = k
  · subst h; simp
  · by_cases h2 : n < k
    · simp [h, h2, Nat.lt_succ_of_lt h2]
    · have : ¬ n < k + 1 := by omega
      simp [h, h2, this]
theorem wf_tld {s : BS} (h : WfS s) (now : Int) (k : Nat) : WfS (tld s now k) := by
  intro n
  unfold tld toldB
  split
  · split <;> exact h n
  · exact h n
theorem prs_len (s : BS) (now : Int) (k : Nat) : (prs s now k).length ≤ k := by
  induction k with
  | zero => simp [prs]
  | succ k ih => simp only [prs]; split <;> (try simp only [List.length_append, List.length_cons, List.length_nil]) <;> omega

def PressedPost (g : Nat) (s : BS) (now : Int) (w : World) (e : Ending) (w' : World) : Prop :=
  ∃ v, e = .returned v ∧ Blk w' g 29 (enc (tld s now 4)) ∧ w'.ownsRow w.heap.size 3 1 v (prs s now 4).length (nums .i64 (prs s now 4)) ∧ Fr1 g w w'
theorem info_int : (Try.prog.info? 3).map (fun i => (i.zero, i.size, i.bytes)) = some (some (.int .i64 0), 1, 8) := by kernel_rfl
/-- The loop of Pressed, at its head. -/
structure PrsRel (g : Nat) (s : BS) (now : Int) (w : World) (k : Nat) (v : Value) (wr : World) : Prop where
  blk : Blk wr g 29 (enc (tld s now k))
  own : wr.ownsRow w.heap.size 3 1 v (prs s now k).length (nums .i64 (prs s now k))
  fr : Fr1 g w wr
theorem prs_skip {g : Nat} {s : BS} {now : Int} {w : World} {k : Nat} {v : Value} {wr w1 : World} (hg : g < w.heap.size) (h : PrsRel g s now w k v wr) (ht : tellsB (s k) now = false)
    (h1 : Blk w1 g 29 (enc (upd (tld s now k) k (toldB (tld s now k k) now)))) (h2 : Fr1 g wr w1) : PrsRel g s now w (k + 1) v w1 := by
  have e : prs s now (k + 1) = prs s now k := by simp [prs, ht]
  refine ⟨by rw [← tld_succ]; exact h1, ?_, h.fr.trans h2 (fun _ _ h => h)⟩
  rw [e]
  exact own_fr h.own h2 (fun j hj e => by subst e; exact own_blk_ne h.own h.blk (by decide) hj)
theorem prs_take {g : Nat} {s : BS} {now : Int} {w : World} {k : Nat} {v v2 : Value} {wr w1 w2 : World} (hg : g < w.heap.size) (h : PrsRel g s now w k v wr) (ht : tellsB (s k) now = true)
    (h1 : Blk w1 g 29 (enc (upd (tld s now k) k (toldB (tld s now k k) now)))) (h2 : Fr1 g wr w1)
    (h3 : w2.ownsRow w.heap.size 3 1 v2 ((prs s now k).length + 1) (nums .i64 (prs s now k) ++ [.int .i64 k])) (h4 : Fr (fun j => v.ownBlock = some j) w1 w2) : PrsRel g s now w (k + 1) v2 w2 := by
  have e : prs s now (k + 1) = prs s now k ++ [(k : Int)] := by simp [prs, ht]
  have ho1 : w1.ownsRow w.heap.size 3 1 v (prs s now k).length (nums .i64 (prs s now k)) := own_fr h.own h2 (fun j hj e => by subst e; exact own_blk_ne h.own h.blk (by decide) hj)
  refine ⟨?_, ?_, ?_⟩
  · rw [← tld_succ]
    exact h1.fr h4 (own_blk_ne ho1 h1 (by decide))
  · rw [e, nums_snoc, List.length_append]
    exact h3
  · exact (h.fr.trans h2 (fun _ _ h => h)).trans h4 (fun j hj hv => by have := ho1.lt j hv; omega)

set_option maxHeartbeats 400000 in
theorem Pressed_any (g : Nat) (s : BS) (now : Int) (w : World) (h : Blk w g 29 (enc s)) (hs : WfS s) (hnow : I64 now) :
    Calls Try.prog 13 #[.pointer (some ⟨g, 0, none⟩), .int .i64 now] w (PressedPost g s now w) := by
  have hg := h.lt
  have H0 := Lib.hid (show PrsRel g s now w 0 (.slice none 0 0) w from ⟨by rw [tld_zero]; exact h, own_nil _ _ _ _, Fr.refl _ _⟩)
  have HS := Lib.hid hs
  have HN := Lib.hid hnow
  clear h hs hnow
  go_enter Try.func13, Try.ntmps13
  go_wp2
  go_loopw [4, 6] (fun v i wr => ∃ k : Nat, k ≤ 4 ∧ i = .int .i64 k ∧ PrsRel g s now w k v wr) (fun _ i _ => 4 - (intOf i).toNat)
  case atStart => exact ⟨0, by omega, rfl, H0.out⟩
  case round =>
    obtain ⟨k, hk, rfl, hR⟩ := hrel
    by_cases hlt : k < 4
    · have HR := Lib.hid hR
      clear hR H0
      go_wp2_with fail
      refine (tells_at g k hlt (tld s now k) now _ HR.out.blk (wf_tld HS.out _ _) HN.out).mono ?_
      rintro e w1 ⟨rfl, h1, h2⟩
      rw [tld_at]
      have H1 := Lib.hid h1
      have H2 := Lib.hid h2
      clear h1 h2
      cases ht : tellsB (s k) now
      · have HT := Lib.hid ht
        clear ht
        go_wp2
        go_roundw
        case rel => exact ⟨k + 1, by omega, by go_num, prs_skip hg HR.out HT.out H1.out H2.out⟩
        case measure => simp [intOf]; omega
      · have HT := Lib.hid ht
        clear ht
        have ho1 := Lib.hid (own_fr HR.out.own H2.out (fun j hj e => by subst e; exact own_blk_ne HR.out.own HR.out.blk (by decide) hj))
        have hl := Lib.hid (prs_len s now k)
        have hz := Lib.hid (HR.out.fr.trans H2.out (fun _ _ h => h)).size
        go_wp2_with (at_builtin; refine app1 rfl _ _ _ rfl 3 (.int .i64 0) 1 8 Try.underlying39 info_int rfl (by omega) (by omega) _ _ _ _ [.int .i64 k] rfl rfl rfl (by simp [Value.oneCell']) ho1.out hz.out (by have := hl.out; omega) ?_; intro v2 w2 h3 h4 _; have H3 := Lib.hid h3; have H4 := Lib.hid h4; clear h3 h4)
        go_roundw
        case rel => exact ⟨k + 1, by omega, by go_num, prs_take hg HR.out HT.out H1.out H2.out H3.out H4.out⟩
        case measure => simp [intOf]; omega
    · obtain rfl : k = 4 := by omega
      have HR := Lib.hid hR
      clear hR H0
      go_wp2
      go_ret
      exact ⟨_, rfl, HR.out.blk, HR.out.own, HR.out.fr⟩
end Go.Proofs.Ytccehjcfphimgaa
