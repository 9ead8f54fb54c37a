/- few: a frame with at most fifty bytes, its own. -/
import Derived.Test.YtfcbbcimblpbnaaDoorF4
import Derived.Test.YtfcbbcimblpbnaaDoorF5
namespace Go.Proofs.YtfcbbcimblpbnaaDoor.K
open Go.RowKit
set_option linter.unusedVariables false
set_option linter.unusedSimpArgs false
attribute [local go_sem] min2_min min_two
/-- The frame that few tells. -/
abbrev fewF (f : Fp) : Fp := ⟨f.addr, f.kind, f.ses, f.seq, f.ack, f.B.take 50⟩
theorem own_lit2 (w : World) (o1 o2 : Obj) : (((w.alloc o1).alloc o2).alloc (.cells #[] 5)).ownsRow (w.heap.size + 2) 5 1 (.slice (some ⟨w.heap.size + 1 + 1, 0, none⟩) 0 0) 0 [] := by
  have := World.ownsRow_lit (base := w.heap.size + 2) (e := 5) (size := 1) ((w.alloc o1).alloc o2) #[] 0 (by simp) (by decide) rfl
  simpa using this
theorem results_few {w : World} {g : Nat} {f : Fp} {A : Option Addr} {c : Nat} {tm : Array Value} (h : Blk w g 24 (fvs f A c)) (h2 : tm.getD 2 undef = .pointer (some ⟨g, 0, none⟩)) :
    (results Tryd.f11 tm).run Tryd.prog w = .ok (.agg #[.int .u8 f.addr, .int .u8 f.kind, .int .u8 f.ses, .int .u8 f.seq, .int .u8 f.ack, .slice A f.B.length c]) w := by
  obtain ⟨k0, k1, k2, k3, k4, k5⟩ := fvs_cells h
  rw [Array.getD_eq_getD_getElem?] at h2
  simp [results, Tryd.results11, go_sem, h2, k0, k1, k2, k3, k4, k5]
set_option maxHeartbeats 1000000 in
set_option maxRecDepth 10000 in
theorem few4L (f : Fp) (A : Option Addr) (c : Nat) (l : List Int) (hl : f.B.take 50 = l) (w : World) (hc : f.B.length ≤ c) (hR : RowOf c8 1 w w.heap.size A f.B) :
    Calls Tryd.prog 11 #[.agg #[.int .u8 f.addr, .int .u8 f.kind, .int .u8 f.ses, .int .u8 f.seq, .int .u8 f.ack, .slice A f.B.length c]] w fun e w' => ∃ A' c', e = .returned (.agg #[.int .u8 f.addr, .int .u8 f.kind, .int .u8 f.ses, .int .u8 f.seq, .int .u8 f.ack, .slice A' l.length c']) ∧ Hid (Made w.heap.size A' c' l w') ∧ Hid (Below w.heap.size w w') := by
  have hnm : l.length = min f.B.length 50 := by rw [← hl, List.length_take]; omega
  have hmin : min (f.B.length : Int) 50 = (l.length : Int) := by omega
  have hcut := fun W => bcut_hi A f.B.length c l.length (by omega) W
  have HRl : Hid (RowOf c8 1 w w.heap.size A l) := Lib.hid (hl ▸ hR.take_ 50)
  have hn50 : l.length ≤ 50 := by omega
  clear hl hnm hc hR
  go_enter Tryd.func11, Tryd.ntmps11
  go_wp2_with (at_builtin; go_loud (refine appR (c := c8) rfl _ _ _ rfl 5 (.int .u8 0) 1 1 Tryd.underlying22 info_u8 rfl (by omega) (by omega) (fun _ => rfl) (fun y u hu => by simp at hu; subst hu; rfl) (w.heap.size + 2) w.heap.size _ [] l A c rfl rfl (RowOf.below HRl.out ((((Below.refl w.heap.size w).alloc (Nat.le_refl _) _).alloc (by simp) _).alloc (by simp <;> omega) _)) (own_lit2 w _ _) (by simp <;> omega) (by simp only [List.length_nil]; omega) ?_; intro v2 w2 h3 h4 h5; have HF := Lib.hid h4; obtain ⟨A1, c1, rfl, hm1⟩ := made_of (B := w.heap.size + 2) (v := v2) (l := l) (by rw [nums_flat]; exact h3); have HM1 := Lib.hid hm1; have hk1 : Blk w2 w.heap.size 24 (fvs f A c) := ((((Blk.new w _ _).alloc _).alloc _).fr h4 (fun e => absurd (Option.some.inj e) (by simp <;> omega))); have hk2 : Blk w2 (w.heap.size + 1) 24 (fvs fr0 none 0) := (((Blk.new_at (w := w.alloc _) (by simp)).alloc _).fr h4 (fun e => absurd (Option.some.inj e) (by simp <;> omega))); have HK1 := Lib.hid hk1; have HK2 := Lib.hid hk2; obtain ⟨k0, k1, k2, k3, k4, k5⟩ := fvs_cells hk1; have kf := hk1.frozen 5; obtain ⟨m0, m1, m2, m3, m4, m5⟩ := fvs_cells hk2; have mf0 := hk2.frozen 0; have mf1 := hk2.frozen 1; have mf2 := hk2.frozen 2; have mf3 := hk2.frozen 3; have mf4 := hk2.frozen 4; have mf5 := hk2.frozen 5; clear h3 h4 h5 hm1 hk1 hk2))
  have FS : Fr (fun k => k = w.heap.size ∨ k = w.heap.size + 1) w2 (st6 (w2.setCell ⟨w.heap.size, 5, none⟩ (.slice A1 l.length c1)) (w.heap.size + 1) ⟨f.addr, f.kind, f.ses, f.seq, f.ack, l⟩ A1 c1) :=
    (((((((Fr.refl (fun k => k = w.heap.size ∨ k = w.heap.size + 1) w2).setCell (fun _ => .inl rfl) _).setCell (fun _ => .inr rfl) _).setCell (fun _ => .inr rfl) _).setCell (fun _ => .inr rfl) _).setCell (fun _ => .inr rfl) _).setCell (fun _ => .inr rfl) _).setCell (fun _ => .inr rfl) _
  have hb2 : Below w.heap.size w w2 := below_fr ((((Below.refl w.heap.size w).alloc (Nat.le_refl _) _).alloc (by simp) _).alloc (by simp <;> omega) _) HF.out (by simp <;> omega) (fun j e => by have := ((own_lit2 w (.cells #[] 5) (.cells #[] 5)).lt j e).1; omega)
  have hkk := st6_blk (f := ⟨f.addr, f.kind, f.ses, f.seq, f.ack, l⟩) (A := A1) (c := c1) (HK2.out.far (p := ⟨w.heap.size, 5, none⟩) (by simp) (.slice A1 l.length c1))
  refine bodyPost_ret (results_few hkk rfl) rfl ⟨A1, c1, rfl, Lib.hid ?_, Lib.hid (below_fr hb2 FS hb2.size (fun j e => by omega))⟩
  exact (HM1.out.fr FS (fun j e => by have := (HM1.out.1.lt j e).1; omega)).low (by omega)
/-- Encode, right or not. -/
def encA (f : Fp) : List Int × Int := if rightF f then (encL f, 0) else ([], 1)
theorem EncodeAny {A : Option Addr} {c n nb : Nat} {a k s q x e : Int} {m L : List Int} (hf : (⟨a, k, s, q, x, m⟩ : Fp).ok) (hL : encA ⟨a, k, s, q, x, m⟩ = (L, e)) (hn : m.length = nb) (hln : L.length = n) (w : World) (hT : Turns w) (hB : RowOf c8 1 w w.heap.size A m) (ha : ∀ ad, A = some ad → ad.block < w.heap.size) :
    Calls Tryd.prog 10 #[.agg #[.int .u8 a, .int .u8 k, .int .u8 s, .int .u8 q, .int .u8 x, .slice A nb c]] w fun ee w' => ∃ A' c', ee = .returned (.tuple #[.slice A' n c', .int .i64 e]) ∧ Hid (Made w.heap.size A' c' L w') ∧ Hid (Below w.heap.size w w') := by
  cases hr : rightF ⟨a, k, s, q, x, m⟩ with
  | true =>
    simp only [encA, hr, if_true, Prod.mk.injEq] at hL
    obtain ⟨h1, rfl⟩ := hL
    exact EncodeE hf hr h1 hn hln w hT hB ha
  | false =>
    have hL2 : (([], 1) : List Int × Int) = (L, e) := by rw [← hL]; unfold encA; rw [hr]; rfl
    obtain ⟨rfl, rfl⟩ := Prod.mk.inj hL2
    subst hln
    refine (EncodeN hr hn w).mono ?_
    rintro ee w' ⟨rfl, H⟩
    exact ⟨none, 0, rfl, Lib.hid (made_nil _ _), H⟩
/-- A row of the call's own: one byte of it, and the row behind a store there. -/
theorem own_put4 {base : Nat} {e : TypeId} {w : World} {A : Option Addr} {n c : Nat} {xs : List Value} {i : Nat} (h : w.ownsRow base e 1 (.slice A n c) n xs) (hi : i < n) :
    ∃ g x, A = some ⟨g, 0, none⟩ ∧ base ≤ g ∧ g < w.heap.size ∧ w.cell? ⟨g, i, none⟩ = some x ∧ w.frozen? ⟨g, i, none⟩ = false ∧ ∀ u, (w.setCell ⟨g, i, none⟩ u).ownsRow base e 1 (.slice (some ⟨g, 0, none⟩) n c) n (xs.set i u) := by
  obtain ⟨g, cap, hv, hb, hlt⟩ := h.form (by omega)
  have hA : A = some ⟨g, 0, none⟩ := by injection hv
  subst hA
  have hl : i < xs.length := by have := h.1; omega
  exact ⟨g, xs[i], rfl, hb, hlt, (h.cellAt i (by omega)).trans (List.getElem?_eq_getElem hl), h.frozenAt i, fun u => (h.stored i u).1⟩
theorem ok_few {f : Fp} (h : f.ok) : (fewF f).ok := ⟨h.a, h.k, h.s, h.q, h.x, h.b.take_ 50⟩
end Go.Proofs.YtfcbbcimblpbnaaDoor.K
