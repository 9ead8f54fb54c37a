/- The walk of StuffParts. -/
import Derived.Test.YtgaeifdnbajopaaCuts
import Derived.Test.YtgaeifdnbajopaaRow
namespace Go.Proofs.Ytgaeifdnbajopaa.K
open Go.RowKit Go.Proofs.YtgaeifdnbajopaaW.PrintWords Go.Proofs.YtgaeifdnbajopaaW.PrintLast Go.Proofs.YtgaeifdnbajopaaW.PrintMore
attribute [local go_sem] min2_min min_two
set_option linter.unusedVariables false
set_option linter.unusedSimpArgs false
theorem str_append (a b : List Int) : strOfNums a ++ strOfNums b = strOfNums (a ++ b) := by
  apply ByteArray.ext
  simp [strOfNums]
theorem unst_more : ∀ (l : List Int) (b : Bool) (acc acc' : List Int),
    ((unst b l acc').2 = 0 → unst b l (acc ++ acc') = (acc ++ (unst b l acc').1, 0)) ∧ ((unst b l acc').2 ≠ 0 → unst b l (acc ++ acc') = unst b l acc') := by
  intro l
  induction l with
  | nil => intro b acc acc'; cases b <;> simp [unst]
  | cons c r ih =>
    intro b acc acc'
    cases b with
    | false =>
      by_cases h1 : c = 126
      · simp [unst, h1]
      · by_cases h2 : c = 125
        · have h9 : ¬ (125 : Int) = 126 := by decide
          subst h2; simp only [unst, h9, if_true, if_false]; exact ih true acc acc'
        · simp only [unst, h1, h2, if_false, List.append_assoc]; exact ih false acc (acc' ++ [c])
    | true =>
      by_cases h1 : bits .xor .u8 c 32 = 126
      · simp only [unst, h1, if_true, List.append_assoc]; exact ih false acc (acc' ++ [126])
      · by_cases h2 : bits .xor .u8 c 32 = 125
        · have h9 : ¬ (125 : Int) = 126 := by decide
          simp only [unst, h2, h9, if_true, if_false, List.append_assoc]; exact ih false acc (acc' ++ [125])
        · simp [unst, h1, h2]
theorem unst_app : ∀ (l : List Int) (b : Bool) (acc m : List Int),
    ((unst b l acc).2 = 0 → unst b (l ++ m) acc = unst false m (unst b l acc).1) ∧ ((unst b l acc).2 = 3 → unst b (l ++ m) acc = ([], 3)) := by
  intro l
  induction l with
  | nil => intro b acc m; cases b <;> simp [unst]
  | cons c r ih =>
    intro b acc m
    cases b with
    | false =>
      by_cases h1 : c = 126
      · simp [unst, h1]
      · by_cases h2 : c = 125
        · have h9 : ¬ (125 : Int) = 126 := by decide
          subst h2; simp only [List.cons_append, unst, h9, if_true, if_false]; exact ih true acc m
        · simp only [List.cons_append, unst, h1, h2, if_false]; exact ih false (acc ++ [c]) m
    | true =>
      by_cases h1 : bits .xor .u8 c 32 = 126
      · simp only [List.cons_append, unst, h1, if_true]; exact ih false (acc ++ [126]) m
      · by_cases h2 : bits .xor .u8 c 32 = 125
        · have h9 : ¬ (125 : Int) = 126 := by decide
          simp only [List.cons_append, unst, h2, h9, if_true, if_false]; exact ih false (acc ++ [125]) m
        · simp [unst, h1, h2]
/-- Two rows that are unstuffed as one. -/
theorem unst_two (l m p q r : List Int) (e f g : Int) (h1 : unst false l [] = (p, e)) (h2 : unst false m [] = (q, f)) (h3 : unst false (l ++ m) [] = (r, g)) :
    (e = 0 → g = f ∧ (f = 0 → r = p ++ q)) ∧ (e = 3 → g = 3) := by
  have ha := unst_app l false [] m
  have hm := unst_more m false p []
  rw [h1, h3] at ha
  rw [h2] at hm
  refine ⟨fun he => ?_, fun he => ?_⟩
  · have ha1 := ha.1 he
    simp only [List.append_nil] at hm
    by_cases hf : f = 0
    · have := hm.1 hf
      rw [this] at ha1
      injection ha1 with h5 h6
      exact ⟨by rw [h6, hf], fun _ => h5⟩
    · have := hm.2 hf
      rw [this] at ha1
      injection ha1 with h5 h6
      exact ⟨h6, fun h => absurd h hf⟩
  · have ha2 := ha.2 he
    injection ha2
theorem unst_len (l z : List Int) (f : Int) (h : unst false l [] = (z, f)) (hr : ∀ x ∈ l, (0 : Int) ≤ x ∧ x < 256) : z.length ≤ l.length ∧ (f = 0 ∨ f = 2 ∨ f = 3) := by
  rcases unst_spec l [] false hr with ⟨h1, z', h2, _, h3⟩ | ⟨h1, h2⟩
  · rw [h] at h1 h2
    have h1 : f = 0 := h1
    have h2 : z = z' := by simpa using h2
    subst h2; exact ⟨h3, .inl h1⟩
  · rw [h] at h1 h2
    have h2 : z = [] := h2
    subst h2
    exact ⟨by simp, .inr h1⟩

theorem lit_step {w1 w2 : World} {cs : Array Value} {t : TypeId} {n c : Nat} (h : Fr (fun k => (Value.slice (some ⟨w1.heap.size, 0, none⟩) n c).ownBlock = some k) (w1.alloc (.cells cs t)) w2) : Below w1.heap.size w1 w2 :=
  ((Below.refl _ w1).alloc (Nat.le_refl _) _).trans (h.below (B := w1.heap.size) (fun j _ hj => by
    have : w1.heap.size = j := by simpa [Value.ownBlock] using hj
    omega) (by simp))

set_option maxHeartbeats 4000000 in
set_option maxRecDepth 10000 in
theorem parts_walk (A : Option Addr) (c : Nat) (zs : List Int) (hc : zs.length ≤ c) (B : Option Addr) (d : Nat) (ys : List Int) (hd : ys.length ≤ d) (w : World)
    (h0 : RowOf c8 1 w w.heap.size A zs) (b0 : ∀ x ∈ zs, 0 ≤ x ∧ x < 256) (k0 : RowOf c8 1 w w.heap.size B ys) (c0 : ∀ x ∈ ys, 0 ≤ x ∧ x < 256) :
    Calls Try.prog 5 #[.slice A zs.length c, .slice B ys.length d] w fun e w' => e = .returned (.bool true) ∧ Below w.heap.size w w' := by
  obtain ⟨n, hn, hn1, hn2⟩ := min_nat zs.length 1000
  have hcut := fun W => cut8 A zs.length c n hn1 hc W
  obtain ⟨l, hl⟩ : ∃ l, l = zs.take n := ⟨_, rfl⟩
  have hln : n = l.length := by rw [hl, List.length_take]; omega
  subst hln
  have HR := Lib.hid (hl ▸ h0.take_ l.length : RowOf c8 1 w w.heap.size A l)
  have hb0 : ∀ x ∈ l, (0 : Int) ≤ x ∧ x < 256 := fun x hx => b0 x (by rw [hl] at hx; exact List.mem_of_mem_take hx)
  have hmin : min (zs.length : Int) 1000 = (l.length : Int) := hn
  obtain ⟨n', hn', hn1', hn2'⟩ := min_nat ys.length 1000
  have hcut' := fun W => cut8 B ys.length d n' hn1' hd W
  obtain ⟨m, hm⟩ : ∃ m, m = ys.take n' := ⟨_, rfl⟩
  have hmn : n' = m.length := by rw [hm, List.length_take]; omega
  subst hmn
  have KR := Lib.hid (hm ▸ k0.take_ m.length : RowOf c8 1 w w.heap.size B m)
  have hc0 : ∀ x ∈ m, (0 : Int) ≤ x ∧ x < 256 := fun x hx => c0 x (by rw [hm] at hx; exact List.mem_of_mem_take hx)
  have hmin' : min (ys.length : Int) 1000 = (m.length : Int) := hn'
  obtain ⟨p, e1, h1⟩ : ∃ z f, unst false l [] = (z, f) := ⟨_, _, rfl⟩
  obtain ⟨q, e2, h2⟩ : ∃ z f, unst false m [] = (z, f) := ⟨_, _, rfl⟩
  obtain ⟨r, e3, h3⟩ : ∃ z f, unst false (l ++ m) [] = (z, f) := ⟨_, _, rfl⟩
  have HP := Lib.hid (unst_two l m p q r e1 e2 e3 h1 h2 h3)
  have HP1 := Lib.hid (unst_len l p e1 h1 hb0)
  have HP2 := Lib.hid (unst_len m q e2 h2 hc0)
  have HP3 := Lib.hid (unst_len (l ++ m) r e3 h3 (fun x hx => by rcases List.mem_append.1 hx with h | h; exact hb0 x h; exact hc0 x h))
  have U1 := Lib.hid h1
  have U2 := Lib.hid h2
  have U3 := Lib.hid h3
  clear h0 b0 hl hc hb0 hn k0 c0 hm hd hc0 hn' h1 h2 h3
  go_enter Try.func5, Try.ntmps5
  go_wp2_with fail
  refine (shown3 _).mono ?_
  rintro e w1 ⟨rfl, H1⟩
  have HR1 := Lib.hid (HR.out.now H1.out)
  have KR1 := Lib.hid (KR.out.now H1.out)
  have hll := stf_len l
  have hmm := stf_len m
  have hbb := stf_len (l ++ m)
  have hss : stf (l ++ m) = stf l ++ stf m := stf_append l m
  have hsz : (strOfNums (stf l)).size + (strOfNums (stf m)).size ≤ 9223372036854775807 := by rw [strOfNums_size, strOfNums_size]; omega
  have heq := str_append (stf l) (stf m)
  rw [← hss] at heq
  clear hss
  have hbl : (l ++ m).length ≤ 2000 := by rw [List.length_append]; omega
  have tok1 : Hid True := Lib.hid trivial
  go_wp2_with (first | (at_builtin; have _t := tok1; refine appR (c := c8) rfl _ _ _ rfl 5 (.int .u8 0) 1 1 Try.underlying22 info_u8 rfl (by omega) (by omega) (fun _ => rfl) (fun y u hu => by simp at hu; subst hu; rfl) w1.heap.size w1.heap.size _ [] l _ _ rfl rfl (RowOf.below HR1.out ((Below.refl _ w1).alloc (Nat.le_refl _) _)) (World.ownsRow_lit w1 #[] 0 (Nat.le_refl _) (by decide) rfl) (by simp) (by simp; omega) ?_; intro v2 w2 h3 h4 h5; have G1 := Lib.hid h3; have F1 := Lib.hid (lit_step h4); clear h3 h4 h5 tok1) | (at_builtin; refine appR (c := c8) rfl _ _ _ rfl 5 (.int .u8 0) 1 1 Try.underlying22 info_u8 rfl (by omega) (by omega) (fun _ => rfl) (fun y u hu => by simp at hu; subst hu; rfl) w1.heap.size w1.heap.size _ l m _ _ rfl rfl (RowOf.below KR1.out F1.out) G1.out F1.out.size (by omega) ?_; intro v3 w3 h3 h4 h5; have G2 := Lib.hid h3; have F2 := Lib.hid (F1.out.trans (h4.below (B := w1.heap.size) (fun j _ hj => (G1.out.lt j hj).1) F1.out.size) : Below w1.heap.size w1 w3); clear h3 h4 h5; obtain ⟨A3, c3, rfl, hc3⟩ := own_form G2.out; generalize l ++ m = bo at *))
  have H3 := Lib.hid (H1.out.trans (F2.out.mono H1.out.size))
  have HR3 := Lib.hid (HR.out.now H3.out)
  have KR3 := Lib.hid (KR.out.now H3.out)
  have BR3 := Lib.hid (row_own (c := c8) (size := 1) (fun _ => rfl) G2.out)
  clear G1 F1 G2 F2 HR1 KR1 H1 hcut hcut' hmin hmin'
  have tok1 : Hid True := Lib.hid trivial
  go_wp2_with fail
  go_region_with (first
    | (go_at_call 11; have _t := tok1; refine (StuffC (l := l) (by omega) _ HR3.out.drew).mono ?_; rintro e w4 ⟨A4, c4, rfl, hc4, _, HX4, HB4⟩; have hs4 := str_row (c := c4) (by omega) HX4.out; have H4 := Lib.hid ((below_dr H3.out).trans (HB4.out.mono H3.out.size)); clear tok1)
    | (go_at_call 11; have _t := tok1; refine (StuffC (l := m) (by omega) _ KR3.out.drew).mono ?_; rintro e w4 ⟨A4, c4, rfl, hc4, _, HX4, HB4⟩; have hs4 := str_row (c := c4) (by omega) HX4.out; have H4 := Lib.hid ((below_dr H3.out).trans (HB4.out.mono H3.out.size)); clear tok1)
    | (go_at_call 11; refine (StuffC (l := m) (by omega) _ (KR.out.now H4.out)).mono ?_; rintro e w5 ⟨A5, c5, rfl, hc5, _, HX5, HB5⟩; have hs5 := str_row (c := c5) (by omega) HX5.out; have hs6 := str_row (c := c4) (by omega) (HX4.out.now HB5.out); have H5 := Lib.hid (H4.out.trans (HB5.out.mono H4.out.size)))
    | (go_at_call 11; refine (StuffC (l := l) (by omega) _ (HR.out.now H4.out)).mono ?_; rintro e w5 ⟨A5, c5, rfl, hc5, _, HX5, HB5⟩; have hs5 := str_row (c := c5) (by omega) HX5.out; have hs6 := str_row (c := c4) (by omega) (HX4.out.now HB5.out); have H5 := Lib.hid (H4.out.trans (HB5.out.mono H4.out.size))))
  all_goals
    have BR5 := Lib.hid ((BR3.out.drew.now HB4.out).now HB5.out)
    clear hs4 hs5 hs6 hsz heq BR3 HB4 HB5 HX4 HX5
    go_wp2_with fail
    (with_reducible refine (StuffC (l := bo) (by omega) _ BR5.out).mono ?_)
    rintro e w6 ⟨A6, c6, rfl, hc6, _, HX6, HB6⟩
    have H6 := Lib.hid (H5.out.trans (HB6.out.mono H5.out.size))
    have hs6 := str_row (c := c6) (by omega) HX6.out
    have BR6 := Lib.hid (BR5.out.now HB6.out)
    clear HB6 HX6 H5 BR5
    go_wp2_with fail
    (with_reducible refine (UnstuffC (l := l) (by omega) U1.out _ (HR.out.now H6.out)).mono ?_)
    rintro e w7 ⟨A7, c7, rfl, hc7, _, HY7, HB7⟩
    have H7 := Lib.hid (H6.out.trans (HB7.out.mono H6.out.size))
    have BR7 := Lib.hid (BR6.out.now HB7.out)
    clear hs6 HB7 H6 BR6
    go_wp2_with fail
    (with_reducible refine (UnstuffC (l := m) (by omega) U2.out _ (KR.out.now H7.out)).mono ?_)
    rintro e w8 ⟨A8, c8', rfl, hc8, _, HY8, HB8⟩
    have H8 := Lib.hid (H7.out.trans (HB8.out.mono H7.out.size))
    have BR8 := Lib.hid (BR7.out.now HB8.out)
    have HY7' := Lib.hid (HY7.out.now HB8.out)
    clear HB8 H7 BR7 HY7
    go_wp2_with fail
    (with_reducible refine (UnstuffC (l := bo) (by omega) U3.out _ BR8.out).mono ?_)
    rintro e w9 ⟨A9, c9, rfl, hc9, _, HY9, HB9⟩
    have H9 := Lib.hid (H8.out.trans (HB9.out.mono H8.out.size))
    have hp := HP1.out
    have hq := HP2.out
    have hr := HP3.out
    have s1 := str_row (c := c7) (by omega) (HY7'.out.now HB9.out)
    have s2 := str_row (c := c8') (by omega) (HY8.out.now HB9.out)
    have s3 := str_row (c := c9) (by omega) HY9.out
    have hsz : (strOfNums p).size + (strOfNums q).size ≤ 9223372036854775807 := by rw [strOfNums_size, strOfNums_size]; omega
    have heq := str_append p q
    clear HB9 H8 BR8 HY7' HY8 HY9
    have hpp := HP.out
    by_cases he1 : e1 = 0
    · obtain ⟨hg, hrr⟩ := hpp.1 he1
      subst he1 hg
      by_cases he2 : e3 = 0
      · have h9 : r = p ++ q := hrr he2
        clear hpp hrr
        subst he2
        rw [← h9] at heq
        clear hp hq hr h9
        go_wp2
        go_ret
        exact ⟨rfl, H9.out⟩
      · have he2' : (e3 != 0) = true := by simp [he2]
        clear hpp hp hq hr he2 hrr
        go_wp2
        go_ret
        exact ⟨rfl, H9.out⟩
    · have he1' : (e1 == 0) = false := by simp [he1]
      by_cases he3 : e1 = 3
      · have hg := hpp.2 he3
        subst hg he3
        clear hpp hp hq hr he1
        go_wp2
        go_ret
        exact ⟨rfl, H9.out⟩
      · have he3' : (e1 != 3) = true := by simp [he3]
        clear hpp hp hq hr he1 he3
        go_wp2
        go_ret
        exact ⟨rfl, H9.out⟩
end Go.Proofs.Ytgaeifdnbajopaa.K
