/- The walk of OctetsCuts. -/
import Derived.Test.YtfpjooekpjhbpaaDoorGe
namespace Go.Proofs.YtfpjooekpjhbpaaDoor.K
open Go.RowKit
set_option linter.unusedVariables false
set_option linter.unusedSimpArgs false
attribute [local go_sem] min2_min min_two
attribute [local go_sem ↓] Go.wp_at_zero Go.wp_at_succ
/-- What U16 answers. -/
def u16of (l : List Int) : Int × Int × List Int := if 2 ≤ l.length then (num (l.take 2), 0, l.drop 2) else (0, 2, l)
theorem RU16_any {r : Nat} {G : Option Nat} {l m : List Int} {x f : Int} {w : World} (h : Rd r G l w) (hb : InB l) (hu : u16of l = (x, f, m)) :
    Calls Tryd.prog 25 #[.pointer (some ⟨r, 0, none⟩)] w fun e w' => e = .returned (.tuple #[.int .u16 x, .int .i64 f]) ∧ Hid (Rd r G m w') ∧ Hid (Fr1 r w w') := by
  unfold u16of at hu
  by_cases h2 : 2 ≤ l.length
  · rw [if_pos h2] at hu
    simp only [Prod.mk.injEq] at hu
    obtain ⟨rfl, rfl, rfl⟩ := hu
    exact RU16_ok h h2 hb
  · rw [if_neg h2] at hu
    simp only [Prod.mk.injEq] at hu
    obtain ⟨rfl, rfl, rfl⟩ := hu
    exact (RU16_short h (by omega)).mono fun e w' ⟨h1, h2⟩ => ⟨h1, Lib.hid (h2 ▸ h), Lib.hid (h2 ▸ Fr.refl _ _)⟩
set_option maxHeartbeats 8000000 in
set_option maxRecDepth 10000 in
theorem ocuts_walk (A : Option Addr) (c : Nat) (zs : List Int) (hc : zs.length ≤ c) (hcm : c ≤ 9223372036854775807) (at_ : Int) (w : World) (h0 : RowOf c8 1 w w.heap.size A zs) (b0 : InB zs) :
    Calls Tryd.prog 7 #[.slice A zs.length c, .int .i64 at_] w fun e w' => e = .returned (.bool true) ∧ Below w.heap.size w w' := by
  obtain ⟨n, hn, hn1, hn2⟩ := min_nat zs.length 300
  have hcut := fun W => bcut_hi A zs.length c n (by omega) W
  obtain ⟨l, hl⟩ : ∃ l, l = zs.take n := ⟨_, rfl⟩
  have hln : n = l.length := by rw [hl, List.length_take]; omega
  subst hln
  have HR := Lib.hid (hl ▸ h0.take_ l.length : RowOf c8 1 w w.heap.size A l)
  have HI := Lib.hid (hl ▸ b0.take_ l.length : InB l)
  have hcc : l.length ≤ c := by omega
  clear h0 b0 hl hc
  have hmin : min (zs.length : Int) 300 = (l.length : Int) := hn
  obtain ⟨mk, hmk, hbits⟩ := and_mask at_ 65535 (by omega)
  have hbits : bits .and .i64 at_ 65535 = (mk : Int) := hbits
  obtain ⟨p, hp⟩ : ∃ p : Nat, p = mk % (l.length + 1) := ⟨_, rfl⟩
  have hp1 : p ≤ l.length := by have := Nat.mod_lt mk (show 0 < l.length + 1 by omega); omega
  have hmod : (mk : Int) % ((l.length : Int) + 1) = (p : Int) := by rw [hp]; simp
  have HP := Lib.hid hp
  have hcut2 := fun W => bcut_lo A l.length c p hp1 hcc hcm W
  obtain ⟨q, hq⟩ : ∃ q, q = l.drop p := ⟨_, rfl⟩
  have hql : l.length - p = q.length := by rw [hq, List.length_drop]
  obtain ⟨A2, hA2⟩ : ∃ A2, A2 = (if c = p then A else A.map (·.add p)) := ⟨_, rfl⟩
  have HQ := Lib.hid (hA2 ▸ hq ▸ HR.out.drop_ p hcc : RowOf c8 1 w w.heap.size A2 q)
  have HQI := Lib.hid (hq ▸ HI.out.drop_ p : InB q)
  have HQE := Lib.hid hq
  rw [← hA2, hql] at hcut2
  have hsub : (l.length : Int) - (p : Int) = (q.length : Int) := by omega
  obtain ⟨x, f, m, hu⟩ : ∃ x f m, u16of q = (x, f, m) := ⟨_, _, _, rfl⟩
  have HU := Lib.hid hu
  have hmq : m.length ≤ q.length := by
    unfold u16of at hu
    split at hu <;> simp only [Prod.mk.injEq] at hu <;> obtain ⟨_, _, rfl⟩ := hu
    · rw [List.length_drop]; omega
    · exact Nat.le_refl _
  have hqn : q.length ≤ 300 := by omega
  have hle : l.take p ++ q = l := by rw [hq]; exact List.take_append_drop p l
  have happ := str_append (l.take p) q
  rw [hle] at happ
  have htl : (l.take p).length = p := by rw [List.length_take]; omega
  have hss : (strOfNums (l.take p)).size + (strOfNums q).size ≤ 9223372036854775807 := by rw [str_size, str_size, htl]; omega
  have HTL := Lib.hid htl
  have HAPP := Lib.hid happ
  have HSS := Lib.hid hss
  clear hn hp hq hql hA2 hu hle happ htl hss
  go_enter Tryd.func7, Tryd.ntmps7
  go_wp2_with fail
  refine (shown1_walk _).mono ?_
  rintro e w1 ⟨rfl, H1⟩
  go_wp2_with fail
  refine (ReadC (by omega) (HR.out.now H1.out)).mono ?_
  rintro e w2 ⟨rr, Gr, rfl, hr, hGr, H2, F2⟩
  have hs1 := H1.out.size
  have hs2 := F2.out.size
  have HW2 := Lib.hid (fr0_below H1.out F2.out (Nat.le_refl _))
  go_wp2_with fail
  refine (ReadC (l := q) (by omega) (HQ.out.now HW2.out)).mono ?_
  rintro e w3 ⟨rs, Gs, rfl, hrs, hGs, H3, F3⟩
  have HW3 := Lib.hid (fr0_below HW2.out F3.out (Nat.le_refl _))
  have HRR3 := Lib.hid (H2.out.fr0 F3.out)
  have hltr := H2.out.lt
  have hlts := H3.out.lt
  have hGlr := H2.out.ltG
  have hg3 := gne H3.out
  have hg2 := gne H2.out
  have hne1 : Hid (∀ g, Gr = some g → g ≠ rs) := Lib.hid (fun g e => by have := hGlr g e; omega)
  have hne2 : Hid (∀ g, Gs = some g → g ≠ rr) := Lib.hid (fun g e => by have := hGs g e; omega)
  clear H2 hGr hGs hg3 hg2 hGlr
  go_wp2_with fail
  refine (RBytesOk (n := p) HRR3.out hp1 (by omega)).mono ?_
  rintro e w4 ⟨rfl, HB4, HR4, F4⟩
  rw [← HQE.out] at HR4
  have HW4 := Lib.hid (fr1_below HW3.out F4.out (by omega) (Nat.le_refl _))
  have HS4 := Lib.hid (H3.out.fr F4.out (by omega) hne2.out)
  have hb3 := HB4.out.lt
  clear HRR3 H3
  generalize w3.heap.size = b3 at *
  go_wp2_with fail
  refine (LeftC HR4.out).mono ?_
  rintro e w5 ⟨rfl, rfl⟩
  go_wp2_with fail
  refine (LeftC HR4.out).mono ?_
  rintro e w6 ⟨rfl, rfl⟩
  go_wp2_with fail
  refine (LeftC HS4.out).mono ?_
  rintro e w7 ⟨rfl, rfl⟩
  go_wp2_with fail
  refine (RU16_any HR4.out HQI.out HU.out).mono ?_
  rintro e w8 ⟨rfl, HR8, F8⟩
  have HW8 := Lib.hid (fr1_below HW4.out F8.out (by omega) (Nat.le_refl _))
  have HS8 := Lib.hid (HS4.out.fr F8.out (by omega) hne2.out)
  have HB8 := Lib.hid (HB4.out.fr F8.out (by omega))
  clear HR4 HS4 HB4 HW4 F4
  go_wp2_with fail
  refine (RU16_any HS8.out HQI.out HU.out).mono ?_
  rintro e w9 ⟨rfl, HS9, F9⟩
  have HW9 := Lib.hid (fr1_below HW8.out F9.out (by omega) (Nat.le_refl _))
  have HR9 := Lib.hid (HR8.out.fr F9.out (by omega) hne1.out)
  have HB9 := Lib.hid (HB8.out.fr F9.out (by omega))
  clear HR8 HS8 HB8 HW8 F8
  go_wp2_with fail
  refine (RRestC HR9.out (by omega)).mono ?_
  rintro e w10 ⟨rfl, HB10, HR10, F10⟩
  have HW10 := Lib.hid (fr1_below HW9.out F10.out (by omega) (Nat.le_refl _))
  have HS10 := Lib.hid (HS9.out.fr F10.out (by omega) hne2.out)
  have HBx := Lib.hid (HB9.out.fr F10.out (by omega))
  have hb9 := HB10.out.lt
  have hb39 : b3 < w9.heap.size := HB9.out.lt
  have hrr9 := HR9.out.lt
  have hrs9 := HS9.out.lt
  clear HR9 HS9 HB9 HW9 F9
  generalize w9.heap.size = b9 at *
  go_wp2_with fail
  refine (RRestC HS10.out (by omega)).mono ?_
  rintro e w11 ⟨rfl, HB11, HR11, F11⟩
  have HW11 := Lib.hid (fr1_below HW10.out F11.out (by omega) (Nat.le_refl _))
  have HRf := Lib.hid (HR10.out.fr F11.out (by omega) hne1.out)
  have HBy := Lib.hid (HB10.out.fr F11.out (by omega))
  have HBx' := Lib.hid (HBx.out.fr F11.out (by omega))
  have hb10 := HB11.out.lt
  clear HR10 HS10 HB10 HW10 F10 HBx
  have s1 := fun n => str_n (c := p) HTL.out (row_blk (B := w11.heap.size) (HBx'.out.drewN n) (by omega))
  have s2 := fun n => str_row (c := m.length) (row_blk (B := w11.heap.size) (HBy.out.drewN n) (by omega))
  have s3 := fun n => str_row (c := m.length) (row_blk (B := w11.heap.size) (HB11.out.drewN n) (by omega))
  have s4 := fun n => str_row (c := c) ((HR.out.now HW11.out).drewN_ n)
  have s5 := fun n => str_row (c := c - p) ((HQ.out.now HW11.out).drewN_ n)
  have happ := HAPP.out
  have hss := HSS.out
  go_wp2_with fail
  go_quiet ((first | (go_at_call 26; exact Calls.quiet_of_same (RDoneC HRf.out)) | (go_at_call 22; exact Calls.quiet_of_same (LeftC HRf.out))))
  go_wp2
  go_ret
  exact ⟨rfl, below_drewN HW11.out _⟩
end Go.Proofs.YtfpjooekpjhbpaaDoor.K
