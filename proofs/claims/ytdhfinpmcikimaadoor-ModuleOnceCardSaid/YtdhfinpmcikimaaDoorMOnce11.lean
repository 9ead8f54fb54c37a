/- ModuleOnce: its walk. -/
import Derived.Test.YtdhfinpmcikimaaDoorMj
import Derived.Test.YtdhfinpmcikimaaDoorMDark11
import Derived.Deep.CutBlock
import Derived.Deep.DeepCutAuto
namespace Go.Proofs.YtdhfinpmcikimaaDoor.K
open Go.RowKit
set_option linter.unusedVariables false
set_option linter.unusedSimpArgs false
def PhO (token qty : Int) (want told : List Int) (q : Int) (sl : Sl) (ak : Int) (lt : Bool) : Prop :=
  (0 ≤ q ∧ q ≤ qty) ∧ ((want = [] ∧ told = [] ∧ sl = ⟨1, 0, 1, 3, []⟩ ∧ ak = 0 ∧ lt = false) ∨ (∃ k, (k = 1 ∨ k = 2) ∧ want = bytesM k token q ∧ told = want ∧ (sl = ⟨1, 0, 1, 3, want⟩ ∨ sl = ⟨1, 1, 1, 3, []⟩) ∧ ak = 1 ∧ lt = true))
theorem nil_E : (ByteArray.mk #[]).toList.isEmpty = true := by rw [ByteArray.toList_eq]; rfl
theorem strne_nil {l : List Int} (h : l ≠ []) : (strOfNums l).toList.isEmpty = false := by
  cases l with
  | nil => exact absurd rfl h
  | cons y l => rw [str_list]; rfl
def MidO (token qty : Int) (want told : List Int) (q : Int) (sl : Sl) (ak : Int) (lt : Bool) : Prop :=
  PhO token qty want told q sl ak lt ∨ ((0 ≤ q ∧ q ≤ qty) ∧ ∃ k, (k = 1 ∨ k = 2) ∧ want = bytesM k token q ∧ told = [] ∧ sl = ⟨1, 0, 1, 3, want⟩ ∧ ak = 0 ∧ lt = true)
def SwO (token qty : Int) (b : Nat) (want : List Int) (q : Int) (want' : List Int) (q' : Int) : Prop :=
  (want ≠ [] ∧ want' = want ∧ q' = q) ∨ (want = [] ∧ ((b = 1 ∧ want' = [] ∧ q' = min (q + 1) qty) ∨ (b = 2 ∧ want' = [] ∧ q' = max (q - 1) 0) ∨ (b = 0 ∧ want' = bytesM 1 token q ∧ q' = q) ∨ (b = 3 ∧ want' = bytesM 2 token q ∧ q' = q)))
theorem bytesM_ne (k t q : Int) : bytesM k t q ≠ [] := fun e => by have := bytesM_len k t q; rw [e] at this; simp at this
section
variable {token qty q ak : Int} {want told : List Int} {sl : Sl} {lt : Bool}
theorem PhO.start (h : 0 ≤ qty ∧ qty < 65536) : PhO token qty [] [] qty ⟨1, 0, 1, 3, []⟩ 0 false := ⟨⟨by omega, by omega⟩, .inl ⟨rfl, rfl, rfl, rfl, rfl⟩⟩
theorem PhO.qr (h : PhO token qty want told q sl ak lt) : 0 ≤ q ∧ q ≤ qty := h.1
theorem PhO.same (h : PhO token qty want told q sl ak lt) : told = want := by
  rcases h.2 with ⟨rfl, rfl, _⟩ | ⟨k, _, _, rfl, _⟩ <;> rfl
theorem PhO.pend (h : PhO token qty want told q sl ak lt) : sl.pend.length ≤ 1000 := by
  rcases h.2 with ⟨_, _, rfl, _⟩ | ⟨k, _, rfl, _, rfl | rfl, _⟩
  · simp
  · simp [bytesM_len]
  · simp
theorem PhO.size {out : List Int} (h : PhO token qty want (told ++ out) q sl ak lt) : (strOfNums told).size ≤ 5 ∧ (strOfNums out).size ≤ 5 := by
  have hl : (told ++ out).length ≤ 5 := by
    rcases h.2 with ⟨_, e, _⟩ | ⟨k, _, rfl, e, _⟩
    · rw [e]; simp
    · rw [e, bytesM_len]; omega
  rw [List.length_append] at hl
  rw [str_size, str_size]
  omega
theorem MidO.pend (h : MidO token qty want told q sl ak lt) : sl.pend.length ≤ 1000 := by
  rcases h with h | ⟨_, k, _, rfl, _, rfl, _⟩
  · exact h.pend
  · simp [bytesM_len]
theorem MidO.aks (h : MidO token qty want told q sl ak lt) : ak = 0 ∨ ak = 1 := by
  rcases h with ⟨_, ⟨_, _, _, h, _⟩ | ⟨_, _, _, _, _, h, _⟩⟩ | ⟨_, k, _, _, _, _, h, _⟩ <;> omega
theorem MidO.qr (h : MidO token qty want told q sl ak lt) : 0 ≤ q ∧ q ≤ qty := by
  rcases h with h | h
  · exact h.1
  · exact h.1
theorem MidO.lts (h : MidO token qty want told q sl ak lt) : (!(lt == !(strOfNums want).toList.isEmpty)) = false := by
  rcases h with ⟨_, ⟨rfl, _, _, _, rfl⟩ | ⟨k, _, rfl, _, _, _, rfl⟩⟩ | ⟨_, k, _, rfl, _, _, _, rfl⟩
  · rw [strE_nil, nil_E]; rfl
  · rw [strne_nil (bytesM_ne _ _ _)]; rfl
  · rw [strne_nil (bytesM_ne _ _ _)]; rfl
theorem MidO.tells (h : MidO token qty want told q sl ak lt) (d : Dp) : ∃ out sl' ak', tellsL sl d 1 ak [] = ⟨out, sl', d, 1, ak'⟩ ∧ PhO token qty want (told ++ out) q sl' ak' lt := by
  rcases h with ⟨hq, ⟨rfl, rfl, rfl, rfl, rfl⟩ | ⟨k, hk, rfl, rfl, hs, rfl, rfl⟩⟩ | ⟨hq, k, hk, rfl, rfl, rfl, rfl, rfl⟩
  · exact ⟨[], _, _, tells_none, hq, .inl ⟨rfl, rfl, rfl, rfl, rfl⟩⟩
  · rcases hs with rfl | rfl
    · exact ⟨[], _, _, tells_heard (by rw [bytesM_len]; decide) (by decide), hq, .inr ⟨k, hk, rfl, by simp, .inr (by simp), rfl, rfl⟩⟩
    · exact ⟨[], _, _, tells_none, hq, .inr ⟨k, hk, rfl, by simp, .inr rfl, rfl, rfl⟩⟩
  · exact ⟨bytesM k token q, _, _, tells_some (by rw [bytesM_len]; decide), hq, .inr ⟨k, hk, rfl, by simp, .inl rfl, rfl, rfl⟩⟩
theorem PhO.step (h : PhO token qty want told q sl ak lt) (hq : 0 ≤ qty ∧ qty < 65536) {b : Nat} (hb : b < 4) : ∃ want' q' sl' lt', stepP ((⟨true, lt, token, q, qty⟩ : Dp), sl) (b : Int) = (⟨true, lt', token, q', qty⟩, sl') ∧ MidO token qty want' told q' sl' ak lt' ∧ SwO token qty b want q want' q' := by
  obtain ⟨hqq, ⟨rfl, rfl, rfl, rfl, rfl⟩ | ⟨k, hk, rfl, rfl, hs, rfl, rfl⟩⟩ := h
  · rcases (by omega : b = 0 ∨ b = 1 ∨ b = 2 ∨ b = 3) with rfl | rfl | rfl | rfl
    · exact ⟨_, q, _, _, rfl, .inr ⟨hqq, 1, .inl rfl, rfl, rfl, rfl, rfl, rfl⟩, .inr ⟨rfl, .inr (.inr (.inl ⟨rfl, rfl, rfl⟩))⟩⟩
    · refine ⟨[], min (q + 1) qty, ⟨1, 0, 1, 3, []⟩, false, ?_, .inl ⟨⟨by omega, by omega⟩, .inl ⟨rfl, rfl, rfl, rfl, rfl⟩⟩, .inr ⟨rfl, .inl ⟨rfl, rfl, rfl⟩⟩⟩
      have h1 : stepP ((⟨true, false, token, q, qty⟩ : Dp), (⟨1, 0, 1, 3, []⟩ : Sl)) ((1 : Nat) : Int) = ((if q < qty then ⟨true, false, token, q + 1, qty⟩ else ⟨true, false, token, q, qty⟩ : Dp), ⟨1, 0, 1, 3, []⟩) := rfl
      rw [h1]
      by_cases e : q < qty
      · rw [if_pos e, show min (q + 1) qty = q + 1 by omega]
      · rw [if_neg e, show min (q + 1) qty = q by omega]
    · refine ⟨[], max (q - 1) 0, ⟨1, 0, 1, 3, []⟩, false, ?_, .inl ⟨⟨by omega, by omega⟩, .inl ⟨rfl, rfl, rfl, rfl, rfl⟩⟩, .inr ⟨rfl, .inr (.inl ⟨rfl, rfl, rfl⟩)⟩⟩
      have h1 : stepP ((⟨true, false, token, q, qty⟩ : Dp), (⟨1, 0, 1, 3, []⟩ : Sl)) ((2 : Nat) : Int) = ((⟨true, false, token, max q 1 - 1, qty⟩ : Dp), ⟨1, 0, 1, 3, []⟩) := rfl
      rw [h1, show max q 1 - 1 = max (q - 1) 0 by omega]
    · exact ⟨_, q, _, _, rfl, .inr ⟨hqq, 2, .inr rfl, rfl, rfl, rfl, rfl, rfl⟩, .inr ⟨rfl, .inr (.inr (.inr ⟨rfl, rfl, rfl⟩))⟩⟩
  · refine ⟨bytesM k token q, q, sl, true, by simp [stepP], .inl ⟨hqq, .inr ⟨k, hk, rfl, rfl, hs, rfl, rfl⟩⟩, .inl ⟨bytesM_ne _ _ _, rfl, rfl⟩⟩
end
set_option maxHeartbeats 16000000 in
set_option maxRecDepth 20000 in
theorem monce_walk {h : Nat} (A : Option Addr) (c : Nat) (ls : List Int) (token qty : Int) (w : World) (hk : Kn h w) (hr : RowOf c8 1 w w.heap.size A ls) (ht : 0 ≤ token ∧ token < 65536) (hq : 0 ≤ qty ∧ qty < 65536) :
    Calls Tryd.prog 4 #[.int .u16 token, .int .u16 qty, .slice A ls.length c] w fun e w' => e = .returned (.bool true) ∧ Below w.heap.size w w' := by
  have HK := Lib.hid hk
  have HR := Lib.hid hr
  have HT := Lib.hid ht
  have HQ := Lib.hid hq
  have HT1 : Hid (tellsL ⟨1, 0, 0, 3, []⟩ ⟨false, false, 0, 0, 0⟩ 0 0 (bytesM 1 token qty) = ⟨[], ⟨1, 0, 1, 3, []⟩, ⟨true, false, token, qty, qty⟩, 1, 0⟩) := Lib.hid (by
    have := tells_cmd (tl := 0) (nx := 0) (ack := 0) (d := ⟨false, false, 0, 0, 0⟩) (.inl rfl) HT.out HQ.out
    rw [show doesS (⟨false, false, 0, 0, 0⟩ : Dp) false 1 token qty = ⟨true, false, token, qty, qty⟩ by simp [doesS, sameD]] at this
    exact this)
  clear hk hr ht hq
  go_enter Tryd.func4, Tryd.ntmps4
  go_wp2_with fail
  refine Calls.mono (shown11_walk HK.out) ?_
  rintro e w1 ⟨rfl, FS⟩
  have HK1 := Lib.hid (HK.out.fr0 FS.out)
  go_wp2_with fail
  refine Calls.mono (OpenedC w1) ?_
  rintro e w2 ⟨l, m, s, A2, c2, rfl, HL2, HF2⟩
  have l2 := HL2.out.blk.cell 0
  go_wp2_with fail
  refine Calls.mono (CmdBytesC (k := 1) (t := token) (q := qty) _ ⟨by decide, by decide⟩ HT.out HQ.out) ?_
  rintro e w3 ⟨BA, bc, rfl, HM, F⟩
  have HL3 := Lib.hid (HL2.out.fr0 F.out)
  have HF3 := Lib.hid (HF2.out.trans F.out (fun _ _ h => h))
  have l3 := HL3.out.blk.cell 0
  have qT := TellsE (n := 5) (bc := bc) (bytesM_len _ _ _) HL3.out (by simp) HM.out.2.1 (by decide) (bytesM_in ⟨by decide, by decide⟩ HT.out HQ.out) (fun ad e => ⟨made_ne HM.out HL3.out.mo.sb.blk (by decide) ad e, made_ne HM.out HL3.out.blk (by decide) ad e⟩) (.inl rfl) (.inl rfl) HT1.out
  clear HL2 HF2 l2  HM F
  go_wp2_with fail
  refine Calls.mono qT ?_
  clear qT
  rintro e w4 ⟨rfl, A4, c4, HL4, F⟩
  have HF4 := Lib.hid (HL3.out.out0 (Nat.le_refl _) HF3.out F.out)
  have l4 := HL4.out.blk.cell 0
  clear HL3 HF3 l3  F
  have hq0 := HQ.out
  have hwq : IntKind.i64.wrap qty = qty := by rw [IntKind.wrap_i64]; omega
  clear hq0
  go_wp2_with fail
  go_loopw [9, 10, 11, 12, 13] (fun wv tv qv nv iv wr => ∃ (i : Nat) (A' : Option Addr) (c' : Nat) (bt' : BS) (want told : List Int) (q ak : Int) (sl : Sl) (lt : Bool), wv = .string (strOfNums want) ∧ tv = .string (strOfNums told) ∧ qv = .int .i64 q ∧ nv = .int .i64 (1 + 10 * i) ∧ iv = .int .i64 i ∧ i ≤ ls.length ∧ i ≤ 30 ∧ PhO token qty want told q sl ak lt ∧ LiB w1.heap.size l m s A' c' sl ⟨true, lt, token, q, qty⟩ bt' 1 ak wr ∧ AllUp bt' ∧ Fr0 w1 wr) (fun _ _ _ _ iv _ => 30 - (intOf iv).toNat)
  case atStart => exact ⟨0, A4, c4, z4, [], [], qty, 0, ⟨1, 0, 1, 3, []⟩, false, rfl, rfl, rfl, rfl, rfl, by omega, by omega, PhO.start HQ.out, HL4.out, z4_up, HF4.out⟩
  case round =>
    clear HL4 HF4 l4
    obtain ⟨i, A', c', bt', want, told, q, ak, sl, lt, rfl, rfl, rfl, rfl, rfl, hil, hi30, hph, hl, hup, hf⟩ := hrel
    have HPH := Lib.hid hph
    have HL := Lib.hid hl
    have HF := Lib.hid hf
    have HUP := Lib.hid hup
    have l0 := hl.blk.cell 0
    clear hl hf hup hph
    by_cases hgo : i < ls.length ∧ i < 30
    · obtain ⟨hlt, h30⟩ := hgo
      obtain ⟨ad, rfl, _, hc⟩ := (RowOf.now HR.out ((FS.out.trans HF.out (fun _ _ h => h)).below0)).num hlt
      generalize ls.getD i 0 = x at *
      obtain ⟨b, hb4, hbe⟩ := and3 x
      have hw8 : IntKind.i64.wrap (b : Int) = b := by rw [IntKind.wrap_i64]; omega
      have hqr := HPH.out.qr
      obtain ⟨want', q', sl', lt', hst, hmid, hsw⟩ := HPH.out.step HQ.out hb4
      have HMID := Lib.hid hmid
      have HSW := Lib.hid hsw
      have qP := PressC (h := h) (b := b) (now := 1 + 10 * (i : Int)) HL.out ⟨HT.out, by have := HQ.out; constructor <;> simp only <;> omega, HQ.out⟩ (HK1.out.fr0 HF.out) HPH.out.pend HUP.out hb4 ⟨by omega, by omega⟩
      rw [hst] at qP
      have HQR := Lib.hid hqr
      clear hst hmid hsw hqr
      go_wp2_with fail
      refine Calls.mono qP ?_
      clear qP
      rintro e w7 ⟨rfl, A7, c7, bt7, HL7, HU7, F7⟩
      have HF7 := Lib.hid (HL.out.out0 (Nat.le_refl _) HF.out (frms F7.out))
      clear HL HF HUP l0 F7
      go_upto_if 49 with (fail)
      go_cut [9, 11] from 28 to 112 (fun s9 s11 wx => s9 = .string (strOfNums want') ∧ s11 = .int .i64 q' ∧ Fr0 w7 wx)
      case first =>
        rcases HSW.out with ⟨h1, rfl, rfl⟩ | ⟨h1, ⟨h2, rfl, rfl⟩ | ⟨h2, rfl, rfl⟩ | ⟨h2, rfl, rfl⟩ | ⟨h2, rfl, rfl⟩⟩
        · have hne := strne_nil h1
          clear h1 HSW HPH HMID
          go_wp2_with fail
          all_goals first
            | exact absurd (by assumption : (strOfNums want').toList.isEmpty = true) (by rw [hne]; decide)
            | skip
          go_meet
          exact ⟨rfl, rfl, Fr.refl _ _⟩
        · subst h1 h2
          simp only [strE_nil]
          have hw : wrap64 (q + 1) = q + 1 := by have := HQR.out; have := HQ.out; unfold wrap64; omega
          clear HSW HPH HMID
          go_wp2_with fail
          all_goals first
            | exact absurd (by assumption : (ByteArray.mk #[]).toList.isEmpty = false) (by rw [nil_E]; decide)
            | skip
          go_meet
          exact ⟨rfl, rfl, Fr.refl _ _⟩
        · subst h1 h2
          simp only [strE_nil]
          have hw : wrap64 (q - 1) = q - 1 := by have := HQR.out; have := HQ.out; unfold wrap64; omega
          clear HSW HPH HMID
          go_wp2_with fail
          all_goals first
            | exact absurd (by assumption : (ByteArray.mk #[]).toList.isEmpty = false) (by rw [nil_E]; decide)
            | skip
          go_meet
          exact ⟨rfl, rfl, Fr.refl _ _⟩
        · subst h1 h2
          simp only [strE_nil]
          have hw : IntKind.u16.wrap q' = q' := by have := HQR.out; have := HQ.out; rw [IntKind.wrap_u16]; omega
          have HQ2 : Hid (0 ≤ q' ∧ q' < 65536) := Lib.hid (by have := HQR.out; have := HQ.out; omega)
          clear HSW HPH HMID
          go_wp2_with fail
          all_goals first
            | exact absurd (by assumption : (ByteArray.mk #[]).toList.isEmpty = false) (by rw [nil_E]; decide)
            | skip
          refine Calls.mono (RTextC11 (k := 1) _ ⟨by decide, by decide⟩ HT.out HQ2.out) ?_
          rintro e w8 ⟨rfl, F⟩
          go_wp2_with fail
          go_meet
          exact ⟨rfl, rfl, F.out⟩
        · subst h1 h2
          simp only [strE_nil]
          have hw : IntKind.u16.wrap q' = q' := by have := HQR.out; have := HQ.out; rw [IntKind.wrap_u16]; omega
          have HQ2 : Hid (0 ≤ q' ∧ q' < 65536) := Lib.hid (by have := HQR.out; have := HQ.out; omega)
          clear HSW HPH HMID
          go_wp2_with fail
          all_goals first
            | exact absurd (by assumption : (ByteArray.mk #[]).toList.isEmpty = false) (by rw [nil_E]; decide)
            | skip
          refine Calls.mono (RTextC11 (k := 2) _ ⟨by decide, by decide⟩ HT.out HQ2.out) ?_
          rintro e w8 ⟨rfl, F⟩
          go_wp2_with fail
          go_meet
          exact ⟨rfl, rfl, F.out⟩
      case rest =>
        obtain ⟨rfl, rfl, hf⟩ := hcut
        have HL8 := Lib.hid (HL7.out.fr0 hf)
        have HF8 := Lib.hid (HF7.out.trans hf (fun _ _ h => h))
        have l8 := HL8.out.blk.cell 0
        clear HL7 HF7 hf HSW HPH
        generalize wc = w8 at *
        have qS := MShowC HL8.out.mo
        go_wp2_with fail
        refine Calls.mono qS ?_
        clear qS
        rintro e w9 ⟨rfl, F⟩
        have FD : Fr0 w8 (w9.alloc (.cells (dpv ⟨true, lt', token, q', qty⟩) 44)) := F.out.alloc _
        have HL10 := Lib.hid (HL8.out.fr0 FD)
        have HF10 := Lib.hid (HF8.out.trans FD (fun _ _ h => h))
        have l10 := HL10.out.blk.cell 0
        have HBD10 := Lib.hid (Blk.new w9 44 (dpv ⟨true, lt', token, q', qty⟩))
        clear HL8 HF8 l8  F FD
        go_upto_region 26 with (fail)
        generalize w9.alloc (.cells (dpv ⟨true, lt', token, q', qty⟩) 44) = w10 at *
        generalize w9.heap.size = gD at *
        have xD0 := HBD10.out.cell 0
        have xD1 := HBD10.out.cell 1
        have xD2 := HBD10.out.cell 2
        have xD3 := HBD10.out.cell 3
        have xD4 := HBD10.out.cell 4
        have hq2 := HMID.out.qr
        have hwq2 : IntKind.i64.wrap q' = q' := by have := HQ.out; rw [IntKind.wrap_i64]; omega
        have hne := HMID.out.lts
        obtain ⟨out, sl9, ak9, hT9, hp9⟩ := HMID.out.tells ⟨true, lt', token, q', qty⟩
        have HT9 := Lib.hid hT9
        have HP9 := Lib.hid hp9
        have hpe := HMID.out.pend
        have HAK := Lib.hid HMID.out.aks
        clear hq2 hT9 hp9 HMID
        have qT := TellsE (n := 0) (BA := none) (bc := 0) (b := []) rfl HL10.out hpe (rowE_none _) (by decide) (fun x hx => by cases hx) (fun ad e => by cases e) (.inr rfl) HAK.out HT9.out
        go_wp2_with fail
        refine Calls.mono qT ?_
        clear qT
        rintro e w11 ⟨rfl, A11, c11, HL11, F⟩
        have HF11 := Lib.hid (HL10.out.out0 (Nat.le_refl _) HF10.out F.out)
        have HBD11 := Lib.hid (HL10.out.keep HBD10.out (by decide) (by decide) (by decide) F.out)
        have l11 := HL11.out.blk.cell 0
        clear HL10 HF10 l10 HBD10 F
        obtain ⟨s0, s1⟩ := HP9.out.size
        go_wp2_with fail
        rw [str_append]
        go_roundw
        case rel => exact ⟨i + 1, A11, c11, bt7, want', told ++ out, q', ak9, sl9, lt', rfl, rfl, rfl, by go_num, by go_num, by omega, by omega, HP9.out, HL11.out, HU7.out, HF11.out⟩
        case measure => simp [intOf]; omega
    · have hgb : (decide ((i : Int) < (ls.length : Int)) && decide ((i : Int) < 30)) = false := by
        simp only [Bool.and_eq_false_iff, decide_eq_false_iff_not]; omega
      obtain rfl := HPH.out.same
      by_cases hlt : i < ls.length
      · obtain rfl : i = 30 := by omega
        go_wp2
        go_ret
        exact ⟨rfl, ((FS.out.trans HF.out (fun _ _ h => h))).below0⟩
      · obtain rfl : i = ls.length := by omega
        go_wp2
        go_ret
        exact ⟨rfl, ((FS.out.trans HF.out (fun _ _ h => h))).below0⟩
theorem monce_row {W : World} (hk : ∃ h, Kn h W) (token qty : Int) (A : Option Addr) (c : Nat) (ls : List Int) (hr : RowOf c8 1 W W.heap.size A ls) (ht : 0 ≤ token ∧ token < 65536) (hq : 0 ≤ qty ∧ qty < 65536) :
    Calls Tryd.prog 4 #[.int .u16 token, .int .u16 qty, .slice A ls.length c] W fun e w' => e = .returned (.bool true) ∧ Below W.heap.size W w' := by
  obtain ⟨h, hk⟩ := hk
  exact monce_walk A c ls token qty W hk hr ht hq
end Go.Proofs.YtdhfinpmcikimaaDoor.K
