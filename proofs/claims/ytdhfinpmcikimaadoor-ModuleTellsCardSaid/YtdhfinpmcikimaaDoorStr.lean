/- Strings of bytes. -/
import Derived.Test.YtdhfinpmcikimaaDoorNu
import Derived.Laws.BytesArg
namespace Go.Proofs.YtdhfinpmcikimaaDoor.K
open Go.RowKit
set_option linter.unusedVariables false
set_option linter.unusedSimpArgs false
/-- string(b), b any row of bytes. -/
theorem str_row {w : World} {B : Nat} {A : Option Addr} {l : List Int} {c : Nat} (h : RowOf c8 1 w B A l) :
    (convert 26 9 (.slice A l.length c)).run Tryd.prog w = .ok (.string (strOfNums l)) w := by
  cases A with
  | none =>
    have hl0 : l = [] := by
      cases l with
      | nil => rfl
      | cons y l => obtain ⟨ad, e, _⟩ := h 0 y rfl; cases e
    subst hl0
    exact run_convert_bytes_nil w 26 5 Tryd.underlying26 Tryd.underlying5 0 c 9 Tryd.underlying9
  | some ad =>
    have hl : (loadCells ad l.length).run Tryd.prog w = .ok (l.map (Value.int .u8)).toArray w := by
      have := run_loadCells_list (P := Tryd.prog) w ad (l.map (Value.int .u8)) (fun j v hj => by
        have hjl : j < l.length := by have := (List.getElem?_eq_some_iff.1 hj).1; rwa [List.length_map] at this
        obtain ⟨ad', e, _, hc⟩ := h.num hjl
        injection e with e; subst e
        rw [hc]
        rw [List.getElem?_map, List.getElem?_eq_getElem hjl] at hj
        simp at hj
        subst hj
        simp [List.getD_eq_getElem?_getD, List.getElem?_eq_getElem hjl])
      simpa using this
    rw [run_convert_bytes_string w 26 9 5 _ l.length c Tryd.underlying26 Tryd.underlying5 Tryd.underlying9, run_bytesToString w ad l.length c l hl, foldl_push_bytes]
    simp [strOfNums, ByteArray.empty, ByteArray.emptyWithCapacity]
    rfl
theorem row_blk {w : World} {g B : Nat} {l : List Int} (h : Blk w g 5 (nums .u8 l).toArray) (hg : g < B) : RowOf c8 1 w B (some ⟨g, 0, none⟩) l := by
  intro i x hx
  refine ⟨_, rfl, hg, fun j u hu => ?_⟩
  match j, hu with
  | 0, hu =>
    simp at hu; subst hu
    rw [add_plain, h.cell]
    simp [nums, hx]
theorem str_size (l : List Int) : (strOfNums l).size = l.length := strOfNums_size l
theorem str_append (a b : List Int) : strOfNums a ++ strOfNums b = strOfNums (a ++ b) := by
  apply ByteArray.ext
  simp [strOfNums]
theorem str_nil : strOfNums [] = ByteArray.empty := by apply ByteArray.ext; rfl
theorem u8_inj {x y : Int} (hx : 0 ≤ x ∧ x < 256) (hy : 0 ≤ y ∧ y < 256) (h : UInt8.ofNat x.toNat = UInt8.ofNat y.toNat) : x = y := by
  have h1 := congrArg UInt8.toNat h
  simp at h1
  omega
theorem map_inj_on {α β : Type} {f : α → β} {P : α → Prop} (hf : ∀ x y, P x → P y → f x = f y → x = y) : ∀ (a b : List α), (∀ x ∈ a, P x) → (∀ x ∈ b, P x) → a.map f = b.map f → a = b := by
  intro a
  induction a with
  | nil => intro b _ _ h; cases b with
    | nil => rfl
    | cons y b => simp at h
  | cons x a ih =>
    intro b ha hb h
    cases b with
    | nil => simp at h
    | cons y b =>
      simp only [List.map_cons, List.cons.injEq] at h
      rw [hf x y (ha x (by simp)) (hb y (by simp)) h.1, ih b (fun z hz => ha z (by simp [hz])) (fun z hz => hb z (by simp [hz])) h.2]
theorem str_inj {a b : List Int} (ha : InB a) (hb : InB b) (h : strOfNums a = strOfNums b) : a = b := by
  have h2 : (strOfNums a).data.toList = (strOfNums b).data.toList := by rw [h]
  rw [strOfNums_data, strOfNums_data] at h2
  exact map_inj_on (P := fun x => 0 ≤ x ∧ x < 256) (fun x y hx hy => u8_inj hx hy) a b ha hb h2
theorem str_list (l : List Int) : (strOfNums l).toList = l.map fun n => UInt8.ofNat n.toNat := by rw [ByteArray.toList_eq, strOfNums_data]
theorem str_eq {a b : List Int} (ha : InB a) (hb : InB b) : ((strOfNums a).toList == (strOfNums b).toList) = decide (a = b) := by
  rw [str_list, str_list]
  by_cases h : a = b
  · subst h; simp
  · have : ¬ (a.map (fun n => UInt8.ofNat n.toNat) = b.map fun n => UInt8.ofNat n.toNat) := fun h2 => h (map_inj_on (P := fun x => 0 ≤ x ∧ x < 256) (fun x y hx hy => u8_inj hx hy) a b ha hb h2)
    simp [h, this]
theorem str_cut (l : List Int) (a b : Nat) : (strOfNums l).extract a b = strOfNums ((l.take b).drop a) := by
  apply ByteArray.ext
  apply Array.ext'
  simp [strOfNums, List.extract_eq_take_drop, List.drop_take, List.map_drop, List.map_take]
theorem str_at (l : List Int) (i : Nat) (hi : i < l.length) (hb : InB l) (hs : i < (strOfNums l).size) : (((strOfNums l)[i]'hs).toNat : Int) = l[i] := by
  have h := hb _ (List.getElem_mem hi)
  have : (strOfNums l)[i]'hs = UInt8.ofNat (l[i]).toNat := by
    show (strOfNums l).data[i]'_ = _
    simp [strOfNums]
  rw [this]
  simp
  omega
/-- The document's number, as a text. -/
theorem be_zero (n : Int) : be n 0 = [] := rfl
theorem num_cons (l : List Int) (k : Nat) (h : k < l.length) : num (l.take (k + 1)) = num (l.take k) * 256 + l[k] := by rw [List.take_succ_eq_append_getElem h, num_snoc]
theorem scut_hi (l : List Int) (k : Nat) (hk : k ≤ l.length) (W : World) : (Instr.slice 9 (.string (strOfNums l)) none (some (.int .i64 k)) none).run Tryd.prog W = .ok (.string (strOfNums (l.take k))) W := by
  rw [run_slice_string_h W 9 (strOfNums l) Tryd.underlying9 .i64 k (by omega) (by rw [str_size]; omega), Int.toNat_natCast, str_cut]
  simp
theorem scut_lo (l : List Int) (k : Nat) (hk : k ≤ l.length) (W : World) : (Instr.slice 9 (.string (strOfNums l)) (some (.int .i64 k)) none none).run Tryd.prog W = .ok (.string (strOfNums (l.drop k))) W := by
  rw [run_slice_string_l W 9 (strOfNums l) Tryd.underlying9 .i64 k (by omega) (by rw [str_size]; omega), Int.toNat_natCast, str_cut, str_size, List.take_length]
end Go.Proofs.YtdhfinpmcikimaaDoor.K
