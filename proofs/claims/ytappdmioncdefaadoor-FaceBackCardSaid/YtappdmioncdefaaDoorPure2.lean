/- A line and a text as they are read: plain functions, and that the printed ones come to them. -/
import Derived.Test.YtappdmioncdefaaDoorQCarlinglaw04Awake
namespace Go.Proofs.YtappdmioncdefaaDoor.Q
open Go.RowKit Go.Proofs.YtappdmioncdefaaDoorW.PrintWords Go.Proofs.YtappdmioncdefaaDoorW.PrintLast Go.Proofs.YtappdmioncdefaaDoorW.PrintMore

theorem data_len (s : ByteArray) : s.data.toList.length = s.size := by simp
theorem bytesOfL_eq (s : ByteArray) : bytesOfL s.data.toList = s := bytes_ext (bytesOfL_data _)
theorem strings_CutPrefix_f (s p : ByteArray) : strings_CutPrefix.f s p = some (bytesOfL (Lib.trimPrefix s.data.toList p.data.toList), Lib.hasPrefix s.data.toList p.data.toList) := by
  unfold strings_CutPrefix.f stringslite_CutPrefix.f stringslite_HasPrefix.f
  by_cases h : (s.size : Int) ≥ (p.size : Int)
  · have hx : (s.extract 0 ((p.size : Int) : Int).toNat).toList = s.data.toList.take p.size := by
      rw [toList_data, ByteArray.data_extract, Array.toList_extract]
      simp [List.extract_eq_take_drop]
    have hp : (s.data.toList.take p.size == p.data.toList) = Lib.hasPrefix s.data.toList p.data.toList := by
      unfold Lib.hasPrefix
      rw [Bool.eq_iff_iff, List.isPrefixOf_iff_prefix, List.prefix_iff_eq_take, beq_iff_eq, data_len]
      exact eq_comm
    rw [if_pos h, if_pos (by omega), if_pos h, hx, toList_data, hp]
    simp only [Option.bind_some]
    unfold Lib.trimPrefix
    cases hb : Lib.hasPrefix s.data.toList p.data.toList with
    | true =>
      rw [if_pos rfl, if_pos (by omega), if_pos h, if_pos rfl]
      simp only [Option.bind_some]
      have : s.extract ((p.size : Int) : Int).toNat s.size = bytesOfL (s.data.toList.drop p.data.toList.length) := by
        apply bytes_ext
        rw [bytesOfL_data, ByteArray.data_extract, Array.toList_extract]
        simp [List.extract_eq_take_drop]
        exact List.take_of_length_le (by simp)
      rw [this]
    | false =>
      simp [bytesOfL_eq]
  · rw [if_neg h]
    have hp : Lib.hasPrefix s.data.toList p.data.toList = false := by
      unfold Lib.hasPrefix
      rw [Bool.eq_false_iff]
      intro e
      have := (List.isPrefixOf_iff_prefix.1 e).length_le
      rw [data_len, data_len] at this
      omega
    unfold Lib.trimPrefix
    rw [hp]
    simp [bytesOfL_eq]

/-! ### a type, read -/
def restOf (l : List UInt8) : List UInt8 := if Lib.hasPrefix l secB = true then Lib.trimPrefix l secB else Lib.trimPrefix l pubB
def lenOf (l : List UInt8) : Int := if restOf l = [] then 0 else atoiV (restOf l)
def typeOfP (l : List UInt8) : S46 × Bool :=
  (⟨Lib.hasPrefix l secB, lenOf l⟩, (Lib.hasPrefix l secB || Lib.hasPrefix l pubB) && (typeT ⟨Lib.hasPrefix l secB, lenOf l⟩ == l))
theorem trim_len (l p : List UInt8) : (Lib.trimPrefix l p).length ≤ l.length := by
  unfold Lib.trimPrefix; split
  · simp
  · exact Nat.le_refl _
theorem atoiV_bounds (l : List UInt8) : -9223372036854775808 ≤ atoiV l ∧ atoiV l ≤ 9223372036854775807 := by
  unfold atoiV
  split
  · rename_i v h; exact Lib.atoiAll_bounds h
  · exact Lib.atoiSat_bounds l
  · omega
theorem lenOf_bounds (l : List UInt8) : -9223372036854775808 ≤ lenOf l ∧ lenOf l ≤ 9223372036854775807 := by
  unfold lenOf
  split
  · omega
  · exact atoiV_bounds _
theorem face_typeOf_j0 (s : ByteArray) (r : List UInt8) (is b : Bool) (hr : r.length ≤ 281474976710656) (k : Nat) (hk : 0 < k) :
    face_typeOf.j0 k s (bytesOfL r) is b 0 = some (b, (if r = [] then 0 else atoiV r), is && (typeT ⟨b, if r = [] then 0 else atoiV r⟩ == s.data.toList)) := by
  obtain ⟨k, rfl⟩ : ∃ m, k = m + 1 := ⟨k - 1, by omega⟩
  simp only [face_typeOf.j0]
  rw [toList_data, bytesOfL_data]
  by_cases h : r = []
  · rw [if_pos h, if_pos h]
    cases is with
    | true =>
      rw [if_pos rfl, face_typeText_f b 0 (by omega) (by omega)]
      simp only [Option.bind_some, toList_data, bytesOfL_data, Bool.true_and]
    | false => rw [if_neg Bool.false_ne_true]; simp
  · rw [if_neg h, if_neg h]
    unfold strconv_Atoi_49.f
    rw [bytesOfL_size, if_pos hr, bytesOfL_data]
    simp only [Option.bind_some]
    cases is with
    | true =>
      rw [if_pos rfl, face_typeText_f b _ (atoiV_bounds r).1 (atoiV_bounds r).2]
      simp only [Option.bind_some, toList_data, bytesOfL_data, Bool.true_and]
    | false => rw [if_neg Bool.false_ne_true]; simp
theorem face_typeOf_f (s : ByteArray) (hs : s.size ≤ 281474976710656) (k : Nat) (hk : 0 < k) : face_typeOf.f k s = some ((typeOfP s.data.toList).1.f0, (typeOfP s.data.toList).1.f1, (typeOfP s.data.toList).2) := by
  unfold face_typeOf.f
  rw [strings_CutPrefix_f, strings_CutPrefix_f]
  simp only [Option.bind_some]
  have e1 : (⟨#[115, 101, 99]⟩ : ByteArray).data.toList = secB := rfl
  have e2 : (⟨#[112, 117, 98]⟩ : ByteArray).data.toList = pubB := rfl
  try rw [e1, e2]
  have h1 := trim_len s.data.toList secB
  have h2 := trim_len s.data.toList pubB
  rw [data_len] at h1 h2
  unfold typeOfP lenOf restOf
  show (if Lib.hasPrefix s.data.toList secB = true then face_typeOf.j0 k s (bytesOfL (Lib.trimPrefix s.data.toList secB)) (Lib.hasPrefix s.data.toList secB) (Lib.hasPrefix s.data.toList secB) 0 else face_typeOf.j0 k s (bytesOfL (Lib.trimPrefix s.data.toList pubB)) (Lib.hasPrefix s.data.toList pubB) (Lib.hasPrefix s.data.toList secB) 0) = _
  cases hb : Lib.hasPrefix s.data.toList secB with
  | true =>
    simp only [if_true]
    rw [face_typeOf_j0 s _ true true (by omega) k hk]
    simp
  | false =>
    simp only [Bool.false_eq_true, if_false]
    rw [face_typeOf_j0 s _ _ false (by omega) k hk]
    simp

/-! ### a line, read -/
def typesOfL : List ByteArray → Option (List S46)
  | [] => some []
  | s :: r => if (typeOfP s.data.toList).2 = true then (typesOfL r).map ((typeOfP s.data.toList).1 :: ·) else none
def splitSp (l : List UInt8) : List ByteArray := Lib.splitB ⟨#[32]⟩ 0 (Lib.countB (bytesOfL l) ⟨#[32]⟩) (bytesOfL l)
def noLine : ByteArray × List S46 × Bool × Bool := (⟨#[]⟩, [], false, false)
def lineP (l : List UInt8) : ByteArray × List S46 × Bool × Bool :=
  let c := Lib.cut l [32, 58, 32]
  if c.2.2 = true ∧ (c.2.1 = pubB ∨ c.2.1 = secB) then
    match typesOfL ((splitSp c.1).drop 1) with
    | none => noLine
    | some ts => (rdOf ByteArray.empty (splitSp c.1) 0, ts, c.2.1 == secB, rightB ⟨rdOf ByteArray.empty (splitSp c.1) 0, ts, c.2.1 == secB⟩)
  else noLine
theorem splitB_size (sep : ByteArray) (save k : Nat) : ∀ (s : ByteArray), ∀ x ∈ Lib.splitB sep save k s, x.size ≤ s.size := by
  induction k with
  | zero => intro s x hx; rw [Lib.splitB_zero] at hx; rw [List.mem_singleton.1 hx]; exact Nat.le_refl _
  | succ k ih =>
    intro s x hx
    unfold Lib.splitB at hx
    split at hx
    · rw [List.mem_singleton.1 hx]; exact Nat.le_refl _
    · rcases List.mem_cons.1 hx with rfl | hx
      · simp; omega
      · have := ih _ x hx
        simp at this
        omega
theorem splitSp_len (l : List UInt8) : 1 ≤ (splitSp l).length ∧ (splitSp l).length ≤ l.length + 1 := by
  have h1 : (1 : Nat) ≤ (⟨#[32]⟩ : ByteArray).size := Nat.le_refl 1
  have h := Lib.splitB_all ⟨#[32]⟩ h1 0 _ (bytesOfL l) rfl
  have h2 := Lib.countB_le ⟨#[32]⟩ h1 (bytesOfL l).size (bytesOfL l) (Nat.le_refl _)
  rw [bytesOfL_size] at h2
  unfold splitSp
  omega
theorem rdOf_zero (l : List ByteArray) (n : Nat) (h : ∀ x ∈ l, x.size ≤ n) : (rdOf ByteArray.empty l 0).size ≤ n := by
  cases l with
  | nil => exact Nat.zero_le _
  | cons a r => exact h a (List.mem_cons_self ..)
theorem rdOf_at (l : List ByteArray) (i : Nat) (h : i < l.length) : rdOf ByteArray.empty l (i : Int) = l[i] := by unfold rdOf; simp [h]
theorem face_line_l0 (P : List ByteArray) (hP : P.length ≤ 1000000) (hs : ∀ x ∈ P, x.size ≤ 1000000) (nm : ByteArray) (hn : nm.size ≤ 1000000) (b : Bool) (d : Nat) : ∀ (k i : Nat) (acc : List S46), i ≤ P.length → acc.length = i → P.length - i = d → d + 1000020 < k →
    face_line.l0 k P (P.length : Int) (i : Int) nm acc b = some (match typesOfL (P.drop i) with | none => noLine | some ts => (nm, acc ++ ts, b, rightB ⟨nm, acc ++ ts, b⟩)) := by
  induction d with
  | zero =>
    intro k i acc h0 ha h1 hd
    obtain ⟨k, rfl⟩ : ∃ m, k = m + 1 := ⟨k - 1, by omega⟩
    rw [List.drop_eq_nil_of_le (by omega)]
    simp only [face_line.l0]
    rw [if_neg (by omega), face_right_f nm acc b (by omega) k (by omega)]
    simp [typesOfL]
  | succ d ih =>
    intro k i acc h0 ha h1 hd
    obtain ⟨k, rfl⟩ : ∃ m, k = m + 1 := ⟨k - 1, by omega⟩
    have hlt : i < P.length := by omega
    have hw : wrap64 ((i : Int) + 1) = ((i + 1 : Nat) : Int) := by rw [wrap_next (n := P.length) (by omega) (by omega) (by omega)]; omega
    rw [List.drop_eq_getElem_cons hlt]
    simp only [face_line.l0]
    rw [if_pos (by omega), if_pos (by omega), if_pos (by omega), rdOf_at P i hlt, face_typeOf_f _ (by have := hs P[i] (List.getElem_mem hlt); omega) k (by omega)]
    simp only [Option.bind_some, typesOfL]
    by_cases hb : (typeOfP P[i].data.toList).2 = true
    · rw [if_pos hb, if_pos hb, if_pos (by omega), hw, ih k (i + 1) _ (by omega) (by simp [ha]) (by omega) (by omega)]
      cases typesOfL (P.drop (i + 1)) <;> simp
    · rw [if_neg hb, if_neg hb]; rfl
theorem face_line_j0' (a b : ByteArray) (k : Nat) (hk : 0 < k) : face_line.j0 k a b true = some noLine := by
  obtain ⟨k, rfl⟩ : ∃ m, k = m + 1 := ⟨k - 1, by omega⟩
  simp only [face_line.j0, if_true]; rfl
theorem face_line_j0 (a : List UInt8) (b : ByteArray) (ha : a.length ≤ 900000) (k : Nat) (hk : a.length + 1000030 < k) : face_line.j0 k (bytesOfL a) b false = some (match typesOfL ((splitSp a).drop 1) with
    | none => noLine
    | some ts => (rdOf ByteArray.empty (splitSp a) 0, ts, b.data.toList == secB, rightB ⟨rdOf ByteArray.empty (splitSp a) 0, ts, b.data.toList == secB⟩)) := by
  obtain ⟨k, rfl⟩ : ∃ m, k = m + 1 := ⟨k - 1, by omega⟩
  simp only [face_line.j0, Bool.false_eq_true, if_false]
  have hl := splitSp_len a
  have hm : ∀ x ∈ splitSp a, x.size ≤ 1000000 := fun x hx => by
    have := splitB_size _ _ _ _ x hx
    rw [bytesOfL_size] at this
    omega
  have hS : strings_Split.f (bytesOfL a) (⟨#[32]⟩ : ByteArray) = some (splitSp a) := by
    unfold strings_Split.f
    rw [if_pos ⟨by rw [bytesOfL_size]; omega, Nat.le_refl 1⟩]; rfl
  rw [hS]
  simp only [Option.bind_some]
  rw [if_pos (by omega), if_pos (by omega)]
  have hd : ((splitSp a).drop 1).length ≤ 1000000 := by rw [List.length_drop]; omega
  have h := face_line_l0 ((splitSp a).drop 1) hd (fun x hx => hm x (List.mem_of_mem_drop hx)) (rdOf ByteArray.empty (splitSp a) 0) (rdOf_zero _ _ hm) (b.data.toList == secB) _ k 0 [] (Nat.zero_le _) rfl rfl (by rw [List.length_drop]; omega)
  rw [List.drop_zero] at h
  rw [toList_data]
  exact h
theorem face_line_f (s : ByteArray) (hs : s.size ≤ 900000) (k : Nat) (hk : s.size + 1000030 < k) : face_line.f k s = some (lineP s.data.toList) := by
  unfold face_line.f strings_Cut.f
  rw [if_pos (by omega)]
  simp only [Option.bind_some]
  have e1 : (⟨#[32, 58, 32]⟩ : ByteArray).data.toList = [32, 58, 32] := rfl
  try rw [e1]
  have hl := cut_le s.data.toList [32, 58, 32]
  rw [data_len] at hl
  unfold lineP
  obtain ⟨c, hc⟩ : ∃ c, c = Lib.cut s.data.toList [32, 58, 32] := ⟨_, rfl⟩
  rw [← hc] at hl ⊢
  simp only [toList_data, bytesOfL_data]
  by_cases h1 : c.2.2 = true
  · rw [if_pos h1]
    by_cases h2 : c.2.1 = pubB
    · have h2' : c.2.1 = [112, 117, 98] := h2
      rw [if_pos h2', if_pos ⟨h1, .inl h2⟩, face_line_j0 _ _ (by omega) k (by omega), bytesOfL_data]
    · have h2' : ¬ c.2.1 = [112, 117, 98] := h2
      rw [if_neg h2']
      by_cases h3 : c.2.1 = secB
      · have h3' : (c.2.1 != [115, 101, 99]) = false := by rw [h3]; rfl
        rw [h3', if_pos ⟨h1, .inr h3⟩, face_line_j0 _ _ (by omega) k (by omega), bytesOfL_data]
      · have h3' : (c.2.1 != [115, 101, 99]) = true := bne_iff_ne.2 h3
        rw [h3', if_neg (by rintro ⟨_, h | h⟩ <;> contradiction), face_line_j0' _ _ k (by omega)]
  · rw [if_neg h1, if_neg (fun h => h1 h.1), face_line_j0' _ _ k (by omega)]
theorem lineP_size (l : List UInt8) : (lineP l).1.size ≤ l.length := by
  have hc := cut_le l [32, 58, 32]
  unfold lineP
  simp only
  split
  · split
    · exact Nat.zero_le _
    · refine rdOf_zero _ _ fun x hx => ?_
      have := splitB_size _ _ _ _ x hx
      rw [bytesOfL_size] at this
      omega
  · exact Nat.zero_le _

/-! ### a text, read -/
def sigOf (x : ByteArray × List S46 × Bool × Bool) : S34 := ⟨x.1, x.2.1, x.2.2.1⟩
def parseF : Nat → List S34 → List UInt8 → List S34
  | 0, out, _ => out
  | n + 1, out, l => if l = [] then out else
    let c := Lib.cut l [10]
    if c.2.2 = true ∧ (lineP c.1).2.2.2 = true then parseF n (out ++ [sigOf (lineP c.1)]) c.2.1 else []
def checkP (s : ByteArray) (out : List S34) : List S34 × Int := if (textP out).2 = 0 ∧ (textP out).1 = s then (out, 0) else ([], 6)
def readP (s : ByteArray) : List S34 × Int := checkP s (parseF (s.size + 1) [] s.data.toList)
theorem check_f (s : ByteArray) (out : List S34) (ho : TextOk out) : ((face_Text.f out).bind fun bt => (if bt.2 = 0 then (if bt.1.toList = s.toList then (some (out, (0 : Int))) else (some (([] : List (S34)), 6))) else (some (([] : List (S34)), 6)))) = some (checkP s out) := by
  unfold face_Text.f
  rw [if_pos ho]
  simp only [Option.bind_some]
  unfold checkP
  by_cases h1 : (textP out).2 = 0
  · rw [if_pos h1]
    by_cases h2 : (textP out).1 = s
    · rw [if_pos (by rw [h2]), if_pos ⟨h1, h2⟩]
    · rw [if_neg (by rw [toList_data, toList_data]; exact fun h => h2 (bytes_ext h)), if_neg (fun h => h2 h.2)]
  · rw [if_neg h1, if_neg (fun h => h1 h.1)]
theorem textP_nil : (textP ([] : List S34)) = (bytesOfL [], 0) := by rfl
theorem check_f_nil (s : ByteArray) : ((face_Text.f ([] : List S34)).bind fun bt => (if bt.2 = 0 then (if bt.1.toList = s.toList then (some (([] : List (S34)), (0 : Int))) else (some (([] : List (S34)), 6))) else (some (([] : List (S34)), 6)))) = some (checkP s []) := check_f s [] ⟨Nat.zero_le _, fun x hx => by cases hx⟩
theorem cut_shorter (l : List UInt8) (h : (Lib.cut l [10]).2.2 = true) : (Lib.cut l [10]).2.1.length < l.length := by
  unfold Lib.cut at h ⊢
  split at h
  · rename_i hi
    rw [if_pos hi]
    have := Lib.index_room l [10] hi
    simp at this ⊢
    omega
  · cases h
theorem face_Read_l0 (s : ByteArray) (hs : s.size ≤ 50000) (d : Nat) : ∀ (k : Nat) (out : List S34) (l : List UInt8), l.length ≤ d → out.length + l.length ≤ s.size → (∀ x ∈ out, x.f0.size ≤ s.size) → d + 1010040 < k → ∀ n, d < n →
    face_Read.l0 k s out (bytesOfL l) = some (checkP s (parseF n out l)) := by
  induction d with
  | zero =>
    intro k out l h0 h1 h2 hk n hn
    obtain ⟨k, rfl⟩ : ∃ m, k = m + 1 := ⟨k - 1, by omega⟩
    obtain ⟨n, rfl⟩ : ∃ m, n = m + 1 := ⟨n - 1, by omega⟩
    obtain rfl : l = [] := List.length_eq_zero_iff.1 (by omega)
    simp only [face_Read.l0, parseF, toList_data, bytesOfL_data, if_true]
    have := check_f s out ⟨by omega, fun x hx => by have := h2 x hx; omega⟩
    simp only [toList_data] at this
    exact this
  | succ d ih =>
    intro k out l h0 h1 h2 hk n hn
    obtain ⟨k, rfl⟩ : ∃ m, k = m + 1 := ⟨k - 1, by omega⟩
    obtain ⟨n, rfl⟩ : ∃ m, n = m + 1 := ⟨n - 1, by omega⟩
    have hnil := check_f_nil s
    by_cases hl : l = []
    · subst hl
      simp only [face_Read.l0, parseF, toList_data, bytesOfL_data, if_true]
      have := check_f s out ⟨by omega, fun x hx => by have := h2 x hx; omega⟩
      simp only [toList_data] at this
      exact this
    · have hc := cut_le l [10]
      have hsh := cut_shorter l
      simp only [face_Read.l0, parseF]
      rw [toList_data, bytesOfL_data, if_neg hl, if_neg hl]
      have hC : strings_Cut.f (bytesOfL l) (⟨#[10]⟩ : ByteArray) = some (bytesOfL (Lib.cut l [10]).1, bytesOfL (Lib.cut l [10]).2.1, (Lib.cut l [10]).2.2) := by
        unfold strings_Cut.f
        rw [if_pos (by rw [bytesOfL_size]; omega), bytesOfL_data]
      rw [hC]
      simp only [Option.bind_some]
      rw [face_line_f _ (by rw [bytesOfL_size]; omega) k (by rw [bytesOfL_size]; omega), bytesOfL_data]
      simp only [Option.bind_some]
      obtain ⟨c, hcc⟩ : ∃ c, c = Lib.cut l [10] := ⟨_, rfl⟩
      rw [← hcc] at hc hsh ⊢
      by_cases g1 : c.2.2 = true
      · rw [if_pos g1]
        by_cases g2 : (lineP c.1).2.2.2 = true
        · rw [if_pos g2, if_pos (show out.length < 2932031007402 by omega), if_pos (show c.2.2 = true ∧ (lineP c.1).2.2.2 = true from ⟨g1, g2⟩)]
          have hz := lineP_size c.1
          have hsh' := hsh g1
          exact ih k _ c.2.1 (by omega) (by simp; omega) (fun x hx => by
            rcases List.mem_append.1 hx with hx | hx
            · exact h2 x hx
            · rw [List.mem_singleton.1 hx]; show (lineP c.1).1.size ≤ _; omega) (by omega) n (by omega)
        · rw [if_neg g2, if_neg (fun h => g2 h.2)]
          exact hnil
      · rw [if_neg g1, if_neg (fun h => g1 h.1)]
        exact hnil
theorem face_Read_f (s : ByteArray) (hs : s.size ≤ 50000) (k : Nat) (hk : 1100000 < k) : face_Read.f k s = some (readP s) := by
  unfold face_Read.f readP
  have := face_Read_l0 s hs s.size k [] s.data.toList (by rw [data_len]; exact Nat.le_refl _) (by rw [data_len]; simp) (fun x hx => by cases hx) (by omega) (s.size + 1) (by omega)
  rw [bytesOfL_eq] at this
  exact this
end Go.Proofs.YtappdmioncdefaaDoor.Q
