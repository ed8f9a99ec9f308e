/- Names, signatures' right form and types' texts, as plain functions; that the printed functions come to them. -/
import Derived.Test.YtappdmioncdefaaDoorQFaceRight
import Derived.Test.YtappdmioncdefaaDoorQFaceTypeText
import Derived.Lib.ItoaLen
namespace Go.Proofs.YtappdmioncdefaaDoor.Q
open Go.RowKit Go.Proofs.YtappdmioncdefaaDoorW.PrintWords Go.Proofs.YtappdmioncdefaaDoorW.PrintLast Go.Proofs.YtappdmioncdefaaDoorW.PrintMore

/-- may a byte stand in a name, first or further on? -/
def okc (first : Bool) (c : UInt8) : Bool := decide (97 ≤ c.toNat ∧ c.toNat ≤ 122) || (!first && (decide (48 ≤ c.toNat ∧ c.toNat ≤ 57) || decide (c.toNat = 95)))
def chk : Bool → List UInt8 → Bool
  | _, [] => true
  | b, c :: r => okc b c && chk false r
def nameL (l : List UInt8) : Bool := chk true l && (decide (l ≠ []) && decide (l.length ≤ 12))

theorem toList_data (s : ByteArray) : s.toList = s.data.toList := ByteArray.toList_eq s
theorem wrap_next {i n : Int} (h0 : 0 ≤ i) (h : i < n) (hn : n ≤ 9223372036854775807) : wrap64 (i + 1) = i + 1 := by unfold wrap64; omega
theorem bt_nat (s : ByteArray) (i : Nat) (h : i < s.size) : bt s (i : Int) = ((s.data.toList[i]'(by simpa using h)).toNat : Int) := by
  unfold bt
  rw [dif_pos (by simpa using h)]
  rfl
theorem drop_at (s : ByteArray) (i : Nat) (h : i < s.size) : s.data.toList.drop i = (s.data.toList[i]'(by simpa using h)) :: s.data.toList.drop (i + 1) := List.drop_eq_getElem_cons (by simpa using h)

theorem tree_Name_l0 (s : ByteArray) (hs : s.size ≤ 9223372036854775807) (d : Nat) : ∀ (k i : Nat), i ≤ s.size → s.size - i = d → d < k →
    tree_Name.l0 k s (s.size : Int) (i : Int) = some (chk (decide (i = 0)) (s.data.toList.drop i) && (decide (s.data.toList ≠ []) && decide (s.size ≤ 12))) := by
  induction d with
  | zero =>
    intro k i h0 h1 hd
    obtain ⟨k, rfl⟩ : ∃ m, k = m + 1 := ⟨k - 1, by omega⟩
    have hi : s.data.toList.drop i = [] := List.drop_eq_nil_of_le (by simp; omega)
    rw [hi]
    simp only [tree_Name.l0]
    rw [if_neg (by omega)]
    have ht : s.toList = s.data.toList := toList_data s
    rw [ht]
    by_cases he : s.data.toList = []
    · rw [if_pos he]; simp [chk, he]
    · rw [if_neg he]
      simp only [chk, Bool.true_and, ne_eq, he, not_false_eq_true, decide_true]
      congr 1
      rw [decide_eq_decide]
      omega
  | succ d ih =>
    intro k i h0 h1 hd
    obtain ⟨k, rfl⟩ : ∃ m, k = m + 1 := ⟨k - 1, by omega⟩
    have hlt : i < s.size := by omega
    have hb := bt_nat s i hlt
    obtain ⟨c, hc⟩ : ∃ c, c = s.data.toList[i]'(by simpa using hlt) := ⟨_, rfl⟩
    rw [← hc] at hb
    have hdr := drop_at s i hlt
    rw [← hc] at hdr
    have hw : wrap64 ((i : Int) + 1) = ((i + 1 : Nat) : Int) := by rw [wrap_next (n := s.size) (by omega) (by omega) (by omega)]; omega
    have hn := ih k (i + 1) (by omega) (by omega) (by omega)
    have hf : decide (i + 1 = 0) = false := by simp
    rw [hf] at hn
    rw [hdr]
    simp only [tree_Name.l0]
    rw [if_pos (by omega), if_pos (by omega), if_pos (by omega), hb, hw, hn]
    obtain ⟨T, hT⟩ : ∃ T, T = (chk false (s.data.toList.drop (i + 1)) && (decide (s.data.toList ≠ []) && decide (s.size ≤ 12))) := ⟨_, rfl⟩
    have hR : (chk (decide (i = 0)) (c :: s.data.toList.drop (i + 1)) && (decide (s.data.toList ≠ []) && decide (s.size ≤ 12))) = (okc (decide (i = 0)) c && T) := by
      rw [hT]; show ((_ && _) && _) = _; rw [Bool.and_assoc]
    rw [hR, ← hT]
    obtain ⟨m, hm⟩ : ∃ m, m = c.toNat := ⟨_, rfl⟩
    have hok : okc (decide (i = 0)) c = (decide (97 ≤ m ∧ m ≤ 122) || (decide (0 < i) && (decide (48 ≤ m ∧ m ≤ 57) || decide (m = 95)))) := by
      unfold okc; rw [← hm]
      congr 2
      by_cases h : i = 0 <;> simp [h]; omega
    rw [hok, ← hm]
    clear hok hR hT hn ih hdr hc hb hm hf hw
    by_cases a1 : (m : Int) ≥ 97
    · rw [if_pos a1]
      by_cases a2 : (m : Int) ≤ 122
      · rw [if_pos a2]
        rw [decide_eq_true (show 97 ≤ m ∧ m ≤ 122 by omega)]
        simp
      · rw [if_neg a2, decide_eq_false (show ¬ (97 ≤ m ∧ m ≤ 122) by omega)]
        by_cases a3 : (i : Int) > 0
        · rw [if_pos a3, decide_eq_true (show 0 < i by omega), decide_eq_false (show ¬ (48 ≤ m ∧ m ≤ 57) by omega), decide_eq_false (show ¬ (m = 95) by omega), if_pos (by omega), if_neg (by omega), if_neg (by omega)]
          simp
        · rw [if_neg a3, decide_eq_false (show ¬ 0 < i by omega)]; simp
    · rw [if_neg a1, decide_eq_false (show ¬ (97 ≤ m ∧ m ≤ 122) by omega)]
      by_cases a3 : (i : Int) > 0
      · rw [if_pos a3, decide_eq_true (show 0 < i by omega)]
        by_cases a4 : (m : Int) ≥ 48
        · rw [if_pos a4]
          by_cases a5 : (m : Int) ≤ 57
          · rw [if_pos a5, decide_eq_true (show 48 ≤ m ∧ m ≤ 57 by omega)]; simp
          · rw [if_neg a5, decide_eq_false (show ¬ (48 ≤ m ∧ m ≤ 57) by omega)]
            by_cases a6 : (m : Int) = 95
            · rw [if_pos a6, decide_eq_true (show m = 95 by omega)]; simp
            · rw [if_neg a6, decide_eq_false (show ¬ (m = 95) by omega)]; simp
        · rw [if_neg a4, decide_eq_false (show ¬ (48 ≤ m ∧ m ≤ 57) by omega), decide_eq_false (show ¬ (m = 95) by omega), if_neg (by omega)]; simp
      · rw [if_neg a3, decide_eq_false (show ¬ 0 < i by omega)]; simp
theorem tree_Name_f (s : ByteArray) (hs : s.size ≤ 9223372036854775807) (k : Nat) (hk : s.size < k) : tree_Name.f k s = some (nameL s.data.toList) := by
  have h := tree_Name_l0 s hs s.size k 0 (by omega) (by omega) hk
  unfold tree_Name.f
  have : s.data.toList.length = s.size := by simp
  unfold nameL
  rw [this]
  exact h

/-- may a signature be? -/
def typesB (l : List S46) : Bool := l.all fun t => decide (0 ≤ t.f1 ∧ t.f1 ≤ 16)
def rightB (x : S34) : Bool :=
  let c := Lib.cut x.f0.data.toList [46]
  c.2.2 && nameL c.1 && nameL c.2.1 && decide (x.f1.length ≤ 6) && typesB x.f1
theorem face_right_l0 (l : List S46) (hl : l.length ≤ 9223372036854775807) (d : Nat) : ∀ (k i : Nat), i ≤ l.length → l.length - i = d → d < k →
    face_right.l0 k l (l.length : Int) (i : Int) = some (typesB (l.drop i)) := by
  induction d with
  | zero =>
    intro k i h0 h1 hd
    obtain ⟨k, rfl⟩ : ∃ m, k = m + 1 := ⟨k - 1, by omega⟩
    rw [List.drop_eq_nil_of_le (by omega)]
    simp only [face_right.l0]
    rw [if_neg (by omega)]; rfl
  | succ d ih =>
    intro k i h0 h1 hd
    obtain ⟨k, rfl⟩ : ∃ m, k = m + 1 := ⟨k - 1, by omega⟩
    have hlt : i < l.length := by omega
    have hn := ih k (i + 1) (by omega) (by omega) (by omega)
    have hw : wrap64 ((i : Int) + 1) = ((i + 1 : Nat) : Int) := by rw [wrap_next (n := l.length) (by omega) (by omega) (by omega)]; omega
    have hr : rd_T46 l (i : Int) = l[i] := by unfold rd_T46; simp [hlt]
    rw [List.drop_eq_getElem_cons hlt]
    simp only [face_right.l0]
    rw [if_pos (by omega), if_pos (by omega), if_pos (by omega), hr, hw, hn]
    show _ = some (decide (0 ≤ l[i].f1 ∧ l[i].f1 ≤ 16) && typesB (l.drop (i + 1)))
    by_cases a1 : l[i].f1 < 0
    · rw [if_pos a1, decide_eq_false (by omega)]; rfl
    · rw [if_neg a1]
      by_cases a2 : l[i].f1 > 16
      · rw [if_pos a2, decide_eq_false (by omega)]; rfl
      · rw [if_neg a2, decide_eq_true (by omega)]; simp
theorem face_right_j0 (b : Bool) (n : ByteArray) (l : List S46) (s : Bool) (hl : b = decide ((l.length : Int) > 6)) (k : Nat) (hk : 9 < k) : face_right.j0 k b n l s = some (decide (l.length ≤ 6) && typesB l) := by
  obtain ⟨k, rfl⟩ : ∃ m, k = m + 1 := ⟨k - 1, by omega⟩
  simp only [face_right.j0]
  subst hl
  by_cases h : (l.length : Int) > 6
  · rw [decide_eq_true h, if_pos rfl, decide_eq_false (by omega)]; rfl
  · rw [decide_eq_false h, if_neg (by decide), decide_eq_true (by omega)]
    have := face_right_l0 l (by omega) l.length k 0 (by omega) (by omega) (by omega)
    rw [Int.natCast_zero] at this
    rw [this]; simp
theorem face_right_j0' (n : ByteArray) (l : List S46) (s : Bool) (k : Nat) (hk : 0 < k) : face_right.j0 k true n l s = some false := by
  obtain ⟨k, rfl⟩ : ∃ m, k = m + 1 := ⟨k - 1, by omega⟩
  simp only [face_right.j0, if_true]
theorem bytes_ext {a b : ByteArray} (h : a.data.toList = b.data.toList) : a = b := by
  cases a; cases b; simp at h; simp [h]
theorem bytesOfL_data (l : List UInt8) : (bytesOfL l).data.toList = l := by simp [bytesOfL]
theorem bytesOfL_size (l : List UInt8) : (bytesOfL l).size = l.length := by simp [bytesOfL, ByteArray.size]
theorem cut_le (s p : List UInt8) : (Lib.cut s p).1.length ≤ s.length ∧ (Lib.cut s p).2.1.length ≤ s.length := by
  unfold Lib.cut
  split
  · exact ⟨by rw [List.length_take]; omega, by simp⟩
  · simp
theorem face_right_f (n : ByteArray) (l : List S46) (s : Bool) (hn : n.size < 4294967281) (k : Nat) (hk : n.size + 10 < k) : face_right.f k n l s = some (rightB ⟨n, l, s⟩) := by
  unfold face_right.f strings_Cut.f
  rw [if_pos hn]
  have hd : (⟨#[46]⟩ : ByteArray).data.toList = [46] := rfl
  rw [hd]
  obtain ⟨c, hc⟩ : ∃ c, c = Lib.cut n.data.toList [46] := ⟨_, rfl⟩
  have hl := cut_le n.data.toList [46]
  rw [← hc] at hl
  have hnl : n.data.toList.length = n.size := by simp
  simp only [Option.bind_some, ← hc]
  have hr : rightB ⟨n, l, s⟩ = (c.2.2 && nameL c.1 && nameL c.2.1 && decide (l.length ≤ 6) && typesB l) := by unfold rightB; rw [hc]
  rw [hr, tree_Name_f _ (by rw [bytesOfL_size]; omega) k (by rw [bytesOfL_size]; omega), tree_Name_f _ (by rw [bytesOfL_size]; omega) k (by rw [bytesOfL_size]; omega), bytesOfL_data, bytesOfL_data]
  simp only [Option.bind_some]
  rw [face_right_j0 _ n l s rfl k (by omega), face_right_j0' n l s k (by omega)]
  cases c.2.2 <;> cases nameL c.1 <;> cases nameL c.2.1 <;> simp

/-! ### a type's text -/
def secB : List UInt8 := [115, 101, 99]
def pubB : List UInt8 := [112, 117, 98]
def typeT (t : S46) : List UInt8 := (if t.f0 = true then secB else pubB) ++ if t.f1 > 0 then Lib.itoa t.f1 else []
theorem face_typeText_f (b : Bool) (n : Int) (h0 : -9223372036854775808 ≤ n) (h1 : n ≤ 9223372036854775807) : face_typeText.f b n = some (bytesOfL (typeT ⟨b, n⟩)) := by
  have hz := Lib.itoa_length_le n h0 h1
  have ha : ∀ (p l : List UInt8), (⟨p.toArray⟩ : ByteArray) ++ bytesOfL l = bytesOfL (p ++ l) := by
    intro p l
    apply bytes_ext
    rw [bytesOfL_data, ByteArray.data_append]
    simp [bytesOfL]
  have hI : strconv_Itoa_36.f n = some (bytesOfL (Lib.itoa n)) := by unfold strconv_Itoa_36.f; rw [if_pos ⟨h0, h1⟩]
  unfold face_typeText.f typeT
  rw [hI]
  simp only [Option.bind_some, bytesOfL_size]
  rw [if_pos (show 3 + (Lib.itoa n).length ≤ 9223372036854775807 by omega)]
  by_cases hn : n > 0
  · simp only [if_pos hn]
    cases b
    · rw [if_neg Bool.false_ne_true, if_pos (show 3 + (Lib.itoa n).length ≤ 9223372036854775807 by omega)]; exact congrArg some (ha pubB _)
    · exact congrArg some (ha secB _)
  · simp only [if_neg hn]
    cases b <;> rfl
end Go.Proofs.YtappdmioncdefaaDoor.Q
