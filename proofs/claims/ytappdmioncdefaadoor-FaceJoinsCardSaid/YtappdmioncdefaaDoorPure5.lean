/- What is told as a text is read as it was: plain functions. -/
import Derived.Test.YtappdmioncdefaaDoorPure2
import Derived.Test.YtappdmioncdefaaDoorPure4
namespace Go.Proofs.YtappdmioncdefaaDoor.Q
open Go.RowKit Go.Proofs.YtappdmioncdefaaDoorW.PrintWords Go.Proofs.YtappdmioncdefaaDoorW.PrintLast Go.Proofs.YtappdmioncdefaaDoorW.PrintMore

/-! ### types -/
theorem typeOf_all : ∀ (b : Bool) (n : Fin 17), ((typeOfP (typeT ⟨b, (n.val : Int)⟩)).1.f0, (typeOfP (typeT ⟨b, (n.val : Int)⟩)).1.f1, (typeOfP (typeT ⟨b, (n.val : Int)⟩)).2) = (b, (n.val : Int), true) := by decide +kernel
theorem typeOf_back (t : S46) (h0 : 0 ≤ t.f1) (h1 : t.f1 ≤ 16) : typeOfP (typeT t) = (t, true) := by
  obtain ⟨b, i⟩ := t
  obtain ⟨m, rfl⟩ : ∃ m : Nat, i = m := ⟨i.toNat, (Int.toNat_of_nonneg h0).symm⟩
  have h := typeOf_all b ⟨m, by simp only at h1; omega⟩
  simp only [Prod.mk.injEq] at h
  obtain ⟨h2, h3, h4⟩ := h
  cases hx : typeOfP (typeT ⟨b, (m : Int)⟩) with
  | mk t' c =>
    rw [hx] at h2 h3 h4
    cases t'
    simp only at h2 h3 h4
    rw [h2, h3, h4]
theorem typeT_all : ∀ (b : Bool) (n : Fin 17), (typeT ⟨b, (n.val : Int)⟩).length ≤ 5 ∧ (typeT ⟨b, (n.val : Int)⟩).all (fun c => c != 32 && c != 58 && c != 10) = true := by decide +kernel
theorem typeT_bytes (t : S46) (h0 : 0 ≤ t.f1) (h1 : t.f1 ≤ 16) : (typeT t).length ≤ 5 ∧ ∀ c ∈ typeT t, c ≠ 32 ∧ c ≠ 58 ∧ c ≠ 10 := by
  obtain ⟨b, i⟩ := t
  obtain ⟨m, rfl⟩ : ∃ m : Nat, i = m := ⟨i.toNat, (Int.toNat_of_nonneg h0).symm⟩
  have h := typeT_all b ⟨m, by simp only at h1; omega⟩
  refine ⟨h.1, fun c hc => ?_⟩
  have := List.all_eq_true.1 h.2 c hc
  simp at this
  exact ⟨this.1.1, this.1.2, this.2⟩
theorem typesB_all {l : List S46} (h : typesB l = true) : ∀ t ∈ l, 0 ≤ t.f1 ∧ t.f1 ≤ 16 := by
  intro t ht
  unfold typesB at h
  simpa using List.all_eq_true.1 h t ht

/-! ### names -/
theorem chk_okc (l : List UInt8) : ∀ b, chk b l = true → ∀ c ∈ l, okc false c = true := by
  induction l with
  | nil => intro b _ c hc; cases hc
  | cons x l ih =>
    intro b h c hc
    have h' : (okc b x && chk false l) = true := h
    rw [Bool.and_eq_true] at h'
    rcases List.mem_cons.1 hc with rfl | hc
    · cases b with
      | true => exact okc_first _ h'.1
      | false => exact h'.1
    · exact ih false h'.2 c hc
theorem okc_bytes {c : UInt8} (h : okc false c = true) : c ≠ 32 ∧ c ≠ 58 ∧ c ≠ 10 := by
  refine ⟨?_, ?_, ?_⟩ <;> (rintro rfl; revert h; decide)
theorem nameL_bytes {l : List UInt8} (h : nameL l = true) : l.length ≤ 12 ∧ ∀ c ∈ l, c ≠ 32 ∧ c ≠ 58 ∧ c ≠ 10 := by
  unfold nameL at h
  simp only [Bool.and_eq_true, decide_eq_true_eq] at h
  exact ⟨h.2.2, fun c hc => okc_bytes (chk_okc l _ h.1 c hc)⟩
theorem cut1_whole (c : UInt8) (l : List UInt8) (h : (cut1 c l).2.2 = true) : l = (cut1 c l).1 ++ c :: (cut1 c l).2.1 := by
  induction l with
  | nil => cases h
  | cons b l ih =>
    unfold cut1 at h ⊢
    by_cases e : b = c
    · rw [if_pos e]; simp [e]
    · rw [if_neg e] at h ⊢
      simp only [List.cons_append]
      rw [← ih h]
theorem rightB_name {x : S34} (h : rightB x = true) : x.f0.size ≤ 25 ∧ ∀ c ∈ x.f0.data.toList, c ≠ 32 ∧ c ≠ 58 ∧ c ≠ 10 := by
  unfold rightB at h
  simp only [cut_one, Bool.and_eq_true] at h
  obtain ⟨⟨⟨⟨h1, h2⟩, h3⟩, _⟩, _⟩ := h
  have hw := cut1_whole 46 _ h1
  obtain ⟨n1, b1⟩ := nameL_bytes h2
  obtain ⟨n2, b2⟩ := nameL_bytes h3
  have hl : x.f0.data.toList.length = x.f0.size := by simp
  refine ⟨?_, fun c hc => ?_⟩
  · rw [← hl, hw, List.length_append, List.length_cons]; omega
  · rw [hw] at hc
    rcases List.mem_append.1 hc with hc | hc
    · exact b1 c hc
    · rcases List.mem_cons.1 hc with rfl | hc
      · decide
      · exact b2 c hc

/-! ### a line's parts -/
theorem params_bytes {l : List S46} (h : typesB l = true) : (paramsL l).length ≤ 6 * l.length ∧ ∀ c ∈ paramsL l, c ≠ 58 ∧ c ≠ 10 := by
  induction l with
  | nil => exact ⟨Nat.le_refl _, fun c hc => by cases hc⟩
  | cons t l ih =>
    have ht := typesB_all h t (List.mem_cons_self ..)
    have hb := typeT_bytes t ht.1 ht.2
    have hr : typesB l = true := by
      unfold typesB at h ⊢
      rw [List.all_cons, Bool.and_eq_true] at h
      exact h.2
    obtain ⟨i1, i2⟩ := ih hr
    have e : paramsL (t :: l) = 32 :: (typeT t ++ paramsL l) := rfl
    rw [e]
    refine ⟨by simp only [List.length_cons, List.length_append]; omega, fun c hc => ?_⟩
    rcases List.mem_cons.1 hc with rfl | hc
    · decide
    · rcases List.mem_append.1 hc with hc | hc
      · exact (hb.2 c hc).2
      · exact i2 c hc
theorem labT_bytes (b : Bool) : (typeT ⟨b, 0⟩).length = 3 ∧ ∀ c ∈ typeT ⟨b, 0⟩, c ≠ 32 ∧ c ≠ 58 ∧ c ≠ 10 := ⟨labelT_len b, (typeT_bytes ⟨b, 0⟩ (Int.le_refl 0) (show (0 : Int) ≤ 16 by decide)).2⟩
def headL (x : S34) : List UInt8 := x.f0.data.toList ++ paramsL x.f1
def bodyL (x : S34) : List UInt8 := headL x ++ [32, 58, 32] ++ typeT ⟨x.f2, 0⟩
theorem lineL_body (x : S34) : lineL x = bodyL x ++ [10] := rfl
theorem lineL_small {x : S34} (h : rightB x = true) : (lineL x).length ≤ 70 := by
  obtain ⟨h1, h2⟩ := rightB_parts h
  obtain ⟨h3, _⟩ := rightB_name h
  obtain ⟨h4, _⟩ := params_bytes h2
  have h5 := (labT_bytes x.f2).1
  have hl : x.f0.data.toList.length = x.f0.size := by simp
  unfold lineL
  simp only [List.length_append, List.length_cons, List.length_nil]
  omega
theorem textL_small {l : List S34} (h : l.all rightB = true) : (textL l).length ≤ 70 * l.length := by
  induction l with
  | nil => exact Nat.le_refl _
  | cons x l ih =>
    rw [List.all_cons, Bool.and_eq_true] at h
    have := lineL_small h.1
    have := ih h.2
    show (lineL x ++ textL l).length ≤ _
    rw [List.length_append, List.length_cons]
    omega
theorem cut_colon (a b : List UInt8) (h : ∀ c ∈ a, c ≠ 58) : Lib.cut (a ++ [32, 58, 32] ++ b) [32, 58, 32] = (a, b, true) := by
  have hi : Lib.index (a ++ [32, 58, 32] ++ b) [32, 58, 32] = (a.length : Int) := by
    induction a with
    | nil =>
      show Lib.index (32 :: 58 :: 32 :: b) [32, 58, 32] = 0
      unfold Lib.index
      simp
    | cons x a ih =>
      have hr := ih (fun c hc => h c (List.mem_cons_of_mem _ hc))
      show Lib.index (x :: (a ++ [32, 58, 32] ++ b)) _ = _
      unfold Lib.index
      have h0 : ([32, 58, 32].isPrefixOf (x :: (a ++ [32, 58, 32] ++ b))) = false := by
        rw [Bool.eq_false_iff]; intro hp
        have hp := List.isPrefixOf_iff_prefix.1 hp
        rw [List.cons_prefix_cons] at hp
        have hp := hp.2
        cases a with
        | nil =>
          simp at hp
        | cons y a =>
          simp only [List.cons_append] at hp
          rw [List.cons_prefix_cons] at hp
          exact h y (by simp) hp.1.symm
      rw [h0, hr]
      have : (((a.length : Nat) : Int) == -1) = false := by rw [beq_eq_false_iff_ne]; omega
      simp [this]
  unfold Lib.cut
  rw [hi, if_pos (by omega)]
  have : ((a.length : Int)).toNat = a.length := by omega
  rw [this]
  simp
theorem index_byte (c : UInt8) (a b : List UInt8) (h : ∀ x ∈ a, x ≠ c) : Lib.index (a ++ c :: b) [c] = (a.length : Int) := by
  induction a with
  | nil =>
    show Lib.index (c :: b) [c] = 0
    unfold Lib.index
    simp
  | cons x a ih =>
    have hr := ih (fun c hc => h c (List.mem_cons_of_mem _ hc))
    show Lib.index (x :: (a ++ c :: b)) _ = _
    unfold Lib.index
    have h0 : ([c].isPrefixOf (x :: (a ++ c :: b))) = false := by
      rw [Bool.eq_false_iff]; intro hp
      have hp := List.isPrefixOf_iff_prefix.1 hp
      rw [List.cons_prefix_cons] at hp
      exact h x (by simp) hp.1.symm
    rw [h0, hr]
    have : (((a.length : Nat) : Int) == -1) = false := by rw [beq_eq_false_iff_ne]; omega
    simp [this]
theorem index_byte_none (c : UInt8) (a : List UInt8) (h : ∀ x ∈ a, x ≠ c) : Lib.index a [c] = -1 := by
  induction a with
  | nil => rfl
  | cons x a ih =>
    have hr := ih (fun c hc => h c (List.mem_cons_of_mem _ hc))
    unfold Lib.index
    have h0 : ([c].isPrefixOf (x :: a)) = false := by
      rw [Bool.eq_false_iff]; intro hp
      have hp := List.isPrefixOf_iff_prefix.1 hp
      rw [List.cons_prefix_cons] at hp
      exact h x (by simp) hp.1.symm
    rw [h0, hr]; rfl
theorem split_one (c : UInt8) (a : List UInt8) (h : ∀ x ∈ a, x ≠ c) : Lib.split a [c] = [a] := by
  unfold Lib.split
  rw [Lib.count_miss (index_byte_none c a h)]; rfl
theorem split_more (c : UInt8) (a b : List UInt8) (h : ∀ x ∈ a, x ≠ c) : Lib.split (a ++ c :: b) [c] = a :: Lib.split b [c] := by
  have hi := index_byte c a b h
  unfold Lib.split
  rw [Lib.count_hit (by simp) hi, Nat.add_comm 1]
  have hne : ¬ (Lib.index (a ++ c :: b) [c] == -1) = true := by rw [hi, beq_iff_eq]; omega
  rw [Lib.splitK, if_neg hne, hi]
  have e : ((a.length : Int)).toNat = a.length := by omega
  rw [e]
  have d : (a ++ c :: b).drop (a.length + [c].length) = b := by
    rw [List.drop_append]
    simp
  rw [d]
  simp
theorem split_params (ps : List S46) (hp : typesB ps = true) : ∀ (a : List UInt8), (∀ x ∈ a, x ≠ 32) → Lib.split (a ++ paramsL ps) [32] = a :: ps.map typeT := by
  induction ps with
  | nil => intro a h; show Lib.split (a ++ []) [32] = [a]; rw [List.append_nil]; exact split_one 32 a h
  | cons t ps ih =>
    intro a h
    have ht := typesB_all hp t (List.mem_cons_self ..)
    have hb := typeT_bytes t ht.1 ht.2
    have hr : typesB ps = true := by
      unfold typesB at hp ⊢
      rw [List.all_cons, Bool.and_eq_true] at hp
      exact hp.2
    have e : a ++ paramsL (t :: ps) = a ++ 32 :: (typeT t ++ paramsL ps) := rfl
    rw [e, split_more 32 a _ h, ih hr (typeT t) (fun x hx => (hb.2 x hx).1)]
    rfl
theorem splitSp_eq (l : List UInt8) (q : List (List UInt8)) (h : Lib.split l [32] = q) : splitSp l = q.map bytesOfL := by
  have hd := Lib.splitB_data ⟨#[32]⟩ 0 (Lib.countB (bytesOfL l) ⟨#[32]⟩) (bytesOfL l)
  have hs : (⟨#[32]⟩ : ByteArray).data.toList = [32] := rfl
  have hc : Lib.countB (bytesOfL l) ⟨#[32]⟩ = Lib.count l [32] := by show Lib.count (bytesOfL l).data.toList [32] = _; rw [bytesOfL_data]
  rw [hs, bytesOfL_data] at hd
  unfold splitSp
  rw [hc] at hd ⊢
  have hd' : (Lib.splitB ⟨#[32]⟩ 0 (Lib.count l [32]) (bytesOfL l)).map (·.data.toList) = q := hd.trans h
  rw [← hd', List.map_map]
  have : (bytesOfL ∘ fun x : ByteArray => x.data.toList) = id := by funext x; exact bytesOfL_eq x
  rw [this, List.map_id]
theorem typesOfL_back (ps : List S46) (hp : typesB ps = true) : typesOfL ((ps.map typeT).map bytesOfL) = some ps := by
  induction ps with
  | nil => rfl
  | cons t ps ih =>
    have ht := typesB_all hp t (List.mem_cons_self ..)
    have hr : typesB ps = true := by
      unfold typesB at hp ⊢
      rw [List.all_cons, Bool.and_eq_true] at hp
      exact hp.2
    simp only [List.map_cons, typesOfL, bytesOfL_data]
    rw [typeOf_back t ht.1 ht.2, if_pos rfl, ih hr]
    rfl
theorem lineP_back {x : S34} (h : rightB x = true) : lineP (bodyL x) = (x.f0, x.f1, x.f2, true) := by
  obtain ⟨h1, h2⟩ := rightB_parts h
  obtain ⟨h3, h4⟩ := rightB_name h
  obtain ⟨_, h5⟩ := params_bytes h2
  have hcut : Lib.cut (bodyL x) [32, 58, 32] = (headL x, typeT ⟨x.f2, 0⟩, true) := cut_colon _ _ fun c hc => by
    rcases List.mem_append.1 hc with hc | hc
    · exact (h4 c hc).2.1
    · exact (h5 c hc).1
  have hsp := splitSp_eq (headL x) _ (split_params x.f1 h2 x.f0.data.toList fun c hc => (h4 c hc).1)
  have hlab : typeT ⟨x.f2, 0⟩ = pubB ∨ typeT ⟨x.f2, 0⟩ = secB := by cases x.f2; exact .inl rfl; exact .inr rfl
  have hsec : (typeT ⟨x.f2, 0⟩ == secB) = x.f2 := by cases x.f2 <;> rfl
  have hrd : rdOf ByteArray.empty (x.f0 :: (x.f1.map typeT).map bytesOfL) 0 = x.f0 := rfl
  unfold lineP
  simp only [hcut, hsp]
  rw [if_pos ⟨trivial, hlab⟩]
  simp only [List.map_cons, List.drop_succ_cons, List.drop_zero, bytesOfL_eq, hsec, hrd]
  rw [typesOfL_back x.f1 h2]
  show (x.f0, x.f1, x.f2, rightB x) = _
  rw [h]
theorem bodyL_bytes {x : S34} (h : rightB x = true) : ∀ c ∈ bodyL x, c ≠ 10 := by
  obtain ⟨h1, h2⟩ := rightB_parts h
  obtain ⟨h3, h4⟩ := rightB_name h
  obtain ⟨_, h5⟩ := params_bytes h2
  have h6 := (labT_bytes x.f2).2
  intro c hc
  rcases List.mem_append.1 hc with hc | hc
  · rcases List.mem_append.1 hc with hc | hc
    · rcases List.mem_append.1 hc with hc | hc
      · exact (h4 c hc).2.2
      · exact (h5 c hc).2
    · exact (show ∀ c ∈ ([32, 58, 32] : List UInt8), c ≠ 10 by decide) c hc
  · exact (h6 c hc).2.2
theorem cut_line (a b : List UInt8) (h : ∀ c ∈ a, c ≠ 10) : Lib.cut (a ++ 10 :: b) [10] = (a, b, true) := by
  rw [cut_one]
  induction a with
  | nil => show cut1 10 (10 :: b) = _; rw [cut1, if_pos rfl]
  | cons x a ih =>
    show cut1 10 (x :: (a ++ 10 :: b)) = _
    rw [cut1, if_neg (h x (by simp)), ih (fun c hc => h c (List.mem_cons_of_mem _ hc))]
theorem parseF_back (l : List S34) (h : l.all rightB = true) : ∀ (n : Nat) (out : List S34), l.length < n → parseF n out (textL l) = out ++ l := by
  induction l with
  | nil => intro n out hn; obtain ⟨n, rfl⟩ : ∃ m, n = m + 1 := ⟨n - 1, by simp at hn; omega⟩; simp [parseF, textL]
  | cons x l ih =>
    intro n out hn
    rw [List.all_cons, Bool.and_eq_true] at h
    obtain ⟨n, rfl⟩ : ∃ m, n = m + 1 := ⟨n - 1, by simp at hn; omega⟩
    have e : textL (x :: l) = bodyL x ++ 10 :: textL l := by
      show lineL x ++ textL l = _
      rw [lineL_body]; simp
    have hc := cut_line (bodyL x) (textL l) (bodyL_bytes h.1)
    have hne : ¬ bodyL x ++ 10 :: textL l = [] := by simp
    rw [e, parseF, if_neg hne]
    simp only [hc, lineP_back h.1, and_self, if_true]
    rw [ih h.2 n _ (by simp at hn; omega)]
    simp [sigOf]
theorem textP_ok {l : List S34} {s : ByteArray} (h : textP l = (s, 0)) : l.all rightB = true ∧ s = bytesOfL (textL l) := by
  unfold textP at h
  split at h
  · rename_i h1
    split at h
    · cases h
    · injection h with h2 _; exact ⟨h1, h2.symm⟩
  · cases h
theorem textL_long (l : List S34) : l.length ≤ (textL l).length := by
  induction l with
  | nil => exact Nat.le_refl _
  | cons x l ih =>
    show l.length + 1 ≤ (lineL x ++ textL l).length
    rw [lineL_body]
    simp only [List.length_append, List.length_cons, List.length_nil]
    omega
theorem readP_back {l : List S34} {s : ByteArray} (h : textP l = (s, 0)) : readP s = (l, 0) := by
  obtain ⟨h1, h2⟩ := textP_ok h
  have hl := textL_long l
  unfold readP
  have hs : s.data.toList = textL l := by rw [h2, bytesOfL_data]
  have hz : s.size = (textL l).length := by rw [h2, bytesOfL_size]
  rw [hs, parseF_back l h1 _ [] (by omega), List.nil_append]
  unfold checkP
  rw [h, if_pos ⟨rfl, rfl⟩]
end Go.Proofs.YtappdmioncdefaaDoor.Q
