/- The document's text of a list: that the printed functions come to the same plain ones. -/
import Derived.Test.YtappdmioncdefaaDoorText
import Derived.Test.YtappdmioncdefaaDoorQCarlingref04Text
namespace Go.Proofs.YtappdmioncdefaaDoor.Q
open Go.RowKit Go.Proofs.YtappdmioncdefaaDoorW.PrintWords Go.Proofs.YtappdmioncdefaaDoorW.PrintLast Go.Proofs.YtappdmioncdefaaDoorW.PrintMore

/-! ### a cut at one byte -/
def cut1 (c : UInt8) : List UInt8 → List UInt8 × List UInt8 × Bool
  | [] => ([], [], false)
  | b :: l => if b = c then ([], l, true) else (b :: (cut1 c l).1, (cut1 c l).2.1, (cut1 c l).2.2)
theorem cut_one (c : UInt8) (l : List UInt8) : Lib.cut l [c] = cut1 c l := by
  induction l with
  | nil => rfl
  | cons b l ih =>
    unfold Lib.cut at ih ⊢
    unfold Lib.index cut1
    by_cases e : b = c
    · subst e
      simp
    · have h0 : ([c].isPrefixOf (b :: l)) = false := by
        rw [Bool.eq_false_iff]; intro h
        have := List.isPrefixOf_iff_prefix.1 h
        rw [List.cons_prefix_cons] at this
        exact e this.1.symm
      rw [h0, if_neg e, ← ih]
      rcases Lib.index_spec l [c] with ⟨h1, _⟩ | ⟨i, h1, _⟩
      · rw [h1]; simp
      · rw [h1]
        have g1 : ((i : Int) == -1) = false := by rw [beq_eq_false_iff_ne]; omega
        simp only [Bool.false_eq_true, if_false, g1]
        rw [if_pos (by omega), if_pos (by omega)]
        have g2 : ((i : Int) + 1).toNat = i + 1 := by omega
        have g3 : ((i : Int)).toNat = i := by omega
        rw [g2, g3]
        simp only [List.take_succ_cons, List.length_cons, List.length_nil]
        rw [show i + 1 + (0 + 1) = (i + (0 + 1)) + 1 by omega, List.drop_succ_cons]
theorem cut1_at (c : UInt8) (l : List UInt8) (h : (cut1 c l).2.2 = true) : (cut1 c l).1.length < l.length ∧ (cut1 c l).1 = l.take (cut1 c l).1.length ∧ (cut1 c l).2.1 = l.drop ((cut1 c l).1.length + 1) := by
  induction l with
  | nil => cases h
  | cons b l ih =>
    unfold cut1 at h ⊢
    by_cases e : b = c
    · rw [if_pos e]; simp
    · rw [if_neg e] at h ⊢
      obtain ⟨i1, i2, i3⟩ := ih h
      refine ⟨by simp only [List.length_cons]; omega, ?_, ?_⟩
      · simp only [List.length_cons, List.take_succ_cons]; rw [← i2]
      · simp only [List.length_cons, List.drop_succ_cons]; exact i3

theorem rd46' (l : List S46) (i : Nat) (h : i < l.length) : rd_T46 l (i : Int) = l[i] := by unfold rd_T46; simp [h]
theorem rd34' (l : List S34) (i : Nat) (h : i < l.length) : rd_T34 l (i : Int) = l[i] := by unfold rd_T34; simp [h]
theorem wrap_nat' {i n : Nat} (h : i < n) (hn : n ≤ 9223372036854775807) : wrap64 ((i : Int) + 1) = ((i + 1 : Nat) : Int) := by
  rw [wrap_next (n := n) (by omega) (by omega) (by omega)]; omega

/-! ### a name -/
theorem okc_first (c : UInt8) (h : okc true c = true) : okc false c = true := by
  unfold okc at h ⊢
  simp at h ⊢
  exact .inl h
theorem rname_l0 (s : ByteArray) (hs : s.size ≤ 9223372036854775807) (d : Nat) : ∀ (i : Nat), i ≤ s.size → s.size - i = d → Ev (fun k => carlingref03_Name.l0 k s (i : Int)) (chk false (s.data.toList.drop i)) := by
  induction d with
  | zero =>
    intro i h0 h1
    rw [List.drop_eq_nil_of_le (by simp; omega)]
    refine Ev.step (f := fun _ => some true) (fun k => ?_) (Ev.now _)
    simp only [carlingref03_Name.l0]
    rw [if_neg (by omega)]
  | succ d ih =>
    intro i h0 h1
    have hlt : i < s.size := by omega
    have hb := bt_nat s i hlt
    obtain ⟨c, hc⟩ : ∃ c, c = s.data.toList[i]'(by simpa using hlt) := ⟨_, rfl⟩
    rw [← hc] at hb
    have hdr := drop_at s i hlt
    rw [← hc] at hdr
    have hn := ih (i + 1) (by omega) (by omega)
    rw [hdr]
    obtain ⟨m, hm⟩ : ∃ m, m = c.toNat := ⟨_, rfl⟩
    have hok : okc false c = (decide (97 ≤ m ∧ m ≤ 122) || (decide (48 ≤ m ∧ m ≤ 57) || decide (m = 95))) := by unfold okc; rw [← hm]; simp
    show Ev _ (okc false c && chk false _)
    have hs1 : ∀ k, carlingref03_Name.l0 (k + 1) s (i : Int) = if okc false c = true then carlingref03_Name.l0 k s ((i + 1 : Nat) : Int) else some false := by
      intro k
      simp only [carlingref03_Name.l0]
      rw [if_pos (by omega), if_pos (by omega), hb, wrap_nat' hlt hs, hok, ← hm]
      by_cases a1 : (m : Int) ≥ 97
      · rw [if_pos a1]
        by_cases a2 : (m : Int) ≤ 122
        · rw [if_pos a2, decide_eq_true (show 97 ≤ m ∧ m ≤ 122 by omega)]; simp
        · rw [if_neg a2, decide_eq_false (show ¬ (97 ≤ m ∧ m ≤ 122) by omega), decide_eq_false (show ¬ (48 ≤ m ∧ m ≤ 57) by omega), decide_eq_false (show ¬ (m = 95) by omega), if_pos (by omega), if_neg (by omega), if_neg (by omega)]; simp
      · rw [if_neg a1, decide_eq_false (show ¬ (97 ≤ m ∧ m ≤ 122) by omega)]
        by_cases a4 : (m : Int) ≥ 48
        · rw [if_pos a4]
          by_cases a5 : (m : Int) ≤ 57
          · rw [if_pos a5, decide_eq_true (show 48 ≤ m ∧ m ≤ 57 by omega)]; simp
          · rw [if_neg a5, decide_eq_false (show ¬ (48 ≤ m ∧ m ≤ 57) by omega)]
            by_cases a6 : (m : Int) = 95
            · rw [if_pos a6, decide_eq_true (show m = 95 by omega)]; simp
            · rw [if_neg a6, decide_eq_false (show ¬ (m = 95) by omega)]; simp
        · rw [if_neg a4, decide_eq_false (show ¬ (48 ≤ m ∧ m ≤ 57) by omega), decide_eq_false (show ¬ (m = 95) by omega), if_neg (by omega)]; simp
    cases ho : okc false c with
    | true => exact Ev.step (fun k => by rw [hs1 k, if_pos ho]) (by rw [Bool.true_and]; exact hn)
    | false => exact Ev.step (f := fun _ => some false) (fun k => by rw [hs1 k, if_neg (by rw [ho]; exact Bool.false_ne_true)]) (Ev.now _)
theorem rname_j0 (s : ByteArray) : Ev (fun k => carlingref03_Name.j0 k s true) false := Ev.step (f := fun _ => some false) (fun k => by simp only [carlingref03_Name.j0, if_true]) (Ev.now _)
theorem rname_ev (s : ByteArray) (hs : s.size ≤ 9223372036854775807) : Ev (fun k => carlingref03_Name.f k s) (nameL s.data.toList) := by
  have hlen : s.data.toList.length = s.size := by simp
  by_cases h0 : s.size = 0
  · have : s.data.toList = [] := List.length_eq_zero_iff.1 (by omega)
    rw [this]
    exact Ev.congr (fun k => by unfold carlingref03_Name.f; rw [if_pos (by omega)]) (rname_j0 s)
  · have hne : s.data.toList ≠ [] := fun e => h0 (by rw [← hlen, e]; rfl)
    unfold nameL
    rw [decide_eq_true hne, hlen, Bool.true_and]
    by_cases h1 : s.size > 12
    · rw [decide_eq_false (show ¬ s.size ≤ 12 by omega), Bool.and_false]
      exact Ev.congr (fun k => by unfold carlingref03_Name.f; rw [if_neg (by omega), if_pos (by omega)]) (rname_j0 s)
    · rw [decide_eq_true (show s.size ≤ 12 by omega), Bool.and_true]
      have hb := bt_nat s 0 (by omega)
      have hdr := drop_at s 0 (by omega)
      rw [List.drop_zero] at hdr
      obtain ⟨c, hc⟩ : ∃ c, c = s.data.toList[0]'(by omega) := ⟨_, rfl⟩
      rw [← hc] at hb hdr
      have hl := rname_l0 s hs _ 0 (Nat.zero_le _) rfl
      rw [List.drop_zero] at hl
      obtain ⟨m, hm⟩ : ∃ m, m = c.toNat := ⟨_, rfl⟩
      rw [← hm] at hb
      have hok : okc true c = decide (97 ≤ m ∧ m ≤ 122) := by unfold okc; rw [← hm]; simp
      have hR : chk true s.data.toList = (okc true c && chk false s.data.toList) := by
        rw [hdr]
        show (okc true c && _) = (okc true c && (okc false c && _))
        cases h : okc true c with
        | false => rfl
        | true => rw [okc_first c h]; simp
      rw [hR, hok]
      have hb' : bt s 0 = (m : Int) := hb
      by_cases a1 : (m : Int) < 97
      · rw [decide_eq_false (by omega), Bool.false_and]
        exact Ev.congr (fun k => by unfold carlingref03_Name.f; rw [if_neg (by omega), if_neg (by omega), if_pos (by omega), if_pos (by rw [hb']; exact a1)]) (rname_j0 s)
      · by_cases a2 : (m : Int) > 122
        · rw [decide_eq_false (by omega), Bool.false_and]
          exact Ev.congr (fun k => by unfold carlingref03_Name.f; rw [if_neg (by omega), if_neg (by omega), if_pos (by omega), if_neg (by rw [hb']; exact a1), hb', decide_eq_true a2]) (rname_j0 s)
        · rw [decide_eq_true (by omega), Bool.true_and]
          refine Ev.congr (fun k => by unfold carlingref03_Name.f; rw [if_neg (by omega), if_neg (by omega), if_pos (by omega), if_neg (by rw [hb']; exact a1), hb', decide_eq_false a2]) ?_
          exact Ev.step (fun k => by simp only [carlingref03_Name.j0, Bool.false_eq_true, if_false]; rfl) hl

/-! ### right -/
theorem rright_l1 (n : ByteArray) (l : List S46) (s : Bool) (hl : l.length ≤ 9223372036854775807) (d : Nat) : ∀ (i : Nat), i ≤ l.length → l.length - i = d →
    Ev (fun k => carlingref04_Right.l1 k (i : Int) n l s) (typesB (l.drop i)) := by
  induction d with
  | zero =>
    intro i h0 h1
    rw [List.drop_eq_nil_of_le (by omega)]
    refine Ev.step (f := fun _ => some true) (fun k => ?_) (Ev.now _)
    simp only [carlingref04_Right.l1]
    rw [if_neg (by omega)]
  | succ d ih =>
    intro i h0 h1
    have hlt : i < l.length := by omega
    have hn := ih (i + 1) (by omega) (by omega)
    rw [List.drop_eq_getElem_cons hlt]
    show Ev _ (decide (0 ≤ l[i].f1 ∧ l[i].f1 ≤ 16) && typesB (l.drop (i + 1)))
    by_cases a1 : l[i].f1 < 0
    · rw [decide_eq_false (by omega)]
      refine Ev.step (f := fun _ => some false) (fun k => ?_) (Ev.now _)
      simp only [carlingref04_Right.l1]
      rw [if_pos (by omega), if_pos (by omega), rd46' l i hlt, if_pos a1]
    · by_cases a2 : l[i].f1 > 16
      · rw [decide_eq_false (by omega)]
        refine Ev.step (f := fun _ => some false) (fun k => ?_) (Ev.now _)
        simp only [carlingref04_Right.l1]
        rw [if_pos (by omega), if_pos (by omega), rd46' l i hlt, if_neg a1, if_pos a2]
      · rw [decide_eq_true (by omega), Bool.true_and]
        refine Ev.step (fun k => ?_) hn
        simp only [carlingref04_Right.l1]
        rw [if_pos (by omega), if_pos (by omega), rd46' l i hlt, if_neg a1, if_neg a2, wrap_nat' hlt hl]
theorem rright_j1' (n : ByteArray) (l : List S46) (s : Bool) : Ev (fun k => carlingref04_Right.j1 k true n l s) false := Ev.step (f := fun _ => some false) (fun k => by simp only [carlingref04_Right.j1, if_true]) (Ev.now _)
theorem rright_j1 (n : ByteArray) (l : List S46) (s : Bool) (hl : l.length ≤ 9223372036854775807) : Ev (fun k => carlingref04_Right.j1 k (decide ((l.length : Int) > 6)) n l s) (decide (l.length ≤ 6) && typesB l) := by
  by_cases h : (l.length : Int) > 6
  · rw [decide_eq_true h, decide_eq_false (by omega)]; exact rright_j1' n l s
  · rw [decide_eq_false h, decide_eq_true (by omega), Bool.true_and]
    have h1 := rright_l1 n l s hl _ 0 (Nat.zero_le _) rfl
    rw [List.drop_zero] at h1
    exact Ev.step (fun k => by simp only [carlingref04_Right.j1, Bool.false_eq_true, if_false]; rfl) h1
theorem rright_end (n : ByteArray) (l : List S46) (s : Bool) (hn : n.size ≤ 1000000000000) (hl : l.length ≤ 9223372036854775807) (p : Nat) (hp : p < n.size) :
    Ev (fun k => carlingref04_Right.l0 k (p : Int) (n.size : Int) n l s) (nameL (n.data.toList.take p) && nameL (n.data.toList.drop (p + 1)) && decide (l.length ≤ 6) && typesB l) := by
  have e1 : (n.extract 0 ((p : Int)).toNat).data.toList = n.data.toList.take p := by
    rw [show ((p : Int)).toNat = p by omega, ByteArray.data_extract, Array.toList_extract]
    simp [List.extract_eq_take_drop]
  have e2 : (n.extract ((((p + 1 : Nat) : Int))).toNat n.size).data.toList = n.data.toList.drop (p + 1) := by
    rw [show (((p + 1 : Nat) : Int)).toNat = p + 1 by omega, ByteArray.data_extract, Array.toList_extract]
    simp [List.extract_eq_take_drop]
    exact List.take_of_length_le (by simp)
  have z1 : (n.extract 0 ((p : Int)).toNat).size ≤ n.size := by simp; omega
  have z2 : (n.extract ((((p + 1 : Nat) : Int))).toNat n.size).size ≤ n.size := by simp
  have n1 := rname_ev (n.extract 0 ((p : Int)).toNat) (by omega)
  have n2 := rname_ev (n.extract ((((p + 1 : Nat) : Int))).toNat n.size) (by omega)
  rw [e1] at n1
  rw [e2] at n2
  refine Ev.step (fun k => by
    simp only [carlingref04_Right.l0]
    rw [if_neg (by omega), if_neg (by omega), if_pos (by omega), if_pos (by omega), wrap_nat' hp (by omega), if_pos (show (0 : Int) ≤ ((p + 1 : Nat) : Int) by omega), if_pos (show ((p + 1 : Nat) : Int) ≤ (n.size : Int) by omega)]) (Ev.bind n1 ?_)
  cases nameL (n.data.toList.take p) with
  | false => exact Ev.congr (fun k => by rw [if_neg Bool.false_ne_true]) (rright_j1' n l s)
  | true =>
    refine Ev.congr (fun k => by rw [if_pos rfl]) (Ev.bind n2 ?_)
    cases nameL (n.data.toList.drop (p + 1)) with
    | false => exact Ev.congr (fun k => by rw [if_neg Bool.false_ne_true]) (rright_j1' n l s)
    | true => exact Ev.congr (fun k => by rw [if_pos rfl]) (by simpa using rright_j1 n l s hl)
theorem rright_found (n : ByteArray) (l : List S46) (s : Bool) (hn : n.size ≤ 1000000000000) (p : Nat) (r : Bool) (he : Ev (fun k => carlingref04_Right.l0 k (p : Int) (n.size : Int) n l s) r) (d : Nat) : ∀ (i : Nat), i ≤ n.size → n.size - i = d →
    Ev (fun k => carlingref04_Right.l0 k (p : Int) (i : Int) n l s) r := by
  induction d with
  | zero =>
    intro i h0 h1
    obtain rfl : i = n.size := by omega
    exact he
  | succ d ih =>
    intro i h0 h1
    have hlt : i < n.size := by omega
    refine Ev.step (fun k => ?_) (ih (i + 1) (by omega) (by omega))
    simp only [carlingref04_Right.l0]
    rw [if_pos (by omega), if_pos (by omega), wrap_nat' hlt (by omega), if_neg (show ¬ ((p : Int) < 0) by omega), ite_self]
theorem rright_l0 (n : ByteArray) (l : List S46) (s : Bool) (hn : n.size ≤ 1000000000000) (hl : l.length ≤ 9223372036854775807) (d : Nat) : ∀ (i : Nat), i ≤ n.size → n.size - i = d →
    Ev (fun k => carlingref04_Right.l0 k (-1) (i : Int) n l s) ((cut1 46 (n.data.toList.drop i)).2.2 && (nameL (n.data.toList.take (i + (cut1 46 (n.data.toList.drop i)).1.length)) && nameL (n.data.toList.drop (i + (cut1 46 (n.data.toList.drop i)).1.length + 1)) && decide (l.length ≤ 6) && typesB l)) := by
  induction d with
  | zero =>
    intro i h0 h1
    rw [List.drop_eq_nil_of_le (by simp; omega)]
    refine Ev.step (fun k => ?_) (rright_j1' n l s)
    simp only [carlingref04_Right.l0]
    rw [if_neg (by omega), if_pos (by omega)]
  | succ d ih =>
    intro i h0 h1
    have hlt : i < n.size := by omega
    have hb := bt_nat n i hlt
    have hdr := drop_at n i hlt
    obtain ⟨c, hc⟩ : ∃ c, c = n.data.toList[i]'(by simpa using hlt) := ⟨_, rfl⟩
    rw [← hc] at hb hdr
    have hi := ih (i + 1) (by omega) (by omega)
    rw [hdr]
    by_cases e : c = 46
    · have hcut : cut1 46 (c :: n.data.toList.drop (i + 1)) = ([], n.data.toList.drop (i + 1), true) := by rw [cut1, if_pos e]
      rw [hcut]
      have := rright_found n l s hn i _ (rright_end n l s hn hl i hlt) _ (i + 1) (by omega) rfl
      refine Ev.step (fun k => ?_) this
      simp only [carlingref04_Right.l0]
      rw [if_pos (by omega), if_pos (by omega), hb, if_pos (by rw [e]; rfl), if_pos (by omega), wrap_nat' hlt (by omega)]
    · have hcut : cut1 46 (c :: n.data.toList.drop (i + 1)) = (c :: (cut1 46 (n.data.toList.drop (i + 1))).1, (cut1 46 (n.data.toList.drop (i + 1))).2.1, (cut1 46 (n.data.toList.drop (i + 1))).2.2) := by rw [cut1, if_neg e]
      rw [hcut]
      simp only [List.length_cons]
      rw [show i + ((cut1 46 (n.data.toList.drop (i + 1))).1.length + 1) = i + 1 + (cut1 46 (n.data.toList.drop (i + 1))).1.length by omega]
      refine Ev.step (fun k => ?_) hi
      simp only [carlingref04_Right.l0]
      have hne : ¬ ((c.toNat : Int) = 46) := fun h => e (UInt8.toNat_inj.1 (by have : c.toNat = 46 := by omega
                                                                               rw [this]; rfl))
      rw [if_pos (by omega), if_pos (by omega), hb, if_neg hne, wrap_nat' hlt (by omega)]
theorem rright_ev (n : ByteArray) (l : List S46) (s : Bool) (hn : n.size ≤ 1000000000000) (hl : l.length ≤ 9223372036854775807) : Ev (fun k => carlingref04_Right.f k n l s) (rightB ⟨n, l, s⟩) := by
  have h := rright_l0 n l s hn hl _ 0 (Nat.zero_le _) rfl
  rw [List.drop_zero] at h
  have hR : rightB ⟨n, l, s⟩ = ((cut1 46 n.data.toList).2.2 && (nameL (n.data.toList.take (0 + (cut1 46 n.data.toList).1.length)) && nameL (n.data.toList.drop (0 + (cut1 46 n.data.toList).1.length + 1)) && decide (l.length ≤ 6) && typesB l)) := by
    unfold rightB
    simp only [cut_one, Nat.zero_add]
    cases hb : (cut1 46 n.data.toList).2.2 with
    | false => rfl
    | true =>
      obtain ⟨_, h2, h3⟩ := cut1_at 46 n.data.toList hb
      rw [← h2, ← h3]
      simp [Bool.and_assoc]
  rw [hR]
  exact h

/-! ### a line -/
theorem app_L (a b : List UInt8) : bytesOfL a ++ bytesOfL b = bytesOfL (a ++ b) := by
  apply bytes_ext
  rw [bytesOfL_data, ByteArray.data_append]
  simp [bytesOfL]
theorem rdec_all0 : ∀ n : Fin 17, 0 < n.val → (carlingref03_Decimal.f 20 (n.val : Int)).map (fun x => x.data.toList) = some (Lib.itoa n.val) := by decide +kernel
theorem rdec_all (n : Nat) (h0 : n < 17) (h1 : 0 < n) : carlingref03_Decimal.f 20 (n : Int) = some (bytesOfL (Lib.itoa n)) := by
  have h := rdec_all0 ⟨n, h0⟩ h1
  obtain ⟨x, hx, hy⟩ := Option.map_eq_some_iff.1 h
  rw [hx, ← hy, bytesOfL_data_self]
where
  bytesOfL_data_self {x : ByteArray} : bytesOfL x.data.toList = x := bytes_ext (bytesOfL_data _)
theorem rdec_ev (n : Int) (h0 : 0 < n) (h1 : n ≤ 16) : Ev (fun k => carlingref03_Decimal.f k n) (bytesOfL (Lib.itoa n)) := by
  obtain ⟨m, rfl⟩ : ∃ m : Nat, n = m := ⟨n.toNat, by omega⟩
  exact Ev.of (fun k => carlingref03_Decimal.mono _ k) (rdec_all m (by omega) (by omega))
theorem label_f (b : Bool) : carlingref04_label.f b = some (bytesOfL (typeT ⟨b, 0⟩)) := by cases b <;> rfl
theorem typeT_split (t : S46) : typeT t = typeT ⟨t.f0, 0⟩ ++ if t.f1 > 0 then Lib.itoa t.f1 else [] := by
  unfold typeT
  simp
theorem labelT_len (b : Bool) : (typeT ⟨b, 0⟩).length = 3 := by cases b <;> rfl
theorem rline_l0 (nm : ByteArray) (l : List S46) (b : Bool) (hl : l.length ≤ 1000) (ht : typesB l = true) (d : Nat) : ∀ (i : Nat) (acc : List UInt8), i ≤ l.length → l.length - i = d → acc.length + 100 * d ≤ 1000000000000 →
    Ev (fun k => carlingref04_Line.l0 k (bytesOfL acc) (i : Int) nm l b) (bytesOfL (acc ++ paramsL (l.drop i) ++ [32, 58, 32] ++ typeT ⟨b, 0⟩ ++ [10])) := by
  have s1 : (⟨#[32]⟩ : ByteArray) = bytesOfL [32] := rfl
  have s2 : (⟨#[32, 58, 32]⟩ : ByteArray) = bytesOfL [32, 58, 32] := rfl
  have s3 : (⟨#[10]⟩ : ByteArray) = bytesOfL [10] := rfl
  induction d with
  | zero =>
    intro i acc h0 h1 hz
    rw [List.drop_eq_nil_of_le (by omega)]
    have hb := labelT_len b
    refine Ev.step (f := fun _ => some (bytesOfL (acc ++ [32, 58, 32] ++ typeT ⟨b, 0⟩ ++ [10]))) (fun k => ?_) (by simpa [paramsL] using Ev.now _)
    simp only [carlingref04_Line.l0]
    rw [if_neg (by omega), bytesOfL_size, if_pos (by omega), label_f]
    simp only [Option.bind_some]
    rw [s2, s3, app_L, app_L, app_L, bytesOfL_size, bytesOfL_size, bytesOfL_size]
    simp only [List.length_append, List.length_cons, List.length_nil]
    rw [if_pos (by omega), if_pos (by omega)]
  | succ d ih =>
    intro i acc h0 h1 hz
    have hlt : i < l.length := by omega
    have hb := labelT_len l[i].f0
    have hat := typesB_at ht i hlt
    have hn := ih (i + 1) (acc ++ (32 :: typeT l[i])) (by omega) (by omega) (by have := typeT_len l[i] (by omega) (by omega); simp; omega)
    have hlen := typeT_len l[i] (by omega) (by omega)
    have hsp := typeT_split l[i]
    have hR : acc ++ paramsL (l.drop i) ++ [32, 58, 32] ++ typeT ⟨b, 0⟩ ++ [10] = acc ++ (32 :: typeT l[i]) ++ paramsL (l.drop (i + 1)) ++ [32, 58, 32] ++ typeT ⟨b, 0⟩ ++ [10] := by
      rw [List.drop_eq_getElem_cons hlt]
      show acc ++ ((32 :: typeT l[i]) ++ paramsL (l.drop (i + 1))) ++ _ ++ _ ++ _ = _
      simp only [List.append_assoc]
    rw [hR]
    by_cases hp : l[i].f1 > 0
    · have hd := rdec_ev l[i].f1 hp hat.2
      rw [if_pos hp] at hsp
      have hz2 : (typeT l[i]).length = 3 + (Lib.itoa l[i].f1).length := by rw [hsp, List.length_append, hb]
      refine Ev.step (fun k => by
        simp only [carlingref04_Line.l0]
        rw [if_pos (by omega), bytesOfL_size, if_pos (by omega), if_pos (by omega), rd46' l i hlt, label_f]
        simp only [Option.bind_some]
        rw [s1, app_L, app_L, bytesOfL_size, bytesOfL_size]
        simp only [List.length_append, List.length_cons, List.length_nil]
        rw [if_pos (by omega), if_pos hp]) (Ev.bind hd ?_)
      refine Ev.congr (fun k => ?_) hn
      rw [app_L, bytesOfL_size, bytesOfL_size]
      simp only [List.length_append, List.length_cons, List.length_nil]
      rw [if_pos (by omega), wrap_nat' hlt (by omega), hsp]
      simp
    · rw [if_neg hp, List.append_nil] at hsp
      refine Ev.step (fun k => ?_) hn
      simp only [carlingref04_Line.l0]
      rw [if_pos (by omega), bytesOfL_size, if_pos (by omega), if_pos (by omega), rd46' l i hlt, label_f]
      simp only [Option.bind_some]
      rw [s1, app_L, app_L, bytesOfL_size, bytesOfL_size]
      simp only [List.length_append, List.length_cons, List.length_nil]
      rw [if_pos (by omega), if_neg hp, wrap_nat' hlt (by omega), ← hsp]
      simp
theorem bytesOfL_self (s : ByteArray) : bytesOfL s.data.toList = s := bytes_ext (bytesOfL_data _)
theorem rline_ev (nm : ByteArray) (l : List S46) (b : Bool) (hn : nm.size ≤ 1000000000) (hl : l.length ≤ 1000) (ht : typesB l = true) : Ev (fun k => carlingref04_Line.f k nm l b) (bytesOfL (lineL ⟨nm, l, b⟩)) := by
  have h := rline_l0 nm l b hl ht _ 0 nm.data.toList (Nat.zero_le _) rfl (by simp; omega)
  rw [bytesOfL_self, List.drop_zero] at h
  exact h
theorem lineL_len (x : S34) (h : rightB x = true) : (lineL x).length ≤ x.f0.size + 300 := by
  have h1 := rightB_parts h
  have h2 := paramsL_len h1.2 x.f1.length (Nat.le_refl _)
  rw [List.take_length] at h2
  have h3 := labelT_len x.f2
  unfold lineL
  simp [h3]
  omega

/-! ### a text -/
theorem twR_more (a b : List ByteArray) (h : twR b = true) : twR (a ++ b) = true := by
  induction a with
  | nil => exact h
  | cons x a ih => show (twR (a ++ b) || _) = true; rw [ih]; rfl
theorem namesR_take (l : List S34) (i : Nat) : namesR l = namesR (l.drop i) ++ namesR (l.take i) := by
  unfold namesR
  rw [← List.reverse_append, ← List.map_append, List.take_append_drop]
theorem rtext_l2 (l : List S34) (s : ByteArray) (i : Nat) (hi : i < l.length) (hl : l.length ≤ 9223372036854775807) (r : ByteArray × Int) (hn : memB l[i].f0 (namesR (l.take i)) = false → Ev (fun k => carlingref04_Text.l1 k l s ((i + 1 : Nat) : Int)) r)
    (hy : memB l[i].f0 (namesR (l.take i)) = true → r = (ByteArray.empty, 9)) (d : Nat) : ∀ j, j ≤ i → i - j = d → memB l[i].f0 (namesR (l.take j)) = false → Ev (fun k => carlingref04_Text.l2 k l s (i : Int) (j : Int)) r := by
  induction d with
  | zero =>
    intro j h0 h1 h2
    obtain rfl : j = i := by omega
    refine Ev.step (fun k => ?_) (hn h2)
    simp only [carlingref04_Text.l2]
    rw [if_neg (by omega), wrap_nat' hi hl]
  | succ d ih =>
    intro j h0 h1 h2
    have hj : j < l.length := by omega
    have hs := namesR_snoc l j hj
    by_cases e : l[i].f0 = l[j].f0
    · have hmem : memB l[i].f0 (namesR (l.take i)) = true := by
        rw [memB_iff]
        unfold namesR
        rw [List.mem_reverse, List.mem_map]
        exact ⟨l[j], List.mem_take_iff_getElem.2 ⟨j, by omega, rfl⟩, e.symm⟩
      rw [hy hmem]
      refine Ev.step (f := fun _ => some (ByteArray.empty, 9)) (fun k => ?_) (Ev.now _)
      simp only [carlingref04_Text.l2]
      rw [if_pos (by omega), if_pos (by omega), if_pos (by omega), if_pos (by omega), if_pos (by omega), rd34' l i hi, rd34' l j hj, if_pos (by rw [e])]
      rfl
    · refine Ev.step (fun k => ?_) (ih (j + 1) (by omega) (by omega) ?_)
      · simp only [carlingref04_Text.l2]
        rw [if_pos (by omega), if_pos (by omega), if_pos (by omega), if_pos (by omega), if_pos (by omega), rd34' l i hi, rd34' l j hj, if_neg (by rw [toList_data, toList_data]; exact fun h => e (bytes_ext h)), wrap_nat' hj hl]
      · rw [hs]; unfold memB at h2 ⊢
        rw [List.any_cons, h2, decide_eq_false (fun h => e h.symm)]; rfl
theorem rtext_l1 (l : List S34) (s : ByteArray) (hl : l.length ≤ 9223372036854775807) (d : Nat) : ∀ i, i ≤ l.length → l.length - i = d → twR (namesR (l.take i)) = false → Ev (fun k => carlingref04_Text.l1 k l s (i : Int)) (if twR (namesR l) = true then (ByteArray.empty, 9) else (s, 0)) := by
  induction d with
  | zero =>
    intro i h0 h1 h2
    rw [List.take_of_length_le (by omega)] at h2
    rw [h2]
    refine Ev.step (f := fun _ => some (s, 0)) (fun k => ?_) (Ev.now _)
    simp only [carlingref04_Text.l1]
    rw [if_neg (by omega)]
  | succ d ih =>
    intro i h0 h1 h2
    have hi : i < l.length := by omega
    have hs := namesR_snoc l i hi
    have h2' : twR (namesR (l.take (i + 1))) = memB l[i].f0 (namesR (l.take i)) := by
      rw [hs]; show (twR _ || memB _ _) = _; rw [h2]; rfl
    refine Ev.step (fun k => ?_) (rtext_l2 l s i hi hl _ (fun hm => ih (i + 1) (by omega) (by omega) (by rw [h2', hm])) (fun hm => ?_) _ 0 (Nat.zero_le _) rfl rfl)
    · simp only [carlingref04_Text.l1]
      rw [if_pos (by omega)]; rfl
    · rw [namesR_take l (i + 1), twR_more _ _ (by rw [h2', hm]), if_pos rfl]
def ParamsOk (l : List S34) : Prop := ∀ x ∈ l, x.f1.length ≤ 9223372036854775807
theorem rtext_l0 (l : List S34) (hl : TextOk l) (hp : ParamsOk l) (d : Nat) : ∀ (i : Nat) (acc : List UInt8), i ≤ l.length → l.length - i = d → acc.length + 1000001000 * d ≤ 100000000000000 →
    Ev (fun k => carlingref04_Text.l0 k l (bytesOfL acc) (i : Int)) (if (l.drop i).all rightB = true then (if twR (namesR l) = true then (ByteArray.empty, 9) else (bytesOfL (acc ++ textL (l.drop i)), 0)) else (ByteArray.empty, 6)) := by
  obtain ⟨hl1, hl2⟩ := hl
  induction d with
  | zero =>
    intro i acc h0 h1 hz
    rw [List.drop_eq_nil_of_le (by omega)]
    have h := rtext_l1 l (bytesOfL acc) (by omega) _ 0 (Nat.zero_le _) rfl rfl
    refine Ev.step (fun k => ?_) (by simpa [textL] using h)
    simp only [carlingref04_Text.l0]
    rw [if_neg (by omega)]
  | succ d ih =>
    intro i acc h0 h1 hz
    have hi : i < l.length := by omega
    have hsz := hl2 _ (List.getElem_mem hi)
    rw [List.drop_eq_getElem_cons hi]
    have hr := rright_ev l[i].f0 l[i].f1 l[i].f2 (by omega) (hp _ (List.getElem_mem hi))
    refine Ev.step (fun k => by
      simp only [carlingref04_Text.l0]
      rw [if_pos (by omega), if_pos (by omega), rd34' l i hi]) (Ev.bind hr ?_)
    rw [List.all_cons]
    show Ev _ (if (rightB l[i] && _) = true then _ else _)
    cases hb : rightB l[i] with
    | false => exact Ev.congr (f := fun _ => some (ByteArray.empty, 6)) (fun k => by rw [if_neg Bool.false_ne_true]; rfl) (by simpa using Ev.now _)
    | true =>
      obtain ⟨g1, g2⟩ := rightB_parts hb
      have hlen := lineL_len _ hb
      have hline := rline_ev l[i].f0 l[i].f1 l[i].f2 hsz (by omega) g2
      refine Ev.congr (fun k => by rw [if_pos rfl]) (Ev.bind hline ?_)
      have hx : (⟨l[i].f0, l[i].f1, l[i].f2⟩ : S34) = l[i] := rfl
      rw [hx]
      have hn := ih (i + 1) (acc ++ lineL l[i]) (by omega) (by omega) (by rw [List.length_append]; omega)
      refine Ev.congr (f := fun k => carlingref04_Text.l0 k l (bytesOfL (acc ++ lineL l[i])) ((i + 1 : Nat) : Int)) (fun k => ?_) ?_
      · rw [app_L, bytesOfL_size, bytesOfL_size, if_pos (by omega), wrap_nat' hi (by omega)]
      · have hT : acc ++ textL (l[i] :: l.drop (i + 1)) = acc ++ lineL l[i] ++ textL (l.drop (i + 1)) := by
          show acc ++ (lineL l[i] ++ textL (l.drop (i + 1))) = _
          rw [List.append_assoc]
        rw [hT, Bool.true_and]
        exact hn
theorem rtext_ev (l : List S34) (hl : TextOk l) (hp : ParamsOk l) : Ev (fun k => carlingref04_Text.f k l) (textP l) := by
  have h := rtext_l0 l hl hp _ 0 [] (Nat.zero_le _) rfl (by simp; have := hl.1; omega)
  rw [List.drop_zero, List.nil_append] at h
  exact h
end Go.Proofs.YtappdmioncdefaaDoor.Q
