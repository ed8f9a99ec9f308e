/- FaceJoins: two texts, one behind the other, are read as both lists: the walk. -/
import Derived.Test.YtappdmioncdefaaDoorJoins
import Derived.Test.YtappdmioncdefaaDoorArgs
namespace Go.Proofs.YtappdmioncdefaaDoor
open Go.RowKit Go.Proofs.YtappdmioncdefaaDoorW.PrintWords Go.Proofs.YtappdmioncdefaaDoorW.PrintLast Go.Proofs.YtappdmioncdefaaDoorW.PrintMore
open Q

/-! ### the calls, as this walk asks them -/
theorem drawn_below {W W' : World} (h : Drawn0 W W') : Below W.heap.size W W' := by
  obtain ⟨m, rfl⟩ := h
  exact pw_below_drewN (Below.refl _ _) m
theorem awake_any (W : World) (hG : GoodW W) : Calls Tryd.prog 10 #[] W fun e w' => e = .returned (.bool true) ∧ Below W.heap.size W w' := carlinglaw04_awake.calls 60 true W hG awake_60
theorem light_any (W : World) (A : Option Addr) (n c : Nat) (l : List S34) (h : IsSigs W A n c l) (b : Bool) (hb : lightB l = b) : Calls Tryd.prog 11 #[.slice A n c] W fun e w' => e = .returned (.bool b) ∧ Below W.heap.size W w' := by
  obtain ⟨rfl, h2, h3⟩ := h
  obtain ⟨k, hk⟩ := light_ev l
  rw [hb] at hk
  exact (carlingref04_Light.calls k A c l b W h3 h2 (hk k (Nat.le_refl _))).mono fun e w' ⟨h1, h2⟩ => ⟨h1, drawn_below h2⟩
theorem text_any (W : World) (hG : GoodW W) (A : Option Addr) (n c : Nat) (l : List S34) (h : IsSigs W A n c l) (hl : lightB l = true) (s : ByteArray) (f : Int) (hb : textP l = (s, f)) : Calls Tryd.prog 12 #[.slice A n c] W fun e w' => e = .returned (.tuple #[.string s, .int .i64 f]) ∧ Below W.heap.size W w' := by
  obtain ⟨rfl, h2, h3⟩ := h
  obtain ⟨h4, h5⟩ := lightB_says hl
  have hok : TextOk l := ⟨by omega, fun x hx => by have := h5 x hx; omega⟩
  exact face_Text.calls A c l s f W h3 h2 hG (by unfold face_Text.f; rw [if_pos hok, hb])
theorem find_any (W : World) (A : Option Addr) (n c : Nat) (l : List S34) (h : IsSigs W A n c l) (hl : lightB l = true) (nm : ByteArray) (b : Bool) (hb : hasB l nm = b) : Calls Tryd.prog 17 #[.slice A n c, .string nm] W fun e w' => ∃ r1 v1 r3, e = .returned (.tuple #[.agg #[.string r1, v1, .bool r3], .bool b]) ∧ (∃ A c m, v1 = .slice A m c) ∧ Below W.heap.size W w' := by
  obtain ⟨rfl, h2, h3⟩ := h
  obtain ⟨h4, h5⟩ := lightB_says hl
  obtain ⟨k, hk⟩ := find_ev l nm (by omega) (fun x hx => by have := h5 x hx; omega)
  have hf := hk k (Nat.le_refl _)
  refine (face_Find.calls k A c l nm (foundP l nm).1 (foundP l nm).2.1 (foundP l nm).2.2.1 (foundP l nm).2.2.2 W h3 h2 hf).mono fun e w' ⟨v, h1, h2, h3⟩ => ?_
  have hb' : (foundP l nm).2.2.2 = b := hb
  rw [hb'] at h1
  obtain ⟨A1, c1, e1, _⟩ := Kd.R_reads h2
  exact ⟨_, v, _, h1, ⟨A1, c1, _, e1⟩, h3⟩
theorem read_any (W : World) (hG : GoodW W) (s : ByteArray) (hs : s.size ≤ 50000) (l : List S34) (f : Int) (hb : readP s = (l, f)) : Calls Tryd.prog 14 #[.string s] W fun e w' => ∃ A n c, e = .returned (.tuple #[.slice A n c, .int .i64 f]) ∧ IsSigs w' A n c l ∧ Below W.heap.size W w' := by
  have hf := face_Read_f s hs 1100001 (by omega)
  rw [hb] at hf
  refine (face_Read.calls 1100001 s l f W hG hf).mono fun e w' ⟨v, h1, h2, h3⟩ => ?_
  obtain ⟨A, c, rfl⟩ := Kd.S_slice h2
  obtain ⟨g1, g2, g3⟩ := Kd.S_reads' h2
  exact ⟨A, _, c, h1, ⟨rfl, g2, g3⟩, h3⟩
theorem same_any (W : World) (A A' : Option Addr) (n c n' c' : Nat) (l : List S34) (h : IsSigs W A n c l) (h' : IsSigs W A' n' c' l) (hl : Sane l) : Calls Tryd.prog 16 #[.slice A n c, .slice A' n' c'] W fun e w' => e = .returned (.bool true) ∧ Below W.heap.size W w' := by
  obtain ⟨rfl, h2, h3⟩ := h
  obtain ⟨rfl, h2', h3'⟩ := h'
  obtain ⟨k, hk⟩ := same_true l l hl rfl
  exact (carlingref04_Same.calls k A c l A' c' l true W h3 h2 h3' h2' (hk k (Nat.le_refl _))).mono fun e w' ⟨h1, h2⟩ => ⟨h1, drawn_below h2⟩
theorem IsSigs.below {W W' : World} {A : Option Addr} {n c : Nat} {l : List S34} (h : IsSigs W A n c l) (hb : Below W.heap.size W W') : IsSigs W' A n c l := ⟨h.1, h.2.1, Kd.C_below h.2.2 hb⟩

set_option maxHeartbeats 4000000 in
set_option maxRecDepth 100000 in
theorem faceJoins_walk (w : World) (hG : GoodW w) (A1 : Option Addr) (n1 c1 : Nat) (a : List S34) (ha : IsSigs w A1 n1 c1 a) (A2 : Option Addr) (n2 c2 : Nat) (b : List S34) (hb : IsSigs w A2 n2 c2 b) :
    Calls Tryd.prog 7 #[.slice A1 n1 c1, .slice A2 n2 c2] w fun e w' => e = .returned (.bool true) ∧ Below w.heap.size w w' := by
  have HA := Aside0.mk ha
  have HBS := Aside0.mk hb
  have HG := Aside0.mk hG
  clear ha hb hG
  obtain ⟨la, hla⟩ : ∃ x, lightB a = x := ⟨_, rfl⟩
  obtain ⟨lb, hlb⟩ : ∃ x, lightB b = x := ⟨_, rfl⟩
  have HLA := Aside0.mk hla
  have HLB := Aside0.mk hlb
  clear hla hlb
  have H11a := Aside0.mk (fun W (h : Below w.heap.size w W) => light_any W A1 n1 c1 a (HA.out.below h) la HLA.out)
  have H11b := Aside0.mk (fun W (h : Below w.heap.size w W) => light_any W A2 n2 c2 b (HBS.out.below h) lb HLB.out)
  have H10 := Aside0.mk (awake_any w HG.out)
  by_cases hll : la = true ∧ lb = true
  case neg =>
    have hll' : (la = false) ∨ (la = true ∧ lb = false) := by cases la <;> cases lb <;> simp_all
    rcases hll' with rfl | ⟨rfl, rfl⟩
    all_goals
      go_enter Tryd.func7, Tryd.ntmps7
      go_wp2_with (first
        | (go_at_call 11; refine (H11b.out _ HB2.out).mono ?_; rintro e3 w3 ⟨rfl, hb3⟩; have HB3 := Aside0.mk (HB2.out.trans (hb3.mono HB2.out.size)); clear hb3)
        | (go_at_call 11; refine (H11a.out _ HB1.out).mono ?_; rintro e2 w2 ⟨rfl, hb2⟩; have HB2 := Aside0.mk (HB1.out.trans (hb2.mono HB1.out.size)); clear hb2)
        | (go_at_call 10; refine H10.out.mono ?_; rintro e1 w1 ⟨rfl, hb1⟩; have HB1 := Aside0.mk hb1; clear hb1))
      go_ret
      exact ⟨rfl, HB3.out⟩
  case pos =>
    obtain ⟨rfl, rfl⟩ := hll
    obtain ⟨s, hs⟩ : ∃ x, (textP a).1 = x := ⟨_, rfl⟩
    obtain ⟨t, ht⟩ : ∃ x, (textP b).1 = x := ⟨_, rfl⟩
    obtain ⟨f, hf⟩ : ∃ x, (textP a).2 = x := ⟨_, rfl⟩
    obtain ⟨g, hg⟩ : ∃ x, (textP b).2 = x := ⟨_, rfl⟩
    have HTA : Aside0 (textP a = (s, f)) := ⟨Prod.ext hs hf⟩
    have HTB : Aside0 (textP b = (t, g)) := ⟨Prod.ext ht hg⟩
    have hfc := textP_codes a
    have hgc := textP_codes b
    rw [hf] at hfc
    rw [hg] at hgc
    clear hs ht hf hg
    have H12a := Aside0.mk (fun W (h : Below w.heap.size w W) => text_any W (HG.out.below h) A1 n1 c1 a (HA.out.below h) HLA.out s f HTA.out)
    have H12b := Aside0.mk (fun W (h : Below w.heap.size w W) => text_any W (HG.out.below h) A2 n2 c2 b (HBS.out.below h) HLB.out t g HTB.out)
    by_cases hfg : f = 0 ∧ g = 0
    case neg =>
      have hfg' : (f ≠ 0) ∨ (f = 0 ∧ g ≠ 0) := by by_cases h : f = 0 <;> simp_all
      clear hfc hgc
      rcases hfg' with h0 | ⟨rfl, h0⟩
      all_goals
        have c6b1 := bne_iff_ne.2 h0
        clear hfg h0
        go_enter Tryd.func7, Tryd.ntmps7
        go_wp2_with (first
          | (go_at_call 12; refine (H12b.out _ HB4.out).mono ?_; rintro e5 w5 ⟨rfl, hb5⟩; have HB5 := Aside0.mk (HB4.out.trans (hb5.mono HB4.out.size)); clear hb5)
          | (go_at_call 12; refine (H12a.out _ HB3.out).mono ?_; rintro e4 w4 ⟨rfl, hb4⟩; have HB4 := Aside0.mk (HB3.out.trans (hb4.mono HB3.out.size)); clear hb4)
          | (go_at_call 11; refine (H11b.out _ HB2.out).mono ?_; rintro e3 w3 ⟨rfl, hb3⟩; have HB3 := Aside0.mk (HB2.out.trans (hb3.mono HB2.out.size)); clear hb3)
          | (go_at_call 11; refine (H11a.out _ HB1.out).mono ?_; rintro e2 w2 ⟨rfl, hb2⟩; have HB2 := Aside0.mk (HB1.out.trans (hb2.mono HB1.out.size)); clear hb2)
          | (go_at_call 10; refine H10.out.mono ?_; rintro e1 w1 ⟨rfl, hb1⟩; have HB1 := Aside0.mk hb1; clear hb1))
        go_ret
        exact ⟨rfl, HB5.out⟩
    case pos =>
      obtain ⟨rfl, rfl⟩ := hfg
      clear hfc hgc
      have hsz := textP_size HLA.out HTA.out
      have htz := textP_size HLB.out HTB.out
      have c7 : s.size + t.size ≤ 9223372036854775807 := by omega
      have c7b0 := eq_true c7
      have c7b1 : decide (s.size + t.size ≤ 9223372036854775807) = true := decide_eq_true c7
      have c7b2 : (9223372036854775807 < s.size + t.size) = False := eq_false (Nat.not_lt.2 c7)
      have HSZ : Aside0 ((s ++ t).size ≤ 50000) := ⟨by rw [ByteArray.size_append]; omega⟩
      clear hsz htz c7
      have H17 := Aside0.mk (fun W (h : Below w.heap.size w W) (nm : ByteArray) (x : Bool) (hx : hasB a nm = x) => find_any W A1 n1 c1 a (HA.out.below h) HLA.out nm x hx)
      have H14 := Aside0.mk (fun W (h : Below w.heap.size w W) (l : List S34) (f : Int) (hl : readP (s ++ t) = (l, f)) => read_any W (HG.out.below h) (s ++ t) HSZ.out l f hl)
      have HJ := Aside0.mk (joins_read HTA.out HTB.out)
      have HN2 := Aside0.mk HBS.out.1
      go_enter Tryd.func7, Tryd.ntmps7
      go_wp2_with (first
        | (go_at_call 12; refine (H12b.out _ HB4.out).mono ?_; rintro e5 w5 ⟨rfl, hb5⟩; have HB5 := Aside0.mk (HB4.out.trans (hb5.mono HB4.out.size)); clear hb5)
        | (go_at_call 12; refine (H12a.out _ HB3.out).mono ?_; rintro e4 w4 ⟨rfl, hb4⟩; have HB4 := Aside0.mk (HB3.out.trans (hb4.mono HB3.out.size)); clear hb4)
        | (go_at_call 11; refine (H11b.out _ HB2.out).mono ?_; rintro e3 w3 ⟨rfl, hb3⟩; have HB3 := Aside0.mk (HB2.out.trans (hb3.mono HB2.out.size)); clear hb3)
        | (go_at_call 11; refine (H11a.out _ HB1.out).mono ?_; rintro e2 w2 ⟨rfl, hb2⟩; have HB2 := Aside0.mk (HB1.out.trans (hb2.mono HB1.out.size)); clear hb2)
        | (go_at_call 10; refine H10.out.mono ?_; rintro e1 w1 ⟨rfl, hb1⟩; have HB1 := Aside0.mk hb1; clear hb1))
      go_loopw [12, 13] (fun tv iv wr => ∃ (z : Int) (i : Nat), i ≤ n2 ∧ Aside0 (z = i) ∧ Aside0 (Below w.heap.size w wr) ∧ tv = .bool (twiceB a (b.take i)) ∧ iv = .int .i64 z) (fun _ iv _ => n2 - (intOf iv).toNat)
      case atStart => exact ⟨0, 0, Nat.zero_le _, ⟨rfl⟩, HB5, rfl, rfl⟩
      case round =>
        obtain ⟨z, i, hi, HZ, HB, rfl, rfl⟩ := hrel
        clear HB1 HB2 HB3 HB4 HB5
        obtain ⟨W0, rfl⟩ : ∃ W, W = wr := ⟨_, rfl⟩
        by_cases hlt : i < n2
        · have g1 : decide (z < (n2 : Int)) = true := by have := HZ.out; rw [decide_eq_true_eq]; omega
          have p1 : 0 ≤ z := by have := HZ.out; omega
          have q1 : z < (n2 : Int) := of_decide_eq_true g1
          obtain ⟨x, hx⟩ : ∃ x, b[i]? = some x := ⟨_, List.getElem?_eq_getElem (by have := HN2.out; omega)⟩
          have hrd : rd_T34 b z = x := by unfold rd_T34; rw [show z.toNat = i by have := HZ.out; omega, List.getD_eq_getElem?_getD, hx]; rfl
          obtain ⟨ad, A3, c3, e1, x0, _, _, _, _⟩ := at_T34 HBS.out.2.2 z p1 (by have := HN2.out; omega)
          rw [hrd] at x0
          cases e1
          replace x0 := (HB.out.cell (World.block_lt_of_cell? w _ x0)).trans x0
          have HTN : Aside0 (twiceB a (b.take (i + 1)) = (twiceB a (b.take i) || hasB a x.f0)) := ⟨by
            obtain ⟨h1, rfl⟩ := List.getElem?_eq_some_iff.1 hx
            exact twiceB_snoc a b i h1⟩
          clear hrd hx
          obtain ⟨nm, hnm⟩ : ∃ y, y = x.f0 := ⟨_, rfl⟩
          rw [← hnm] at x0 HTN
          clear hnm
          obtain ⟨hs1, hhs⟩ : ∃ y, hasB a nm = y := ⟨_, rfl⟩
          obtain ⟨tv, htv⟩ : ∃ y, twiceB a (b.take i) = y := ⟨_, rfl⟩
          rw [hhs, htv] at HTN
          rw [htv]
          have HH := Aside0.mk hhs
          clear hhs htv
          replace p1 := eq_true p1
          replace q1 := eq_true q1
          cases tv
          all_goals
            go_wp2_with (go_at_call 17; refine (H17.out _ HB.out _ _ HH.out).mono ?_; rintro e6 w6 ⟨r6, v6, t6, rfl, ⟨A6, c6, m6, rfl⟩, hb6⟩; have HB6 := Aside0.mk (HB.out.trans (hb6.mono HB.out.size)); clear hb6 x0)
            go_roundw
            case rel =>
              refine ⟨wrap64 (z + 1), i + 1, hlt, ⟨by have := HZ.out; have := HN2.out; have := Kd.C_max HBS.out.2.2; unfold wrap64; omega⟩, ⟨?_⟩, ?_, rfl⟩
              · exact HB6.out.alloc HB6.out.size _
              · rw [HTN.out]; first | rfl | simp
            case measure => have := HZ.out; have := HN2.out; have := Kd.C_max HBS.out.2.2; simp [intOf]; unfold wrap64; omega
        · have g1 : decide (z < (n2 : Int)) = false := by have := HZ.out; rw [decide_eq_false_iff_not]; omega
          have hie : b.take i = b := List.take_of_length_le (by have := HN2.out; omega)
          rw [hie]
          obtain ⟨tv, htv⟩ : ∃ y, twiceB a b = y := ⟨_, rfl⟩
          rw [htv] at HJ ⊢
          clear hie htv
          cases tv with
          | true =>
            have HJ' : Aside0 (readP (s ++ t) = ([], 6)) := ⟨HJ.out⟩
            go_wp2_with (go_at_call 14; refine (H14.out _ HB.out _ _ HJ'.out).mono ?_; rintro e6 w6 ⟨A6, m6, c6, rfl, hq6, hb6⟩; have HB6 := Aside0.mk (HB.out.trans (hb6.mono HB.out.size)); clear hb6 hq6)
            go_ret
            exact ⟨rfl, HB6.out⟩
          | false =>
            have HJ' : Aside0 (readP (s ++ t) = (a ++ b, 0)) := ⟨HJ.out⟩
            have HSN : Aside0 (Sane (a ++ b)) := ⟨by
              obtain ⟨h1, h2⟩ := lightB_says HLA.out
              obtain ⟨h3, h4⟩ := lightB_says HLB.out
              exact ⟨by rw [List.length_append]; omega, fun x hx => by
                rcases List.mem_append.1 hx with hx | hx
                · have := h2 x hx; omega
                · have := h4 x hx; omega⟩⟩
            have HFA := Aside0.mk (fun W (h : Below w.heap.size w W) => (by
              obtain ⟨e, _, h3⟩ := HA.out.below h
              rw [e]
              exact Kd.C_F k34_heap h3 : Kd.F k34 W (fun k => k < W.heap.size) A1 n1 a))
            have HFB := Aside0.mk (fun W (h : Below w.heap.size w W) => (by
              obtain ⟨e, _, h3⟩ := HBS.out.below h
              rw [e]
              exact Kd.C_F k34_heap h3 : Kd.F k34 W (fun k => k < W.heap.size) A2 n2 b))
            have HLL : Aside0 (n1 ≤ 200 ∧ n2 ≤ 200 ∧ a.length = n1 ∧ b.length = n2) := ⟨by
              have h1 := lightB_says HLA.out
              have h3 := lightB_says HLB.out
              have := HA.out.1
              have := HBS.out.1
              omega⟩
            go_wp2_with (first
              | (go_at_call 16; refine (same_any w9 _ _ _ _ _ _ (a ++ b) (HI6.out.below HB9.out) HI9.out HSN.out).mono ?_; rintro e10 w10 ⟨rfl, hb10⟩; have HB10 := Aside0.mk (HB6.out.trans ((HB9.out.mono HB6.out.size).trans (hb10.mono (Nat.le_trans HB6.out.size HB9.out.size)))); clear hb10)
              | ((with_reducible refine gate_builtin (b := .append) (xs := #[.tmp 84, .tmp 85]) rfl ?_); at_builtin; refine Kd.N_append_rows k34 (w0 := w6) w6.heap.size rfl (.tmp 84) (.tmp 85) 22 34 (.agg #[.string ⟨#[]⟩, .slice none 0 0, .bool false]) 48 rfl Tryd.underlying22 info34 rfl (by decide) (by omega) v8 ([] ++ a) b A2 n2 c2 (fun _ => True) (fun k => k < w6.heap.size) rfl rfl HO8.out (Kd.F_below (HFB.out _ HB6.out) HB8.out) (fun k hk => ⟨trivial, fun he => by rcases Kd.N_base2 HO8.out with hn | ⟨q, hn, hq⟩ <;> rw [hn] at he <;> first | (cases he; done) | (injection he with he; omega)⟩) (fun _ _ => trivial) HB8.out HB8.out.size (by have := HLL.out; simp only [List.nil_append]; omega) ?_; intro v9 w9 ho hb hg hat; obtain ⟨A9, c9, rfl, hl9, hC9⟩ := Kd.N_reads ho; obtain ⟨n9, hn9⟩ : ∃ n, n = ([] ++ a ++ b).length := ⟨_, rfl⟩; rw [← hn9] at hl9 hC9 ⊢; have HI9 : Aside0 (IsSigs w9 A9 n9 c9 (a ++ b)) := ⟨⟨hn9, by rw [← List.nil_append (a ++ b), ← List.append_assoc, ← hn9]; exact hl9, by rw [← List.nil_append (a ++ b), ← List.append_assoc, ← hn9]; exact hC9⟩⟩; have HB9 := Aside0.mk hb; clear ho hb hg hat hl9 hC9 hn9)
              | ((with_reducible refine gate_builtin (b := .append) (xs := #[.tmp 82, .tmp 83]) rfl ?_); at_builtin; refine Kd.N_append_rows k34 (w0 := w6) w6.heap.size rfl (.tmp 82) (.tmp 83) 22 34 (.agg #[.string ⟨#[]⟩, .slice none 0 0, .bool false]) 48 rfl Tryd.underlying22 info34 rfl (by decide) (by omega) v7 [] a A1 n1 c1 (fun _ => True) (fun k => k < w6.heap.size) rfl rfl HO7.out (Kd.F_below (HFA.out _ HB6.out) HB7.out) (fun k hk => ⟨trivial, fun he => by rcases Kd.N_base2 HO7.out with hn | ⟨q, hn, hq⟩ <;> rw [hn] at he <;> first | (cases he; done) | (injection he with he; omega)⟩) (fun _ _ => trivial) HB7.out HB7.out.size (by have := HLL.out; simp only [List.length_nil]; omega) ?_; intro v8 w8 ho hb hg hat; have HO8 := Aside0.mk ho; have HB8 := Aside0.mk hb; clear ho hb hg hat)
              | ((with_reducible refine gate_dst (N := 82) rfl ?_); refine Kd.R_lit k34 (w0 := w6) w6.heap.size 34 ?hg (N := 82) ?hd (xs := ([] : List S34)) (inner := []) (ok := fun _ => True) (okp := fun _ => True) ?hr ?hp (fun _ hk => hk) trivial (Below.refl _ _) (Nat.le_refl _) (by simp) ?_; (case hd => rfl); (case hg => rfl); (case hr => first | (go_simp; done) | (go_simp; rfl)); (case hp => exact (Reps.none _ _)); intro v7 w7 ho hb hg_ hnew_; have HO7 := Aside0.mk (Kd.R_N ho); have HB7 := Aside0.mk hb; clear ho hb hg_ hnew_)
              | (go_at_call 14; refine (H14.out _ HB.out _ _ HJ'.out).mono ?_; rintro e6 w6 ⟨A6, m6, c6, rfl, hq6, hb6⟩; have HI6 := Aside0.mk hq6; have HB6 := Aside0.mk (HB.out.trans (hb6.mono HB.out.size)); clear hb6 hq6))
            go_ret
            exact ⟨rfl, HB10.out⟩
end Go.Proofs.YtappdmioncdefaaDoor
