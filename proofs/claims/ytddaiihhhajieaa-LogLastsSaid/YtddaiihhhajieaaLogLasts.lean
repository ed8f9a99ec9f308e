/- The walk of LogLasts. -/
import Derived.Test.YtddaiihhhajieaaLogKept
namespace Go.Proofs.Ytddaiihhhajieaa
open Go.RowKit Go.Maps

/-- what the last call comes to, behind a loss of power: a its answer, r what is opened then -/
theorem lasts_pure {D : Dk} {L : Lg} {all l : List ByteArray} {n : Nat} (h : Calm D L all n) (hn : n < 1000000) (x0 : Int) (renew : Bool) (keep : Int) (torn : Bool) :
    ∃ a D2 L2, (if renew = true then renewL (D.armed x0) L l else appendL (D.armed x0) L l) = (a, D2, L2) ∧
      ((a = 0 ∧ (opened (D2.restart keep torn)).2 = if renew = true then l else all ++ l) ∨ (a = 20 ∧ (opened (D2.restart keep torn)).2 = all) ∨
       (a = 21 ∧ ((opened (D2.restart keep torn)).2 = all ∨ (opened (D2.restart keep torn)).2 = if renew = true then l else all ++ l))) := by
  have hk := keeps_armed h.keeps x0
  have harm : -1 ≤ (D.armed x0).arm := by show -1 ≤ max x0 (-1); omega
  have he : L.epoch + 1 < 4294967296 := by have := h.epoch; omega
  cases renew
  · rw [if_neg (by simp), if_neg (by simp)]
    have hs := append_says hk harm he l
    obtain ⟨⟨a, D2, L2⟩, hr⟩ : ∃ r, r = appendL (D.armed x0) L l := ⟨_, rfl⟩
    rw [← hr] at hs ⊢
    refine ⟨a, D2, L2, rfl, ?_⟩
    rcases hs with ⟨h1, h2, _⟩ | h1 | ⟨h1, _, h3⟩
    · exact .inl ⟨h1, by rw [keeps_opened (keeps_restart h2 keep torn)]⟩
    · injection h1 with e1 e2
      injection e2 with e2 e3
      refine .inr (.inl ⟨e1, ?_⟩)
      rw [e2, keeps_opened (keeps_restart hk keep torn)]
    · exact .inr (.inr ⟨h1, h3 keep torn⟩)
  · rw [if_pos rfl, if_pos rfl]
    have hs := renew_says hk harm he l
    obtain ⟨⟨a, D2, L2⟩, hr⟩ : ∃ r, r = renewL (D.armed x0) L l := ⟨_, rfl⟩
    rw [← hr] at hs ⊢
    refine ⟨a, D2, L2, rfl, ?_⟩
    rcases hs with ⟨h1, h2, _⟩ | h1 | ⟨h1, _, h3⟩
    · exact .inl ⟨h1, by rw [keeps_opened (keeps_restart h2 keep torn)]⟩
    · injection h1 with e1 e2
      injection e2 with e2 e3
      refine .inr (.inl ⟨e1, ?_⟩)
      rw [e2, keeps_opened (keeps_restart hk keep torn)]
    · exact .inr (.inr ⟨h1, h3 keep torn⟩)

set_option maxHeartbeats 12000000 in
set_option maxRecDepth 200000 in
theorem lasts_walk {w : World} (gv mv : Value) (gs : List (List ByteArray)) (last : List ByteArray) (hgv : IsGroups w gv gs) (hmv : IsStrs w mv last) (x0 x1 x2 : Int) (i0 : I64 x0) : Calls Try.prog 12 #[gv, mv, .agg #[.int .i64 x0, .int .i64 x1, .int .i64 x2]] w (Fine w) := by
  obtain ⟨A, c, rfl, hc, hm, hx⟩ := hgv
  obtain ⟨w1, hw1⟩ : ∃ x, x = w.alloc (.cells #[.int .i64 x0, .int .i64 x1, .int .i64 x2] 69) := ⟨_, rfl⟩
  have hb0 : Below w.heap.size w w1 := by rw [hw1]; exact (Below.refl _ _).alloc (Nat.le_refl _) _
  have hbk : Blk w1 w.heap.size 69 #[.int .i64 x0, .int .i64 x1, .int .i64 x2] := by rw [hw1]; exact Blk.new w 69 _
  have HMV := Lib.hid (fun (W : World) (hb : Below w1.heap.size w1 W) => hmv.below EStr.stays (hb0.trans (hb.mono hb0.size)))
  have HX := Lib.hid hx
  have KC : Hid (∀ W, Below w1.heap.size w1 W → W.cell? ⟨w.heap.size, 0, none⟩ = some (.int .i64 x0) ∧ W.cell? ⟨w.heap.size, 1, none⟩ = some (.int .i64 x1) ∧ W.cell? ⟨w.heap.size, 2, none⟩ = some (.int .i64 x2)) := by
    intro W hb
    have h := hbk.below hb hbk.lt
    exact ⟨(h.cell 0).trans rfl, (h.cell 1).trans rfl, (h.cell 2).trans rfl⟩
  obtain ⟨N, hN⟩ : ∃ N, N = gs.length := ⟨_, rfl⟩
  rw [← hN] at hc ⊢
  have HN := Lib.hid hN
  have HC := Lib.hid (⟨hc, hm⟩ : _ ∧ _)
  have HI0 := Lib.hid i0
  have HA := Lib.hid awake19
  have HLm := Lib.hid (fun (W : World) (hb : Below w1.heap.size w1 W) => light_any mv last (HMV.out W hb))
  have HLg := Lib.hid (fun (W : World) v l (hv : IsStrs W v l) => light_any v l hv)
  have HNW := Lib.hid (fun W => st_new (w0 := w1) (w := W))
  have HO := Lib.hid (fun (W : World) (d n : Nat) (D : Dk) (L : Lg) (all : List ByteArray) (hd : DkD w1 W d D) (hk : Calm D L all n) => calm_open hd hk)
  have HB0 := Lib.hid hb0
  have HW1 := Lib.hid hw1
  have HFN := Lib.hid (fun (W : World) (hb : Below w1.heap.size w1 W) => HB0.out.trans (hb.mono HB0.out.size))
  clear hx hN hc hm hmv hb0 hbk hw1 i0
  go_enter Try.func12, Try.ntmps12
  go_wp2_with fail
  rw [← HW1.out]
  clear HW1
  refine (HA.out _).mono ?_
  rintro e1 w2 ⟨rfl, hb1⟩
  go_wp2_with (go_at_call 32; refine (HLm.out _ hb1).mono ?_)
  rintro e2 w2' ⟨b, rfl, hlt, rfl⟩
  obtain ⟨c0, c1, c2⟩ := KC.out _ hb1
  cases b with
  | false =>
    go_wp2_with fail
    go_ret
    exact ⟨rfl, HFN.out _ hb1⟩
  | true =>
    have HLT := Lib.hid (hlt rfl)
    clear hlt
    by_cases h12 : 12 < N
    · have q : (12 : Int) < (N : Int) := by omega
      go_wp2_with fail
      go_ret
      exact ⟨rfl, HFN.out _ hb1⟩
    have q : ¬ (12 : Int) < (N : Int) := by omega
    by_cases hx0 : x0 < 0
    · go_wp2_with fail
      go_ret
      exact ⟨rfl, HFN.out _ hb1⟩
    by_cases hx1 : x1 < 0
    · go_wp2_with fail
      go_ret
      exact ⟨rfl, HFN.out _ hb1⟩
    go_wp2_with (first
      | (go_at_call 18; refine (HNW.out _ hb1).mono ?_; rintro e3 w3 ⟨d, rfl, hd⟩)
      | (go_at_call 33; refine (HO.out _ _ _ _ _ _ hd calm_zero).mono ?_; rintro e4 w4 ⟨g, v, rfl, hst, ho4, hb4⟩; obtain ⟨A4, c4, rfl, hc4⟩ := own_form ho4; have HST := Lib.hid hst; clear hb1 hd hb4 hst ho4))
    clear c0 c1 c2
    obtain ⟨i0', hi, hz0, hz1, hz2⟩ := info_parts Try.info9
    go_loopw [13, 14] (fun av iv wr => ∃ i D L all, i ≤ N ∧ iv = .int .i64 (i : Nat) ∧ StK w1 wr d g D L av all ∧ Calm D L all i ∧ D.turns = 0) (fun _ iv _ => N - (intOf iv).toNat)
    case atStart => exact ⟨0, Dk.new, Lg.none, [], Nat.zero_le _, rfl, stk_nil HST.out, calm_zero, rfl⟩
    case round =>
      obtain ⟨i, D, L, all, hi', rfl, hst, hcalm, hturn⟩ := hrel
      clear HST
      obtain ⟨Aa, ca, rfl, _⟩ := own_form hst.row
      by_cases hlt : i < N
      · obtain ⟨b, off, rfl, ev, he1, he2⟩ := HX.out i (by rw [← HN.out]; exact hlt)
        rw [Nat.mul_one] at he1
        have hbw := HFN.out _ hst.bel
        have x00 := cell_stays he1 hbw
        have hev := he2.below EStr.stays hbw
        have h32 := HLg.out _ _ _ hev
        obtain ⟨l, hl⟩ : ∃ l, l = gs[i]'(by rw [← HN.out]; exact hlt) := ⟨_, rfl⟩
        rw [← hl] at h32 hev
        have HEV : Hid (∀ W, Below wr.heap.size wr W → IsStrs W ev l) := fun W hb => hev.below EStr.stays hb
        have HEW : Hid (∀ W, Below w.heap.size w W → IsStrs W ev l) := by
          intro W hb
          rw [hl]
          exact he2.below EStr.stays hb
        have HE1 := Lib.hid he1
        obtain ⟨A5, c5, rfl, _⟩ := he2
        have H32 := Lib.hid h32
        have q2 : (i : Int) < (N : Int) := by omega
        have HS := Lib.hid hst
        have HK := Lib.hid hcalm
        have HT := Lib.hid hturn
        clear he1 h32 hev hst hcalm hl hbw hturn
        go_wp2_with (go_at_call 32; refine H32.out.mono ?_)
        rintro e5 w5 ⟨b2, rfl, hlt2, rfl⟩
        cases b2 with
        | false =>
          go_wp2_with fail
          go_ret
          exact ⟨rfl, HFN.out _ HS.out.bel⟩
        | true =>
          have HLL := Lib.hid (hlt2 rfl)
          clear hlt2
          have HLEN : Hid (all.length + l.length ≤ maxLen ∧ (all.length + l.length) * 16 ≤ 140737488355328) := by
            have h1 := HK.out.long
            have h2 := HLL.out.1
            have h3 : all.length ≤ 240000 := by omega
            refine ⟨?_, ?_⟩
            · unfold maxLen; omega
            · omega
          have h34 := stk_append HS.out HK.out.keeps.wait0 (HK.out.fine (by omega)) _ _ (HEV.out _ (Below.refl _ _)) (by have := HLL.out.1; omega)
          obtain ⟨D', L', all', hap, hcalm'⟩ := calm_append HK.out (by omega) HLL.out
          have ht' := append_turns D L l
          rcases hap with ⟨ha, hall⟩ | ⟨ha, hDD, hLL, -⟩
          · rw [ha] at h34 ht'
            simp only at h34 ht'
            have H34 := Lib.hid h34
            have HK' := Lib.hid hcalm'
            have HAL := Lib.hid hall
            have HT' := Lib.hid (ht'.trans HT.out)
            clear h34 ha hcalm' hall ht'
            go_wp2_with (first
              | (go_at_call 34; refine H34.out.mono ?_; rintro e6 w6 ⟨rfl, hs6⟩; have HS6 := Lib.hid hs6; have HY := Lib.hid (yields_strs (HEW.out _ (HFN.out _ hs6.bel))); have z0 := cell_stays HE1.out (HFN.out _ hs6.bel); clear hs6)
              | (at_builtin; refine wpList_append_src rfl (.tmp 87) (.tmp 91) 51 rfl w1.heap.size 9 i0' _ 1 16 Try.underlying51 hi hz0 hz1 hz2 rfl (by decide) _ all.length _ rfl HS6.out.row _ l.length _ rfl HY.out (strsV_one l) HLEN.out.1 HLEN.out.2 HS6.out.bel.size ?_; intro v7 w7 ho7 hg7 hb7))
            go_roundw
            case rel =>
              refine ⟨i + 1, D', L', all', by omega, by go_num, stk_grown HS6.out hg7 hb7 ?_, HK'.out, HT'.out⟩
              rw [HAL.out, List.length_append, ← strsV_append]
              exact ho7
            case measure => simp [intOf]; omega
          · rw [ha, hDD, hLL] at h34
            simp only at h34
            have H34 := Lib.hid h34
            have h38 := fun (W : World) (hs : StK w1 W d g D L (.slice Aa all.length ca) all) => stk_renew hs HK.out.keeps.wait0 (HK.out.fine (by omega)) _ l (HEW.out _ (HFN.out _ hs.bel)) (by have := HLL.out.1; omega)
            obtain ⟨D'', L'', hre⟩ := calm_renew HK.out (by omega) HLL.out
            have ht'' := renew_turns D L l
            rcases hre with ⟨hr, hk''⟩ | ⟨hr, hDD', hLL'⟩
            · rw [hr] at h38 ht''
              simp only at h38 ht''
              have H38 := Lib.hid h38
              have HK'' := Lib.hid hk''
              have HT'' := Lib.hid (ht''.trans HT.out)
              have HL0 := Lib.hid (show 0 + l.length ≤ maxLen ∧ (0 + l.length) * 16 ≤ 140737488355328 by rw [Nat.zero_add]; have := HLEN.out; exact ⟨by omega, by omega⟩)
              clear h34 h38 ha hcalm' hDD hLL ht' hr hk'' ht''
              go_wp2_with (first
                | (go_at_call 34; refine H34.out.mono ?_; rintro e6 w6 ⟨rfl, hs6⟩; have HS6 := Lib.hid hs6; have z0 := cell_stays HE1.out (HFN.out _ hs6.bel); clear hs6)
                | (go_at_call 38; refine (H38.out _ HS6.out).mono ?_; rintro e8 w8 ⟨rfl, hs8⟩; have HS8 := Lib.hid (stk_nil hs8.st); have HY := Lib.hid (yields_strs (HEW.out _ (HFN.out _ hs8.bel))); have z1 := cell_stays HE1.out (HFN.out _ hs8.bel); clear hs8)
                | (at_builtin; refine wpList_append_src rfl (.tmp 87) (.tmp 91) 51 rfl w1.heap.size 9 i0' _ 1 16 Try.underlying51 hi hz0 hz1 hz2 rfl (by decide) _ 0 _ rfl HS8.out.row _ l.length _ rfl HY.out (strsV_one l) HL0.out.1 HL0.out.2 HS8.out.bel.size ?_; intro v7 w7 ho7 hg7 hb7))
              go_roundw
              case rel =>
                refine ⟨i + 1, D'', L'', l, by omega, by go_num, stk_grown HS8.out hg7 hb7 ?_, HK''.out, HT''.out⟩
                rw [Nat.zero_add] at ho7
                exact ho7
              case measure => simp [intOf]; omega
            · rw [hr, hDD', hLL'] at h38
              simp only at h38
              have H38 := Lib.hid h38
              clear h34 h38 ha hcalm' hDD hLL ht' hr ht'' hDD' hLL'
              go_wp2_with (first
                | (go_at_call 34; refine H34.out.mono ?_; rintro e6 w6 ⟨rfl, hs6⟩; have HS6 := Lib.hid hs6; have z0 := cell_stays HE1.out (HFN.out _ hs6.bel); clear hs6)
                | (go_at_call 38; refine (H38.out _ HS6.out).mono ?_; rintro e8 w8 ⟨rfl, hs8⟩; have HS8 := Lib.hid hs8; clear hs8))
              go_roundw
              case rel => exact ⟨i + 1, D, L, all, by omega, by go_num, HS8.out, HK.out.more, HT.out⟩
              case measure => simp [intOf]; omega
      · obtain rfl : i = N := by omega
        have q2 : ¬ (i : Int) < (i : Int) := by omega
        obtain ⟨torn, htorn⟩ : ∃ b, b = (x2.tmod 3 == 0) := ⟨_, rfl⟩
        obtain ⟨rn, hrn⟩ : ∃ b, b = (x2.tmod 2 == 0) := ⟨_, rfl⟩
        have hI := HI0.out.2
        obtain ⟨a, D2, L2, heq, hout⟩ := lasts_pure (l := last) hcalm (by omega) x0 rn x1 torn
        subst htorn
        have hfine := hcalm.fine (by omega)
        have hw0 : (D.armed x0).wait.length < 1000000000000 := hcalm.keeps.wait0
        have hfull : Full (D2.restart x1 (x2.tmod 3 == 0)) := by
          have h1 := full_renewL (full_armed hcalm.full x0) L last
          have h2 := full_appendL (full_armed hcalm.full x0) L last
          cases rn
          · rw [if_neg (by simp)] at heq
            rw [heq] at h2
            exact full_restart h2 x1 _
          · rw [if_pos rfl] at heq
            rw [heq] at h1
            exact full_restart h1 x1 _
        have hw2 : D2.wait.length < 1000000000000 ∧ D2.turns < 1000000000000 := by
          have h1 := renew_wait (D.armed x0) L last
          have h2 := append_wait (D.armed x0) L last
          have h3 := renew_turns (D.armed x0) L last
          have h4 := append_turns (D.armed x0) L last
          have h5 : (D.armed x0).wait.length = 0 := by show D.wait.length = 0; rw [hcalm.keeps.live.wait]; rfl
          have h6 : (D.armed x0).turns = 0 := hturn
          cases rn
          · rw [if_neg (by simp)] at heq
            rw [heq] at h2 h4
            simp only at h2 h4
            omega
          · rw [if_pos rfl] at heq
            rw [heq] at h1 h3
            simp only at h1 h3
            omega
        have H26 := Lib.hid (fun (W : World) (hs : StK w1 W d g D L (.slice Aa all.length ca) all) => stk_left (R := fun e => e = .returned (.tuple #[])) hs (fun F h => arm_any d F D x0 hI W h))
        have H34 := Lib.hid (fun (W : World) (hs : StK w1 W d g (D.armed x0) L (.slice Aa all.length ca) all) => stk_append hs hw0 hfine mv last (HMV.out _ hs.bel) (by have := HLT.out.1; omega))
        have H38 := Lib.hid (fun (W : World) (hs : StK w1 W d g (D.armed x0) L (.slice Aa all.length ca) all) => stk_renew hs hw0 hfine mv last (HMV.out _ hs.bel) (by have := HLT.out.1; omega))
        have H21 := Lib.hid (fun (W : World) (hs : StK w1 W d g D2 L2 (.slice Aa all.length ca) all) => stk_left (R := fun e => e = .returned (.tuple #[])) hs (fun F h => restart_any d F D2 x1 (x2.tmod 3 == 0) W h (by omega) (by omega)))
        obtain ⟨D3, hD3⟩ : ∃ X, X = D2.restart x1 (x2.tmod 3 == 0) := ⟨_, rfl⟩
        have hoff : D3.off = false := by rw [hD3]; rfl
        have hwait3 : D3.wait.length < 1000000000000 := by rw [hD3]; show 0 < _; omega
        rw [← hD3] at hfull hout H21
        have H33 := Lib.hid (fun (W : World) (hd : DkD w1 W d D3) => st_open hd hwait3 hfull hoff)
        obtain ⟨R, hR⟩ : ∃ R, R = (opened D3).2 := ⟨_, rfl⟩
        rw [← hR] at hout H33
        have HLEN : Hid (0 + all.length ≤ maxLen ∧ (0 + all.length) * 16 ≤ 140737488355328 ∧ all.length + last.length ≤ maxLen ∧ (all.length + last.length) * 16 ≤ 140737488355328) := by
          have h1 := hcalm.long
          have h2 := HLT.out.1
          have h3 : all.length ≤ 240000 := by omega
          unfold maxLen
          refine ⟨?_, ?_, ?_, ?_⟩ <;> omega
        obtain ⟨now, hnow⟩ : ∃ now, now = all ++ last := ⟨_, rfl⟩
        have HLA := Lib.hid (show all.length + last.length = now.length by rw [hnow, List.length_append])
        have HNW2 := Lib.hid hnow
        obtain ⟨b1, hb1⟩ : ∃ b, b = decide (R = all) := ⟨_, rfl⟩
        obtain ⟨b2, hb2⟩ : ∃ b, b = decide (R = if rn = true then last else now) := ⟨_, rfl⟩
        have hfin : (a = 0 ∧ b2 = true) ∨ (a = 20 ∧ b1 = true) ∨ (a = 21 ∧ b1 = true) ∨ (a = 21 ∧ b1 = false ∧ b2 = true) := by
          rw [← hnow] at hout
          rcases hout with ⟨h1, h2⟩ | ⟨h1, h2⟩ | ⟨h1, h2 | h2⟩
          · exact .inl ⟨h1, by rw [hb2]; exact decide_eq_true h2⟩
          · exact .inr (.inl ⟨h1, by rw [hb1]; exact decide_eq_true h2⟩)
          · exact .inr (.inr (.inl ⟨h1, by rw [hb1]; exact decide_eq_true h2⟩))
          · cases hh : b1 with
            | true => exact .inr (.inr (.inl ⟨h1, rfl⟩))
            | false => exact .inr (.inr (.inr ⟨h1, rfl, by rw [hb2]; exact decide_eq_true h2⟩))
        have H37 := Lib.hid (fun (W : World) u v (hu : IsStrs0 W u R) (hv : IsStrs0 W v all) => by
          have h := same_any u v R all hu hv
          rw [← hb1] at h
          exact h)
        have H37' := Lib.hid (fun (W : World) u v (hu : IsStrs0 W u R) (hv : IsStrs0 W v (if rn = true then last else now)) => by
          have h := same_any u v R _ hu hv
          rw [← hb2] at h
          exact h)
        have HS := Lib.hid hst
        have HRN := Lib.hid hrn
        obtain ⟨c0, c1, c2⟩ := KC.out _ hst.bel
        clear hst hcalm hturn hI hout hfine hw0 hfull hw2 hoff hwait3 hD3 hR hb1 hb2 hnow hlt hrn
        cases rn with
        | true =>
          rw [if_pos rfl] at heq
          rw [heq] at H38
          simp only at H38
          have hq := HRN.out.symm
          have H37b : Hid (∀ (W : World) u v, IsStrs0 W u R → IsStrs0 W v last → Calls Try.prog 37 #[u, v] W fun e w' => e = .returned (.bool b2) ∧ Below W.heap.size W w') := H37'
          clear heq HRN H34 H37'
          rcases hfin with ⟨rfl, rfl⟩ | ⟨rfl, rfl⟩ | ⟨rfl, rfl⟩ | ⟨rfl, rfl, rfl⟩
          all_goals
            go_wp2_with (first
              | (go_at_call 26; refine (H26.out _ HS.out).mono ?_; rintro e2 w2 ⟨rfl, hs2⟩; have HS2 := Lib.hid hs2; obtain ⟨c0, c1, c2⟩ := KC.out _ hs2.bel; clear hs2)
              | (go_at_call 38; refine (H38.out _ HS2.out).mono ?_; rintro e3 w3 ⟨rfl, hs3⟩; have HS3 := Lib.hid hs3; obtain ⟨c0, c1, c2⟩ := KC.out _ hs3.bel; clear hs3)
              | (go_at_call 21; refine (H21.out _ HS3.out).mono ?_; rintro e4 w4 ⟨rfl, hs4⟩; have HS4 := Lib.hid hs4; clear hs4)
              | (go_at_call 33; refine (H33.out _ HS4.out.st.dk).mono ?_; rintro e5 w5 ⟨g5, v5, rfl, hs5, ho5, hb5⟩; obtain ⟨A5, c5, rfl, _⟩ := own_form ho5; have HS5 := Lib.hid (HS4.out.below hb5); have HO5 := Lib.hid ho5; have HR5 := Lib.hid (base_zero (own_below HS5.out.row ((Below.refl w5.heap.size w5).alloc (Nat.le_refl _) (.cells #[] 9)))); clear hs5 ho5 hb5)
              | (at_builtin; refine wpList_append_src rfl (.tmp 128) (.tmp 129) 51 rfl w5.heap.size 9 i0' _ 1 16 Try.underlying51 hi hz0 hz1 hz2 rfl (by decide) _ 0 [] rfl (own_none9 w5) _ all.length _ rfl (Yields.of_own HR5.out) (strsV_one all) HLEN.out.1 HLEN.out.2.1 (by simp) ?_; intro v13 w13 ho13 hg13 hl13; have HB13 := Lib.hid (((Below.refl w5.heap.size w5).alloc (Nat.le_refl _) (.cells #[] 9)).grown hg13 (by simp) (fun k hk => by cases hk; exact Nat.le_refl _)); have HO13 := Lib.hid (show w13.ownsRow w5.heap.size 9 1 v13 all.length (strsV all) by rw [Nat.zero_add] at ho13; exact ho13); obtain ⟨A13, c13, rfl, hc13⟩ := own_form HO13.out; have HMV13 := Lib.hid (yields_strs (HMV.out _ (HS5.out.bel.trans (HB13.out.mono HS5.out.bel.size)))); clear ho13 hg13 hl13)
              | (at_builtin; refine wpList_append_src rfl (.tmp 130) (.tmp 131) 51 rfl w5.heap.size 9 i0' _ 1 16 Try.underlying51 hi hz0 hz1 hz2 rfl (by decide) _ all.length _ rfl HO13.out _ last.length _ rfl HMV13.out (strsV_one last) HLEN.out.2.2.1 HLEN.out.2.2.2 HB13.out.size ?_; intro v14 w14 ho14 hg14 hl14; have HB14 := Lib.hid (HB13.out.grown hg14 HB13.out.size (fun k hk => (HO13.out.lt k hk).1)); have HO14 := Lib.hid (show w14.ownsRow w5.heap.size 9 1 v14 (all.length + last.length) (strsV now) by rw [HNW2.out, ← strsV_append]; exact ho14); have HR14 := Lib.hid (own_below HO5.out HB14.out); have HA14 := Lib.hid (own_below HS5.out.row HB14.out); obtain ⟨A14, c14, rfl, hc14⟩ := own_form HO14.out; clear ho14 hg14 hl14)
              | (go_at_call 37; refine (H37b.out _ _ _ (isStrs0_own HR16.out rfl) (isStrs0_of (HMV.out _ HB16.out))).mono ?_; rintro e17 w17 ⟨rfl, hb17⟩; have HB17 := Lib.hid (HB16.out.trans (hb17.mono HB16.out.size)))
              | (go_at_call 37; refine (H37.out _ _ _ (isStrs0_own HR14.out rfl) (isStrs0_own HA14.out rfl)).mono ?_; rintro e16 w16 ⟨rfl, hb16⟩; have HR16 := Lib.hid (own_below HR14.out hb16); have HN16 := Lib.hid (own_below HO14.out hb16); have HB16 := Lib.hid (HS5.out.bel.trans ((HB14.out.trans (hb16.mono HB14.out.size)).mono HS5.out.bel.size))))
            all_goals
              go_ret
              exact ⟨rfl, HFN.out _ HB17.out⟩
        | false =>
          rw [if_neg (by simp)] at heq
          rw [heq] at H34
          simp only at H34
          have hq := HRN.out.symm
          have H37b : Hid (∀ (W : World) u v, IsStrs0 W u R → IsStrs0 W v now → Calls Try.prog 37 #[u, v] W fun e w' => e = .returned (.bool b2) ∧ Below W.heap.size W w') := H37'
          clear heq HRN H38 H37'
          rcases hfin with ⟨rfl, rfl⟩ | ⟨rfl, rfl⟩ | ⟨rfl, rfl⟩ | ⟨rfl, rfl, rfl⟩
          all_goals
            go_wp2_with (first
              | (go_at_call 26; refine (H26.out _ HS.out).mono ?_; rintro e2 w2 ⟨rfl, hs2⟩; have HS2 := Lib.hid hs2; obtain ⟨c0, c1, c2⟩ := KC.out _ hs2.bel; clear hs2)
              | (go_at_call 34; refine (H34.out _ HS2.out).mono ?_; rintro e3 w3 ⟨rfl, hs3⟩; have HS3 := Lib.hid hs3; obtain ⟨c0, c1, c2⟩ := KC.out _ hs3.bel; clear hs3)
              | (go_at_call 21; refine (H21.out _ HS3.out).mono ?_; rintro e4 w4 ⟨rfl, hs4⟩; have HS4 := Lib.hid hs4; clear hs4)
              | (go_at_call 33; refine (H33.out _ HS4.out.st.dk).mono ?_; rintro e5 w5 ⟨g5, v5, rfl, hs5, ho5, hb5⟩; obtain ⟨A5, c5, rfl, _⟩ := own_form ho5; have HS5 := Lib.hid (HS4.out.below hb5); have HO5 := Lib.hid ho5; have HR5 := Lib.hid (base_zero (own_below HS5.out.row ((Below.refl w5.heap.size w5).alloc (Nat.le_refl _) (.cells #[] 9)))); clear hs5 ho5 hb5)
              | (at_builtin; refine wpList_append_src rfl (.tmp 128) (.tmp 129) 51 rfl w5.heap.size 9 i0' _ 1 16 Try.underlying51 hi hz0 hz1 hz2 rfl (by decide) _ 0 [] rfl (own_none9 w5) _ all.length _ rfl (Yields.of_own HR5.out) (strsV_one all) HLEN.out.1 HLEN.out.2.1 (by simp) ?_; intro v13 w13 ho13 hg13 hl13; have HB13 := Lib.hid (((Below.refl w5.heap.size w5).alloc (Nat.le_refl _) (.cells #[] 9)).grown hg13 (by simp) (fun k hk => by cases hk; exact Nat.le_refl _)); have HO13 := Lib.hid (show w13.ownsRow w5.heap.size 9 1 v13 all.length (strsV all) by rw [Nat.zero_add] at ho13; exact ho13); obtain ⟨A13, c13, rfl, hc13⟩ := own_form HO13.out; have HMV13 := Lib.hid (yields_strs (HMV.out _ (HS5.out.bel.trans (HB13.out.mono HS5.out.bel.size)))); clear ho13 hg13 hl13)
              | (at_builtin; refine wpList_append_src rfl (.tmp 130) (.tmp 131) 51 rfl w5.heap.size 9 i0' _ 1 16 Try.underlying51 hi hz0 hz1 hz2 rfl (by decide) _ all.length _ rfl HO13.out _ last.length _ rfl HMV13.out (strsV_one last) HLEN.out.2.2.1 HLEN.out.2.2.2 HB13.out.size ?_; intro v14 w14 ho14 hg14 hl14; have HB14 := Lib.hid (HB13.out.grown hg14 HB13.out.size (fun k hk => (HO13.out.lt k hk).1)); have HO14 := Lib.hid (show w14.ownsRow w5.heap.size 9 1 v14 (all.length + last.length) (strsV now) by rw [HNW2.out, ← strsV_append]; exact ho14); have HR14 := Lib.hid (own_below HO5.out HB14.out); have HA14 := Lib.hid (own_below HS5.out.row HB14.out); obtain ⟨A14, c14, rfl, hc14⟩ := own_form HO14.out; clear ho14 hg14 hl14)
              | (go_at_call 37; refine (H37b.out _ _ _ (isStrs0_own HR16.out rfl) (isStrs0_own HN16.out HLA.out)).mono ?_; rintro e17 w17 ⟨rfl, hb17⟩; have HB17 := Lib.hid (HB16.out.trans (hb17.mono HB16.out.size)))
              | (go_at_call 37; refine (H37.out _ _ _ (isStrs0_own HR14.out rfl) (isStrs0_own HA14.out rfl)).mono ?_; rintro e16 w16 ⟨rfl, hb16⟩; have HR16 := Lib.hid (own_below HR14.out hb16); have HN16 := Lib.hid (own_below HO14.out hb16); have HB16 := Lib.hid (HS5.out.bel.trans ((HB14.out.trans (hb16.mono HB14.out.size)).mono HS5.out.bel.size))))
            all_goals
              go_ret
              exact ⟨rfl, HFN.out _ HB17.out⟩
theorem lasts_law {w : World} (v0 : Value) (l0 : List (List ByteArray)) (h0 : IsGroups w v0 l0) (v1 : Value) (l1 : List ByteArray) (h1 : IsStrs w v1 l1) (x y z : Int) (i : I64 x) (_ : I64 y) (_ : I64 z) : Calls Try.prog 12 #[v0, v1, .agg #[.int .i64 x, .int .i64 y, .int .i64 z]] w (Fine w) := lasts_walk v0 v1 l0 l1 h0 h1 x y z i
end Go.Proofs.Ytddaiihhhajieaa
