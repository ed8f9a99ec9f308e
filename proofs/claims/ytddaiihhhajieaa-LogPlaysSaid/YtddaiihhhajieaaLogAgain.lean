/- The walk of LogAgain. -/
import Derived.Test.YtddaiihhhajieaaLogSame
namespace Go.Proofs.Ytddaiihhhajieaa
open Go.RowKit Go.Maps

/-- what stands behind some calls without a loss of power: n of them -/
structure Calm (D : Dk) (L : Lg) (all : List ByteArray) (n : Nat) : Prop where
  keeps : Keeps D L all
  full : Full D
  arm : D.arm = -1
  epoch : L.epoch ≤ n
  long : all.length ≤ n * 20000
theorem calm_zero : Calm Dk.new Lg.none [] 0 := ⟨keeps_new, full_new, rfl, Nat.le_refl _, Nat.le_refl _⟩
theorem calm_append {D : Dk} {L : Lg} {all : List ByteArray} {n : Nat} (h : Calm D L all n) (hn : n < 1000000) {l : List ByteArray} (hl : IsLight l) :
    ∃ D' L' all', (appendL D L l = (0, D', L') ∧ all' = all ++ l ∨ appendL D L l = (20, D', L') ∧ D' = D ∧ L' = L ∧ all' = all) ∧ Calm D' L' all' (n + 1) := by
  obtain ⟨h1, h2, h3, h4, h5⟩ := h
  have hf := full_appendL h2 L l
  rcases append_says h1 (by omega) (by omega) l with ⟨k1, k2, k3, k4⟩ | k1 | ⟨k1, k2, k3⟩
  · obtain ⟨⟨a, D', L'⟩, hr⟩ : ∃ r, r = appendL D L l := ⟨_, rfl⟩
    rw [← hr] at k1 k2 k3 k4 hf
    simp only at k1 k2 k3 k4 hf
    subst k1
    refine ⟨D', L', all ++ l, .inl ⟨hr.symm, rfl⟩, k2, hf, k4 h3, by omega, ?_⟩
    have := hl.1
    rw [List.length_append, Nat.add_mul]
    omega
  · exact ⟨D, L, all, .inr ⟨k1, rfl, rfl, rfl⟩, h1, h2, h3, by omega, Nat.le_trans h5 (Nat.mul_le_mul_right _ (Nat.le_succ n))⟩
  · exact absurd h3 k2
theorem Calm.fine {D : Dk} {L : Lg} {all : List ByteArray} {n : Nat} (h : Calm D L all n) (hn : n < 1000000) : LgFine L := h.keeps.lgFine (by have := h.epoch; omega)
theorem calm_open {w0 w : World} {d n : Nat} {D : Dk} {L : Lg} {all : List ByteArray} (h : DkD w0 w d D) (hk : Calm D L all n) : Calls Try.prog 33 #[.pointer (some ⟨d, 0, none⟩)] w fun e w' => ∃ g v, e = .returned (.tuple #[.pointer (some ⟨g, 0, none⟩), v, .int .i64 0]) ∧
    StD w0 w' d g D L ∧ w'.ownsRow w.heap.size 9 1 v all.length (strsV all) ∧ Below w.heap.size w w' := st_keep h hk.keeps hk.full

theorem open_raw {w : World} {d n : Nat} {F : Foot} {D : Dk} {L : Lg} {all : List ByteArray} (h : IsDisk w d F D) (hk : Calm D L all n) : Calls Try.prog 33 #[.pointer (some ⟨d, 0, none⟩)] w fun e w' => ∃ g v, e = .returned (.tuple #[.pointer (some ⟨g, 0, none⟩), v, .int .i64 0]) ∧
    Below w.heap.size w w' ∧ w.heap.size ≤ g ∧ LogAt w' g d L ∧ w'.ownsRow w.heap.size 9 1 v all.length (strsV all) := by
  have h := lopen_any d F D w h (by have := hk.keeps.wait0; omega) hk.full.whole hk.keeps.live.off
  rw [keeps_opened hk.keeps] at h
  exact h
theorem own_below {w w' : World} {base n : Nat} {v : Value} {xs : List Value} (h : w.ownsRow base 9 1 v n xs) (hb : Below w.heap.size w w') : w'.ownsRow base 9 1 v n xs := own_stay h fun k hk => hb.block k (own_lt h k hk)

theorem own_none9 (w : World) : (w.alloc (.cells #[] 9)).ownsRow w.heap.size 9 1 (.slice (some ⟨w.heap.size, 0, none⟩) 0 0) 0 [] :=
  ⟨rfl, .inr ⟨_, 0, #[], rfl, Nat.le_refl _, heap_alloc_new w _, Nat.le_refl _, Nat.zero_le _, rfl, rfl⟩⟩
theorem yields_strs {w : World} {v : Value} {l : List ByteArray} (h : IsStrs w v l) : Yields w 1 v l.length (strsV l) := by
  obtain ⟨A, c, rfl, hc, hm, hx⟩ := h
  by_cases h0 : l = []
  · subst h0
    cases A with
    | none => exact .inl ⟨c, rfl, rfl, rfl⟩
    | some a => exact .inr ⟨a, c, rfl, rfl, fun j u hj => by simp [strsV] at hj⟩
  · obtain ⟨b, off, rfl, _⟩ := hx 0 (List.length_pos_iff.2 h0)
    refine .inr ⟨_, c, rfl, by simp [strsV], fun j u hj => ?_⟩
    have hj' : j < l.length := by
      have := (List.getElem?_eq_some_iff.1 hj).1
      simpa [strsV] using this
    obtain ⟨b', off', e, hx'⟩ := hx j hj'
    injection e with e
    injection e with e1 e2 e3
    subst e1; subst e2
    have hu : u = .string (l[j]) := by
      simp [strsV, hj'] at hj
      exact hj.symm
    rw [hu]
    have := hx'.1
    rw [Nat.mul_one] at this
    unfold Addr.add
    split
    · rename_i e0; subst e0; exact this
    · exact this
theorem strsV_one (l : List ByteArray) : ∀ u ∈ strsV l, u.oneCell' = true := by
  intro u hu
  obtain ⟨x, _, rfl⟩ := List.mem_map.1 hu
  rfl
theorem strsV_append (l m : List ByteArray) : strsV l ++ strsV m = strsV (l ++ m) := by unfold strsV; rw [List.map_append]
set_option maxHeartbeats 8000000 in
set_option maxRecDepth 200000 in
theorem again_walk {w : World} (gv mv : Value) (gs : List (List ByteArray)) (more : List ByteArray) (hgv : IsGroups w gv gs) (hmv : IsStrs w mv more) : Calls Try.prog 8 #[gv, mv] w (Fine w) := by
  obtain ⟨A, c, rfl, hc, hm, hx⟩ := hgv
  have HMV := Lib.hid hmv
  have HX := Lib.hid hx
  obtain ⟨N, hN⟩ : ∃ N, N = gs.length := ⟨_, rfl⟩
  rw [← hN] at hc ⊢
  have HN := Lib.hid hN
  have HC := Lib.hid (⟨hc, hm⟩ : _ ∧ _)
  have HA := Lib.hid awake19
  have HLm := Lib.hid (fun (W : World) (hb : Below w.heap.size w W) => light_any mv more (hmv.below EStr.stays hb))
  have HLg := Lib.hid (fun (W : World) v l (hv : IsStrs W v l) => light_any v l hv)
  have HNW := Lib.hid (fun W => st_new (w0 := w) (w := W))
  have HO := Lib.hid (fun (W : World) (d n : Nat) (D : Dk) (L : Lg) (all : List ByteArray) (hd : DkD w W d D) (hk : Calm D L all n) => calm_open hd hk)
  clear hx hN hc hm hmv
  go_enter Try.func8, Try.ntmps8
  go_wp2_with (first
    | (go_at_call 31; refine (HA.out _).mono ?_; rintro e1 w1 ⟨rfl, hb1⟩)
    | (go_at_call 32; refine (HLm.out _ hb1).mono ?_))
  rintro e2 w2 ⟨b, rfl, hlt, rfl⟩
  cases b with
  | false =>
    go_wp2_with fail
    go_ret
    exact ⟨rfl, hb1⟩
  | true =>
    have HLT := Lib.hid (hlt rfl)
    clear hlt
    by_cases h12 : 12 < N
    · have q : (12 : Int) < (N : Int) := by omega
      go_wp2_with fail
      go_ret
      exact ⟨rfl, hb1⟩
    · have q : ¬ (12 : Int) < (N : Int) := by omega
      go_wp2_with (first
        | (go_at_call 18; refine (HNW.out _ hb1).mono ?_; rintro e3 w3 ⟨d, rfl, hd⟩)
        | (go_at_call 33; refine (HO.out _ _ _ _ _ _ hd calm_zero).mono ?_; rintro e4 w4 ⟨g, v, rfl, hst, ho4, hb4⟩; obtain ⟨A4, c4, rfl, hc4⟩ := own_form ho4; have HST := Lib.hid hst; clear hb1 hd hb4 hst ho4))
      go_loopw [11] (fun iv wr => ∃ i D L all, i ≤ N ∧ iv = .int .i64 (i : Nat) ∧ StD w wr d g D L ∧ Calm D L all i) (fun iv _ => N - (intOf iv).toNat)
      case atStart => exact ⟨0, Dk.new, Lg.none, [], Nat.zero_le _, rfl, HST.out, calm_zero⟩
      case round =>
        obtain ⟨i, D, L, all, hi, rfl, hst, hcalm⟩ := hrel
        clear HST
        by_cases hlt : i < N
        · obtain ⟨b, off, rfl, ev, he1, he2⟩ := HX.out i (by rw [← HN.out]; exact hlt)
          rw [Nat.mul_one] at he1
          have x0 := cell_stays he1 hst.bel
          have hev := he2.below EStr.stays hst.bel
          have h32 := HLg.out _ _ _ hev
          obtain ⟨A5, c5, rfl, _⟩ := he2
          have H32 := Lib.hid h32
          have q2 : (i : Int) < (N : Int) := by omega
          have HEV := Lib.hid hev
          have HS := Lib.hid hst
          have HK := Lib.hid hcalm
          clear he1 h32 hev hst hcalm
          go_wp2_with (go_at_call 32; refine H32.out.mono ?_)
          rintro e5 w5 ⟨b2, rfl, hlt2, rfl⟩
          cases b2 with
          | false =>
            go_wp2_with fail
            go_ret
            exact ⟨rfl, HS.out.bel⟩
          | true =>
            have h34 := st_append HS.out HK.out.keeps.wait0 (HK.out.fine (by omega)) _ _ HEV.out (by have := (hlt2 rfl).1; omega)
            obtain ⟨D', L', all', hap, hcalm'⟩ := calm_append HK.out (by omega) (hlt2 rfl)
            have hap' : ∃ a, appendL D L (gs[i]'(by rw [← HN.out]; exact hlt)) = (a, D', L') := by
              rcases hap with ⟨h1, _⟩ | ⟨h1, _⟩
              · exact ⟨_, h1⟩
              · exact ⟨_, h1⟩
            obtain ⟨a, ha⟩ := hap'
            rw [ha] at h34
            have H34 := Lib.hid h34
            have HK' := Lib.hid hcalm'
            clear h34 hap ha hcalm' hlt2
            go_wp2_with (go_at_call 34; refine H34.out.mono ?_; rintro e6 w6 ⟨rfl, hs6⟩)
            go_roundw
            case rel => exact ⟨i + 1, D', L', all', by omega, by go_num, hs6, HK'.out⟩
            case measure => simp [intOf]; omega
        · obtain rfl : i = N := by omega
          have q2 : ¬ (i : Int) < (i : Int) := by omega
          have hpos := hcalm.keeps.pos
          have r1 : (L.pos : Int) ≤ 256 := by omega
          obtain ⟨F, hd, hl, hnf, hF0, hg0, hbel⟩ := hst
          have hFl := hd.lt
          have HR := Lib.hid (fun (W : World) (g : Nat) (hs : LogAt W g d L) => room_any g d L W hs hpos)
          have HE := Lib.hid (fun (W : World) (g : Nat) (hs : LogAt W g d L) => epoch_any g d L W hs)
          have HO2 := Lib.hid (fun (W : World) (hb : Below wr.heap.size wr W) => open_raw (hd.below hb) hcalm)
          have H37 : Hid (∀ (W : World) u v, IsStrs0 W u all → IsStrs0 W v all → Calls Try.prog 37 #[u, v] W fun e w' => e = .returned (.bool true) ∧ Below W.heap.size W w') := by
            intro W u v hu hv
            have h := same_any u v all all hu hv
            rw [decide_eq_true (rfl : all = all)] at h
            exact h
          have HD := Lib.hid hd
          have HL := Lib.hid hl
          have HK := Lib.hid hcalm
          have HF := Lib.hid (⟨hF0, hFl⟩ : _ ∧ _)
          have HB := Lib.hid hbel
          clear hd hl hnf hF0 hg0 hbel hFl hcalm hpos hlt
          go_wp2_with (first
            | (go_at_call 35; refine (HR.out _ _ HL.out).mono ?_; rintro e6 w6 ⟨rfl, rfl⟩)
            | (go_at_call 36; refine (HE.out _ _ HL.out).mono ?_; rintro e7 w7 ⟨rfl, rfl⟩)
            | (go_at_call 33; refine (HO2.out _ (Below.refl _ _)).mono ?_; rintro e8 w8 ⟨g8, v8, rfl, hb8, hg8, hl8, ho8⟩; obtain ⟨A8, c8, rfl, hc8⟩ := own_form ho8; have HL8 := Lib.hid hl8; have HO8 := Lib.hid ho8; have HB8 := Lib.hid hb8; clear hl8 ho8 hb8))
          go_wp2_with (first
            | (go_at_call 35; refine (HR.out _ _ HL8.out).mono ?_; rintro e6 w6 ⟨rfl, rfl⟩)
            | (go_at_call 36; refine (HE.out _ _ HL8.out).mono ?_; rintro e7 w7 ⟨rfl, rfl⟩)
            | (go_at_call 33; refine (HO2.out _ HB8.out).mono ?_; rintro e9 w9 ⟨g9, v9, rfl, hb9, hg9, hl9, ho9⟩; obtain ⟨A9, c9, rfl, hc9⟩ := own_form ho9; have HL9 := Lib.hid hl9; have HO8' := Lib.hid (own_below HO8.out hb9); have HO9 := Lib.hid ho9; have HB9 := Lib.hid hb9; clear hl9 ho9 hb9))
          have h34 := fun (W : World) (hb : Below w9.heap.size w9 W) => lappend_any g9 d F D L mv more W (HD.out.below (HB8.out.trans ((HB9.out.trans (hb.mono HB9.out.size)).mono HB8.out.size))) (HL9.out.below hb) (fun hf => by have := HF.out.2 _ hf; have := HB8.out.size; omega) HK.out.keeps.wait0 (HK.out.fine (by omega))
            (HMV.out.below EStr.stays (HB.out.trans ((HB8.out.trans ((HB9.out.trans (hb.mono HB9.out.size)).mono HB8.out.size)).mono HB.out.size))) (by have := HLT.out.1; omega)
          obtain ⟨D', L', all', hap, hcalm'⟩ := calm_append HK.out (by omega) HLT.out
          rcases hap with ⟨ha, hall⟩ | ⟨ha, hDD, hLL, -⟩
          · have hrow : ∀ k, (Value.slice A8 all.length c8).ownBlock = some k → ¬ Un F (fun k => k = g9) k := by
              intro k hk hu
              obtain ⟨k1, k2⟩ := HO8.out.lt k hk
              rcases hu with hu | hu
              · have := HF.out.2 _ hu; omega
              · omega
            have HBD := Lib.hid (fun (W : World) (hb : Below w9.heap.size w9 W) => HB.out.trans ((HB8.out.trans ((HB9.out.trans (hb.mono HB9.out.size)).mono HB8.out.size)).mono HB.out.size))
            have HUF : Hid (∀ k, Un F (fun k => k = g9) k → w.heap.size ≤ k) := by
              intro k hu
              rcases hu with hu | hu
              · exact HF.out.1 _ hu
              · have := HB.out.size; have := HB8.out.size; omega
            have HLEN : Hid (0 + all.length ≤ maxLen ∧ (0 + all.length) * 16 ≤ 140737488355328 ∧ all.length ≤ 240000 ∧ more.length ≤ 20000) := by
              have h1 := HK.out.long
              have h2 := HLT.out.1
              have h3 : all.length ≤ 240000 := by omega
              refine ⟨?_, ?_, h3, by omega⟩
              · unfold maxLen; omega
              · omega
            have HLEN2 : Hid (all.length + more.length ≤ maxLen ∧ (all.length + more.length) * 16 ≤ 140737488355328) := by
              have h3 := HLEN.out.2.2.1
              have h4 := HLEN.out.2.2.2
              refine ⟨?_, ?_⟩
              · unfold maxLen; omega
              · omega
            have HAL := Lib.hid hall
            have HLA := Lib.hid (show all.length + more.length = all'.length by rw [hall, List.length_append])
            clear hall
            have H37' : Hid (∀ (W : World) u v, IsStrs0 W u all' → IsStrs0 W v all' → Calls Try.prog 37 #[u, v] W fun e w' => e = .returned (.bool true) ∧ Below W.heap.size W w') := by
              intro W u v hu hv
              have h := same_any u v all' all' hu hv
              rw [decide_eq_true (rfl : all' = all')] at h
              exact h
            obtain ⟨i0, hi, hz0, hz1, hz2⟩ := info_parts Try.info9
            rw [ha] at h34
            simp only at h34
            have H34 := Lib.hid h34
            have HK' := Lib.hid hcalm'
            clear h34 ha hcalm'
            go_wp2_with (first
              | (go_at_call 37; refine (H37'.out _ _ _ (isStrs0_own HO15.out rfl) (isStrs0_own HO14.out HLA.out)).mono ?_; rintro e15 w15 ⟨rfl, hb15⟩)
              | (go_at_call 37; refine (H37.out _ _ _ (isStrs0_own HO8'.out rfl) (isStrs0_own HO9.out rfl)).mono ?_; rintro e10 w10 ⟨rfl, hb10⟩; have HL10 := Lib.hid (HL9.out.below hb10); have HB10 := Lib.hid hb10; clear hb10)
              | (go_at_call 35; refine (HR.out _ _ HL10.out).mono ?_; rintro e6 w6 ⟨rfl, rfl⟩)
              | (go_at_call 36; refine (HE.out _ _ HL10.out).mono ?_; rintro e7 w7 ⟨rfl, rfl⟩)
              | (go_at_call 34; refine (H34.out _ HB10.out).mono ?_; rintro e11 w11 ⟨rfl, F11, hd11, hl11, hn11, hm11⟩; have HD11 := Lib.hid hd11; have HR11 := Lib.hid (own_stay (own_below HO8'.out HB10.out) (fun k hk => hm11.keep k (Nat.lt_of_lt_of_le (own_lt HO8'.out k hk) HB10.out.size) (hrow _ hk))); have HB11 := Lib.hid (HBD.out _ HB10.out |>.trans (hm11.toBelow (HBD.out _ HB10.out).size HUF.out)); clear hd11 hl11 hn11 hm11)
              | (go_at_call 33; refine (open_raw HD11.out HK'.out).mono ?_; rintro e12 w12 ⟨g12, v12, rfl, hb12, hg12, hl12, ho12⟩; obtain ⟨A12, c12, rfl, hc12⟩ := own_form ho12; have HO12 := Lib.hid ho12; have HB12 := Lib.hid hb12; have HR12 := Lib.hid (base_zero (own_below (own_below HR11.out hb12) ((Below.refl w12.heap.size w12).alloc (Nat.le_refl _) (.cells #[] 9)))); clear hl12 ho12 hb12)
              | (at_builtin; refine wpList_append_src rfl (.tmp 150) (.tmp 151) 51 rfl w12.heap.size 9 i0 _ 1 16 Try.underlying51 hi hz0 hz1 hz2 rfl (by decide) _ 0 [] rfl (own_none9 w12) _ all.length _ rfl (Yields.of_own HR12.out) (strsV_one all) HLEN.out.1 HLEN.out.2.1 (by simp) ?_; intro v13 w13 ho13 hg13 hl13; have HB13 := Lib.hid (((Below.refl w12.heap.size w12).alloc (Nat.le_refl _) (.cells #[] 9)).grown hg13 (by simp) (fun k hk => by cases hk; exact Nat.le_refl _)); have HO13 := Lib.hid (show w13.ownsRow w12.heap.size 9 1 v13 all.length (strsV all) by rw [Nat.zero_add] at ho13; exact ho13); obtain ⟨A13, c13, rfl, hc13⟩ := own_form HO13.out; have HMV13 := Lib.hid (yields_strs (HMV.out.below EStr.stays (HB11.out.trans ((HB12.out.trans (HB13.out.mono HB12.out.size)).mono HB11.out.size)))); clear ho13 hg13 hl13)
              | (at_builtin; refine wpList_append_src rfl (.tmp 152) (.tmp 153) 51 rfl w12.heap.size 9 i0 _ 1 16 Try.underlying51 hi hz0 hz1 hz2 rfl (by decide) _ all.length _ rfl HO13.out _ more.length _ rfl HMV13.out (strsV_one more) HLEN2.out.1 HLEN2.out.2 HB13.out.size ?_; intro v14 w14 ho14 hg14 hl14; have HB14 := Lib.hid (HB13.out.grown hg14 HB13.out.size (fun k hk => (HO13.out.lt k hk).1)); have HO14 := Lib.hid (show w14.ownsRow w12.heap.size 9 1 v14 (all.length + more.length) (strsV all') by rw [HAL.out, ← strsV_append]; exact ho14); have HO15 := Lib.hid (own_below HO12.out HB14.out); obtain ⟨A14, c14, rfl, hc14⟩ := own_form HO14.out; clear ho14 hg14 hl14))
            go_ret
            exact ⟨rfl, HB11.out.trans ((HB12.out.trans ((HB14.out.trans (hb15.mono HB14.out.size)).mono HB12.out.size)).mono HB11.out.size)⟩
          · have hrow : ∀ k, (Value.slice A8 all.length c8).ownBlock = some k → ¬ Un F (fun k => k = g9) k := by
              intro k hk hu
              obtain ⟨k1, k2⟩ := HO8.out.lt k hk
              rcases hu with hu | hu
              · have := HF.out.2 _ hu; omega
              · omega
            have HBD := Lib.hid (fun (W : World) (hb : Below w9.heap.size w9 W) => HB.out.trans ((HB8.out.trans ((HB9.out.trans (hb.mono HB9.out.size)).mono HB8.out.size)).mono HB.out.size))
            have HUF : Hid (∀ k, Un F (fun k => k = g9) k → w.heap.size ≤ k) := by
              intro k hu
              rcases hu with hu | hu
              · exact HF.out.1 _ hu
              · have := HB.out.size; have := HB8.out.size; omega
            rw [ha] at h34
            simp only at h34
            rw [hDD, hLL] at h34
            clear hDD hLL
            have H34 := Lib.hid h34
            clear h34 ha hcalm'
            go_wp2_with (first
              | (go_at_call 37; refine (H37.out _ _ _ (isStrs0_own HO12.out rfl) (isStrs0_own HR12.out rfl)).mono ?_; rintro e15 w15 ⟨rfl, hb15⟩)
              | (go_at_call 37; refine (H37.out _ _ _ (isStrs0_own HO8'.out rfl) (isStrs0_own HO9.out rfl)).mono ?_; rintro e10 w10 ⟨rfl, hb10⟩; have HL10 := Lib.hid (HL9.out.below hb10); have HB10 := Lib.hid hb10; clear hb10)
              | (go_at_call 35; refine (HR.out _ _ HL10.out).mono ?_; rintro e6 w6 ⟨rfl, rfl⟩)
              | (go_at_call 36; refine (HE.out _ _ HL10.out).mono ?_; rintro e7 w7 ⟨rfl, rfl⟩)
              | (go_at_call 34; refine (H34.out _ HB10.out).mono ?_; rintro e11 w11 ⟨rfl, F11, hd11, hl11, hn11, hm11⟩; have HD11 := Lib.hid hd11; have HR11 := Lib.hid (own_stay (own_below HO8'.out HB10.out) (fun k hk => hm11.keep k (Nat.lt_of_lt_of_le (own_lt HO8'.out k hk) HB10.out.size) (hrow _ hk))); have HB11 := Lib.hid (HBD.out _ HB10.out |>.trans (hm11.toBelow (HBD.out _ HB10.out).size HUF.out)); clear hd11 hl11 hn11 hm11)
              | (go_at_call 33; refine (open_raw HD11.out HK.out).mono ?_; rintro e12 w12 ⟨g12, v12, rfl, hb12, hg12, hl12, ho12⟩; obtain ⟨A12, c12, rfl, hc12⟩ := own_form ho12; have HO12 := Lib.hid ho12; have HB12 := Lib.hid hb12; have HR12 := Lib.hid (own_below HR11.out hb12); clear hl12 ho12 hb12))
            go_ret
            exact ⟨rfl, HB11.out.trans ((HB12.out.trans (hb15.mono HB12.out.size)).mono HB11.out.size)⟩
theorem again_law {w : World} (v0 : Value) (l0 : List (List ByteArray)) (h0 : IsGroups w v0 l0) (v1 : Value) (l1 : List ByteArray) (h1 : IsStrs w v1 l1) : Calls Try.prog 8 #[v0, v1] w (Fine w) := again_walk v0 v1 l0 l1 h0 h1
end Go.Proofs.Ytddaiihhhajieaa
