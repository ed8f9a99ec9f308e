/- The walk of DiskLasts. -/
import Derived.Test.YtddaiihhhajieaaDiskFresh
import Derived.Test.YtddaiihhhajieaaArgs
import Derived.Deep.RegionWith
namespace Go.Proofs.Ytddaiihhhajieaa
open Go.RowKit Go.Maps

/-! ### plain facts -/
structure Calm (D : Dk) (k : Nat) : Prop where
  off : D.off = false
  arm : D.arm = -1
  torn : ∀ i, D.torn i = false
  turns : D.turns = 0
  len : D.wait.length ≤ k
theorem calm_new : Calm Dk.new 0 := ⟨rfl, rfl, fun _ => rfl, rfl, Nat.le_refl _⟩
theorem wr_calm {D : Dk} {k : Nat} (h : Calm D k) (n : Int) (s : ByteArray) : Calm (D.wr n s).2 (k + 1) ∧ (D.wr n s).2.last = D.last ∧
    (((D.wr n s).1 = 0 ∧ 0 ≤ n ∧ n < 512 ∧ (D.wr n s).2.wait = D.wait ++ [(n.toNat, s)]) ∨ ((D.wr n s).1 = 1 ∧ (D.wr n s).2.wait = D.wait)) := by
  unfold Dk.wr
  rw [if_neg (by simp [h.off])]
  by_cases hb : n < 0 ∨ 512 ≤ n ∨ s.size ≠ 64
  · rw [if_pos hb]
    exact ⟨⟨h.off, h.arm, h.torn, h.turns, Nat.le_succ_of_le h.len⟩, rfl, .inr ⟨rfl, rfl⟩⟩
  · rw [if_neg hb, if_neg (by rw [h.arm]; omega)]
    refine ⟨⟨?_, ?_, h.torn, h.turns, ?_⟩, rfl, .inl ⟨rfl, by omega, by omega, rfl⟩⟩
    · simp [Dk.tick, h.off, h.arm]
    · simp only [Dk.tick, h.arm]; decide
    · have := h.len; simp; omega
theorem sync_calm {D : Dk} {k : Nat} (h : Calm D k) : D.sync.1 = 0 ∧ Calm D.sync.2 0 ∧ D.sync.2.wait = [] := by
  rw [sync_fine D h.off h.arm]
  refine ⟨rfl, ⟨?_, ?_, ?_, ?_, Nat.le_refl _⟩, rfl⟩
  · show (D.tick.dones D.wait).off = false
    rw [(dones_wait _ _).2.2]; simp [Dk.tick, h.off, h.arm]
  · show (D.tick.dones D.wait).arm = -1
    rw [(dones_wait _ _).2.1]; simp only [Dk.tick, h.arm]; decide
  · intro i
    show (D.tick.dones D.wait).torn i = false
    rw [dones_torn]
    have : D.tick.torn i = false := h.torn i
    rw [this, Bool.and_false]
  · show (D.tick.dones D.wait).turns = 0
    rw [dones_turns]; exact h.turns
theorem rd_calm {D : Dk} {k : Nat} (h : Calm D k) (hw : D.wait = []) (n : Nat) (hn : n < 512) : D.rd n = (D.last n, 0) := by
  unfold Dk.rd
  rw [if_neg (by simp [h.off]), if_neg (by omega), hw, Int.toNat_natCast, lookW_nil]
  simp [h.torn]
theorem rd_kept {D : Dk} {k : Nat} (h : Calm D k) (keep : Int) (t : Bool) (n : Nat) (hn : n < 512) (hw : ∀ p ∈ D.wait, p.1 ≠ n) : (D.restart keep t).rd n = (D.last n, 0) := by
  rw [restart_rd D keep t n hn, if_neg]
  · rw [lookW_none (fun p hp => hw p (List.mem_of_mem_take hp))]
    simp [h.torn]
  · rintro ⟨-, h2⟩
    cases hg : D.wait[keepN keep D.wait.length]? with
    | none => rw [hg] at h2; simp at h2
    | some p =>
      rw [hg] at h2
      exact hw p (List.mem_of_getElem? hg) (by simpa using h2)



/-- which of the first blocks a write waits for -/
def TI (ts : Array Value) (D : Dk) : Prop := ts.size = 12 ∧ ∀ n, n < 12 → ∃ b, ts[n]? = some (.bool b) ∧ (b = false → ∀ p ∈ D.wait, p.1 ≠ n)
theorem ti_start {D : Dk} (h : D.wait = []) : TI #[Value.bool false, Value.bool false, Value.bool false, Value.bool false, Value.bool false, Value.bool false, Value.bool false, Value.bool false, Value.bool false, Value.bool false, Value.bool false, Value.bool false] D := by
  refine ⟨rfl, fun n hn => ⟨false, ?_, fun _ p hp => by rw [h] at hp; simp at hp⟩⟩
  match n, hn with
  | 0, _ | 1, _ | 2, _ | 3, _ | 4, _ | 5, _ | 6, _ | 7, _ | 8, _ | 9, _ | 10, _ | 11, _ => rfl
theorem TI.same {ts : Array Value} {D D' : Dk} (h : TI ts D) (hw : D'.wait = D.wait) : TI ts D' := ⟨h.1, fun n hn => by obtain ⟨b, h1, h2⟩ := h.2 n hn; exact ⟨b, h1, by rw [hw]; exact h2⟩⟩
theorem TI.far {ts : Array Value} {D D' : Dk} (h : TI ts D) (m : Nat) (s : ByteArray) (hm : 12 ≤ m) (hw : D'.wait = D.wait ++ [(m, s)]) : TI ts D' :=
  ⟨h.1, fun n hn => by
    obtain ⟨b, h1, h2⟩ := h.2 n hn
    refine ⟨b, h1, fun hb p hp => ?_⟩
    rw [hw] at hp
    rcases List.mem_append.1 hp with hp | hp
    · exact h2 hb p hp
    · obtain rfl : p = (m, s) := by simpa using hp
      show m ≠ n
      omega⟩
theorem TI.near {ts : Array Value} {D D' : Dk} (h : TI ts D) (m : Nat) (s : ByteArray) (hw : D'.wait = D.wait ++ [(m, s)]) : TI (ts.setIfInBounds m (.bool true)) D' := by
  refine ⟨by simpa using h.1, fun n hn => ?_⟩
  obtain ⟨b, h1, h2⟩ := h.2 n hn
  by_cases e : m = n
  · subst e
    exact ⟨true, by rw [Array.getElem?_setIfInBounds, if_pos rfl, if_pos (by rw [h.1]; exact hn)], fun hb => by cases hb⟩
  · refine ⟨b, by rw [Array.getElem?_setIfInBounds, if_neg e]; exact h1, fun hb p hp => ?_⟩
    rw [hw] at hp
    rcases List.mem_append.1 hp with hp | hp
    · exact h2 hb p hp
    · obtain rfl : p = (m, s) := by simpa using hp
      exact e

set_option maxHeartbeats 4000000 in
set_option maxRecDepth 100000 in
theorem lasts_walk {w : World} (v1 : Value) (l1 : List Op18) (hv1 : IsOps18 w v1 l1) (v2 : Value) (l2 : List Op18) (hv2 : IsOps18 w v2 l2) (keep : Int) :
    Calls Try.prog 5 #[v1, v2, .int .i64 keep] w (Fine w) := by
  obtain ⟨A1, c1, rfl, hc1, hm1, hx1⟩ := hv1
  obtain ⟨A2, c2, rfl, hc2, hm2, hx2⟩ := hv2
  have HA := Lib.hid awake18
  have HN := Lib.hid new_any
  have HX1 := Lib.hid hx1
  have HX2 := Lib.hid hx2
  obtain ⟨N1, hN1⟩ : ∃ N, N = l1.length := ⟨_, rfl⟩
  obtain ⟨N2, hN2⟩ : ∃ N, N = l2.length := ⟨_, rfl⟩
  rw [← hN1] at hc1 ⊢
  rw [← hN2] at hc2 ⊢
  have HN1 := Lib.hid hN1
  have HN2 := Lib.hid hN2
  clear hx1 hx2 hN1 hN2
  have g1 : N1 ≤ 9223372036854775807 := by omega
  have g2 : N2 ≤ 9223372036854775807 := by omega
  go_enter Try.func5, Try.ntmps5
  go_wp2_with (first | (go_at_call 17; refine (HA.out _).mono ?_; rintro e1 w1 ⟨rfl, hb1⟩) | (go_at_call 18; refine (HN.out _).mono ?_; rintro e2 w2 ⟨d, F, rfl, hd, hm⟩))
  have hm0 := (Moves.refl w noFoot).below hb1 |>.trans hm
  clear hb1 hm HA HN
  go_loopw [9] (fun i wr => ∃ k : Nat, k ≤ N1 ∧ k ≤ 60 ∧ i = .int .i64 k ∧ ∃ F D, IsDisk wr d F D ∧ Calm D k ∧ Moves w wr noFoot F) (fun i _ => N1 - (intOf i).toNat)
  case atStart => exact ⟨0, Nat.zero_le _, by omega, rfl, F, _, hd, calm_new, hm0⟩
  case round =>
    obtain ⟨k, hk, hk60, rfl, F1, D1, hd1, hcalm, hmv⟩ := hrel
    clear hd hm0
    have hbel := hmv.toBelow (Nat.le_refl _) (fun _ hk => hk.elim)
    by_cases hgo : k < N1 ∧ k < 60
    · obtain ⟨q1, q2⟩ := hgo
      obtain ⟨b, off, rfl, hx⟩ := HX1.out k (by rw [← HN1.out]; exact q1)
      have hx' := EOp18.stays _ _ _ _ _ hx hbel
      generalize l1[k]'(by rw [← HN1.out]; exact q1) = x at *
      have x0 := hx'.c0
      have x1 := hx'.c1
      have x2 := hx'.c2
      have r0 := hx'.r0
      have q2' : (k : Int) < 60 := by omega
      have h19 := fun W (hW : Below wr.heap.size wr W) => write_any d F1 D1 x.n x.s W (hd1.below hW) (by have := hcalm.len; omega)
      have H19 := Lib.hid h19
      have HC := Lib.hid (wr_calm hcalm x.n x.s)
      have HCalm := Lib.hid hcalm
      have HD := Lib.hid hd1
      have HMV := Lib.hid hmv
      clear h19 hx hx' hcalm hd1 hmv hbel
      by_cases hdo : x.do_ < 4
      · go_wp2
        go_region_with (go_at_call 19; refine (H19.out _ ((Below.refl _ _).drew)).mono ?_; rintro e3 w3 ⟨rfl, F3, hd3, hm3⟩)
        all_goals
          have hm4 : Moves w w3 noFoot F3 := (HMV.out.drew).trans hm3
          have HD3 := Lib.hid hd3
          clear hm3 hd3
          go_wp2
          go_roundw
          case rel => exact ⟨k + 1, by omega, by omega, by go_num, F3, _, HD3.out, HC.out.1, hm4⟩
          case measure => simp [intOf]; omega
      · go_wp2
        go_roundw
        case rel => exact ⟨k + 1, by omega, by omega, by go_num, F1, D1, HD.out, ⟨HCalm.out.off, HCalm.out.arm, HCalm.out.torn, HCalm.out.turns, Nat.le_succ_of_le HCalm.out.len⟩, HMV.out⟩
        case measure => simp [intOf]; omega
    · obtain ⟨s1, s2, s3⟩ := sync_calm hcalm
      have h24 := sync_any d F1 D1 wr hd1 (by have := hcalm.len; omega)
      rw [s1] at h24
      generalize D1.sync.2 = D2 at *
      have H24 := Lib.hid h24
      have HS2 := Lib.hid s2
      have HS3 := Lib.hid s3
      clear h24 s1 s2 s3 hd1 hcalm hbel HX1
      have hways : (k = N1) ∨ (k < N1 ∧ (k : Int) < 60 → False) := by omega
      have hex : ¬ (k < N1) ∨ (k < N1 ∧ ¬ ((k : Int) < 60)) := by omega
      clear hways hgo
      rcases hex with q1 | ⟨q1, q2⟩
      all_goals
        go_wp2_with (go_at_call 24; refine H24.out.mono ?_; rintro e3 w3 ⟨rfl, F3, hd3, hm3⟩)
        have ho := open_any d F3 D2 w3 hd3
        rw [HS3.out] at ho
        have HO := Lib.hid ho
        have hm4 := hmv.trans hm3
        clear ho hmv hm3 H24
        refine HO.out.mono ?_
        rintro e4 w4 ⟨rfl, rfl⟩
        go_wp2_with fail
        have hWn := Blk.new w3 38 #[Value.string ⟨#[]⟩, Value.string ⟨#[]⟩, Value.string ⟨#[]⟩, Value.string ⟨#[]⟩, Value.string ⟨#[]⟩, Value.string ⟨#[]⟩, Value.string ⟨#[]⟩, Value.string ⟨#[]⟩, Value.string ⟨#[]⟩, Value.string ⟨#[]⟩, Value.string ⟨#[]⟩, Value.string ⟨#[]⟩]
        have hlt3 := hd3.lt
        have hd5 := hd3.below ((Below.refl w3.heap.size w3).alloc (Nat.le_refl _) (.cells #[Value.string ⟨#[]⟩, Value.string ⟨#[]⟩, Value.string ⟨#[]⟩, Value.string ⟨#[]⟩, Value.string ⟨#[]⟩, Value.string ⟨#[]⟩, Value.string ⟨#[]⟩, Value.string ⟨#[]⟩, Value.string ⟨#[]⟩, Value.string ⟨#[]⟩, Value.string ⟨#[]⟩, Value.string ⟨#[]⟩] 38))
        have hm5 := hm4.alloc (.cells #[Value.string ⟨#[]⟩, Value.string ⟨#[]⟩, Value.string ⟨#[]⟩, Value.string ⟨#[]⟩, Value.string ⟨#[]⟩, Value.string ⟨#[]⟩, Value.string ⟨#[]⟩, Value.string ⟨#[]⟩, Value.string ⟨#[]⟩, Value.string ⟨#[]⟩, Value.string ⟨#[]⟩, Value.string ⟨#[]⟩] 38)
        have hWF : ¬ F3 w3.heap.size := fun h => by have := hlt3 _ h; omega
        have hWw : w.heap.size ≤ w3.heap.size := hm4.size
        obtain ⟨W, hW⟩ : ∃ W, W = w3.heap.size := ⟨_, rfl⟩
        rw [← hW] at hWF hWw hWn ⊢
        have HW := Lib.hid hW
        clear hW hlt3 hd3 hm4 HO
        go_loopw [11] (fun i wr => ∃ j : Nat, j ≤ 12 ∧ i = .int .i64 j ∧ (∃ cs, Blk wr W 38 cs ∧ cs.size = 12 ∧ ∀ n, n < j → cs[n]? = some (.string (D2.last n))) ∧ IsDisk wr d F3 D2 ∧ Moves w wr noFoot F3) (fun i _ => 12 - (intOf i).toNat)
        case atStart => exact ⟨0, by omega, rfl, ⟨_, hWn, rfl, fun n hn => by omega⟩, hd5, hm5⟩
        case round =>
          obtain ⟨j, hj, rfl, ⟨cs, hbW, hcs, hdn⟩, hd6, hm6⟩ := hrel
          clear hWn hd5 hm5
          by_cases hlt : j < 12
          · have hr := read_any d F3 D2 j wr hd6 (by rw [HS3.out]; show 0 < _; omega)
            rw [rd_calm HS2.out HS3.out j (by omega)] at hr
            have HR := Lib.hid hr
            have p1 : (j : Int) < 12 := by omega
            have p2 : (0 : Int) ≤ (j : Int) := by omega
            obtain ⟨u, hu⟩ : ∃ u, cs[j]? = some u := ⟨cs[j]'(by omega), Array.getElem?_eq_getElem _⟩
            have o1 := (hbW.cell j).trans hu
            have o2 := hbW.frozen j
            have K : Hid ((∃ cs', Blk (wr.setCell ⟨W, j, none⟩ (.string (D2.last j))) W 38 cs' ∧ cs'.size = 12 ∧ ∀ n, n < j + 1 → cs'[n]? = some (.string (D2.last n))) ∧ IsDisk (wr.setCell ⟨W, j, none⟩ (.string (D2.last j))) d F3 D2 ∧ Moves w (wr.setCell ⟨W, j, none⟩ (.string (D2.last j))) noFoot F3) := by
              refine ⟨⟨_, hbW.set_ j _, by simpa using hcs, fun n hn => ?_⟩, hd6.stay (fun k hk => Below.heap_setCell _ _ _ _ (by rintro rfl; exact hWF hk)), hm6.setCell (p := ⟨W, j, none⟩) (.inr hWw) _⟩
              rw [Array.getElem?_setIfInBounds]
              by_cases e : j = n
              · subst e; rw [if_pos rfl, if_pos (by omega)]
              · rw [if_neg e]; exact hdn n (by omega)
            clear hr hbW hcs hdn hd6 hm6 hu
            go_wp2_with (go_at_call 22; refine HR.out.mono ?_; rintro e6 w6 ⟨rfl, rfl⟩)
            go_roundw
            case rel => exact ⟨j + 1, by omega, by go_num, K.out.1, K.out.2.1, K.out.2.2⟩
            case measure => simp [intOf]; omega
          · obtain rfl : j = 12 := by omega
            clear hlt hj
            have e12 : ((12 : Nat) : Int) = 12 := rfl
            rw [e12]
            go_wp2_with fail
            obtain ⟨T, hT⟩ : ∃ T, T = wr.heap.size := ⟨_, rfl⟩
            have hTn := Blk.new wr 39 #[Value.bool false, Value.bool false, Value.bool false, Value.bool false, Value.bool false, Value.bool false, Value.bool false, Value.bool false, Value.bool false, Value.bool false, Value.bool false, Value.bool false]
            have hbT : Below wr.heap.size wr (wr.alloc (.cells #[Value.bool false, Value.bool false, Value.bool false, Value.bool false, Value.bool false, Value.bool false, Value.bool false, Value.bool false, Value.bool false, Value.bool false, Value.bool false, Value.bool false] 39)) := (Below.refl _ _).alloc (Nat.le_refl _) _
            have hd7 := hd6.below hbT
            have hm7 := hm6.below hbT
            have hbW7 := hbW.alloc (.cells #[Value.bool false, Value.bool false, Value.bool false, Value.bool false, Value.bool false, Value.bool false, Value.bool false, Value.bool false, Value.bool false, Value.bool false, Value.bool false, Value.bool false] 39)
            have hTF : ¬ F3 T := fun h => by have := hd6.lt _ h; omega
            have hTW : T ≠ W := by have := hbW.lt; omega
            have hTw : w.heap.size ≤ T := by have := hm6.size; omega
            rw [← hT] at hTn ⊢
            have HT := Lib.hid hT
            have HD2 := Lib.hid (⟨hcs, hdn⟩ : cs.size = 12 ∧ ∀ n, n < 12 → cs[n]? = some (.string (D2.last n)))
            clear hT hbT hd6 hm6 hbW hcs hdn
            go_loopw [15] (fun i wr => ∃ j : Nat, j ≤ N2 ∧ j ≤ 60 ∧ i = .int .i64 j ∧ ∃ F D ts, IsDisk wr d F D ∧ Calm D j ∧ D.last = D2.last ∧ Moves w wr noFoot F ∧ ¬ F W ∧ ¬ F T ∧ Blk wr W 38 cs ∧ Blk wr T 39 ts ∧ TI ts D) (fun i _ => N2 - (intOf i).toNat)
            case atStart => exact ⟨0, Nat.zero_le _, by omega, rfl, F3, D2, _, hd7, HS2.out, rfl, hm7, hWF, hTF, hbW7, hTn, ti_start HS3.out⟩
            case round =>
              obtain ⟨j, hj, hj60, rfl, F5, D5, ts, hd8, hcalm8, hlast8, hm8, hWF8, hTF8, hbW8, hbT8, hti⟩ := hrel
              clear hd7 hm7 hWF hTF hbW7 hTn
              have hbel := hm8.toBelow (Nat.le_refl _) (fun _ hk => hk.elim)
              by_cases hgo : j < N2 ∧ j < 60
              · obtain ⟨q1, q2⟩ := hgo
                obtain ⟨b, off, rfl, hx⟩ := HX2.out j (by rw [← HN2.out]; exact q1)
                have hx' := EOp18.stays _ _ _ _ _ hx hbel
                generalize l2[j]'(by rw [← HN2.out]; exact q1) = x at *
                have x0 := hx'.c0
                have x1 := hx'.c1
                have x2 := hx'.c2
                have x3 := hx'.c3
                have r0 := hx'.r0
                have r1 := hx'.r1
                have q2' : (j : Int) < 60 := by omega
                have h19 := fun W (hW : Below wr.heap.size wr W) => write_any d F5 D5 x.n x.s W (hd8.below hW) (by have := hcalm8.len; omega)
                have HC := Lib.hid (wr_calm hcalm8 x.n x.s)
                have HH := Lib.hid (⟨hd8, hcalm8, hlast8, hm8, hWF8, hTF8, hbW8, hbT8, hti⟩ : IsDisk wr d F5 D5 ∧ Calm D5 j ∧ D5.last = D2.last ∧ Moves w wr noFoot F5 ∧ ¬ F5 W ∧ ¬ F5 T ∧ Blk wr W 38 cs ∧ Blk wr T 39 ts ∧ TI ts D5)
                clear hx hx' hbel hd8 hcalm8 hlast8 hm8 hWF8 hTF8 hbW8 hbT8 hti
                by_cases hdo : x.do_ < 4
                · have H19 := Lib.hid h19
                  clear h19
                  obtain ⟨hcc, hll, hres⟩ := HC.out
                  have HCC := Lib.hid (⟨hcc, hll⟩ : Calm (D5.wr x.n x.s).2 (j + 1) ∧ (D5.wr x.n x.s).2.last = D5.last)
                  clear hcc hll HC
                  have HK : Hid (∀ w3, Left (wr.alloc (.cells #[.int .i64 x.do_, .int .i64 x.n, .string x.s, .bool x.torn] 36)) F5 d (D5.wr x.n x.s).2 w3 → ∃ F6, IsDisk w3 d F6 (D5.wr x.n x.s).2 ∧ Moves w w3 noFoot F6 ∧ ¬ F6 W ∧ ¬ F6 T ∧ Blk w3 W 38 cs ∧ Blk w3 T 39 ts ∧ w3.cell? ⟨wr.heap.size, 1, none⟩ = some (.int .i64 x.n)) := by
                    obtain ⟨hd8, hcalm8, hlast8, hm8, hWF8, hTF8, hbW8, hbT8, hti⟩ := HH.out
                    rintro w3 ⟨F6, hd9, hm9⟩
                    have hlW := (hbW8.alloc (.cells #[.int .i64 x.do_, .int .i64 x.n, .string x.s, .bool x.torn] 36)).lt
                    have hlT := (hbT8.alloc (.cells #[.int .i64 x.do_, .int .i64 x.n, .string x.s, .bool x.torn] 36)).lt
                    have hO := Blk.new wr 36 #[.int .i64 x.do_, .int .i64 x.n, .string x.s, .bool x.torn]
                    have hO3 := hO.stay (hm9.keep wr.heap.size hO.lt (fun h => by have := hd8.lt _ h; omega))
                    refine ⟨F6, hd9, (hm8.alloc _).trans hm9, ?_, ?_, (hbW8.alloc _).stay (hm9.keep W hlW hWF8), (hbT8.alloc _).stay (hm9.keep T hlT hTF8), (hO3.cell 1).trans rfl⟩
                    · exact fun h => (hm9.fresh W h).elim hWF8 (fun h => by omega)
                    · exact fun h => (hm9.fresh T h).elim hTF8 (fun h => by omega)
                  rcases hres with ⟨e1, n0, n1, hwt⟩ | ⟨e1, hwt⟩
                  · have HWT := Lib.hid hwt
                    have E1 := Lib.hid e1
                    clear hwt e1
                    by_cases h12 : x.n < 12
                    · have n2 : (0 : Int) ≤ x.n := n0
                      have hti := HH.out.2.2.2.2.2.2.2.2
                      obtain ⟨bb, hbb, _⟩ := hti.2 x.n.toNat (by omega)
                      have HBB := Lib.hid hbb
                      have HTI := Lib.hid (hti.near (D' := (D5.wr x.n x.s).2) x.n.toNat x.s HWT.out)
                      clear hbb hti
                      have hE1 : (D5.wr x.n x.s).1 = 0 := E1.out
                      go_wp2_with (go_at_call 19; have h19' := H19.out _ ((Below.refl _ _).alloc (Nat.le_refl _) (.cells #[.int .i64 x.do_, .int .i64 x.n, .string x.s, .bool x.torn] 36)); rw [E1.out] at h19'; refine h19'.mono ?_; clear h19'; rintro e3 w3 ⟨rfl, hl3⟩; obtain ⟨F6, k1, k2, k3, k4, k5, k6, k7⟩ := HK.out w3 hl3; have k8 := (k6.cell x.n.toNat).trans HBB.out; have k9 := k6.frozen x.n.toNat; have KK := Lib.hid (⟨k1, k2, k3, k4, k5, k6⟩ : IsDisk w3 d F6 (D5.wr x.n x.s).2 ∧ Moves w w3 noFoot F6 ∧ ¬ F6 W ∧ ¬ F6 T ∧ Blk w3 W 38 cs ∧ Blk w3 T 39 ts); clear k1 k2 k3 k4 k5 k6 hl3)
                      go_roundw
                      case rel =>
                        obtain ⟨k1, k2, k3, k4, k5, k6⟩ := KK.out
                        refine ⟨j + 1, by omega, by omega, by go_num, F6, _, _, k1.stay (fun k hk => Below.heap_setCell _ _ _ _ (by rintro rfl; exact k4 hk)), HCC.out.1, HCC.out.2.trans HH.out.2.2.1, k2.setCell (p := ⟨T, x.n.toNat, none⟩) (.inr hTw) _, k3, k4, k5.far (p := ⟨T, x.n.toNat, none⟩) hTW.symm _, k6.set_ x.n.toNat (Value.bool true), HTI.out⟩
                      case measure => simp [intOf]; omega
                    · go_wp2_with (go_at_call 19; have h19' := H19.out _ ((Below.refl _ _).alloc (Nat.le_refl _) (.cells #[.int .i64 x.do_, .int .i64 x.n, .string x.s, .bool x.torn] 36)); rw [E1.out] at h19'; refine h19'.mono ?_; clear h19'; rintro e3 w3 ⟨rfl, hl3⟩; obtain ⟨F6, k1, k2, k3, k4, k5, k6, k7⟩ := HK.out w3 hl3; have KK := Lib.hid (⟨k1, k2, k3, k4, k5, k6⟩ : IsDisk w3 d F6 (D5.wr x.n x.s).2 ∧ Moves w w3 noFoot F6 ∧ ¬ F6 W ∧ ¬ F6 T ∧ Blk w3 W 38 cs ∧ Blk w3 T 39 ts); clear k1 k2 k3 k4 k5 k6 hl3)
                      go_roundw
                      case rel =>
                        obtain ⟨k1, k2, k3, k4, k5, k6⟩ := KK.out
                        exact ⟨j + 1, by omega, by omega, by go_num, F6, _, _, k1, HCC.out.1, HCC.out.2.trans HH.out.2.2.1, k2, k3, k4, k5, k6, HH.out.2.2.2.2.2.2.2.2.far _ _ (by omega) HWT.out⟩
                      case measure => simp [intOf]; omega
                  · have HWT := Lib.hid hwt
                    have E1 := Lib.hid e1
                    clear hwt e1
                    go_wp2_with (go_at_call 19; have h19' := H19.out _ ((Below.refl _ _).alloc (Nat.le_refl _) (.cells #[.int .i64 x.do_, .int .i64 x.n, .string x.s, .bool x.torn] 36)); rw [E1.out] at h19'; refine h19'.mono ?_; clear h19'; rintro e3 w3 ⟨rfl, hl3⟩; obtain ⟨F6, k1, k2, k3, k4, k5, k6, k7⟩ := HK.out w3 hl3; have KK := Lib.hid (⟨k1, k2, k3, k4, k5, k6⟩ : IsDisk w3 d F6 (D5.wr x.n x.s).2 ∧ Moves w w3 noFoot F6 ∧ ¬ F6 W ∧ ¬ F6 T ∧ Blk w3 W 38 cs ∧ Blk w3 T 39 ts); clear k1 k2 k3 k4 k5 k6 hl3)
                    go_roundw
                    case rel =>
                      obtain ⟨k1, k2, k3, k4, k5, k6⟩ := KK.out
                      exact ⟨j + 1, by omega, by omega, by go_num, F6, _, _, k1, HCC.out.1, HCC.out.2.trans HH.out.2.2.1, k2, k3, k4, k5, k6, HH.out.2.2.2.2.2.2.2.2.same HWT.out⟩
                    case measure => simp [intOf]; omega
                · go_wp2_with fail
                  go_roundw
                  case rel =>
                    obtain ⟨hd8, hcalm8, hlast8, hm8, hWF8, hTF8, hbW8, hbT8, hti⟩ := HH.out
                    exact ⟨j + 1, by omega, by omega, by go_num, F5, D5, _, hd8.below ((Below.refl _ _).alloc (Nat.le_refl _) _), ⟨hcalm8.off, hcalm8.arm, hcalm8.torn, hcalm8.turns, Nat.le_succ_of_le hcalm8.len⟩, hlast8, hm8.alloc _, hWF8, hTF8, hbW8.alloc _, hbT8.alloc _, hti⟩
                  case measure => simp [intOf]; omega
              · have hex : ¬ (j < N2) ∨ (j < N2 ∧ ¬ ((j : Int) < 60)) := by omega
                have h21 := fun t => restart_any d F5 D5 keep t wr hd8 (by have := hcalm8.len; omega) (by rw [hcalm8.turns]; omega)
                have HH := Lib.hid (⟨hd8, hcalm8, hlast8, hm8, hWF8, hTF8, hbW8, hbT8, hti⟩ : IsDisk wr d F5 D5 ∧ Calm D5 j ∧ D5.last = D2.last ∧ Moves w wr noFoot F5 ∧ ¬ F5 W ∧ ¬ F5 T ∧ Blk wr W 38 cs ∧ Blk wr T 39 ts ∧ TI ts D5)
                have H21 := Lib.hid h21
                clear h21 hd8 hcalm8 hlast8 hm8 hWF8 hTF8 hbW8 hbT8 hti hgo hbel
                rcases hex with q1 | ⟨q1, q2⟩
                all_goals
                  go_wp2_with (go_at_call 21; refine (H21.out _).mono ?_; rintro e4 w4 ⟨rfl, F6, hd9, hm9⟩)
                  have K : Hid (IsDisk w4 d F6 (D5.restart keep (keep.tmod 2 == 0)) ∧ Moves w w4 noFoot F6 ∧ Blk w4 W 38 cs ∧ Blk w4 T 39 ts) := by
                    obtain ⟨hd8, hcalm8, hlast8, hm8, hWF8, hTF8, hbW8, hbT8, hti⟩ := HH.out
                    exact ⟨hd9, hm8.trans hm9, hbW8.stay (hm9.keep W hbW8.lt hWF8), hbT8.stay (hm9.keep T hbT8.lt hTF8)⟩
                  clear hd9 hm9
                  go_loopw [17] (fun i wr => (IsDisk wr d F6 (D5.restart keep (keep.tmod 2 == 0)) ∧ Moves w wr noFoot F6 ∧ Blk wr W 38 cs ∧ Blk wr T 39 ts) ∧ ∃ n : Nat, n ≤ 12 ∧ i = .int .i64 n) (fun i _ => 12 - (intOf i).toNat)
                  case atStart => exact ⟨K.out, 0, by omega, rfl⟩
                  case round =>
                    obtain ⟨K', n, hn, rfl⟩ := hrel
                    clear K
                    have K := Lib.hid K'
                    clear K'
                    have hd9 := K.out.1
                    by_cases hlt : n < 12
                    · have hr := read_any d F6 (D5.restart keep (keep.tmod 2 == 0)) n wr hd9 (by simp [Dk.restart])
                      have HR := Lib.hid hr
                      have p1 : (n : Int) < 12 := by omega
                      have p2 : (0 : Int) ≤ (n : Int) := by omega
                      obtain ⟨b, hb1, hb2⟩ := HH.out.2.2.2.2.2.2.2.2.2 n hlt
                      have o1 := (K.out.2.2.2.cell n).trans hb1
                      have o2 := (K.out.2.2.1.cell n).trans (HD2.out.2 n hlt)
                      have HB := Lib.hid hb2
                      clear hr hb1 hb2 hd9
                      cases b
                      · have e1 := rd_kept HH.out.2.1 keep (keep.tmod 2 == 0) n (by omega) (HB.out rfl)
                        rw [HH.out.2.2.1] at e1
                        rw [e1] at HR
                        clear e1
                        go_wp2_with (go_at_call 22; refine HR.out.mono ?_; rintro e6 w6 ⟨rfl, rfl⟩)
                        go_roundw
                        case rel => first | exact ⟨K.out, n + 1, by omega, by go_num⟩ | exact ⟨⟨K.out.1.stay (fun _ _ => rfl), K.out.2.1.drew, K.out.2.2.1, K.out.2.2.2⟩, n + 1, by omega, by go_num⟩
                        case measure => simp [intOf]; omega
                      · go_wp2_with (go_at_call 22; refine HR.out.mono ?_; rintro e6 w6 ⟨rfl, rfl⟩)
                        go_roundw
                        case rel => first | exact ⟨K.out, n + 1, by omega, by go_num⟩ | exact ⟨⟨K.out.1.stay (fun _ _ => rfl), K.out.2.1.drew, K.out.2.2.1, K.out.2.2.2⟩, n + 1, by omega, by go_num⟩
                        case measure => simp [intOf]; omega
                    · obtain rfl : n = 12 := by omega
                      clear hlt hn
                      have e12 : ((12 : Nat) : Int) = 12 := rfl
                      rw [e12]
                      have HO := Lib.hid (open_any d F6 _ wr hd9)
                      have HP := Lib.hid (off_any d F6 _ wr hd9)
                      have HF := Lib.hid (fine_of K.out.2.1)
                      have eO : (D5.restart keep (keep.tmod 2 == 0)).off = false := rfl
                      rw [eO] at HP
                      clear hd9 eO
                      go_wp2_with (first | (go_at_call 23; refine HO.out.mono ?_; rintro e6 w6 ⟨rfl, rfl⟩) | (go_at_call 25; refine HP.out.mono ?_; rintro e6 w6 ⟨rfl, rfl⟩))
                      go_ret
                      exact HF.out

end Go.Proofs.Ytddaiihhhajieaa
