/- The walks of the disk's Read, Restart, New. -/
import Derived.Test.YtddaiihhhajieaaDiskW2
namespace Go.Proofs.Ytddaiihhhajieaa
open Go.RowKit Go.Maps

set_option maxHeartbeats 1000000 in
theorem read_any (d : Nat) (F : Foot) (D : Dk) (n : Int) (w : World) (h : IsDisk w d F D) (hlen : D.wait.length < 1099511627776) :
    Calls Try.prog 22 #[.pointer (some ⟨d, 0, none⟩), .int .i64 n] w fun e w' => e = .returned (.tuple #[.string (D.rd n).1, .int .i64 (D.rd n).2]) ∧ w = w' := by
  obtain ⟨m, wv, hd, hF⟩ := h
  have c4 := hd.c_off
  by_cases ho : D.off = true
  · have e : D.rd n = (ByteArray.empty, 21) := by unfold Dk.rd; rw [if_pos ho]
    have E := Lib.hid e
    rw [ho] at c4
    clear hd ho e hlen hF
    go_enter Try.func22, Try.ntmps22
    go_wp2
    go_ret2
    exact ⟨by rw [E.out]; rfl, rfl⟩
  rw [Bool.not_eq_true] at ho
  rw [ho] at c4
  by_cases hb : n < 0 ∨ 512 ≤ n
  · have e : D.rd n = (ByteArray.empty, 1) := by unfold Dk.rd; rw [if_neg (by rw [ho]; simp), if_pos hb]
    have E := Lib.hid e
    clear hd ho e hlen hF
    by_cases b0 : n < 0
    · clear hb
      go_enter Try.func22, Try.ntmps22
      go_wp2
      go_ret2
      exact ⟨by rw [E.out]; rfl, rfl⟩
    · have b1 : 512 ≤ n := by omega
      clear hb
      go_enter Try.func22, Try.ntmps22
      go_wp2
      go_ret2
      exact ⟨by rw [E.out]; rfl, rfl⟩
  obtain ⟨M, rfl⟩ : ∃ M : Nat, n = M := ⟨n.toNat, by omega⟩
  have b0 : ¬ (M : Int) < 0 := by omega
  have b1 : ¬ 512 ≤ (M : Int) := by omega
  have e : D.rd M = (match lookW D.wait M with
    | some s => (s, 0)
    | none => if D.torn M = true then (ByteArray.empty, 24) else (D.last M, 0) : ByteArray × Int) := by
    unfold Dk.rd; rw [if_neg (by rw [ho]; simp), if_neg hb]; rfl
  have K1 : Hid (∀ k (hk : k < D.wait.length), (D.wait[k]'hk).1 = M → (∀ j (hj : j < D.wait.length), k < j → (D.wait[j]'hj).1 ≠ M) → D.rd M = ((D.wait[k]'hk).2, 0)) := by
    intro k hk h1 h2; rw [e, lookW_hit _ _ k hk h1 h2]
  have K2 : Hid ((∀ j (hj : j < D.wait.length), (D.wait[j]'hj).1 ≠ M) → D.rd M = if D.torn M = true then (ByteArray.empty, 24) else (D.last M, 0)) := by
    intro h1; rw [e, lookW_miss _ _ h1]
  have hl := hd.look M (by omega)
  have c1 := hd.c_torn
  have c2 := hd.c_wait
  have c3 := hd.c_last M (by omega)
  have HD := Lib.hid hd
  obtain ⟨A, c, rfl, hc⟩ := own_form hd.own
  obtain ⟨N, hN⟩ : ∃ N, N = D.wait.length := ⟨_, rfl⟩
  rw [← hN] at c2 hc
  have hNb : N ≤ 1099511627776 := by omega
  have HN := Lib.hid hN
  clear hd ho e hb hlen hF hN
  go_enter Try.func22, Try.ntmps22
  go_wp2
  go_loop [6] (fun i => ∃ k : Nat, k ≤ N ∧ i = .int .i64 ((k : Int) - 1) ∧ Hid (∀ j (hj : j < D.wait.length), k ≤ j → (D.wait[j]'hj).1 ≠ M)) (fun i => (intOf i + 1).toNat)
  case atStart => exact ⟨N, Nat.le_refl _, rfl, fun j hj hk => by have := HN.out; omega⟩
  case round =>
    obtain ⟨k, hk, rfl, hno⟩ := hrel
    by_cases hlt : 0 < k
    · obtain ⟨k, rfl⟩ : ∃ j, k = j + 1 := ⟨k - 1, by omega⟩
      have ek : ((k + 1 : Nat) : Int) - 1 = (k : Int) := by omega
      rw [ek]
      clear ek
      have hkw : k < D.wait.length := by rw [← HN.out]; omega
      obtain ⟨g, c', hv, hcc, p1, p2⟩ := wait_cells HD.out k hkw
      obtain ⟨rfl, -, rfl⟩ := Value.slice.inj hv
      clear hv
      have hlt2 : k < N := by omega
      obtain ⟨p, hp⟩ : ∃ p, p = D.wait[k] := ⟨_, rfl⟩
      rw [← hp] at p1 p2
      obtain ⟨x, s⟩ := p
      have HP := Lib.hid hp
      clear hp
      by_cases hx : x = M
      · subst hx
        have E := Lib.hid (K1.out k hkw (by rw [← HP.out]) (fun j hj hkj => hno.out j hj (by omega)))
        clear hl c3
        go_wp2
        go_ret2
        exact ⟨by rw [E.out, ← HP.out]; rfl, rfl⟩
      · have hne : ((x : Int) == (M : Int)) = false := by rw [beq_eq_false_iff_ne]; omega
        have HX := Lib.hid hx
        clear hx
        go_wp2
        go_round
        case rel =>
          refine ⟨k, by omega, by go_num, fun j hj hkj => ?_⟩
          by_cases ej : j = k
          · subst ej; rw [← HP.out]; exact HX.out
          · exact hno.out j hj (by omega)
        case measure => simp [intOf]
    · obtain rfl : k = 0 := by omega
      have E := Lib.hid (K2.out fun j hj => hno.out j hj (Nat.zero_le _))
      cases ht : D.torn M with
      | true =>
        rw [ht] at hl
        have HT := Lib.hid ht
        clear ht
        go_wp2
        go_ret2
        exact ⟨by rw [E.out, if_pos HT.out]; rfl, rfl⟩
      | false =>
        rw [ht] at hl
        have HT := Lib.hid ht
        clear ht
        go_wp2
        go_ret2
        exact ⟨by rw [E.out, if_neg (by rw [HT.out]; simp)]; rfl, rfl⟩

/-- behind the restart's loop: the torn block, if there is one -/
def Dk.tornAt (D : Dk) (k : Nat) (torn : Bool) : Dk :=
  { D with torn := fun j => if torn = true ∧ (D.wait[k]?.map (fun p => p.1)) = some j then true else D.torn j, turns := D.turns + 1 }
theorem restart_eq (D : Dk) (keep : Int) (torn : Bool) :
    D.restart keep torn = { (D.dones (D.wait.take (keepN keep D.wait.length))).tornAt (keepN keep D.wait.length) torn with wait := [], off := false, arm := -1 } := by
  unfold Dk.restart Dk.tornAt
  simp only [(dones_wait _ _).1, dones_turns]

set_option maxHeartbeats 1000000 in
theorem restart_any (d : Nat) (F : Foot) (D : Dk) (keep : Int) (torn : Bool) (w : World) (h : IsDisk w d F D) (hlen : D.wait.length < 1099511627776) (hturns : D.turns < 1099511627776) :
    Calls Try.prog 21 #[.pointer (some ⟨d, 0, none⟩), .int .i64 keep, .bool torn] w fun e w' => e = .returned (.tuple #[]) ∧ Left w F d (D.restart keep torn) w' := by
  obtain ⟨m, wv, hd, hF⟩ := h
  have c2 := hd.c_wait
  have hfine := hd.fine.2.2
  have HFi := Lib.hid hfine
  clear hfine
  obtain ⟨N, hN⟩ : ∃ N, N = D.wait.length := ⟨_, rfl⟩
  obtain ⟨k, hk⟩ : ∃ k, k = keepN keep D.wait.length := ⟨_, rfl⟩
  obtain ⟨A, c, rfl, hc⟩ := own_form hd.own
  rw [← hN] at c2 hc hd hk
  have hkN : k ≤ N := by rw [hk]; exact Nat.min_le_right _ _
  have hkk : (k : Int) = min (max keep 0) N := by rw [hk]; unfold keepN; omega
  have e1 : (if (0 : Int) > keep then 0 else keep) = max keep 0 := by split <;> omega
  have e2 : (if (N : Int) < max keep 0 then (N : Int) else max keep 0) = k := by split <;> omega
  have E1 := Lib.hid e1
  have E2 := Lib.hid e2
  have hNb : N ≤ 1099511627776 := by omega
  have HN := Lib.hid hN
  have HK := Lib.hid hk
  have hlw : ∀ j, (D.dones (D.wait.take j)).wait = D.wait := fun j => (dones_wait _ _).1
  have HW := Lib.hid hlw
  clear hlw e1 e2 hN hk hlen hkk
  go_enter Try.func21, Try.ntmps21
  go_wp2_with (first | ((with_reducible refine wpList_max2 9 _ _ _ _ _ _ keep 0 (max keep 0) ?_ ?_ E1.out ?_); rfl; rfl) | ((with_reducible refine wpList_min2 15 _ _ _ _ _ _ (max keep 0) N k ?_ ?_ E2.out ?_); rfl; rfl))
  go_loopw [23] (fun i wr => ∃ j : Nat, j ≤ k ∧ i = .int .i64 j ∧ DiskAt wr d m (.slice A N c) (D.dones (D.wait.take j)) ∧ Moves w wr (dm d m) (dm d m)) (fun i _ => k - (intOf i).toNat)
  case atStart => exact ⟨0, Nat.zero_le _, rfl, hd, Moves.refl _ _⟩
  case round =>
    obtain ⟨j, hj, rfl, h3, h4⟩ := hrel
    clear hd c2
    have c6 := h3.c_wait
    have f6 := h3.fz 513
    by_cases hlt : j < k
    · have hkw : j < D.wait.length := by rw [← HN.out]; omega
      have hw := HW.out j
      obtain ⟨g, c', hv, hcc, p1, p2⟩ := wait_cells h3 j (by rw [hw]; exact hkw)
      obtain ⟨rfl, -, rfl⟩ := Value.slice.inj hv
      clear hv
      simp only [hw] at p1 p2
      obtain ⟨p, hp⟩ : ∃ p, p = D.wait[j] := ⟨_, rfl⟩
      have hp512 := HFi.out D.wait[j] (List.getElem_mem _)
      rw [← hp] at p1 p2 hp512
      obtain ⟨n, s⟩ := p
      have HP := Lib.hid hp
      have hdn := fun W => done_at d m (.slice (some ⟨g, 0, none⟩) N c) (D.dones (D.wait.take j)) n s hp512 W
      have HDN := Lib.hid hdn
      clear hp hw hdn
      go_wp2_with (go_at_call 55; refine (HDN.out _ (h3.alloc _)).mono ?_; rintro e1 w2 ⟨rfl, h5, h6⟩)
      go_roundw
      case rel =>
        refine ⟨j + 1, by omega, by go_num, ?_, (h4.alloc _).trans h6⟩
        rw [List.take_succ_eq_append_getElem hkw, ← HP.out]
        unfold Dk.dones at h5 ⊢
        rw [List.foldl_append]
        exact h5
      case measure => simp [intOf]; omega
    · obtain rfl : j = k := by omega
      have hw := HW.out j
      have c7 := h3.c_torn
      have f7 := h3.fz 514
      have f8 := h3.fz 515
      have HF := Lib.hid hF
      have h3' : DiskAt wr d m (.slice A N c) (D.dones (D.wait.take j)) := h3
      obtain ⟨T, ho, hT⟩ := h3'.map
      have KF : Hid (∀ w1, DiskAt w1 d m (.slice A N c) ((D.dones (D.wait.take j)).tornAt j torn) → Moves w w1 (dm d m) (dm d m) →
          Left w F d (D.restart keep torn) (((w1.setCell ⟨d, 513, none⟩ (.slice none 0 0)).setCell ⟨d, 515, none⟩ (.bool false)).setCell ⟨d, 514, none⟩ (.int .i64 (-1)))) := by
        intro w1 h1 h2
        rw [restart_eq, ← HN.out, ← HK.out]
        refine left_of HF.out (((h1.set_wait (.slice none 0 0) [] ⟨rfl, .inl ⟨rfl, rfl⟩⟩ (by simp)).set_off false).set_arm (-1) (by omega) (by omega)) ?_
        refine ((((moves_dm (wv := .slice A D.wait.length c) h2).setCell (p := ⟨d, 513, none⟩) (.inl (.inl rfl)) _).setCell (p := ⟨d, 515, none⟩) (.inl (.inl rfl)) _).setCell (p := ⟨d, 514, none⟩) (.inl (.inl rfl)) _).less ?_
        rintro k (rfl | rfl | hk)
        · exact .inl (.inl rfl)
        · exact .inl (.inr (.inl rfl))
        · simp [Value.ownBlock] at hk
      by_cases hcase : torn = true ∧ j < N
      · obtain ⟨rfl, hjN⟩ := hcase
        have hkw : j < D.wait.length := by rw [← HN.out]; omega
        obtain ⟨g, c', hv, hcc, p1, p2⟩ := wait_cells h3 j (by rw [hw]; exact hkw)
        obtain ⟨rfl, -, rfl⟩ := Value.slice.inj hv
        clear hv p2
        simp only [hw] at p1
        obtain ⟨n, hn⟩ : ∃ n, n = (D.wait[j]).1 := ⟨_, rfl⟩
        have hp512 := HFi.out D.wait[j] (List.getElem_mem _)
        rw [← hn] at p1 hp512
        obtain ⟨w', hrun, ho', ht'⟩ := World.ownsMap.store (w := wr.drew) (t := 93) (e := 4) ho law3 Try.underlying93 (by rw [dones_turns]; unfold maxLen; omega) (key3 n hp512) (plainElem_bool Try.underlying4 true)
        have h5 : DiskAt w' d m (.slice (some ⟨g, 0, none⟩) N c) ((D.dones (D.wait.take j)).tornAt j true) := by
          have := (h3.drew).turned ht' _ _ _ ho' (atKey_laid (ho.tidy law3).isMap hT n)
          have e : (fun i => if i = n then true else (D.dones (D.wait.take j)).torn i) = (fun i => if true = true ∧ ((D.dones (D.wait.take j)).wait[j]?.map (fun p => p.1)) = some i then true else (D.dones (D.wait.take j)).torn i) := by
            funext i
            rw [hw, List.getElem?_eq_getElem hkw]
            by_cases ei : i = n
            · rw [if_pos ei, if_pos ⟨rfl, by rw [ei, hn]; rfl⟩]
            · rw [if_neg ei, if_neg]
              rintro ⟨-, h⟩
              simp at h
              exact ei (by rw [hn, h])
          unfold Dk.tornAt
          rw [← e]
          exact this
        have KL := Lib.hid (KF.out w' h5 (h4.drew.turned ht' (.inl (.inr rfl))))
        have q0 := h5.fz 513
        have q1 := h5.fz 514
        have q2 := h5.fz 515
        have q3 := h5.c_wait
        have q4 := h5.c_arm
        have q5 := h5.c_off
        clear h3 h3' h4 h5 ho' ht' ho hT KF hw hF hn
        go_wp2
        go_region
        all_goals (go_wp2; go_end0; exact ⟨rfl, KL.out⟩)
      · have h5 : DiskAt wr d m (.slice A N c) ((D.dones (D.wait.take j)).tornAt j torn) := by
          have e : (fun i => if torn = true ∧ ((D.dones (D.wait.take j)).wait[j]?.map (fun p => p.1)) = some i then true else (D.dones (D.wait.take j)).torn i) = (D.dones (D.wait.take j)).torn := by
            funext i
            refine if_neg ?_
            rintro ⟨ht, h⟩
            rw [hw, List.getElem?_eq_none (by rw [← HN.out]; exact Nat.le_of_not_lt fun h2 => hcase ⟨ht, h2⟩)] at h
            simp at h
          unfold Dk.tornAt
          rw [e]
          exact h3.more_turns
        have KL := Lib.hid (KF.out wr h5 h4)
        have q3 := h3.c_wait
        have q4 := h3.c_arm
        have q5 := h3.c_off
        have hcase' : torn = true → ¬ j < N := fun h1 h2 => hcase ⟨h1, h2⟩
        clear h3 h3' h4 h5 ho hT KF hw hF hcase
        cases torn with
        | true =>
          have hjN := hcase' rfl
          clear hcase'
          go_wp2
          go_end0
          exact ⟨rfl, KL.out⟩
        | false =>
          clear hcase'
          go_wp2
          go_end0
          exact ⟨rfl, KL.out⟩
end Go.Proofs.Ytddaiihhhajieaa
