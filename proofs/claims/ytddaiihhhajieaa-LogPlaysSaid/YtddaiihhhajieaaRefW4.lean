/- The walk of the document's disk: Read. -/
import Derived.Test.YtddaiihhhajieaaRefAgree
import Derived.Test.YtddaiihhhajieaaDiskW5
namespace Go.Proofs.Ytddaiihhhajieaa
open Go.RowKit Go.Maps

theorem own_empty (W : World) (H : Nat) (hH : W.heap.size = H) (e : TypeId) : (W.alloc (.cells #[] e)).ownsRow H e 2 (.slice (some ⟨H, 0, none⟩) 0 0) 0 [] := by
  subst hH
  exact ⟨rfl, .inr ⟨W.heap.size, 0, #[], rfl, Nat.le_refl _, heap_alloc_new W _, Nat.le_refl _, Nat.zero_le _, rfl, rfl⟩⟩
theorem bytes_empty {s : ByteArray} (h : s.size = 0) : s = ⟨#[]⟩ := by
  obtain ⟨d⟩ := s
  have : d = #[] := Array.eq_empty_of_size_eq_zero h
  rw [this]

theorem toList_ne {s t : ByteArray} (h : s ≠ t) : (s.toList == t.toList) = false := by
  rw [beq_eq_false_iff_ne]
  intro e
  rw [ByteArray.toList_eq, ByteArray.toList_eq] at e
  apply h
  obtain ⟨⟨a⟩⟩ := s
  obtain ⟨⟨b⟩⟩ := t
  simp at e
  rw [e]

theorem toList_ne_nil {s : ByteArray} (h : ¬ s.size = 0) : s.toList.isEmpty = false := by
  rw [ByteArray.toList_eq]
  obtain ⟨⟨a⟩⟩ := s
  cases a with
  | nil => exact absurd rfl h
  | cons => rfl

set_option maxHeartbeats 1000000 in
set_option maxRecDepth 4000 in
theorem rread_any (r : Nat) (G : Foot) (D : Dk) (L : Puts) (n : Int) (w : World) (h : IsRef w r G D L) (hlen : L.length + D.wait.length < 1099511627776) :
    Calls Try.prog 30 #[.pointer (some ⟨r, 0, none⟩), .int .i64 n] w fun e w' => e = .returned (.tuple #[.string (rrd D L n).1, .int .i64 (rrd D L n).2]) ∧ Below w.heap.size w w' := by
  obtain ⟨lv, wv, hd, hF⟩ := h
  have c4 := hd.c3
  by_cases ho : D.off = true
  · have e : rrd D L n = (ByteArray.empty, 21) := by unfold rrd; rw [if_pos ho]
    have E := Lib.hid e
    rw [ho] at c4
    clear hd ho e hlen hF
    go_enter Try.func30, Try.ntmps30
    go_wp2
    go_ret2
    exact ⟨by rw [E.out]; rfl, Below.refl _ _⟩
  rw [Bool.not_eq_true] at ho
  rw [ho] at c4
  by_cases hb : n < 0 ∨ 512 ≤ n
  · have e : rrd D L n = (ByteArray.empty, 1) := by unfold rrd; rw [if_neg (by rw [ho]; simp), if_pos hb]
    have E := Lib.hid e
    clear hd ho e hlen hF
    by_cases b0 : n < 0
    · clear hb
      go_enter Try.func30, Try.ntmps30
      go_wp2
      go_ret2
      exact ⟨by rw [E.out]; rfl, Below.refl _ _⟩
    · have b1 : 512 ≤ n := by omega
      clear hb
      go_enter Try.func30, Try.ntmps30
      go_wp2
      go_ret2
      exact ⟨by rw [E.out]; rfl, Below.refl _ _⟩
  obtain ⟨M, rfl⟩ : ∃ M : Nat, n = M := ⟨n.toNat, by omega⟩
  have b0 : ¬ (M : Int) < 0 := by omega
  have b1 : ¬ 512 ≤ (M : Int) := by omega
  obtain ⟨P, hP⟩ : ∃ P, P = L ++ D.wait := ⟨_, rfl⟩
  have e : rrd D L M = (match lookW P M with
    | some s => if s.size = 0 then (ByteArray.empty, 24) else (s, 0)
    | none => (zs 64, 0) : ByteArray × Int) := by
    unfold rrd; rw [if_neg (by rw [ho]; simp), if_neg hb, hP]; rfl
  have K1 : Hid (∀ k (hk : k < P.length), (P[k]'hk).1 = M → (∀ j (hj : j < P.length), k < j → (P[j]'hj).1 ≠ M) → rrd D L M = if (P[k]'hk).2.size = 0 then (ByteArray.empty, 24) else ((P[k]'hk).2, 0)) := by
    intro k hk h1 h2; rw [e, lookW_hit _ _ k hk h1 h2]
  have K2 : Hid ((∀ j (hj : j < P.length), (P[j]'hj).1 ≠ M) → rrd D L M = (zs 64, 0)) := by
    intro h1; rw [e, lookW_miss _ _ h1]
  have hPl : P.length = L.length + D.wait.length := by rw [hP, List.length_append]
  have hPv : putsV P = putsV L ++ putsV D.wait := by rw [hP, putsV_append]
  -- behind the region: what all holds
  have HR : Hid (∀ W, Moves w W noFoot noFoot → RefAt W r lv wv D L) := fun W hm => hd.below (hm.toBelow (Nat.le_refl _) (fun _ hk => hk.elim))
  have HL : Hid (0 + L.length ≤ maxLen ∧ (0 + L.length) * 24 ≤ 140737488355328 ∧ 0 + L.length + D.wait.length ≤ maxLen ∧ (0 + L.length + D.wait.length) * 24 ≤ 140737488355328) := by
    unfold maxLen; exact ⟨by omega, by omega, by omega, by omega⟩
  have HO1 := Lib.hid (putsV_one L)
  have HO2 := Lib.hid (putsV_one D.wait)
  have c0 := hd.c0
  have c1 := hd.c1
  have hr := hd.blk.lt
  have hr2 : r ≠ w.heap.size := by omega
  obtain ⟨i0, hi, hz0, hz1, hz2⟩ := info_parts Try.info103
  obtain ⟨A0, cc0, hlv, hlc⟩ := own_form hd.last
  obtain ⟨A1, cc1, hwv, hwc⟩ := own_form hd.wait
  rw [hwv] at c1
  rw [hlv] at c0
  have HPl := Lib.hid hPl
  have HPv := Lib.hid hPv
  have KA : Hid (∀ o, Moves w (w.drew.alloc o) noFoot noFoot ∧ Yields (w.drew.alloc o) 2 lv L.length (putsV L)) := fun o => by
    have m := ((Moves.refl w noFoot).drew).alloc o
    exact ⟨m, Yields.of_own (HR.out _ m).last⟩
  have KB : Hid (∀ o W, (w.drew.alloc o).grownBy W (some w.heap.size) → Moves w W noFoot noFoot ∧ Yields W 2 wv D.wait.length (putsV D.wait)) := fun o W hg => by
    have m := ((KA.out o).1).grown hg (fun k hk => .inr (by injection hk with hk; omega))
    exact ⟨m, Yields.of_own (HR.out _ m).wait⟩
  clear hd hF ho hb e hP hPl hPv hlen
  subst hwv
  subst hlv
  go_enter Try.func30, Try.ntmps30
  go_wp2
  go_region_law (first
    | (refine step_append_src rfl (.tmp 18) (.tmp 22) 46 rfl w.heap.size 103 i0 _ 2 24 Try.underlying46 hi hz0 hz1 hz2 rfl (by decide) _ _ _ rfl (own_empty _ _ (by simp) 103) _ _ _ rfl (KA.out _).2 HO1.out HL.out.1 HL.out.2.1 (by simp) ?_; intro v' w3 ho3 hg3 hl3; obtain ⟨m3, y3⟩ := KB.out _ w3 hg3; have Y3 := Lib.hid y3; have M3 := Lib.hid m3; have HO3 := Lib.hid ho3; have HL3 := Lib.hid hl3; have c5 := (HR.out w3 m3).c1; clear ho3 hg3 hl3 m3 y3)
    | (refine step_append_src rfl (.tmp 23) (.tmp 27) 46 rfl w.heap.size 103 i0 _ 2 24 Try.underlying46 hi hz0 hz1 hz2 rfl (by decide) _ _ _ rfl HO3.out _ _ _ rfl Y3.out HO2.out HL.out.2.2.1 HL.out.2.2.2 M3.out.size ?_; intro v'' w4 ho4 hg4 hl4; have q4 : Moves w w4 noFoot noFoot := (M3.out).grown hg4 (fun k hk => .inr (by have := (HO3.out.lt k hk).1; omega)); have M4 := Lib.hid q4; obtain ⟨A, c, hv, hc4⟩ := own_form ho4; rw [Nat.zero_add] at hv hc4; have HO4 := Lib.hid ho4; clear ho4 hg4 hl4 q4; subst hv))
  all_goals
    have hO := HO4.out
    rw [List.nil_append, ← HPv.out, Nat.zero_add] at hO
    have hM := M4.out
    obtain ⟨N, hN⟩ : ∃ N, N = P.length := ⟨_, rfl⟩
    have eN : L.length + D.wait.length = N := by have := HPl.out; omega
    rw [eN] at hO hc4 ⊢
    have HN := Lib.hid hN
    have hNb : N ≤ 6000000000000 := by have := HL.out.2.2.2; omega
    clear HO4 HO3 HO1 HO2 HL3 M3 M4 Y3 KA KB HR HPl HPv HL hN eN c0 c1 c4 c5
    go_wp2
    go_loopw [7] (fun i wr => w4 = wr ∧ ∃ k : Nat, k ≤ N ∧ i = .int .i64 ((k : Int) - 1) ∧ Hid (∀ j (hj : j < P.length), k ≤ j → (P[j]'hj).1 ≠ M)) (fun i _ => (intOf i + 1).toNat)
    case atStart => exact ⟨rfl, N, Nat.le_refl _, rfl, fun j hj hk => by have := HN.out; omega⟩
    case round =>
      obtain ⟨rfl, k, hk, rfl, hno⟩ := hrel
      by_cases hlt : 0 < k
      · obtain ⟨k, rfl⟩ : ∃ j, k = j + 1 := ⟨k - 1, by omega⟩
        have ek : ((k + 1 : Nat) : Int) - 1 = (k : Int) := by omega
        rw [ek]
        clear ek
        have hkw : k < P.length := by rw [← HN.out]; omega
        obtain ⟨g, rfl, p0, _⟩ := own_cell (base_zero hO) (by omega)
        obtain ⟨p1, p2⟩ := putsV_at P k hkw
        have p1 := (p0 (k * 2) (by omega)).trans p1
        have p2 := (p0 (k * 2 + 1) (by omega)).trans p2
        have hlt2 : k < N := by omega
        have hnc : N ≤ c := hc4
        obtain ⟨p, hp⟩ : ∃ p, p = P[k] := ⟨_, rfl⟩
        rw [← hp] at p1 p2
        obtain ⟨x, s⟩ := p
        have HP := Lib.hid hp
        have HH := Lib.hid hO
        have HM := Lib.hid hM
        clear hp hO hM p0 hc4
        by_cases hx : x = M
        · subst hx
          have E := Lib.hid (K1.out k hkw (by rw [← HP.out]) (fun j hj hkj => hno.out j hj (by omega)))
          rw [← HP.out] at E
          by_cases hs : s.size = 0
          · obtain rfl := bytes_empty hs
            have E' := Lib.hid (E.out.trans (if_pos hs))
            clear E hs
            go_wp2
            go_ret2
            exact ⟨by rw [E'.out]; rfl, HM.out.toBelow (Nat.le_refl _) (fun _ hk => hk.elim)⟩
          · have E' := Lib.hid (E.out.trans (if_neg hs))
            clear E
            have hz1 : s.toList.isEmpty = false := toList_ne_nil hs
            go_wp2
            go_ret2
            exact ⟨by rw [E'.out]; rfl, HM.out.toBelow (Nat.le_refl _) (fun _ hk => hk.elim)⟩
        · have hne : ((x : Int) == (M : Int)) = false := by rw [beq_eq_false_iff_ne]; omega
          have HX := Lib.hid hx
          clear hx
          go_wp2
          go_roundw
          case rel =>
            refine ⟨trivial, k, by omega, by go_num, fun j hj hkj => ?_⟩
            by_cases ej : j = k
            · subst ej; rw [← HP.out]; exact HX.out
            · exact hno.out j hj (by omega)
          case measure => simp [intOf]
      · obtain rfl : k = 0 := by omega
        have E := Lib.hid (K2.out fun j hj => hno.out j hj (Nat.zero_le _))
        have HM := Lib.hid hM
        have hmk := run_make64
        have hc := run_convert_bytes_arg (P := Try.prog) (w4.alloc (.cells bz 5)) 59 5 Try.underlying59 Try.underlying5 w4.heap.size 0 64 64 (List.replicate 64 0) (by simp) (fun i hi => by
          rw [Nat.zero_add, (Blk.new w4 5 bz).cell, List.getD_eq_getElem?_getD, List.getElem?_replicate, if_pos hi]; unfold bz; rw [Array.getElem?_replicate, if_pos hi]; rfl) 9 Try.underlying9
        rw [strOf_rep] at hc
        clear hO hM
        go_wp2
        go_ret2
        exact ⟨by rw [E.out]; rfl, (HM.out.alloc _).toBelow (Nat.le_refl _) (fun _ hk => hk.elim)⟩
end Go.Proofs.Ytddaiihhhajieaa
