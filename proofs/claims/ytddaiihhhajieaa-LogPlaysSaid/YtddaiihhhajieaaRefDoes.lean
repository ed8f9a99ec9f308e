/- An op at both disks: the walk of 'does'. -/
import Derived.Test.YtddaiihhhajieaaRefW4
import Derived.Test.YtddaiihhhajieaaDiskFresh
import Derived.Test.YtddaiihhhajieaaArgs
import Derived.Deep.RegionHeld3
namespace Go.Proofs.Ytddaiihhhajieaa
open Go.RowKit Go.Maps

def Un (F G : Foot) : Foot := fun k => F k ∨ G k
structure Pair (w : World) (d r : Nat) (F G : Foot) (D1 D2 : Dk) (L : Puts) : Prop where
  disk : IsDisk w d F D1
  ref : IsRef w r G D2 L
  apart : ∀ k, F k → ¬ G k

section
variable {w w' : World} {d r : Nat} {F G : Foot} {D1 D2 D' : Dk} {L L' : Puts}
theorem Pair.disk_left (h : Pair w d r F G D1 D2 L) (hl : Left w F d D' w') : ∃ F', Pair w' d r F' G D' D2 L ∧ Moves w w' (Un F G) (Un F' G) := by
  obtain ⟨F', h1, hm⟩ := hl
  exact ⟨F', ⟨h1, h.ref.stay (hm.stay h.apart h.ref.lt), hm.apart h.apart h.ref.lt⟩, hm.beside G⟩
theorem Pair.ref_left (h : Pair w d r F G D1 D2 L) (hl : LeftR w G r D' L' w') : ∃ G', Pair w' d r F G' D1 D' L' ∧ Moves w w' (Un F G) (Un F G') := by
  obtain ⟨G', h1, hm⟩ := hl
  have ha : ∀ k, G k → ¬ F k := fun k h1 h2 => h.apart k h2 h1
  have m := (hm.beside F).more (H := Un F G) (fun k hk => hk.symm)
  exact ⟨G', ⟨h.disk.stay (hm.stay ha h.disk.lt), h1, fun k h2 h3 => hm.apart ha h.disk.lt k h3 h2⟩, m.less (fun k hk => .inl hk.symm)⟩
theorem Pair.below (h : Pair w d r F G D1 D2 L) (hb : Below w.heap.size w w') : Pair w' d r F G D1 D2 L := ⟨h.disk.below hb, h.ref.below hb, h.apart⟩
theorem Pair.drew (h : Pair w d r F G D1 D2 L) : Pair w.drew d r F G D1 D2 L := h.below (Below.refl _ _).drew
theorem Pair.alloc (h : Pair w d r F G D1 D2 L) (o : Obj) : Pair (w.alloc o) d r F G D1 D2 L := h.below ((Below.refl _ _).alloc (Nat.le_refl _) o)
theorem Pair.ref_arm (h : Pair w d r F G D1 D2 L) (x : Int) : (∃ v, w.cell? ⟨r, 2, none⟩ = some v) ∧ w.frozen? ⟨r, 2, none⟩ = false ∧ Pair (w.setCell ⟨r, 2, none⟩ (.int .i64 x)) d r F G D1 { D2 with arm := x } L ∧ Moves w (w.setCell ⟨r, 2, none⟩ (.int .i64 x)) (Un F G) (Un F G) := by
  obtain ⟨lv, wv, h1, hG⟩ := h.ref
  have hr : G r := (hG r).2 (.inl rfl)
  exact ⟨⟨_, h1.c2⟩, h1.fz 2, ⟨h.disk.stay (fun k hk => Below.heap_setCell _ _ _ _ (by rintro rfl; exact h.apart _ hk hr)), ⟨lv, wv, h1.set_arm x, hG⟩, h.apart⟩, (Moves.refl _ _).setCell (p := ⟨r, 2, none⟩) (.inl (.inr hr)) _⟩
end

/-- what an op leaves -/
def doD (x : Op18) (D : Dk) : Dk :=
  if x.do_ = 0 ∨ x.do_ = 1 ∨ x.do_ = 2 ∨ x.do_ = 3 then (D.wr x.n x.s).2 else if x.do_ = 5 then D.sync.2 else if x.do_ = 6 then D.armed x.n else if x.do_ = 7 then D.restart x.n x.torn else D
def doL (x : Op18) (D : Dk) (L : Puts) : Puts := if x.do_ = 5 then syncL D L else if x.do_ = 7 then restL D L x.n x.torn else L

def Both (w : World) (d r : Nat) (D : Dk) (L : Puts) (U : Foot) : Prop := ∃ F G, Pair w d r F G D D L ∧ ∀ k, U k ↔ Un F G k
def LeftB (w : World) (U : Foot) (d r : Nat) (D : Dk) (L : Puts) (w' : World) : Prop := ∃ U', Both w' d r D L U' ∧ Moves w w' U U'

set_option maxHeartbeats 4000000 in
theorem does_any (d r : Nat) (F G : Foot) (D : Dk) (L : Puts) (x : Op18) (hx : I64 x.n) (w : World) (h : Pair w d r F G D D L) (ha : Agree D L) (hfine : D.Fine)
    (hlen : L.length + D.wait.length < 1099511627776) (hturns : D.turns < 1099511627776) :
    Calls Try.prog 28 #[.pointer (some ⟨d, 0, none⟩), .pointer (some ⟨r, 0, none⟩), .agg #[.int .i64 x.do_, .int .i64 x.n, .string x.s, .bool x.torn]] w fun e w' =>
      e = .returned (.bool true) ∧ LeftB w (Un F G) d r (doD x D) (doL x D L) w' := by
  have hx2 : x.n ≤ 9223372036854775807 := hx.2
  have hl1 : D.wait.length < 1099511627776 := by omega
  have H19 := Lib.hid (fun (W : World) (F G : Foot) (D2 : Dk) (L2 : Puts) (hp : Pair W d r F G D D2 L2) => (write_any d F D x.n x.s W hp.disk hl1).mono fun e w' (hh : _ ∧ _) => (⟨hh.1, hp.disk_left hh.2⟩ : e = .returned (.int .i64 (D.wr x.n x.s).1) ∧ ∃ F', Pair w' d r F' G (D.wr x.n x.s).2 D2 L2 ∧ Moves W w' (Un F G) (Un F' G)))
  have H56 := Lib.hid (fun (W : World) (F G : Foot) (D1 : Dk) (hp : Pair W d r F G D1 D L) => (rwrite_any r G D L x.n x.s W hp.ref hfine hl1).mono fun e w' (hh : _ ∧ _) => (⟨hh.1, hp.ref_left hh.2⟩ : e = .returned (.int .i64 (D.wr x.n x.s).1) ∧ ∃ G', Pair w' d r F G' D1 (D.wr x.n x.s).2 L ∧ Moves W w' (Un F G) (Un F G')))
  have H24 := Lib.hid (fun (W : World) (F G : Foot) (D2 : Dk) (L2 : Puts) (hp : Pair W d r F G D D2 L2) => (sync_any d F D W hp.disk hl1).mono fun e w' (hh : _ ∧ _) => (⟨hh.1, hp.disk_left hh.2⟩ : e = .returned (.int .i64 D.sync.1) ∧ ∃ F', Pair w' d r F' G D.sync.2 D2 L2 ∧ Moves W w' (Un F G) (Un F' G)))
  have H57 := Lib.hid (fun (W : World) (F G : Foot) (D1 : Dk) (hp : Pair W d r F G D1 D L) => (rsync_any r G D L W hp.ref hfine hlen).mono fun e w' (hh : _ ∧ _) => (⟨hh.1, hp.ref_left hh.2⟩ : e = .returned (.int .i64 D.sync.1) ∧ ∃ G', Pair w' d r F G' D1 D.sync.2 (syncL D L) ∧ Moves W w' (Un F G) (Un F G')))
  have H21 := Lib.hid (fun (W : World) (F G : Foot) (D2 : Dk) (L2 : Puts) (hp : Pair W d r F G D D2 L2) => (restart_any d F D x.n x.torn W hp.disk hl1 hturns).mono fun e w' (hh : _ ∧ _) => (⟨hh.1, hp.disk_left hh.2⟩ : e = .returned (.tuple #[]) ∧ ∃ F', Pair w' d r F' G (D.restart x.n x.torn) D2 L2 ∧ Moves W w' (Un F G) (Un F' G)))
  have H29 := Lib.hid (fun (W : World) (F G : Foot) (D1 : Dk) (hp : Pair W d r F G D1 D L) => (rrestart_any r G D L x.n x.torn W hp.ref hlen).mono fun e w' (hh : _ ∧ _) => (⟨hh.1, hp.ref_left hh.2⟩ : e = .returned (.tuple #[]) ∧ ∃ G', Pair w' d r F G' D1 (D.restart x.n x.torn) (restL D L x.n x.torn) ∧ Moves W w' (Un F G) (Un F G')))
  have H26 := Lib.hid (fun (W : World) (F G : Foot) (D2 : Dk) (L2 : Puts) (hp : Pair W d r F G D D2 L2) => (arm_any d F D x.n hx2 W hp.disk).mono fun e w' (hh : _ ∧ _) => (⟨hh.1, hp.disk_left hh.2⟩ : e = .returned (.tuple #[]) ∧ ∃ F', Pair w' d r F' G (D.armed x.n) D2 L2 ∧ Moves W w' (Un F G) (Un F' G)))
  have hO : Pair (w.alloc (.cells #[.int .i64 x.do_, .int .i64 x.n, .string x.s, .bool x.torn] 36)) d r F G D D L := h.alloc _
  have hM : Moves w (w.alloc (.cells #[.int .i64 x.do_, .int .i64 x.n, .string x.s, .bool x.torn] 36)) (Un F G) (Un F G) := (Moves.refl _ _).alloc _
  have HO := Lib.hid hO
  have HM := Lib.hid hM
  have KO : Hid (∀ W U, Moves (w.alloc (.cells #[.int .i64 x.do_, .int .i64 x.n, .string x.s, .bool x.torn] 36)) W (Un F G) U → W.cell? ⟨w.heap.size, 1, none⟩ = some (.int .i64 x.n) ∧ W.cell? ⟨w.heap.size, 2, none⟩ = some (.string x.s) ∧ W.cell? ⟨w.heap.size, 3, none⟩ = some (.bool x.torn)) := by
    intro W U hm
    have hb := Blk.new w 36 #[.int .i64 x.do_, .int .i64 x.n, .string x.s, .bool x.torn]
    have hk := hb.stay (hm.keep w.heap.size hb.lt (fun hk => by
      rcases hk with hk | hk
      · have := h.disk.lt _ hk; omega
      · have := h.ref.lt _ hk; omega))
    exact ⟨(hk.cell 1).trans rfl, (hk.cell 2).trans rfl, (hk.cell 3).trans rfl⟩
  clear h hO hM
  by_cases hw : x.do_ = 0 ∨ x.do_ = 1 ∨ x.do_ = 2 ∨ x.do_ = 3
  · have e1 : doD x D = (D.wr x.n x.s).2 := if_pos hw
    have e2 : doL x D L = L := by unfold doL; rw [if_neg (by omega), if_neg (by omega)]
    rw [e1, e2]
    obtain ⟨do_, n, s, torn⟩ := x
    simp only at *
    obtain ⟨a, hA⟩ : ∃ a, a = (D.wr n s).1 := ⟨_, rfl⟩
    rw [← hA] at H19 H56
    clear e1 e2 hA
    have S0 := KO.out _ _ (Moves.refl _ _).drew
    have S1 := Lib.hid (⟨S0.1, S0.2.1⟩ : _ ∧ _)
    clear S0
    have S0 := S1
    clear S1
    rcases hw with rfl | rfl | rfl | rfl
    all_goals
      go_enter Try.func28, Try.ntmps28
      go_wp2
      go_region_held3 (fun w' => w'.cell? ⟨w.heap.size, 1, none⟩ = some (.int .i64 n) ∧ w'.cell? ⟨w.heap.size, 2, none⟩ = some (.string s)) (first | exact ⟨o4, o5⟩ | exact ⟨o1, o2⟩ | exact S0.out)
       (first
        | (go_at_call 19; first
          | (refine (H19.out _ _ _ _ _ p1).mono ?_; rintro e3 w3 ⟨rfl, F2, p2, m2⟩; obtain ⟨o4, o5, o6⟩ := KO.out _ _ ((Moves.refl _ _).drew.trans (m1.trans m2)))
          | (refine (H19.out _ _ _ _ _ HO.out.drew).mono ?_; rintro e3 w3 ⟨rfl, F1, p1, m1⟩; obtain ⟨o1, o2, o3⟩ := KO.out _ _ ((Moves.refl _ _).drew.trans m1)))
        | (go_at_call 56; first
          | (refine (H56.out _ _ _ _ p1).mono ?_; rintro e3 w3 ⟨rfl, G2, p2, m2⟩; obtain ⟨o4, o5, o6⟩ := KO.out _ _ ((Moves.refl _ _).drew.trans (m1.trans m2)))
          | (refine (H56.out _ _ _ _ HO.out.drew).mono ?_; rintro e3 w3 ⟨rfl, G1, p1, m1⟩; obtain ⟨o1, o2, o3⟩ := KO.out _ _ ((Moves.refl _ _).drew.trans m1))))
      all_goals
        have K := Lib.hid (show LeftB w (Un F G) d r (D.wr n s).2 L _ from ⟨_, ⟨_, _, p2, fun _ => Iff.rfl⟩, HM.out.drew.trans (m1.trans m2)⟩)
        clear p1 p2 m1 m2 o1 o2 o3 o4 o5 o6
        go_wp2
        go_ret
        exact ⟨rfl, K.out⟩
  have n0 : (x.do_ == 0) = false := by rw [beq_eq_false_iff_ne]; omega
  have n1 : (x.do_ == 1) = false := by rw [beq_eq_false_iff_ne]; omega
  have n2 : (x.do_ == 2) = false := by rw [beq_eq_false_iff_ne]; omega
  have n3 : (x.do_ == 3) = false := by rw [beq_eq_false_iff_ne]; omega
  by_cases h4 : x.do_ = 4
  · have e1 : doD x D = D := by unfold doD; rw [if_neg hw, if_neg (by omega), if_neg (by omega), if_neg (by omega)]
    have e2 : doL x D L = L := by unfold doL; rw [if_neg (by omega), if_neg (by omega)]
    rw [e1, e2]
    have h22 := read_any d F D x.n _ HO.out.disk hl1
    have h30 := rread_any r G D L x.n _ HO.out.ref hlen
    rw [agree_rd ha] at h30
    obtain ⟨do_, n, s, torn⟩ := x
    obtain rfl : do_ = 4 := h4
    simp only at *
    obtain ⟨a, hA⟩ : ∃ a, a = D.rd n := ⟨_, rfl⟩
    rw [← hA] at h22 h30
    obtain ⟨t, e⟩ := a
    have hq : (t.toList == t.toList) = true := beq_self_eq_true _
    have H22 := Lib.hid h22
    have H30 := Lib.hid h30
    clear e1 e2 hA h22 h30 n0 n1 n2 n3 hw
    go_enter Try.func28, Try.ntmps28
    go_wp2_with (first | (go_at_call 22; refine H22.out.mono ?_; rintro e3 w3 ⟨rfl, rfl⟩) | (go_at_call 30; refine H30.out.mono ?_; rintro e4 w4 ⟨rfl, hb4⟩))
    go_ret
    exact ⟨rfl, _, ⟨_, _, HO.out.below hb4, fun _ => Iff.rfl⟩, HM.out.below hb4⟩
  by_cases h5 : x.do_ = 5
  · have e1 : doD x D = D.sync.2 := by unfold doD; rw [if_neg hw, if_pos h5]
    have e2 : doL x D L = syncL D L := if_pos h5
    rw [e1, e2]
    obtain ⟨do_, n, s, torn⟩ := x
    obtain rfl : do_ = 5 := h5
    simp only at *
    obtain ⟨a, hA⟩ : ∃ a, a = D.sync.1 := ⟨_, rfl⟩
    rw [← hA] at H24 H57
    clear e1 e2 hA n0 n1 n2 n3 hw h4
    go_enter Try.func28, Try.ntmps28
    go_wp2_with (first | (go_at_call 24; refine (H24.out _ _ _ _ _ HO.out).mono ?_; rintro e3 w3 ⟨rfl, F1, p1, m1⟩) | (go_at_call 57; refine (H57.out _ _ _ _ p1).mono ?_; rintro e4 w4 ⟨rfl, G2, p2, m2⟩))
    go_ret
    exact ⟨by simp, _, ⟨_, _, p2, fun _ => Iff.rfl⟩, HM.out.trans (m1.trans m2)⟩
  by_cases h6 : x.do_ = 6
  · have e1 : doD x D = D.armed x.n := by unfold doD; rw [if_neg hw, if_neg (by omega), if_pos h6]
    have e2 : doL x D L = L := by unfold doL; rw [if_neg (by omega), if_neg (by omega)]
    rw [e1, e2]
    obtain ⟨do_, n, s, torn⟩ := x
    obtain rfl : do_ = 6 := h6
    simp only at *
    have e3 : (if (-1 : Int) > n then -1 else n) = max n (-1) := by split <;> omega
    have E3 := Lib.hid e3
    clear e1 e2 e3 n0 n1 n2 n3 hw h4 h5
    go_enter Try.func28, Try.ntmps28
    go_wp2_with (first | (go_at_call 26; refine (H26.out _ _ _ _ _ HO.out).mono ?_; rintro e3 w3 ⟨rfl, F1, p1, m1⟩; obtain ⟨o1, o2, o3⟩ := KO.out _ _ m1; obtain ⟨⟨v, o4⟩, o5, p2, m2⟩ := p1.ref_arm (max n (-1))) | ((with_reducible refine wpList_max2 71 _ _ _ _ _ _ n (-1) (max n (-1)) ?_ ?_ E3.out ?_); rfl; rfl))
    go_ret
    exact ⟨rfl, _, ⟨_, _, p2, fun _ => Iff.rfl⟩, HM.out.trans (m1.trans m2)⟩
  by_cases h7 : x.do_ = 7
  · have e1 : doD x D = D.restart x.n x.torn := by unfold doD; rw [if_neg hw, if_neg (by omega), if_neg (by omega), if_pos h7]
    have e2 : doL x D L = restL D L x.n x.torn := by unfold doL; rw [if_neg (by omega), if_pos h7]
    rw [e1, e2]
    obtain ⟨do_, n, s, torn⟩ := x
    obtain rfl : do_ = 7 := h7
    simp only at *
    clear e1 e2 n0 n1 n2 n3 hw h4 h5 h6
    go_enter Try.func28, Try.ntmps28
    go_wp2_with (first | (go_at_call 21; refine (H21.out _ _ _ _ _ HO.out).mono ?_; rintro e3 w3 ⟨rfl, F1, p1, m1⟩; obtain ⟨o1, o2, o3⟩ := KO.out _ _ m1) | (go_at_call 29; refine (H29.out _ _ _ _ p1).mono ?_; rintro e4 w4 ⟨rfl, G2, p2, m2⟩))
    go_ret
    exact ⟨rfl, _, ⟨_, _, p2, fun _ => Iff.rfl⟩, HM.out.trans (m1.trans m2)⟩
  · have e1 : doD x D = D := by unfold doD; rw [if_neg hw, if_neg h5, if_neg h6, if_neg h7]
    have e2 : doL x D L = L := by unfold doL; rw [if_neg h5, if_neg h7]
    rw [e1, e2]
    have n4 : (x.do_ == 4) = false := by rw [beq_eq_false_iff_ne]; exact h4
    have n5 : (x.do_ == 5) = false := by rw [beq_eq_false_iff_ne]; exact h5
    have n6 : (x.do_ == 6) = false := by rw [beq_eq_false_iff_ne]; exact h6
    have n7 : (x.do_ == 7) = false := by rw [beq_eq_false_iff_ne]; exact h7
    clear e1 e2 hw h4 h5 h6 h7
    go_enter Try.func28, Try.ntmps28
    go_wp2_with fail
    go_ret
    exact ⟨rfl, _, ⟨_, _, HO.out, fun _ => Iff.rfl⟩, HM.out⟩
end Go.Proofs.Ytddaiihhhajieaa
