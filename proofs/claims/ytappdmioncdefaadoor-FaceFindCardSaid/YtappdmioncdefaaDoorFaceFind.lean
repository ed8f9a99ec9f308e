/- FaceFind: the first of a name is found; none, if none has it: the plain law, and the walk. -/
import Derived.Test.YtappdmioncdefaaDoorPure3
import Derived.Test.YtappdmioncdefaaDoorQCarlinglaw04FaceFind
import Derived.Test.YtappdmioncdefaaDoorArgs
namespace Go.Proofs.YtappdmioncdefaaDoor.Q
open Go.RowKit Go.Proofs.YtappdmioncdefaaDoorW.PrintWords Go.Proofs.YtappdmioncdefaaDoorW.PrintLast Go.Proofs.YtappdmioncdefaaDoorW.PrintMore

theorem take_drop_one (l : List S34) (i : Nat) (h : i < l.length) : (l.take ((((i + 1 : Nat) : Int)) : Int).toNat).drop ((i : Int)).toNat = [l[i]] := by
  have e1 : (((i + 1 : Nat) : Int)).toNat = i + 1 := by omega
  have e2 : ((i : Int)).toNat = i := by omega
  rw [e1, e2, List.drop_take, List.drop_eq_getElem_cons h, show i + 1 - i = 1 by omega]; rfl
theorem foundP_nil (nm : ByteArray) : foundP [] nm = (⟨#[]⟩, [], false, false) := rfl
theorem faceFind_l0 (l : List S34) (nm : ByteArray) (hl : l.length ≤ 200) (hS : Sane l) (d : Nat) : ∀ i, i ≤ l.length → l.length - i = d → foundP l nm = foundP (l.drop i) nm →
    Ev (fun k => carlinglaw04_FaceFind.l0 k l nm true (foundP l nm).2.2.2 (i : Int) (foundP l nm).1 (foundP l nm).2.1 (foundP l nm).2.2.1) true := by
  induction d with
  | zero =>
    intro i h0 h1 hf
    rw [List.drop_eq_nil_of_le (by omega)] at hf
    rw [hf]
    refine Ev.step (f := fun _ => some true) (fun k => ?_) (Ev.now _)
    simp only [carlinglaw04_FaceFind.l0]
    rw [if_neg (by omega), foundP_nil]
    simp [toList_data]
  | succ d ih =>
    intro i h0 h1 hf
    have hlt : i < l.length := by omega
    rw [List.drop_eq_getElem_cons hlt] at hf
    by_cases e : l[i].f0 = nm
    · have hf' : foundP (l[i] :: l.drop (i + 1)) nm = (l[i].f0, l[i].f1, l[i].f2, true) := by unfold foundP; rw [List.find?_cons, decide_eq_true e]
      rw [hf, hf']
      have hs : Sane [l[i]] := ⟨by simp, fun x hx => by rw [List.mem_singleton.1 hx]; exact hS.2 _ (List.getElem_mem hlt)⟩
      have h3 := same_true [l[i]] [l[i]] hs rfl
      refine Ev.step (f := fun k => (carlingref04_Same.f k [l[i]] [l[i]]).bind fun t => some t) (fun k => ?_) (Ev.bind h3 (Ev.now _))
      simp only [carlinglaw04_FaceFind.l0]
      rw [if_pos (by omega), if_pos (by omega), rd34 l i hlt, if_pos (by rw [e]), wrap_nat hlt (by omega), if_pos (by omega), if_pos (by omega), take_drop_one l i hlt]
      simp only [if_true]
    · have hf' : foundP (l[i] :: l.drop (i + 1)) nm = foundP (l.drop (i + 1)) nm := by unfold foundP; rw [List.find?_cons, decide_eq_false e]
      refine Ev.step (fun k => ?_) (ih (i + 1) (by omega) (by omega) (hf.trans hf'))
      simp only [carlinglaw04_FaceFind.l0]
      rw [if_pos (by omega), if_pos (by omega), rd34 l i hlt, if_neg (by rw [toList_data, toList_data]; exact fun h => e (bytes_ext h)), wrap_nat hlt (by omega)]
theorem faceFind_ev (l : List S34) (nm : ByteArray) : Ev (fun k => carlinglaw04_FaceFind.f k l nm) true := by
  have hA := awake_ev
  have hL := light_ev l
  have ht : Ev (fun k => carlinglaw04_FaceFind.j0 k l nm true true) true := Ev.step (f := fun _ => some true) (fun k => by simp only [carlinglaw04_FaceFind.j0, if_true]) (Ev.now _)
  refine Ev.congr (fun k => by unfold carlinglaw04_FaceFind.f; rfl) (Ev.bind hA (Ev.bind hL ?_))
  cases hb : lightB l with
  | false => exact Ev.congr (fun k => by rw [if_neg Bool.false_ne_true]) ht
  | true =>
    obtain ⟨h1, h2⟩ := lightB_says hb
    have hS := light_sane hb
    refine Ev.congr (fun k => by rw [if_pos rfl]) ?_
    cases hn : decide ((nm.size : Int) > 200) with
    | true => exact ht
    | false =>
      have hF := find_ev l nm (by omega) (fun x hx => by have := h2 x hx; omega)
      refine Ev.step (f := fun k => (face_Find.f k l nm).bind fun t => carlinglaw04_FaceFind.l0 k l nm true t.2.2.2 0 t.1 t.2.1 t.2.2.1) (fun k => by simp only [carlinglaw04_FaceFind.j0, Bool.false_eq_true, if_false]) ?_
      exact Ev.bind hF (faceFind_l0 l nm h1 hS _ 0 (Nat.zero_le _) rfl (by rw [List.drop_zero]))
end Go.Proofs.YtappdmioncdefaaDoor.Q
namespace Go.Proofs.YtappdmioncdefaaDoor
open Go.RowKit
theorem faceFind_walk (W : World) (hG : Q.GoodW W) (A : Option Addr) (n c : Nat) (l : List Q.S34) (h : IsSigs W A n c l) (nm : ByteArray) (_ : nm.size ≤ 140737488351232) : Calls Tryd.prog 8 #[.slice A n c, .string nm] W fun e w' => e = .returned (.bool true) ∧ Below W.heap.size W w' := by
  obtain ⟨rfl, h2, h3⟩ := h
  obtain ⟨k, hk⟩ := Q.faceFind_ev l nm
  exact Q.carlinglaw04_FaceFind.calls k A c l nm true W h3 h2 hG (hk k (Nat.le_refl _))
end Go.Proofs.YtappdmioncdefaaDoor
