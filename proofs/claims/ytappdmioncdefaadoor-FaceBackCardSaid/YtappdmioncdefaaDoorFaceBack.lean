/- FaceBack: what is told as a text is read as it was: the plain law, and the walk. -/
import Derived.Test.YtappdmioncdefaaDoorPure3
import Derived.Test.YtappdmioncdefaaDoorPure5
import Derived.Test.YtappdmioncdefaaDoorQCarlinglaw04FaceBack
import Derived.Test.YtappdmioncdefaaDoorArgs
namespace Go.Proofs.YtappdmioncdefaaDoor.Q
open Go.RowKit Go.Proofs.YtappdmioncdefaaDoorW.PrintWords Go.Proofs.YtappdmioncdefaaDoorW.PrintLast Go.Proofs.YtappdmioncdefaaDoorW.PrintMore

theorem read_ev (s : ByteArray) (hs : s.size ≤ 50000) : Ev (fun k => face_Read.f k s) (readP s) := ⟨1100001, fun k hk => face_Read_f s hs k (by omega)⟩
theorem light_text {l : List S34} (h : lightB l = true) : TextOk l := by
  obtain ⟨h1, h2⟩ := lightB_says h
  exact ⟨by omega, fun x hx => by have := h2 x hx; omega⟩
theorem textP_bad {l : List S34} (h : (textP l).2 ≠ 0) : (textP l).1 = ByteArray.empty := by
  unfold textP at h ⊢
  split
  · rename_i h1
    rw [if_pos h1] at h
    split
    · rfl
    · rename_i h2; rw [if_neg h2] at h; exact absurd rfl h
  · rfl
theorem faceBack_ev (l : List S34) : Ev (fun k => carlinglaw04_FaceBack.f k l) true := by
  refine Ev.congr (fun k => by unfold carlinglaw04_FaceBack.f; rfl) (Ev.bind awake_ev (Ev.bind (light_ev l) ?_))
  cases hb : lightB l with
  | false => exact Ev.congr (f := fun _ => some true) (fun k => by rw [if_neg Bool.false_ne_true]) (Ev.now _)
  | true =>
    have hok := light_text hb
    have hT : face_Text.f l = some (textP l) := by unfold face_Text.f; rw [if_pos hok]
    by_cases h0 : (textP l).2 = 0
    · have hx : textP l = ((textP l).1, 0) := Prod.ext rfl h0
      obtain ⟨h1, h2⟩ := textP_ok hx
      have hsz : (textP l).1.size ≤ 50000 := by
        have := textL_small h1
        have := (lightB_says hb).1
        rw [h2, bytesOfL_size]; omega
      have hR := read_ev _ hsz
      rw [readP_back hx] at hR
      have hS := same_true l l (light_sane hb) rfl
      refine Ev.congr (fun k => by rw [if_pos rfl, hT, Option.bind_some, if_pos h0]) (Ev.bind hR (Ev.bind hS ?_))
      exact Ev.congr (f := fun _ => some true) (fun k => by simp only [if_true]) (Ev.now _)
    · have he := textP_bad h0
      refine Ev.congr (f := fun _ => some true) (fun k => ?_) (Ev.now _)
      rw [if_pos rfl, hT, Option.bind_some, if_neg h0, if_pos rfl, he, toList_data]
      rfl
end Go.Proofs.YtappdmioncdefaaDoor.Q
namespace Go.Proofs.YtappdmioncdefaaDoor
open Go.RowKit
theorem faceBack_walk (W : World) (hG : Q.GoodW W) (A : Option Addr) (n c : Nat) (l : List Q.S34) (h : IsSigs W A n c l) : Calls Tryd.prog 5 #[.slice A n c] W fun e w' => e = .returned (.bool true) ∧ Below W.heap.size W w' := by
  obtain ⟨rfl, h2, h3⟩ := h
  obtain ⟨k, hk⟩ := Q.faceBack_ev l
  exact Q.carlinglaw04_FaceBack.calls k A c l true W h3 h2 hG (hk k (Nat.le_refl _))
end Go.Proofs.YtappdmioncdefaaDoor
