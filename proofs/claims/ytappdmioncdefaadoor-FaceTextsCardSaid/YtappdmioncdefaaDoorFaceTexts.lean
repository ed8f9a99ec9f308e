/- FaceTexts: any list as a text, as the document tells it: the plain law, and the walk. -/
import Derived.Test.YtappdmioncdefaaDoorPure3
import Derived.Test.YtappdmioncdefaaDoorPure4
import Derived.Test.YtappdmioncdefaaDoorQCarlinglaw04FaceTexts
import Derived.Test.YtappdmioncdefaaDoorArgs
namespace Go.Proofs.YtappdmioncdefaaDoor.Q
open Go.RowKit Go.Proofs.YtappdmioncdefaaDoorW.PrintWords Go.Proofs.YtappdmioncdefaaDoorW.PrintLast Go.Proofs.YtappdmioncdefaaDoorW.PrintMore

theorem light_text {l : List S34} (h : lightB l = true) : TextOk l ∧ ParamsOk l := by
  obtain ⟨h1, h2⟩ := lightB_says h
  exact ⟨⟨by omega, fun x hx => by have := h2 x hx; omega⟩, fun x hx => by have := h2 x hx; omega⟩
theorem faceTexts_ev (l : List S34) : Ev (fun k => carlinglaw04_FaceTexts.f k l) true := by
  refine Ev.congr (fun k => by unfold carlinglaw04_FaceTexts.f; rfl) (Ev.bind awake_ev (Ev.bind (light_ev l) ?_))
  cases hb : lightB l with
  | false => exact Ev.congr (f := fun _ => some true) (fun k => by rw [if_neg Bool.false_ne_true]) (Ev.now _)
  | true =>
    obtain ⟨h1, h2⟩ := light_text hb
    have hT : face_Text.f l = some (textP l) := by unfold face_Text.f; rw [if_pos h1]
    refine Ev.congr (fun k => by rw [if_pos rfl, hT]; rfl) (Ev.bind (rtext_ev l h1 h2) ?_)
    exact Ev.congr (f := fun _ => some true) (fun k => by simp only [if_true, beq_self_eq_true]) (Ev.now _)
end Go.Proofs.YtappdmioncdefaaDoor.Q
namespace Go.Proofs.YtappdmioncdefaaDoor
open Go.RowKit
theorem faceTexts_walk (W : World) (hG : Q.GoodW W) (A : Option Addr) (n c : Nat) (l : List Q.S34) (h : IsSigs W A n c l) : Calls Tryd.prog 3 #[.slice A n c] W fun e w' => e = .returned (.bool true) ∧ Below W.heap.size W w' := by
  obtain ⟨rfl, h2, h3⟩ := h
  obtain ⟨k, hk⟩ := Q.faceTexts_ev l
  exact Q.carlinglaw04_FaceTexts.calls k A c l true W h3 h2 hG (hk k (Nat.le_refl _))
end Go.Proofs.YtappdmioncdefaaDoor
