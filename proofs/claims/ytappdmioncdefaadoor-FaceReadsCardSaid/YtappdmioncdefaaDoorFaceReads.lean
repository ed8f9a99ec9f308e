/- FaceReads: the list of any text, as the document reads it: the plain law, and the walk. -/
import Derived.Test.YtappdmioncdefaaDoorPure3
import Derived.Test.YtappdmioncdefaaDoorPure6
import Derived.Test.YtappdmioncdefaaDoorQCarlinglaw04FaceReads
namespace Go.Proofs.YtappdmioncdefaaDoor.Q
open Go.RowKit Go.Proofs.YtappdmioncdefaaDoorW.PrintWords Go.Proofs.YtappdmioncdefaaDoorW.PrintLast Go.Proofs.YtappdmioncdefaaDoorW.PrintMore

theorem readP_cases (s : ByteArray) : ((readP s).2 = 0 ∧ textP (readP s).1 = (s, 0)) ∨ readP s = ([], 6) := by
  unfold readP checkP
  split
  · rename_i h
    exact .inl ⟨rfl, Prod.ext h.2 h.1⟩
  · exact .inr rfl
theorem checkP_cases (s : ByteArray) (o : List S34) : (textP o = (s, 0) ∧ checkP s o = (o, 0)) ∨ checkP s o = ([], 6) := by
  unfold checkP
  split
  · rename_i h
    exact .inl ⟨Prod.ext h.2 h.1, rfl⟩
  · exact .inr rfl
theorem reads_same (s : ByteArray) : rreadP s = readP s := by
  rcases readP_cases s with ⟨h1, h2⟩ | h
  · rw [rreadP_back h2]
    exact Prod.ext rfl h1.symm
  · rw [h]
    unfold rreadP
    split
    · rfl
    · rename_i o _
      rcases checkP_cases s o with ⟨h1, h2⟩ | h1
      · have := readP_back h1
        rw [h] at this
        exact absurd (show (6 : Int) = 0 from congrArg Prod.snd this) (by decide)
      · exact h1
theorem readP_sane (s : ByteArray) (hs : s.size ≤ 50000) : Sane (readP s).1 := by
  rcases readP_cases s with ⟨_, h2⟩ | h
  · obtain ⟨h3, h4⟩ := textP_ok h2
    have hl := textL_long (readP s).1
    have hz : s.size = (textL (readP s).1).length := by
      conv => lhs; rw [h4]
      rw [bytesOfL_size]
    refine ⟨by omega, fun x hx => ?_⟩
    have := (rightB_parts (List.all_eq_true.1 h3 x hx)).1
    omega
  · rw [h]; exact ⟨Nat.zero_le _, fun x hx => by cases hx⟩
theorem faceReads_ev (s : ByteArray) : Ev (fun k => carlinglaw04_FaceReads.f k s) true := by
  refine Ev.congr (fun k => by unfold carlinglaw04_FaceReads.f; rfl) (Ev.bind awake_ev ?_)
  by_cases h : (s.size : Int) > 3000
  · exact Ev.congr (f := fun _ => some true) (fun k => by rw [if_pos h]) (Ev.now _)
  · have hR : Ev (fun k => face_Read.f k s) (readP s) := ⟨1100001, fun k hk => face_Read_f s (by omega) k (by omega)⟩
    have hM := rread_ev s (by omega)
    rw [reads_same s] at hM
    have hS := same_true (readP s).1 (readP s).1 (readP_sane s (by omega)) rfl
    refine Ev.congr (fun k => by rw [if_neg h]) (Ev.bind hR (Ev.bind hM (Ev.bind hS ?_)))
    exact Ev.congr (f := fun _ => some true) (fun k => by simp only [if_true, beq_self_eq_true]) (Ev.now _)
end Go.Proofs.YtappdmioncdefaaDoor.Q
namespace Go.Proofs.YtappdmioncdefaaDoor
open Go.RowKit
theorem faceReads_walk (W : World) (hG : Q.GoodW W) (a : ByteArray) (_ : a.size ≤ 140737488351232) : Calls Tryd.prog 4 #[.string a] W fun e w' => e = .returned (.bool true) ∧ Below W.heap.size W w' := by
  obtain ⟨k, hk⟩ := Q.faceReads_ev a
  exact Q.carlinglaw04_FaceReads.calls k a true W hG (hk k (Nat.le_refl _))
end Go.Proofs.YtappdmioncdefaaDoor
