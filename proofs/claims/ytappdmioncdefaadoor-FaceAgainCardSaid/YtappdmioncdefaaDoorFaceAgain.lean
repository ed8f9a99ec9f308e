/- FaceAgain: what is read is told as the same text: the plain law, and the walk. -/
import Derived.Test.YtappdmioncdefaaDoorPure2
import Derived.Test.YtappdmioncdefaaDoorQCarlinglaw04FaceAgain
namespace Go.Proofs.YtappdmioncdefaaDoor.Q
open Go.RowKit Go.Proofs.YtappdmioncdefaaDoorW.PrintWords Go.Proofs.YtappdmioncdefaaDoorW.PrintLast Go.Proofs.YtappdmioncdefaaDoorW.PrintMore

set_option maxRecDepth 100000 in
theorem awake_60 : carlinglaw04_awake.f 60 = some true := by kernel_rfl
theorem awake_f (k : Nat) (hk : 60 ≤ k) : carlinglaw04_awake.f k = some true := at_rounds (fun k => carlinglaw04_awake.mono k) hk awake_60
theorem parseF_ok (m : Nat) (n : Nat) : ∀ (out : List S34) (l : List UInt8), out.length + l.length ≤ m → (∀ x ∈ out, x.f0.size ≤ m) → (parseF n out l).length ≤ m ∧ ∀ x ∈ parseF n out l, x.f0.size ≤ m := by
  induction n with
  | zero => intro out l h1 h2; exact ⟨by show out.length ≤ _; omega, h2⟩
  | succ n ih =>
    intro out l h1 h2
    simp only [parseF]
    by_cases hl : l = []
    · rw [if_pos hl]; exact ⟨by omega, h2⟩
    · rw [if_neg hl]
      split
      · rename_i hc
        have hsh := cut_shorter l hc.1
        have hz := lineP_size (Lib.cut l [10]).1
        have hcl := cut_le l [10]
        exact ih _ _ (by simp; omega) (fun x hx => by
          rcases List.mem_append.1 hx with hx | hx
          · exact h2 x hx
          · rw [List.mem_singleton.1 hx]; show (lineP _).1.size ≤ _; omega)
      · exact ⟨Nat.zero_le _, fun x hx => by cases hx⟩
theorem readP_ok (s : ByteArray) (hs : s.size ≤ 50000) : TextOk (readP s).1 := by
  have h := parseF_ok s.size (s.size + 1) [] s.data.toList (by rw [data_len]; simp) (fun x hx => by cases hx)
  unfold readP checkP
  split
  · exact ⟨by have := h.1; show (parseF _ _ _).length ≤ _; omega, fun x hx => by have := h.2 x hx; omega⟩
  · exact ⟨Nat.zero_le _, fun x hx => by cases hx⟩
theorem readP_says (s : ByteArray) : ((readP s).2 = 0 ∧ textP (readP s).1 = (s, 0)) ∨ readP s = ([], 6) := by
  unfold readP checkP
  split
  · rename_i h
    exact .inl ⟨rfl, Prod.ext h.2 h.1⟩
  · exact .inr rfl
theorem faceAgain_f (a : ByteArray) (k : Nat) (hk : 1100000 < k) : carlinglaw04_FaceAgain.f k a = some true := by
  unfold carlinglaw04_FaceAgain.f
  rw [awake_f k (by omega)]
  simp only [Option.bind_some]
  by_cases h : (a.size : Int) > 5000
  · rw [if_pos h]
  · rw [if_neg h, face_Read_f a (by omega) k hk]
    simp only [Option.bind_some]
    rcases readP_says a with ⟨h1, h2⟩ | h1
    · rw [if_pos h1]
      unfold face_Text.f
      rw [if_pos (readP_ok a (by omega)), h2]
      simp
    · rw [h1]
      simp
end Go.Proofs.YtappdmioncdefaaDoor.Q
namespace Go.Proofs.YtappdmioncdefaaDoor
open Go.RowKit
theorem faceAgain_walk (a : ByteArray) (ha : a.size ≤ 140737488351232) (W : World) (hG : Q.GoodW W) : Calls Tryd.prog 6 #[.string a] W fun e w' => e = .returned (.bool true) ∧ Below W.heap.size W w' :=
  Q.carlinglaw04_FaceAgain.calls 1100001 a true W hG (Q.faceAgain_f a _ (by omega))
end Go.Proofs.YtappdmioncdefaaDoor
