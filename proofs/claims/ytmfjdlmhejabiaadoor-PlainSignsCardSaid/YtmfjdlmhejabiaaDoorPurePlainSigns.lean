/- PlainSigns, in plain words: what was walked answers true at every number of its kind. -/
import Derived.Test.YtmfjdlmhejabiaaDoorX8
import Derived.OpenShut
namespace Go.Proofs.YtmfjdlmhejabiaaDoor.Pure
open Go.RowKit Go.Proofs.YtmfjdlmhejabiaaDoor.PL
theorem PlainSigns : ∀ (a0 : ByteArray) (a1 : Int) (a2 : Bool) (a3 : Bool), a0.size ≤ 140737488351232 → (Lit.int .u8 a1).wf = true → ∃ _k : Nat, Go.Proofs.YtmfjdlmhejabiaaDoor.PL.targumlaw20_PlainSigns.f a0 a1 a2 a3 = some true := by
  intro a0 a1 a2 a3 _ hwf
  exact ⟨0, if_pos (bounds_u8 hwf)⟩
end Go.Proofs.YtmfjdlmhejabiaaDoor.Pure
