/- A net that is none, or has too many points, does nothing. -/
import Derived.Test.YtdkbmchbkkhpoaaPMnlx1
import Derived.OpenShut
import Derived.Laws.BitsLemmas
import Derived.Laws.BitsAllLaws
import Derived.Laws.Bits64b
import Derived.Lib.TrailingZeros
import Derived.Lib.Bytes
import Derived.Test.YtdkbmchbkkhpoaaWSized
set_option linter.unusedVariables false
set_option linter.unusedSimpArgs false
namespace Go.Proofs.Ytdkbmchbkkhpoaa.Pure
open Go.RowKit Go.Proofs.Ytdkbmchbkkhpoaa.PMnl Go.Proofs.YtdkbmchbkkhpoaaW.PrintWords Go.Proofs.YtdkbmchbkkhpoaaW.PrintLast

theorem awake_tells : blazonlaw25_awake.f 60 = some true := by kernel_rfl
theorem MaxflowNil : blazonlaw25_MaxflowNil.Pure := by
  intro a b c _ _ _
  refine ⟨60, ?_⟩
  have n1 : maxflow_Net_Add.f 60 none a b c = some (0, 1, none) := rfl
  have n2 : maxflow_Net_Max.f 60 none a b = some (0, 1, none) := rfl
  have n3 : maxflow_Net_Flow.f none a = some (0, none) := rfl
  have n4 : maxflow_Net_Side.f 60 none a = some ([], none) := rfl
  have n5 : maxflow_Net_Edges.f none = some (0, none) := rfl
  have n6 : maxflow_Net_Steps.f none = some (0, none) := rfl
  have n7 : maxflow_New.f 65537 = some none := rfl
  have n8 : ∃ o, maxflow_New.f 65536 = some (some o) := by
    unfold maxflow_New.f Go.Proofs.Ytdkbmchbkkhpoaa.PMfr.New.f Go.Proofs.Ytdkbmchbkkhpoaa.PMfr.New.j0
    rw [if_neg (by decide), if_neg (by decide), if_pos (by decide), if_pos (by decide)]
    exact ⟨_, rfl⟩
  obtain ⟨o, n8⟩ := n8
  unfold blazonlaw25_MaxflowNil.f
  rw [n1, Option.bind_some, n2, Option.bind_some, if_pos rfl, if_pos rfl, n3, Option.bind_some, if_pos rfl, n4, Option.bind_some, if_pos (show (([] : List Bool).length : Int) = 0 from rfl), n5, Option.bind_some, if_pos rfl, n6, Option.bind_some, if_pos rfl, n7, Option.bind_some]
  simp only [onOpt]
  rw [n8, Option.bind_some]
  dsimp only
  rw [awake_tells, Option.bind_some]

end Go.Proofs.Ytdkbmchbkkhpoaa.Pure
