/- The table of all keys holds of what the walk computes, for every byte of modifiers. -/
import Derived.Test.YtgkaiagoogjibaaBkE
namespace Go.Proofs.Ytgkaiagoogjibaa.Pure
open Go Go.RowKit Go.Proofs.Ytgkaiagoogjibaa.PBind Go.Proofs.Ytgkaiagoogjibaa.Bk Go.Proofs.YtgkaiagoogjibaaW.PrintWords Go.Proofs.YtgkaiagoogjibaaW.PrintLast

theorem heads_short (a b c d e : S25) (i : Int) : (rd_L8 [[], [a], [b], [c], [d], [e]] i).length < 1000 := by
  unfold rd_L8
  rcases h : i.toNat with _ | _ | _ | _ | _ | _ | n <;> simp
theorem ctrl_some (c : Int) : ∃ a, bodkinlaw19_ctrl.f c = some a := ⟨_, rfl⟩
theorem char_some (c : Int) (b : Bool) : ∃ a, bodkinlaw19_char.f c b = some a := ⟨_, rfl⟩
theorem BindTable : bodkinlaw19_BindTable.Pure := by
  intro a0 _
  refine ⟨70000 + 100 + 1, ?_⟩
  unfold bodkinlaw19_BindTable.f
  obtain ⟨a, ha⟩ := ctrl_some 81
  obtain ⟨b, hb⟩ := ctrl_some 88
  obtain ⟨c, hc⟩ := char_some 109 true
  obtain ⟨d, hd⟩ := char_some 39 true
  obtain ⟨e, he⟩ := char_some 55 true
  rw [binds_true, Option.bind_some, if_pos rfl, ha, Option.bind_some, hb, Option.bind_some, hc, Option.bind_some, hd, Option.bind_some, he, Option.bind_some]
  exact l0_of a0 _ (heads_short _ _ _ _ _) rfl 20 _ 0 (by omega) (by omega) (by omega)

end Go.Proofs.Ytgkaiagoogjibaa.Pure
