/- SpaceTells: which maps are right, how many sectors are free, and which are taken, as the reference tells. No conditions beyond the row's. -/
import Derived.Test.YtehnbbabjnibkaaQx13
import Derived.Test.YtehnbbabjnibkaaSpS
import Derived.Test.YtehnbbabjnibkaaSaySpaceTells
namespace Go.Proofs.Ytehnbbabjnibkaa.Pure
open Go.RowKit Go.Proofs.Ytehnbbabjnibkaa.Q Go.Proofs.Ytehnbbabjnibkaa.Bm Go.Proofs.Ytehnbbabjnibkaa.Ly Go.Proofs.Ytehnbbabjnibkaa.Sp Go.Proofs.YtehnbbabjnibkaaW.PrintWords Go.Proofs.YtehnbbabjnibkaaW.PrintLast Go.Proofs.YtehnbbabjnibkaaW.PrintMore
theorem SpaceTells : lockgatelaw17_SpaceTells.Pure := by
  intro s n f z l x h0 h1 h2 h3 hl hx
  have hs := (Ly.wf_i64 h0).1
  refine ⟨20000, ?_⟩
  have hM := smallM_size l
  unfold lockgatelaw17_SpaceTells.f
  rw [Sp.awake_ok _ (by omega), Option.bind_some, small_val l (by omega) _ (by omega), Option.bind_some, if_pos rfl, right_val s n f z hs _ hM _ (by omega), Option.bind_some, rright_val s n f z hs _ hM _ (by omega), Option.bind_some, if_pos (by simp),
    free_val s n f z hs _ hM _ (by omega), Option.bind_some, rfree_val s n f z hs _ hM _ (by omega), Option.bind_some, if_pos rfl, taken_val s n f z hs _ hM x _ (by omega), Option.bind_some, rtaken_val s n f z hs _ hM x _ (by omega), Option.bind_some]
  simp
end Go.Proofs.Ytehnbbabjnibkaa.Pure
