/- The pure statement of ScrollAdds, over the printed functions. -/
import Derived.Test.YtemanoiaaaaopaaPScrollAddsx2
namespace Go.Proofs.Ytemanoiaaaaopaa.StmScrollAdds
open Go.RowKit Go.Proofs.Ytemanoiaaaaopaa.PScrollAdds Go.Proofs.YtemanoiaaaaopaaW.PrintWords
def Pure : Prop := ∀ (a0 : Int) (a1 : Int) (a2 : Int) (a3 : Int), ((Lit.int .u64 a0).wf = true) → ((Lit.int .u64 a1).wf = true) → ((Lit.int .i64 a2).wf = true) → ((Lit.int .i64 a3).wf = true) → ∃ k, porticolaw1_ScrollAdds.f k a0 a1 a2 a3 = some true
end Go.Proofs.Ytemanoiaaaaopaa.StmScrollAdds
