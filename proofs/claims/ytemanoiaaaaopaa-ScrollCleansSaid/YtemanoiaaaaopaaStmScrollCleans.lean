/- The pure statement of ScrollCleans, over the printed functions. -/
import Derived.Test.YtemanoiaaaaopaaPScrollCleansx2
namespace Go.Proofs.Ytemanoiaaaaopaa.StmScrollCleans
open Go.RowKit Go.Proofs.Ytemanoiaaaaopaa.PScrollCleans Go.Proofs.YtemanoiaaaaopaaW.PrintWords
def Pure : Prop := ∀ (a0 : Int) (a1 : Int), ((Lit.int .u64 a0).wf = true) → ((Lit.int .u64 a1).wf = true) → ∃ k, porticolaw1_ScrollCleans.f k a0 a1 = some true
end Go.Proofs.Ytemanoiaaaaopaa.StmScrollCleans
