/- StuffBytes, as a statement over numbers: each of the 256 bytes is tried. -/
import Derived.Test.YtgaeifdnbajopaaPx6
import Derived.OpenShut
namespace Go.Proofs.Ytgaeifdnbajopaa.Pure
open Go.RowKit Go.Proofs.Ytgaeifdnbajopaa.Px Go.Proofs.YtgaeifdnbajopaaW.PrintWords Go.Proofs.YtgaeifdnbajopaaW.PrintLast

theorem all_bytes : ∀ n : Fin 256, lamplightlaw03_StuffBytes.f 4 ((n.val : Nat) : Int) = some true := by decide +kernel
theorem StuffBytes : lamplightlaw03_StuffBytes.Pure := by
  intro a0 h
  obtain ⟨h0, h1⟩ := bounds_u8 h
  refine ⟨4, ?_⟩
  have := all_bytes ⟨a0.toNat, by omega⟩
  rwa [Int.toNat_of_nonneg h0] at this
end Go.Proofs.Ytgaeifdnbajopaa.Pure
