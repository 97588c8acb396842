/- Made by a program of this work: the table of the types, and of the functions, is the program's. -/
import Derived.Test.YtecinekkgnhhoaaRf26
import Derived.Test.YtecinekkgnhhoaaRfEnv
import Derived.Test.YtecinekkgnhhoaaChecked
import Derived.KernelRfl
set_option maxRecDepth 100000
namespace Rf
open Go

theorem tyL_ok : tyL.all (fun p => chkTy Go.Proofs.Try.prog p.1 p.2) = true := by kernel_rfl
theorem fcL_ok : FcOk Go.Proofs.Try.prog fcL :=
  ⟨⟨Go.Proofs.Try.func3, by kernel_rfl⟩,
  ⟨⟨Go.Proofs.Try.func4, by kernel_rfl⟩,
  ⟨⟨Go.Proofs.Try.func5, by kernel_rfl⟩,
  ⟨⟨Go.Proofs.Try.func6, by kernel_rfl⟩,
  ⟨⟨Go.Proofs.Try.func7, by kernel_rfl⟩,
  ⟨⟨Go.Proofs.Try.func8, by kernel_rfl⟩,
  ⟨⟨Go.Proofs.Try.func9, by kernel_rfl⟩,
  ⟨⟨Go.Proofs.Try.func10, by kernel_rfl⟩,
  ⟨⟨Go.Proofs.Try.func11, by kernel_rfl⟩,
  ⟨⟨Go.Proofs.Try.func12, by kernel_rfl⟩,
  ⟨⟨Go.Proofs.Try.func13, by kernel_rfl⟩,
  ⟨⟨Go.Proofs.Try.func14, by kernel_rfl⟩,
  ⟨⟨Go.Proofs.Try.func15, by kernel_rfl⟩,
  ⟨⟨Go.Proofs.Try.func16, by kernel_rfl⟩,
  ⟨⟨Go.Proofs.Try.func17, by kernel_rfl⟩,
  ⟨⟨Go.Proofs.Try.func18, by kernel_rfl⟩,
  ⟨⟨Go.Proofs.Try.func19, by kernel_rfl⟩,
  ⟨⟨Go.Proofs.Try.func20, by kernel_rfl⟩,
  ⟨⟨Go.Proofs.Try.func21, by kernel_rfl⟩,
  ⟨⟨Go.Proofs.Try.func22, by kernel_rfl⟩,
  ⟨⟨Go.Proofs.Try.func23, by kernel_rfl⟩,
  ⟨⟨Go.Proofs.Try.func24, by kernel_rfl⟩,
  ⟨⟨Go.Proofs.Try.func25, by kernel_rfl⟩,
  ⟨⟨Go.Proofs.Try.func26, by kernel_rfl⟩,
  ⟨⟨Go.Proofs.Try.func27, by kernel_rfl⟩,
  ⟨⟨Go.Proofs.Try.func28, by kernel_rfl⟩,
  ⟨⟨Go.Proofs.Try.func29, by kernel_rfl⟩,
  ⟨⟨Go.Proofs.Try.func30, by kernel_rfl⟩,
  ⟨⟨Go.Proofs.Try.func31, by kernel_rfl⟩,
  ⟨⟨Go.Proofs.Try.func32, by kernel_rfl⟩,
  ⟨⟨Go.Proofs.Try.func33, by kernel_rfl⟩,
  ⟨⟨Go.Proofs.Try.func36, by kernel_rfl⟩,
  ⟨⟨Go.Proofs.Try.func37, by kernel_rfl⟩,
  ⟨⟨Go.Proofs.Try.func40, by kernel_rfl⟩,
  ⟨⟨Go.Proofs.Try.func41, by kernel_rfl⟩,
  ⟨⟨Go.Proofs.Try.func42, by kernel_rfl⟩,
  ⟨⟨Go.Proofs.Try.func43, by kernel_rfl⟩,
  ⟨⟨Go.Proofs.Try.func44, by kernel_rfl⟩,
  ⟨⟨Go.Proofs.Try.func45, by kernel_rfl⟩,
  ⟨⟨Go.Proofs.Try.func52, by kernel_rfl⟩,
  ⟨⟨Go.Proofs.Try.func53, by kernel_rfl⟩,
  ⟨⟨Go.Proofs.Try.func67, by kernel_rfl⟩,
  ⟨⟨Go.Proofs.Try.func69, by kernel_rfl⟩,
  ⟨⟨Go.Proofs.Try.func70, by kernel_rfl⟩,
  ⟨⟨Go.Proofs.Try.func71, by kernel_rfl⟩,
  ⟨⟨Go.Proofs.Try.func72, by kernel_rfl⟩,
  ⟨⟨Go.Proofs.Try.func73, by kernel_rfl⟩,
  ⟨⟨Go.Proofs.Try.func78, by kernel_rfl⟩,
  ⟨⟨Go.Proofs.Try.func83, by kernel_rfl⟩,
  ⟨⟨Go.Proofs.Try.func84, by kernel_rfl⟩,
  ⟨⟨Go.Proofs.Try.func85, by kernel_rfl⟩,
  ⟨⟨Go.Proofs.Try.func86, by kernel_rfl⟩,
  ⟨⟨Go.Proofs.Try.func87, by kernel_rfl⟩,
  ⟨⟨Go.Proofs.Try.func91, by kernel_rfl⟩,
  ⟨⟨Go.Proofs.Try.func100, by kernel_rfl⟩,
  ⟨⟨Go.Proofs.Try.func101, by kernel_rfl⟩,
  ⟨⟨Go.Proofs.Try.func110, by kernel_rfl⟩,
  ⟨⟨Go.Proofs.Try.func111, by kernel_rfl⟩,
  ⟨⟨Go.Proofs.Try.func112, by kernel_rfl⟩,
  ⟨⟨Go.Proofs.Try.func113, by kernel_rfl⟩,
  ⟨⟨Go.Proofs.Try.func114, by kernel_rfl⟩,
  ⟨⟨Go.Proofs.Try.func115, by kernel_rfl⟩,
  ⟨⟨Go.Proofs.Try.func116, by kernel_rfl⟩,
  ⟨⟨Go.Proofs.Try.func117, by kernel_rfl⟩,
  ⟨⟨Go.Proofs.Try.func118, by kernel_rfl⟩,
  ⟨⟨Go.Proofs.Try.func120, by kernel_rfl⟩,
  ⟨⟨Go.Proofs.Try.func121, by kernel_rfl⟩,
  ⟨⟨Go.Proofs.Try.func127, by kernel_rfl⟩,
  ⟨⟨Go.Proofs.Try.func128, by kernel_rfl⟩,
  ⟨⟨Go.Proofs.Try.func129, by kernel_rfl⟩,
  ⟨⟨Go.Proofs.Try.func132, by kernel_rfl⟩, trivial⟩⟩⟩⟩⟩⟩⟩⟩⟩⟩⟩⟩⟩⟩⟩⟩⟩⟩⟩⟩⟩⟩⟩⟩⟩⟩⟩⟩⟩⟩⟩⟩⟩⟩⟩⟩⟩⟩⟩⟩⟩⟩⟩⟩⟩⟩⟩⟩⟩⟩⟩⟩⟩⟩⟩⟩⟩⟩⟩⟩⟩⟩⟩⟩⟩⟩⟩⟩⟩⟩⟩

theorem mapL_ok : tyL.all (fun p => chkMap Go.Proofs.Try.prog tyT p.1 p.2) = true := by kernel_rfl

theorem envOk : EnvOk En := ⟨fun _ _ h => tyOk_of tyL_ok h, fun _ _ h => List.all_eq_true.1 mapL_ok _ (lookN_mem h), fun _ _ h => fcOk_of fcL_ok h, Checked.mixed Go.Proofs.Try.checked⟩

end Rf
