/-
  The law's small example, on the plain model: one worker, three commands.
-/
import Derived.Test.YthnaieeaominjaaLate
import Derived.Test.YthnaieeaominjaaSnap
import Derived.Test.YthnaieeaominjaaNew
import Derived.KernelRfl
namespace Go.Proofs.Ythnaieeaominjaa
open Go.RowKit
set_option linter.unusedVariables false
set_option linter.unusedSimpArgs false

def exCf : Cf := ⟨1, 1, 1, 0, 0, 0, 10, 5, 9, 50, 0, 2, 10, 0, 0, 0⟩
theorem exCf_typed : exCf.Typed := by constructor <;> simp [exCf, I64, U64]
theorem exCf_good : exCf.good = true := by kernel_rfl
def ex1 (a m : Sl) : Dp := ((Dp.new exCf).offerOf 0 a m [5] [(1, 0)]).2.1
def ex2 (a m b n : Sl) : Dp := ((ex1 a m).offerOf 1 b n [6] [(2, 0)]).2.1
def ex3 (a m b n c o : Sl) : Dp := ((ex2 a m b n).offerOf 2 c o [7] [(3, 0)]).2.1
def ex4 (a m b n c o : Sl) : Dp := ((ex3 a m b n c o).lateOf 10 1).2
def ex5 (a m b n c o : Sl) : Dp := ((ex4 a m b n c o).lateOf 11 2).2
def ex6 (a m b n c o : Sl) : Dp := ((ex5 a m b n c o).answerOf 20 1 true [9]).2.1
theorem ex1_told (a m : Sl) : ((Dp.new exCf).offerOf 0 a m [5] [(1, 0)]).1 = ⟨[⟨true, 1, 10⟩], [], 0⟩ ∧ ((Dp.new exCf).offerOf 0 a m [5] [(1, 0)]).2.2 = 0 := ⟨by kernel_rfl, by kernel_rfl⟩
theorem ex2_told (a m b n : Sl) : ((ex1 a m).offerOf 1 b n [6] [(2, 0)]).1 = ⟨[⟨true, 2, 11⟩], [], 1⟩ ∧ ((ex1 a m).offerOf 1 b n [6] [(2, 0)]).2.2 = 0 := ⟨by kernel_rfl, by kernel_rfl⟩
theorem ex3_told (a m b n c o : Sl) : ((ex2 a m b n).offerOf 2 c o [7] [(3, 0)]).1 = ⟨[], [⟨3, 4, 3, 0, 2⟩], 2⟩ ∧ ((ex2 a m b n).offerOf 2 c o [7] [(3, 0)]).2.2 = 0 := ⟨by kernel_rfl, by kernel_rfl⟩
theorem ex4_told (a m b n c o : Sl) : ((ex3 a m b n c o).lateOf 10 1).1 = ⟨[], [⟨1, 4, 2, 0, 10⟩], 10⟩ := by kernel_rfl
theorem ex5_told (a m b n c o : Sl) : ((ex4 a m b n c o).lateOf 11 2).1 = ⟨[], [⟨2, 4, 2, 0, 11⟩], 11⟩ := by kernel_rfl
theorem ex6_told (a m b n c o : Sl) : ((ex5 a m b n c o).answerOf 20 1 true [9]).1 = ⟨[], [], 20⟩ ∧ ((ex5 a m b n c o).answerOf 20 1 true [9]).2.2 = 0 := ⟨by kernel_rfl, by kernel_rfl⟩
theorem ex6_snap (a m b n c o : Sl) : (ex6 a m b n c o).snap 20 = [0, 0, 0, 0, 1] ∧ (ex6 a m b n c o).win.counts 20 = [0, 0, 2, 0, 0] := ⟨by kernel_rfl, by kernel_rfl⟩

end Go.Proofs.Ythnaieeaominjaa
