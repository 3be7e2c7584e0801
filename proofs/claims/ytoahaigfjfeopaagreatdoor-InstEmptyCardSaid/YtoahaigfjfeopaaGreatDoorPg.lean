/- The texts that 'shown' tries, in plain. -/
import Derived.Test.YtoahaigfjfeopaaGreatDoorPf
import Derived.Test.YtoahaigfjfeopaaGreatDoorPd
import Derived.KernelRfl
namespace Go.Proofs.YtoahaigfjfeopaaGreatDoor
theorem parse_t1 : parseP [118, 97, 114, 32, 48, 32, 49, 59, 32, 100, 105, 102, 102, 32, 48, 59] = .ok ⟨[[0, 1]], [⟨3, [0], [], []⟩], []⟩ := by kernel_rfl
theorem parse_t2 : parseP [118, 97, 114, 32, 48, 32, 49, 59, 32, 100, 105, 102, 102, 32, 49, 59] = .error (14, 5) := by kernel_rfl
theorem parse_t3 : parseP [118, 97, 114, 32, 49, 32, 48, 59] = .error (6, 6) := by kernel_rfl
theorem right_t1 : rightB ⟨[[0, 1]], [⟨3, [0], [], []⟩], []⟩ = true := by kernel_rfl
theorem print_t1 : printP ⟨[[0, 1]], [⟨3, [0], [], []⟩], []⟩ = [118, 97, 114, 32, 48, 32, 49, 59, 10, 100, 105, 102, 102, 32, 48, 59, 10] := by kernel_rfl
end Go.Proofs.YtoahaigfjfeopaaGreatDoor
