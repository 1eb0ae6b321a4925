import Derived.Test.YtamnnaadnjkdiaaRbD
namespace Go.Proofs.Ytamnnaadnjkdiaa.BackR
open Go.RowKit Go.Proofs.YtamnnaadnjkdiaaW.PrintWords Go.Proofs.Ytamnnaadnjkdiaa.RowB Go.Proofs.Ytamnnaadnjkdiaa.Wire
set_option linter.unusedVariables false
theorem opensI (W : World) : Opens Try.prog W (Kd.slice 2 (Kd.int .i64)) 61 (fun xs => ∀ x ∈ xs, -9223372036854775808 ≤ x ∧ x ≤ 9223372036854775807) (fun xs => 0) :=
  opens_mono (opens_slice Try.underlying61 (by kernel_rfl) (opens_int Try.underlying2)) (fun xs h x hx => wf_i64 (h.2 x hx)) (fun _ => Nat.zero_le _)
theorem opensB (W : World) : Opens Try.prog W (Kd.slice 22 (Kd.slice 5 (Kd.int .u8))) 62 (fun ys => ∀ y ∈ ys, Bytes y) (fun xs => 0) :=
  opens_mono (opens_slice Try.underlying62 (by kernel_rfl) (opens_slice Try.underlying22 (by kernel_rfl) (opens_int Try.underlying5))) (fun ys h y hy => Bytes.of (h.2 y hy).2) (fun _ => Nat.zero_le _)
end Go.Proofs.Ytamnnaadnjkdiaa.BackR
