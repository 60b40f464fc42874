/-
  math/bits' LeadingZeros64: what it gives, by the library's contract laid at this program (as the shelf's tool writes it, in plain words).
-/
import Derived.Shelf.Small.Bits
import Derived.Shelf.Strconv.Itoa0
import Derived.Test.YtbkflmeijjcnhaaMulBase
namespace Go.Proofs.Ytbkflmeijjcnhaa
open Go.Shelf
def lzRen : Go.Shelf.Ren := ⟨fun | 134 => 80 | 129 => 81 | n => n, fun | 53 => 107 | 3 => 3 | 4 => 4 | 46 => 123 | 5 => 5 | 9 => 9 | n => n, fun | n => n⟩
theorem lzLays : Go.Proofs.Lays.n134 Try.prog lzRen := {
  mixed := by kernel_rfl
  f129 := Try.func81.trans (congrArg some (by kernel_rfl))
  f134 := Try.func80.trans (congrArg some (by kernel_rfl))
  t3 := Try.underlying3
  a3 := Try.isAgg3
  z3 := Try.sizeOf3
  v3 := Try.zeroValue3
  t4 := Try.underlying4
  a4 := Try.isAgg4
  z4 := Try.sizeOf4
  v4 := Try.zeroValue4
  t5 := Try.underlying5
  a5 := Try.isAgg5
  z5 := Try.sizeOf5
  v5 := Try.zeroValue5
  t9 := Try.underlying9
  a9 := Try.isAgg9
  z9 := Try.sizeOf9
  v9 := Try.zeroValue9
  t46 := Try.underlying123
  a46 := Try.isAgg123
  z46 := Try.sizeOf123
  v46 := Try.zeroValue123
  t53 := Try.underlying107
  a53 := Try.isAgg107
  z53 := Try.sizeOf107
  v53 := Try.zeroValue107 }
theorem lz64_any (x : Nat) (hx : x < 18446744073709551616) (w : World) :
    Calls Try.prog 80 #[.int .u64 x] w fun e w' => e = .returned (.int .i64 (64 - (Lib.bitLen x : Int))) ∧ w = w' := by
  have h := Any.bits_LeadingZeros64 lzLays (x : Int) w (by omega) (by omega)
  exact h.mono fun _ _ ⟨h1, h2⟩ => ⟨by simpa using h1, h2.symm⟩
end Go.Proofs.Ytbkflmeijjcnhaa
