/-
  math/bits' LeadingZeros64: what it gives, by the library's contract laid at this program (as the shelf's tool writes it, in plain words).
-/
import Derived.Shelf.Small.Bits
import Derived.Shelf.Strconv.Itoa0
import Derived.Test.YtclckcjimfadlaaMulBase
namespace Go.Proofs.Ytclckcjimfadlaa
open Go.Shelf
def lzRen : Go.Shelf.Ren := ⟨fun | 134 => 53 | 129 => 54 | n => n, fun | 53 => 27 | 3 => 3 | 4 => 4 | 46 => 60 | 5 => 5 | 9 => 9 | n => n, fun | n => n⟩
theorem lzLays : Go.Proofs.Lays.n134 Try.prog lzRen := {
  mixed := by kernel_rfl
  f129 := Try.func54.trans (congrArg some (by kernel_rfl))
  f134 := Try.func53.trans (congrArg some (by kernel_rfl))
  t3 := Try.underlying3
  a3 := Try.isAgg3
  z3 := Try.sizeOf3
  v3 := Try.zeroValue3
  t4 := Try.underlying4
  a4 := Try.isAgg4
  z4 := Try.sizeOf4
  v4 := Try.zeroValue4
  t5 := Try.underlying5
  a5 := Try.isAgg5
  z5 := Try.sizeOf5
  v5 := Try.zeroValue5
  t9 := Try.underlying9
  a9 := Try.isAgg9
  z9 := Try.sizeOf9
  v9 := Try.zeroValue9
  t46 := Try.underlying60
  a46 := Try.isAgg60
  z46 := Try.sizeOf60
  v46 := Try.zeroValue60
  t53 := Try.underlying27
  a53 := Try.isAgg27
  z53 := Try.sizeOf27
  v53 := Try.zeroValue27 }
theorem lz64_any (x : Nat) (hx : x < 18446744073709551616) (w : World) :
    Calls Try.prog 53 #[.int .u64 x] w fun e w' => e = .returned (.int .i64 (64 - (Lib.bitLen x : Int))) ∧ w = w' := by
  have h := Any.bits_LeadingZeros64 lzLays (x : Int) w (by omega) (by omega)
  exact h.mono fun _ _ ⟨h1, h2⟩ => ⟨by simpa using h1, h2.symm⟩
end Go.Proofs.Ytclckcjimfadlaa
