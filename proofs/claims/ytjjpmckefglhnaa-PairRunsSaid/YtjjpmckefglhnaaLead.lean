/-
  math/bits' LeadingZeros64: what it gives, by the library's contract laid at this program (as the shelf's tool writes it, in plain words).
-/
import Derived.Shelf.Small.Bits
import Derived.Shelf.Strconv.Itoa0
import Derived.Test.YtjjpmckefglhnaaMulBase
namespace Go.Proofs.Ytjjpmckefglhnaa
open Go.Shelf
def lzRen : Go.Shelf.Ren := ⟨fun | 134 => 47 | 129 => 48 | n => n, fun | 53 => 76 | 3 => 3 | 4 => 4 | 46 => 89 | 5 => 5 | 9 => 9 | n => n, fun | n => n⟩
theorem lzLays : Go.Proofs.Lays.n134 Try.prog lzRen := {
  mixed := by kernel_rfl
  f129 := Try.func48.trans (congrArg some (by kernel_rfl))
  f134 := Try.func47.trans (congrArg some (by kernel_rfl))
  t3 := Try.underlying3
  a3 := Try.isAgg3
  z3 := Try.sizeOf3
  v3 := Try.zeroValue3
  t4 := Try.underlying4
  a4 := Try.isAgg4
  z4 := Try.sizeOf4
  v4 := Try.zeroValue4
  t5 := Try.underlying5
  a5 := Try.isAgg5
  z5 := Try.sizeOf5
  v5 := Try.zeroValue5
  t9 := Try.underlying9
  a9 := Try.isAgg9
  z9 := Try.sizeOf9
  v9 := Try.zeroValue9
  t46 := Try.underlying89
  a46 := Try.isAgg89
  z46 := Try.sizeOf89
  v46 := Try.zeroValue89
  t53 := Try.underlying76
  a53 := Try.isAgg76
  z53 := Try.sizeOf76
  v53 := Try.zeroValue76 }
theorem lz64_any (x : Nat) (hx : x < 18446744073709551616) (w : World) :
    Calls Try.prog 47 #[.int .u64 x] w fun e w' => e = .returned (.int .i64 (64 - (Lib.bitLen x : Int))) ∧ w = w' := by
  have h := Any.bits_LeadingZeros64 lzLays (x : Int) w (by omega) (by omega)
  exact h.mono fun _ _ ⟨h1, h2⟩ => ⟨by simpa using h1, h2.symm⟩
end Go.Proofs.Ytjjpmckefglhnaa
