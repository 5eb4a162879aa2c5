/- Parts of the proof of canonSpoilt_holds, kept and merged by a program of mine (wip/tools/slim.py) out of my texts: Bits -/
import Derived.Laws.BitsLemmas
import Derived.Laws.BitsAllLaws
import Derived.Laws.BytesArg
section
set_option linter.unusedVariables false
namespace Go.Proofs.YtlhhhlimjajnlaaGreat
open Go
theorem wraps_i64 (n : Int) (h₀ : 0 ≤ n) (h₁ : n < 2 ^ 62) : IntKind.i64.wrap n = n := by rw [IntKind.wrap_i64]; omega
theorem i64_and63 (x : Int) (h₀ : 0 ≤ x) (h₁ : x < 4611686018427387904) : bits .and .i64 x 63 = x % 64 := bits_mask .i64 62 (by decide) wraps_i64 6 (by decide) x h₀ (by simpa using h₁)
theorem i64_or6 (x y : Int) (hx₀ : 0 ≤ x) (hx : x % 64 = 0) (hx₁ : x < 4611686018427387904) (h₀ : 0 ≤ y) (h₁ : y < 64) : bits .or .i64 x y = x + y :=
 bits_join .i64 62 (by decide) wraps_i64 6 x y hx₀ (by simpa using hx) (by simpa using hx₁) h₀ (by simpa using h₁) (by omega)
theorem i64_or7 (x y : Int) (hx₀ : 0 ≤ x) (hx : x % 128 = 0) (hx₁ : x < 4611686018427387904) (h₀ : 0 ≤ y) (h₁ : y < 128) : bits .or .i64 x y = x + y :=
 bits_join .i64 62 (by decide) wraps_i64 7 x y hx₀ (by simpa using hx) (by simpa using hx₁) h₀ (by simpa using h₁) (by omega)
theorem i64_or5 (x y : Int) (hx₀ : 0 ≤ x) (hx : x % 32 = 0) (hx₁ : x < 4611686018427387904) (h₀ : 0 ≤ y) (h₁ : y < 32) : bits .or .i64 x y = x + y :=
 bits_join .i64 62 (by decide) wraps_i64 5 x y hx₀ (by simpa using hx) (by simpa using hx₁) h₀ (by simpa using h₁) (by omega)
theorem i64_or4 (x y : Int) (hx₀ : 0 ≤ x) (hx : x % 16 = 0) (hx₁ : x < 4611686018427387904) (h₀ : 0 ≤ y) (h₁ : y < 16) : bits .or .i64 x y = x + y :=
 bits_join .i64 62 (by decide) wraps_i64 4 x y hx₀ (by simpa using hx) (by simpa using hx₁) h₀ (by simpa using h₁) (by omega)
theorem or128_and63 (c : Int) (h₀ : 0 ≤ c) (h₁ : c < 4611686018427387904) : bits .or .i64 128 (bits .and .i64 c 63) % 256 = 128 + c % 64 := by
 rw [i64_and63 c h₀ h₁, i64_or6 128 _ (by decide) (by decide) (by decide) (by omega) (by omega)]
 omega
theorem or0 (x : Int) (h₀ : 0 ≤ x) (h₁ : x < 128) : bits .or .i64 0 x % 256 = x := by
 rw [i64_or7 _ _ (by decide) (by decide) (by decide) h₀ h₁]
 omega
end Go.Proofs.YtlhhhlimjajnlaaGreat
end
