/-
  Written by globgen.py (own work): the tables of the program that a statement may read.
-/
import Derived.Test.YtlhpkjgpcenfdaaDoorAbs1
set_option linter.unusedSimpArgs false
set_option linter.unusedVariables false
namespace Go.Abs
def tab_bits_deBruijn32tab : List Int := [0, 1, 28, 2, 29, 14, 24, 3, 30, 22, 20, 15, 25, 17, 4, 8, 31, 27, 13, 23, 21, 19, 16, 7, 26, 12, 18, 6, 11, 5, 10, 9]
def tab_bits_deBruijn64tab : List Int := [0, 1, 56, 2, 57, 49, 28, 3, 61, 58, 42, 50, 38, 29, 17, 4, 62, 47, 59, 36, 45, 43, 51, 22, 53, 39, 33, 30, 24, 18, 12, 5, 63, 55, 48, 27, 60, 41, 37, 16, 46, 35, 44, 21, 52, 32, 23, 11, 54, 26, 40, 15, 34, 20, 31, 10, 25, 14, 19, 9, 13, 8, 7, 6]
def tab_strconv_uint64pow10 : List Int := [1, 10, 100, 1000, 10000, 100000, 1000000, 10000000, 100000000, 1000000000, 10000000000, 100000000000, 1000000000000, 10000000000000, 100000000000000, 1000000000000000, 10000000000000000, 100000000000000000, 1000000000000000000, 10000000000000000000]
def globs : List (Nat × List IV) := [(2, tab_bits_deBruijn32tab.flatMap (eI .u8)), (3, tab_bits_deBruijn64tab.flatMap (eI .u8)), (1, tab_strconv_uint64pow10.flatMap (eI .u64))]
end Go.Abs
