/- The functions' numbers in this seat's program; the program as the abstract machine reads it. -/
import Derived.Test.YtlpimdkgboabcaaAmFix
import Derived.Test.YtlpimdkgboabcaaAmComp
import Derived.Test.YtlpimdkgboabcaaProg
import Derived.KernelRfl
set_option linter.unusedVariables false
namespace Go.Proofs.Ytlpimdkgboabcaa.Am
open Go
namespace fid
def main_main : Nat := 0
def gosem_cut : Nat := 1
def gosem_cut_init : Nat := 2
def gussetlaw01_LimbQuotients : Nat := 3
def gussetlaw01_LimbProducts : Nat := 4
def gussetlaw01_LimbNats : Nat := 5
def gussetlaw01_LimbSums : Nat := 6
def gussetlaw01_LimbRing : Nat := 7
def gussetlaw01_LimbShift : Nat := 8
def gussetlaw01_LimbBack : Nat := 9
def gussetlaw01_small : Nat := 10
def gussetlaw01_live : Nat := 11
def gussetlaw01_copied : Nat := 12
def limb_DivMod : Nat := 13
def gussetref01_Same : Nat := 14
def gussetref01_Split : Nat := 15
def gussetref01_DivMod : Nat := 16
def gussetref01_Join : Nat := 17
def limb_Mul : Nat := 18
def gussetref01_Mul : Nat := 19
def limb_Of : Nat := 20
def gussetref01_IsNat : Nat := 21
def limb_Nat : Nat := 22
def gussetref01_Digits : Nat := 23
def gussetref01_Nat : Nat := 24
def limb_Cmp : Nat := 25
def limb_Add : Nat := 26
def limb_Sub : Nat := 27
def gussetref01_Cmp : Nat := 28
def gussetref01_Add : Nat := 29
def gussetref01_Sub : Nat := 30
def limb_long : Nat := 31
def limb_trimmed : Nat := 32
def limb_order : Nat := 33
def limb_short : Nat := 34
def bits_LeadingZeros64 : Nat := 35
def limb_shifted : Nat := 36
def limb_guess : Nat := 37
def limb_addProduct : Nat := 38
def limb_take : Nat := 39
def limb_lowered : Nat := 40
def gussetref01_trim : Nat := 41
def gussetref01_double : Nat := 42
def limb_Add_1 : Nat := 43
def bits_Add64 : Nat := 44
def cmp_Compare_int : Nat := 45
def cmp_Compare_uint64 : Nat := 46
def bits_Div64 : Nat := 47
def bits_Len64 : Nat := 48
def bits_Mul64 : Nat := 49
def bits_Sub64 : Nat := 50
def cmp_isNaN_int : Nat := 51
def cmp_isNaN_uint64 : Nat := 52
def runtime_boundsError_Error : Nat := 53
def runtime_boundsError_RuntimeError : Nat := 54
def runtime_errorString_Error : Nat := 55
def runtime_errorString_RuntimeError : Nat := 56
def runtime_plainError_Error : Nat := 57
def runtime_plainError_RuntimeError : Nat := 58
def runtime_errorAddressString_Error : Nat := 59
def runtime_errorAddressString_RuntimeError : Nat := 60
def runtime_TypeAssertionError_Error : Nat := 61
def runtime_TypeAssertionError_RuntimeError : Nat := 62
def runtime_PanicNilError_Error : Nat := 63
def runtime_PanicNilError_RuntimeError : Nat := 64
def abi_Type_Align : Nat := 65
def maps_unhashableTypeError_Error : Nat := 66
def maps_unhashableTypeError_RuntimeError : Nat := 67
def abi_Kind_String : Nat := 68
end fid
def liveT : Nat → List (List Nat)
  | 8 => [[1, 6, 11, 13]]
  | 13 => [[9, 10, 11, 12, 13, 14], [9, 10, 11, 12, 13, 14, 15, 16]]
  | 14 => [[0, 1, 5]]
  | 15 => [[0, 3, 4]]
  | 16 => [[0, 1, 6, 7, 8]]
  | 17 => [[0, 3, 4]]
  | 18 => [[1, 6, 19, 20, 21]]
  | 19 => [[0, 1, 5, 6], [0, 1, 5, 6, 7, 8]]
  | 20 => [[0, 4, 25, 26]]
  | 22 => [[0, 4, 5, 29, 30]]
  | 23 => [[0, 3, 4]]
  | 24 => [[0, 3, 4], [3, 5]]
  | 26 => [[0, 1, 6, 7, 8, 26, 27]]
  | 28 => [[0, 1, 5]]
  | 29 => [[0, 1, 5, 6, 7]]
  | 30 => [[0, 1, 5, 6, 7]]
  | 31 => [[5, 6, 7]]
  | 32 => [[0, 3]]
  | 33 => [[0, 1, 6]]
  | 34 => [[0, 1, 4, 5, 6]]
  | 36 => [[1, 5, 12, 13, 14]]
  | 38 => [[0, 2, 7, 13, 14, 15]]
  | 39 => [[0, 1, 5, 9, 10]]
  | 40 => [[0, 1, 5, 11, 12, 13]]
  | 41 => [[0, 3]]
  | 42 => [[0, 1, 5, 6]]
  | 47 => [[2, 8, 9, 10, 11, 13, 14, 15, 16], [2, 8, 9, 10, 14, 15, 16, 17, 18]]
  | _ => []
def refT : List Nat := [39, 38, 36, 32, 40, 41]
noncomputable def gp : Prog := prog Try.prog liveT fun f => refT.contains f
end Go.Proofs.Ytlpimdkgboabcaa.Am
