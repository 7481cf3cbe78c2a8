import Derived.Test.YtechbfodaallkaaGreatAmFix
import Derived.Test.YtechbfodaallkaaGreatAmComp
import Derived.Test.YtechbfodaallkaaGreatProg
import Derived.KernelRfl
/- The functions' numbers in this seat's program; the program as the abstract machine reads it. -/
set_option linter.unusedVariables false
set_option maxRecDepth 10000
namespace Go.Proofs.YtechbfodaallkaaGreat.Am
open Go
namespace fid
def gussetlaw10_WellLess : Nat := 5
def geom_Meet : Nat := 13
def geom_On : Nat := 16
def gussetlaw10_small : Nat := 18
def gussetlaw10_live : Nat := 19
def gussetref08_Copy : Nat := 20
def well_First : Nat := 21
def well_Check : Nat := 23
def gussetlaw10_short : Nat := 25
def gussetlaw10_square : Nat := 31
def geom_Orient : Nat := 35
def geom_asked : Nat := 36
def geom_turn : Nat := 37
def geom_minus : Nat := 38
def geom_sign : Nat := 41
def geom_on : Nat := 42
def geom_cross : Nat := 44
def geom_inDisc : Nat := 49
def well_given : Nat := 50
def well_pairs_api_Point : Nat := 51
def well_First_1 : Nat := 52
def well_through : Nat := 53
def well_pairs_api_Seg : Nat := 54
def well_First_2 : Nat := 55
def well_shared : Nat := 56
def well_First_3 : Nat := 57
def cons_Sharp : Nat := 58
def well_holes : Nat := 59
def gussetref03_Of : Nat := 73
def vec_Check : Nat := 74
def vec_Minus : Nat := 75
def vec_Dot : Nat := 76
def vec_numbers : Nat := 79
def rat_Sign : Nat := 82
def rat_both : Nat := 83
def rat_lowest : Nat := 84
def rat_do : Nat := 85
def whole_Mul : Nat := 86
def rat_den : Nat := 87
def vec_Cross : Nat := 88
def vec_each : Nat := 89
def rat_Mul : Nat := 90
def rat_Add : Nat := 91
def well_asked : Nat := 95
def poly_Check : Nat := 96
def well_on : Nat := 97
def cons_asked : Nat := 98
def cons_minus : Nat := 99
def cons_dot : Nat := 100
def cons_order : Nat := 101
def cons_product : Nat := 102
def rat_Of : Nat := 103
def well_holes_1 : Nat := 104
def slices_Contains_Lapi_Point_api_Point : Nat := 105
def slices_ContainsFunc_Lapi_Seg_api_Seg : Nat := 106
def gussetref02_make0 : Nat := 110
def gussetref02_Of : Nat := 116
def rat_Sub : Nat := 117
def vec_pair : Nat := 118
def rat_Check : Nat := 120
def vec_op_of : Nat := 124
def whole_Gcd : Nat := 125
def whole_Div : Nat := 126
def whole_read : Nat := 127
def limb_Mul : Nat := 128
def whole_number_told : Nat := 129
def vec_points : Nat := 130
def rat_over : Nat := 131
def whole_Add : Nat := 132
def poly_asked : Nat := 134
def rat_Cmp : Nat := 135
def whole_Of : Nat := 136
def slices_Index_Lapi_Point_api_Point : Nat := 137
def slices_IndexFunc_Lapi_Seg_api_Seg : Nat := 138
def gussetref01_Nat : Nat := 145
def gussetref01_trim : Nat := 150
def gussetref01_Split : Nat := 155
def whole_Sub : Nat := 156
def whole_Check : Nat := 157
def limb_DivMod : Nat := 158
def whole_sum : Nat := 159
def limb_Of : Nat := 160
def limb_long : Nat := 161
def limb_addProduct : Nat := 162
def limb_trimmed : Nat := 163
def limb_Nat : Nat := 164
def strings_Repeat : Nat := 165
def whole_Cmp : Nat := 167
def limb_order : Nat := 169
def limb_short : Nat := 170
def bits_LeadingZeros64 : Nat := 171
def limb_shifted : Nat := 172
def limb_guess : Nat := 173
def limb_take : Nat := 174
def limb_lowered : Nat := 175
def limb_Add : Nat := 176
def limb_Sub : Nat := 177
def bits_Mul64 : Nat := 178
def limb_Cmp : Nat := 186
def cmp_Compare_int : Nat := 187
def cmp_Compare_uint64 : Nat := 188
def bits_Div64 : Nat := 189
def bits_Len64 : Nat := 190
def limb_Add_1 : Nat := 192
def cmp_isNaN_int : Nat := 197
def cmp_isNaN_uint64 : Nat := 198
end fid
instance glx : Gl where
  cells := fun _ => []
  cap := fun t => t == 44 || t == 73
  dead := fun f => false
def liveT : Nat → List (List Nat)
  | 5 => [[2, 6, 7, 8]]
  | 6 => [[4, 5, 7, 8, 9, 10, 11], [4, 5, 7, 8, 9, 10, 12]]
  | 9 => [[0, 3]]
  | 12 => [[7, 11, 12, 38, 39, 40]]
  | 18 => [[1, 3], [1, 4], [1, 5]]
  | 22 => [[1, 6, 7], [1, 6, 9], [1, 6, 9, 10], [1, 6, 14], [1, 6, 14, 15], [1, 6, 16], [1, 6, 16, 17], [1, 6, 16, 18]]
  | 31 => [[0, 1, 2], [0, 1, 3]]
  | 36 => [[8, 9, 10], [4, 8, 9, 10, 18, 19, 20]]
  | 50 => [[1, 2, 31, 32, 33], [1, 2, 48, 49, 50], [1, 2, 60, 61, 62]]
  | 51 => [[0, 1, 2, 6, 11, 12, 13], [0, 1, 2, 6, 7, 8, 11, 12, 13, 20, 21, 22]]
  | 53 => [[1, 2, 8, 9, 10], [1, 2, 3, 4, 8, 9, 10, 16, 17, 18]]
  | 54 => [[0, 1, 2, 6, 11, 12, 13], [0, 1, 2, 6, 7, 8, 11, 12, 13, 20, 21, 22]]
  | 56 => [[2, 3, 8]]
  | 59 => [[1, 2, 7, 8, 9]]
  | 61 => [[0, 1, 5]]
  | 62 => [[1, 5, 6], [1, 5, 6, 7, 8], [1, 5, 9], [1, 5, 9, 10]]
  | 63 => [[0, 7, 8, 9], [0, 7, 8, 9, 10]]
  | 64 => [[0, 1, 5]]
  | 65 => [[0, 1, 5]]
  | 79 => [[6, 7, 8]]
  | 80 => [[0, 3, 9, 10, 11], [6, 25, 26, 27]]
  | 81 => [[0, 2, 3, 21, 22, 23], [0, 2, 3, 4, 5, 6, 21, 22, 23, 29, 30, 31]]
  | 95 => [[7, 8, 9]]
  | 98 => [[7, 8, 9]]
  | 107 => [[1, 3]]
  | 111 => [[0, 1, 5], [0, 1, 5], [0, 1, 5], [0, 1, 5], [1, 5, 7]]
  | 112 => [[0, 3, 4]]
  | 119 => [[0, 1, 7, 8]]
  | 125 => [[4, 8, 9]]
  | 127 => [[4, 10, 11, 12]]
  | 128 => [[1, 6, 19, 20, 21]]
  | 130 => [[6, 7, 8]]
  | 134 => [[6, 7, 8]]
  | 137 => [[0, 3, 7, 8]]
  | 138 => [[0, 1, 7, 8]]
  | 145 => [[0, 3, 4], [3, 5]]
  | 146 => [[0, 4, 5, 6]]
  | 147 => [[0, 1, 5]]
  | 148 => [[0, 1, 5, 6, 7]]
  | 149 => [[0, 1, 5, 6]]
  | 150 => [[0, 3]]
  | 151 => [[0, 1, 5, 6, 7]]
  | 152 => [[0, 1, 5, 6], [0, 1, 5, 6, 7, 8]]
  | 154 => [[0, 1, 6, 7, 8]]
  | 155 => [[0, 3, 4]]
  | 158 => [[9, 10, 11, 12, 13, 14], [9, 10, 11, 12, 13, 14, 15, 16]]
  | 160 => [[0, 4, 25, 26]]
  | 161 => [[5, 6, 7]]
  | 162 => [[0, 2, 7, 13, 14, 15]]
  | 163 => [[0, 3]]
  | 164 => [[0, 4, 5, 29, 30]]
  | 165 => [[7, 8, 9]]
  | 169 => [[0, 1, 6]]
  | 170 => [[0, 1, 4, 5, 6]]
  | 172 => [[1, 5, 12, 13, 14]]
  | 174 => [[0, 1, 5, 9, 10]]
  | 175 => [[0, 1, 5, 11, 12, 13]]
  | 176 => [[0, 1, 6, 7, 8, 26, 27]]
  | 189 => [[2, 8, 9, 10, 11, 13, 14, 15, 16], [2, 8, 9, 10, 14, 15, 16, 17, 18]]
  | _ => []
def refT : List Nat := [174, 162, 172, 163, 175, 150, 127, 31, 20, 121, 122, 123]
noncomputable def gp : Prog := prog Tryz.prog liveT fun f => refT.contains f
end Go.Proofs.YtechbfodaallkaaGreat.Am
