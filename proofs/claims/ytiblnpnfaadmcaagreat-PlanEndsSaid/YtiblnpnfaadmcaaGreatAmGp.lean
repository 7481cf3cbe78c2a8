import Derived.Test.YtiblnpnfaadmcaaGreatAmFix
import Derived.Test.YtiblnpnfaadmcaaGreatAmComp
import Derived.Test.YtiblnpnfaadmcaaGreatProg
import Derived.KernelRfl
/- The functions' numbers in this seat's program; the program as the abstract machine reads it. -/
set_option linter.unusedVariables false
set_option maxRecDepth 10000
namespace Go.Proofs.YtiblnpnfaadmcaaGreat.Am
open Go
namespace fid
def zf07 : Nat := 7
def zf0a : Nat := 10
def zf0b : Nat := 11
def zf0f : Nat := 15
def zf0j : Nat := 19
def plan_At : Nat := 25
def zf0q : Nat := 26
def gussetref09_At : Nat := 27
def gussetref03_Of : Nat := 29
def gussetlaw09_at : Nat := 32
def zf0x : Nat := 33
def zf0y : Nat := 34
def zf14 : Nat := 40
def zf19 : Nat := 45
def zf1a : Nat := 46
def zf1e : Nat := 50
def gussetref02_Of : Nat := 52
def zf1h : Nat := 53
def zf1i : Nat := 54
def zf1m : Nat := 58
def zf1o : Nat := 60
def rat_Of : Nat := 61
def zf1q : Nat := 62
def zf1x : Nat := 69
def zf1y : Nat := 70
def zf23 : Nat := 75
def zf24 : Nat := 76
def zf25 : Nat := 77
def zf26 : Nat := 78
def zf27 : Nat := 79
def zf28 : Nat := 80
def rat_do : Nat := 81
def zf2a : Nat := 82
def zf2b : Nat := 83
def zf2d : Nat := 85
def geom_on : Nat := 86
def whole_Of : Nat := 87
def zf2g : Nat := 88
def zf2i : Nat := 90
def zf2j : Nat := 91
def zf2o : Nat := 96
def zf2p : Nat := 97
def zf2q : Nat := 98
def zf2r : Nat := 99
def zf2s : Nat := 100
def zf2t : Nat := 101
def zf2u : Nat := 102
def zf2v : Nat := 103
def zf2w : Nat := 104
def zf2z : Nat := 107
def zf30 : Nat := 108
def zf31 : Nat := 109
def zf32 : Nat := 110
def zf33 : Nat := 111
def zf34 : Nat := 112
def zf35 : Nat := 113
def zf38 : Nat := 116
def zf39 : Nat := 117
def zf3a : Nat := 118
def zf3b : Nat := 119
def zf3c : Nat := 120
def limb_Of : Nat := 121
def zf3e : Nat := 122
def zf3f : Nat := 123
def zf3g : Nat := 124
def zf3h : Nat := 125
def zf3i : Nat := 126
def zf3j : Nat := 127
def zf3k : Nat := 128
def zf3l : Nat := 129
def zf3m : Nat := 130
def zf3o : Nat := 132
def zf3p : Nat := 133
def zf3q : Nat := 134
def zf3r : Nat := 135
def zf3s : Nat := 136
def zf3t : Nat := 137
def zf3u : Nat := 138
def zf3v : Nat := 139
def zf3x : Nat := 141
def zf44 : Nat := 148
def zf45 : Nat := 149
def zf46 : Nat := 150
def zf47 : Nat := 151
def zf48 : Nat := 152
def zf49 : Nat := 153
def zf4a : Nat := 154
def zf4b : Nat := 155
def zf4c : Nat := 156
def zf4d : Nat := 157
def zf4e : Nat := 158
def zf4f : Nat := 159
def zf4g : Nat := 160
def zf4l : Nat := 165
def zf4m : Nat := 166
def zf4n : Nat := 167
def zf4o : Nat := 168
def zf4s : Nat := 172
def zf4t : Nat := 173
def zf4u : Nat := 174
end fid
instance glx : Gl where
  cells := fun _ => []
  cap := fun t => false
  dead := fun f => false
def liveT : Nat → List (List Nat)
  | 3 => [[0, 3, 4, 5, 7, 8, 9]]
  | 6 => [[0, 9, 11, 12], [0, 9, 11, 12, 13]]
  | 8 => [[0, 1, 2, 7, 8]]
  | 9 => [[0, 5]]
  | 11 => [[2, 3], [2, 3, 5], [2, 3], [2, 3, 31, 32, 33], [2, 3]]
  | 12 => [[0, 3]]
  | 13 => [[0, 2, 3, 4, 5, 6], [2, 3, 4, 5]]
  | 19 => [[0, 1, 4, 30, 31, 32], [69]]
  | 20 => [[0, 1, 5]]
  | 21 => [[0, 1, 5]]
  | 22 => [[0, 1, 5]]
  | 23 => [[0, 1, 4, 5, 6], [0, 1, 4, 5, 6, 7], [0, 1, 4, 5, 6, 8], [0, 1, 4, 5, 9], [0, 1, 4, 5, 9, 10]]
  | 25 => [[1, 5, 8, 9, 10]]
  | 26 => [[0, 1, 5]]
  | 27 => [[0, 1, 5, 6]]
  | 33 => [[7, 8, 9]]
  | 56 => [[0, 1, 5]]
  | 57 => [[0, 3, 4]]
  | 59 => [[0, 1, 5, 6], [0, 1, 5, 6, 7, 8]]
  | 69 => [[0, 1, 2, 16, 17, 18], [0, 1, 2, 4, 5, 16, 17, 18, 25, 26, 27], [0, 1, 2, 4, 5, 16, 17, 18, 42, 43, 44], [0, 1, 2, 71, 72, 73], [0, 1, 2, 13, 71, 72, 73, 80, 81, 82]]
  | 74 => [[0, 1, 6, 7, 8]]
  | 75 => [[0, 3, 4], [3, 5]]
  | 76 => [[0, 3, 4]]
  | 77 => [[8, 9, 10], [4, 8, 9, 10, 18, 19, 20]]
  | 85 => [[0, 3]]
  | 90 => [[7, 8, 9]]
  | 93 => [[0, 1, 5], [0, 1, 5], [0, 1, 5], [0, 1, 5], [1, 5, 7]]
  | 94 => [[0, 1, 5, 6]]
  | 95 => [[0, 1, 5, 6, 7]]
  | 101 => [[4, 10, 11, 12]]
  | 103 => [[1, 6, 19, 20, 21]]
  | 115 => [[0, 4, 5, 6]]
  | 116 => [[6, 7, 8]]
  | 120 => [[4, 8, 9]]
  | 121 => [[0, 4, 25, 26]]
  | 122 => [[5, 6, 7]]
  | 123 => [[0, 1, 6]]
  | 124 => [[0, 3]]
  | 125 => [[0, 2, 7, 13, 14, 15]]
  | 126 => [[0, 4, 5, 29, 30]]
  | 127 => [[7, 8, 9]]
  | 131 => [[0, 1, 5, 6, 7]]
  | 132 => [[6, 7, 8]]
  | 136 => [[9, 10, 11, 12, 13, 14], [9, 10, 11, 12, 13, 14, 15, 16]]
  | 153 => [[0, 1, 4, 5, 6]]
  | 154 => [[1, 5, 12, 13, 14]]
  | 156 => [[0, 1, 5, 9, 10]]
  | 157 => [[0, 1, 5, 11, 12, 13]]
  | 168 => [[2, 8, 9, 10, 11, 13, 14, 15, 16], [2, 8, 9, 10, 14, 15, 16, 17, 18]]
  | 172 => [[0, 1, 6, 7, 8, 26, 27]]
  | _ => []
def refT : List Nat := [45, 46, 156, 125, 154, 124, 157, 85, 101]
noncomputable def gp : Prog := prog Tryz.prog liveT fun f => refT.contains f
end Go.Proofs.YtiblnpnfaadmcaaGreat.Am
