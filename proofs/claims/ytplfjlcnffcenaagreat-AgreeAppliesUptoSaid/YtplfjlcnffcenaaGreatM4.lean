/- Part 4 of a proof. -/
import Derived.Test.YtplfjlcnffcenaaGreatM3
import Derived.TacticsInMore
import Derived.Below
set_option linter.unusedVariables false
set_option linter.unusedSimpArgs false
set_option linter.defProp false
set_option linter.unusedSectionVars false
set_option linter.unnecessarySimpa false
namespace Go.Proofs.YtplfjlcnffcenaaGreat.Vc
open Go.RowKit
set_option linter.unusedVariables false
def pq (t : TypeId) : List Nat := bif Nat.blt t 171 then (bif Nat.blt t 85 then (bif Nat.blt t 42 then (bif Nat.blt t 21 then [] else (bif Nat.blt t 31 then (bif Nat.blt t 26 then (bif Nat.blt t 23 then (bif Nat.blt t 22 then [] else [1]) else (bif Nat.blt t 24 then [] else (bif Nat.blt t 25 then [] else [1]))) else (bif Nat.blt t 28 then (bif Nat.blt t 27 then [2] else []) else (bif Nat.blt t 29 then [] else (bif Nat.blt t 30 then [0, 0, 0, 0, 0, 1, 2, 0, 0, 0, 0] else [0, 0, 0, 0, 0, 1, 2, 0, 0, 0, 0])))) else (bif Nat.blt t 36 then (bif Nat.blt t 33 then [] else (bif Nat.blt t 34 then [8] else (bif Nat.blt t 35 then [0, 0, 0, 0, 0, 1, 2, 0, 0, 0, 0, 0, 0, 0, 0, 8] else [0, 0, 0, 0, 0, 1, 2, 0, 0, 0, 0, 0, 0, 0, 0, 8]))) else (bif Nat.blt t 39 then (bif Nat.blt t 37 then [] else (bif Nat.blt t 38 then [11] else [])) else [])))) else (bif Nat.blt t 63 then (bif Nat.blt t 52 then (bif Nat.blt t 47 then (bif Nat.blt t 44 then [] else (bif Nat.blt t 45 then [] else (bif Nat.blt t 46 then [1] else [0, 0, 0, 0, 0, 0, 0, 0, 1, 2, 0, 0, 0, 0, 0, 0, 0, 0, 8]))) else (bif Nat.blt t 49 then (bif Nat.blt t 48 then [0, 0, 0, 0, 0, 0, 0, 0, 1, 2, 0, 0, 0, 0, 0, 0, 0, 0, 8] else []) else [])) else (bif Nat.blt t 57 then (bif Nat.blt t 54 then (bif Nat.blt t 53 then [0, 0, 0, 0, 0, 1, 0, 1] else [0, 0, 0, 0, 0, 1, 0, 1]) else (bif Nat.blt t 55 then [] else (bif Nat.blt t 56 then [] else [3]))) else (bif Nat.blt t 60 then (bif Nat.blt t 58 then [1] else []) else []))) else (bif Nat.blt t 74 then (bif Nat.blt t 68 then [] else (bif Nat.blt t 71 then (bif Nat.blt t 69 then [] else (bif Nat.blt t 70 then [1, 0] else [1, 0])) else (bif Nat.blt t 72 then [1] else []))) else (bif Nat.blt t 79 then (bif Nat.blt t 76 then [] else (bif Nat.blt t 77 then [1] else [])) else (bif Nat.blt t 82 then [] else (bif Nat.blt t 83 then [] else (bif Nat.blt t 84 then [] else [1]))))))) else (bif Nat.blt t 128 then [] else (bif Nat.blt t 149 then [] else (bif Nat.blt t 160 then [] else (bif Nat.blt t 165 then [] else (bif Nat.blt t 168 then [] else (bif Nat.blt t 169 then [] else (bif Nat.blt t 170 then [] else [1])))))))) else []
def pow (t : FuncId) : List Nat := bif Nat.blt t 24 then (bif Nat.blt t 12 then [] else (bif Nat.blt t 18 then [] else (bif Nat.blt t 21 then (bif Nat.blt t 19 then [2] else []) else (bif Nat.blt t 22 then [] else (bif Nat.blt t 23 then [] else [0]))))) else []
def pfz (f : FuncId) : Bool := ([7, 8, 9, 14, 16, 19, 24, 26, 27, 28, 29, 31, 32, 35, 44, 50, 51, 56, 57, 58, 61, 65, 70, 72, 74, 78, 90, 104, 110] : List Nat).contains f
def pro (f : FuncId) : Bool := ([7, 31, 50, 56, 61, 70] : List Nat).contains f
def pkp (t : FuncId) (k : Nat) : List Nat := bif Nat.blt t 142 then (bif Nat.blt t 71 then (bif Nat.blt t 35 then (bif Nat.blt t 17 then (bif Nat.blt t 8 then (bif Nat.blt t 4 then (bif Nat.blt t 2 then [] else (bif Nat.blt t 3 then [] else (bif Nat.blt k 8 then (bif Nat.blt k 4 then (bif Nat.blt k 2 then [] else (bif Nat.blt k 3 then [] else [4, 5, 7, 20, 21, 22])) else (bif Nat.blt k 6 then [] else (bif Nat.blt k 7 then [] else [4, 5, 7, 20, 21, 22, 36, 37, 38]))) else []))) else (bif Nat.blt t 6 then (bif Nat.blt t 5 then (bif Nat.blt k 19 then (bif Nat.blt k 9 then (bif Nat.blt k 4 then [] else (bif Nat.blt k 6 then (bif Nat.blt k 5 then [1, 5, 7, 45, 46, 47] else []) else [])) else (bif Nat.blt k 14 then (bif Nat.blt k 11 then [] else (bif Nat.blt k 12 then [] else (bif Nat.blt k 13 then [1, 5, 7, 9, 10, 11, 45, 46, 47, 81, 82, 83] else []))) else (bif Nat.blt k 16 then (bif Nat.blt k 15 then [] else [1, 5, 7, 9, 10, 11, 14, 45, 46, 47, 81, 82, 83, 97, 98, 99]) else (bif Nat.blt k 17 then [] else (bif Nat.blt k 18 then [] else [1, 5, 7, 9, 10, 11, 14, 16, 45, 46, 47, 81, 82, 83, 97, 98, 99, 108, 109, 110]))))) else []) else (bif Nat.blt k 32 then (bif Nat.blt k 16 then (bif Nat.blt k 8 then (bif Nat.blt k 4 then [] else (bif Nat.blt k 6 then (bif Nat.blt k 5 then [4, 5, 7, 8, 39, 40, 41] else []) else (bif Nat.blt k 7 then [] else [4, 5, 7, 8, 10, 39, 40, 41, 50, 51, 52]))) else []) else (bif Nat.blt k 24 then (bif Nat.blt k 20 then (bif Nat.blt k 18 then (bif Nat.blt k 17 then [] else [4, 7, 8, 17, 18]) else []) else (bif Nat.blt k 22 then [] else (bif Nat.blt k 23 then [] else [4, 7, 8, 17, 120, 121, 122]))) else (bif Nat.blt k 28 then [] else (bif Nat.blt k 30 then (bif Nat.blt k 29 then [4, 7, 8, 17, 120, 121, 122, 145, 146, 147] else []) else (bif Nat.blt k 31 then [] else [4, 7, 8, 17, 24, 120, 121, 122, 145, 146, 147, 153, 154, 155]))))) else [])) else (bif Nat.blt t 7 then (bif Nat.blt k 8 then (bif Nat.blt k 4 then [] else (bif Nat.blt k 6 then [] else (bif Nat.blt k 7 then [] else [1, 2, 3, 4, 56, 57, 58]))) else []) else (bif Nat.blt k 4 then (bif Nat.blt k 2 then [] else (bif Nat.blt k 3 then [] else [0, 3, 4])) else [])))) else (bif Nat.blt t 12 then (bif Nat.blt t 10 then (bif Nat.blt t 9 then (bif Nat.blt k 9 then (bif Nat.blt k 4 then [] else (bif Nat.blt k 6 then (bif Nat.blt k 5 then [1, 2, 3, 4] else []) else (bif Nat.blt k 7 then [] else (bif Nat.blt k 8 then [] else [1, 2, 3, 5])))) else []) else []) else (bif Nat.blt t 11 then (bif Nat.blt k 16 then (bif Nat.blt k 8 then [] else (bif Nat.blt k 12 then [] else (bif Nat.blt k 14 then (bif Nat.blt k 13 then [1, 52, 53, 54] else []) else (bif Nat.blt k 15 then [] else [1, 4, 52, 53, 54, 58, 59, 60])))) else []) else (bif Nat.blt k 21 then (bif Nat.blt k 10 then [] else (bif Nat.blt k 15 then [] else (bif Nat.blt k 18 then (bif Nat.blt k 16 then [1, 6] else []) else (bif Nat.blt k 19 then [] else (bif Nat.blt k 20 then [] else [1, 7]))))) else []))) else (bif Nat.blt t 14 then [] else (bif Nat.blt t 15 then (bif Nat.blt k 6 then (bif Nat.blt k 3 then [] else (bif Nat.blt k 4 then [] else (bif Nat.blt k 5 then [] else [2, 5, 6, 7, 8]))) else []) else [])))) else (bif Nat.blt t 26 then (bif Nat.blt t 21 then (bif Nat.blt t 19 then (bif Nat.blt t 18 then [] else (bif Nat.blt k 14 then (bif Nat.blt k 7 then [] else (bif Nat.blt k 10 then [] else (bif Nat.blt k 12 then [] else (bif Nat.blt k 13 then [] else [2, 3, 9, 11, 13, 48, 49, 50])))) else [])) else (bif Nat.blt t 20 then (bif Nat.blt k 17 then (bif Nat.blt k 8 then (bif Nat.blt k 4 then [] else (bif Nat.blt k 6 then (bif Nat.blt k 5 then [] else [2, 3, 4, 8, 9, 10]) else [])) else (bif Nat.blt k 12 then [] else (bif Nat.blt k 14 then [] else (bif Nat.blt k 15 then [] else (bif Nat.blt k 16 then [] else [2, 3, 11, 13, 14]))))) else []) else (bif Nat.blt k 5 then (bif Nat.blt k 2 then [] else (bif Nat.blt k 3 then [] else (bif Nat.blt k 4 then [] else [0, 1, 5]))) else []))) else (bif Nat.blt t 23 then (bif Nat.blt t 22 then (bif Nat.blt k 5 then (bif Nat.blt k 2 then [] else (bif Nat.blt k 3 then [] else (bif Nat.blt k 4 then [] else [1, 2, 20, 21, 22]))) else []) else (bif Nat.blt k 10 then (bif Nat.blt k 5 then (bif Nat.blt k 2 then [] else (bif Nat.blt k 3 then [] else (bif Nat.blt k 4 then [] else [1, 2, 5]))) else (bif Nat.blt k 7 then [] else (bif Nat.blt k 8 then [] else (bif Nat.blt k 9 then [] else [1, 2, 5, 6])))) else [])) else (bif Nat.blt t 24 then [] else (bif Nat.blt t 25 then [] else (bif Nat.blt k 5 then (bif Nat.blt k 2 then [] else (bif Nat.blt k 3 then [] else (bif Nat.blt k 4 then [] else [0, 1, 5]))) else []))))) else (bif Nat.blt t 30 then (bif Nat.blt t 28 then (bif Nat.blt t 27 then (bif Nat.blt k 7 then (bif Nat.blt k 3 then [] else (bif Nat.blt k 5 then [] else (bif Nat.blt k 6 then [] else [0, 4, 5, 6, 7]))) else []) else []) else (bif Nat.blt t 29 then (bif Nat.blt k 10 then (bif Nat.blt k 5 then [] else (bif Nat.blt k 7 then [] else (bif Nat.blt k 8 then [] else (bif Nat.blt k 9 then [] else [0, 3, 7])))) else []) else [])) else []))) else (bif Nat.blt t 53 then (bif Nat.blt t 44 then (bif Nat.blt t 39 then (bif Nat.blt t 37 then (bif Nat.blt t 36 then (bif Nat.blt k 4 then (bif Nat.blt k 2 then [] else (bif Nat.blt k 3 then [] else [3, 6, 7, 8])) else []) else []) else []) else (bif Nat.blt t 41 then [] else (bif Nat.blt t 42 then [] else (bif Nat.blt t 43 then [] else (bif Nat.blt k 3 then (bif Nat.blt k 1 then [] else (bif Nat.blt k 2 then [] else [0, 3])) else []))))) else (bif Nat.blt t 48 then (bif Nat.blt t 46 then (bif Nat.blt t 45 then (bif Nat.blt k 4 then (bif Nat.blt k 2 then [] else (bif Nat.blt k 3 then [] else [1, 3, 4])) else []) else (bif Nat.blt k 3 then (bif Nat.blt k 1 then [] else (bif Nat.blt k 2 then [] else [0, 1, 5])) else [])) else []) else (bif Nat.blt t 50 then [] else (bif Nat.blt t 51 then [] else (bif Nat.blt t 52 then (bif Nat.blt k 4 then (bif Nat.blt k 2 then [] else (bif Nat.blt k 3 then [] else [1, 5, 8, 9, 10])) else []) else []))))) else (bif Nat.blt t 62 then (bif Nat.blt t 57 then (bif Nat.blt t 55 then [] else (bif Nat.blt t 56 then [] else (bif Nat.blt k 10 then (bif Nat.blt k 5 then [] else (bif Nat.blt k 7 then (bif Nat.blt k 6 then [4, 5, 6, 13, 14, 15] else []) else (bif Nat.blt k 8 then [] else (bif Nat.blt k 9 then [] else [4, 5, 6, 9, 13, 14, 15, 21, 22, 23])))) else []))) else (bif Nat.blt t 59 then (bif Nat.blt t 58 then (bif Nat.blt k 4 then (bif Nat.blt k 2 then [] else (bif Nat.blt k 3 then [] else [1, 5, 8, 9, 10])) else []) else []) else [])) else (bif Nat.blt t 66 then (bif Nat.blt t 64 then [] else (bif Nat.blt t 65 then (bif Nat.blt k 4 then (bif Nat.blt k 2 then [] else (bif Nat.blt k 3 then [] else [0, 3, 4])) else []) else (bif Nat.blt k 13 then (bif Nat.blt k 6 then (bif Nat.blt k 3 then [] else (bif Nat.blt k 4 then [0, 3, 4] else [])) else (bif Nat.blt k 9 then (bif Nat.blt k 7 then [0, 3, 4, 5] else []) else (bif Nat.blt k 11 then [] else (bif Nat.blt k 12 then [] else [0, 3, 4, 5, 7])))) else []))) else (bif Nat.blt t 68 then (bif Nat.blt t 67 then (bif Nat.blt k 5 then (bif Nat.blt k 2 then [] else (bif Nat.blt k 3 then [] else (bif Nat.blt k 4 then [] else [0, 1, 12, 13]))) else []) else (bif Nat.blt k 5 then (bif Nat.blt k 2 then [] else (bif Nat.blt k 3 then [] else (bif Nat.blt k 4 then [] else [0, 1, 5]))) else [])) else (bif Nat.blt t 69 then (bif Nat.blt k 6 then (bif Nat.blt k 3 then (bif Nat.blt k 1 then [] else (bif Nat.blt k 2 then [] else [0, 1, 5])) else (bif Nat.blt k 4 then [] else (bif Nat.blt k 5 then [] else [0, 1, 5, 6]))) else []) else (bif Nat.blt t 70 then [] else (bif Nat.blt k 5 then (bif Nat.blt k 2 then [] else (bif Nat.blt k 3 then [] else (bif Nat.blt k 4 then [] else [3, 12, 13]))) else [])))))))) else (bif Nat.blt t 106 then (bif Nat.blt t 88 then (bif Nat.blt t 79 then (bif Nat.blt t 75 then (bif Nat.blt t 73 then (bif Nat.blt t 72 then (bif Nat.blt k 3 then (bif Nat.blt k 1 then [] else (bif Nat.blt k 2 then [] else [0, 1, 5])) else []) else (bif Nat.blt k 4 then (bif Nat.blt k 2 then [] else (bif Nat.blt k 3 then [] else [0, 3, 4])) else [])) else (bif Nat.blt t 74 then (bif Nat.blt k 6 then (bif Nat.blt k 3 then [] else (bif Nat.blt k 4 then [] else (bif Nat.blt k 5 then [] else [2, 3, 6]))) else []) else (bif Nat.blt k 6 then (bif Nat.blt k 3 then [] else (bif Nat.blt k 4 then [0, 3, 4] else (bif Nat.blt k 5 then [] else [0, 3, 4, 5]))) else []))) else (bif Nat.blt t 77 then (bif Nat.blt t 76 then [] else (bif Nat.blt k 3 then (bif Nat.blt k 1 then [] else (bif Nat.blt k 2 then [] else [0, 1, 7, 8])) else [])) else [])) else (bif Nat.blt t 83 then (bif Nat.blt t 81 then [] else (bif Nat.blt t 82 then (bif Nat.blt k 3 then (bif Nat.blt k 1 then [] else (bif Nat.blt k 2 then [] else [0, 1, 7, 8])) else []) else (bif Nat.blt k 3 then (bif Nat.blt k 1 then [] else (bif Nat.blt k 2 then [] else [0, 1, 7, 8])) else []))) else (bif Nat.blt t 85 then (bif Nat.blt t 84 then [] else (bif Nat.blt k 3 then (bif Nat.blt k 1 then [] else (bif Nat.blt k 2 then [] else [0, 3])) else [])) else (bif Nat.blt t 86 then [] else (bif Nat.blt t 87 then (bif Nat.blt k 3 then (bif Nat.blt k 1 then [] else (bif Nat.blt k 2 then [] else [1, 9, 10, 11])) else []) else (bif Nat.blt k 9 then (bif Nat.blt k 4 then [] else (bif Nat.blt k 6 then [] else (bif Nat.blt k 7 then [] else (bif Nat.blt k 8 then [] else [1, 4, 6, 7, 8, 29, 30, 31])))) else [])))))) else (bif Nat.blt t 97 then (bif Nat.blt t 92 then (bif Nat.blt t 90 then [] else (bif Nat.blt t 91 then [] else (bif Nat.blt k 3 then (bif Nat.blt k 1 then [] else (bif Nat.blt k 2 then [] else [0, 1, 2, 3, 8, 9])) else []))) else (bif Nat.blt t 94 then (bif Nat.blt t 93 then [] else (bif Nat.blt k 6 then (bif Nat.blt k 3 then [] else (bif Nat.blt k 4 then [] else (bif Nat.blt k 5 then [] else [0, 3, 4]))) else [])) else (bif Nat.blt t 95 then [] else (bif Nat.blt t 96 then [] else (bif Nat.blt k 9 then (bif Nat.blt k 4 then [] else (bif Nat.blt k 6 then [] else (bif Nat.blt k 7 then [] else (bif Nat.blt k 8 then [] else [0, 1, 4, 6, 7, 8])))) else []))))) else (bif Nat.blt t 101 then [] else (bif Nat.blt t 103 then [] else (bif Nat.blt t 104 then (bif Nat.blt k 5 then (bif Nat.blt k 2 then [] else (bif Nat.blt k 3 then [] else (bif Nat.blt k 4 then [] else [0, 1, 5]))) else []) else (bif Nat.blt t 105 then (bif Nat.blt k 5 then (bif Nat.blt k 2 then [] else (bif Nat.blt k 3 then [] else (bif Nat.blt k 4 then [] else [0, 1, 5]))) else []) else [])))))) else (bif Nat.blt t 124 then (bif Nat.blt t 115 then (bif Nat.blt t 110 then (bif Nat.blt t 108 then (bif Nat.blt t 107 then [] else (bif Nat.blt k 3 then (bif Nat.blt k 1 then [] else (bif Nat.blt k 2 then [] else [1, 2, 10])) else [])) else []) else (bif Nat.blt t 112 then [] else (bif Nat.blt t 113 then [] else (bif Nat.blt t 114 then (bif Nat.blt k 5 then (bif Nat.blt k 2 then (bif Nat.blt k 1 then [] else [0, 1, 2, 6]) else (bif Nat.blt k 3 then [] else (bif Nat.blt k 4 then [] else [0, 1, 2, 6, 7]))) else []) else (bif Nat.blt k 9 then (bif Nat.blt k 4 then [] else (bif Nat.blt k 6 then (bif Nat.blt k 5 then [0, 6, 7, 8, 9] else []) else (bif Nat.blt k 7 then [] else (bif Nat.blt k 8 then [] else [0, 6, 7, 10])))) else []))))) else (bif Nat.blt t 119 then (bif Nat.blt t 117 then (bif Nat.blt t 116 then (bif Nat.blt k 6 then (bif Nat.blt k 3 then [] else (bif Nat.blt k 4 then [] else (bif Nat.blt k 5 then [] else [0, 1, 6, 7, 8, 9]))) else []) else []) else (bif Nat.blt t 118 then (bif Nat.blt k 3 then (bif Nat.blt k 1 then [] else (bif Nat.blt k 2 then [] else [0, 6, 7])) else []) else (bif Nat.blt k 21 then (bif Nat.blt k 10 then (bif Nat.blt k 5 then (bif Nat.blt k 2 then [] else (bif Nat.blt k 3 then [] else (bif Nat.blt k 4 then [0, 1, 2, 7, 8] else []))) else (bif Nat.blt k 7 then (bif Nat.blt k 6 then [0, 1, 2, 7, 8] else []) else [])) else (bif Nat.blt k 15 then (bif Nat.blt k 12 then [] else (bif Nat.blt k 13 then [] else (bif Nat.blt k 14 then [] else [0, 1, 2, 7, 8, 9]))) else (bif Nat.blt k 18 then [] else (bif Nat.blt k 19 then [] else (bif Nat.blt k 20 then [] else [0, 1, 2, 7, 8, 10]))))) else []))) else (bif Nat.blt t 121 then (bif Nat.blt t 120 then [] else (bif Nat.blt k 6 then (bif Nat.blt k 3 then [] else (bif Nat.blt k 4 then [0, 1, 9, 10] else (bif Nat.blt k 5 then [] else [0, 1, 9, 10]))) else [])) else (bif Nat.blt t 122 then (bif Nat.blt k 16 then (bif Nat.blt k 8 then (bif Nat.blt k 4 then (bif Nat.blt k 2 then [] else (bif Nat.blt k 3 then [] else [0, 1, 10, 11])) else (bif Nat.blt k 6 then (bif Nat.blt k 5 then [] else [0, 1, 10, 11]) else [])) else (bif Nat.blt k 12 then [] else (bif Nat.blt k 14 then (bif Nat.blt k 13 then [] else [0, 1, 10, 11]) else (bif Nat.blt k 15 then [] else [0, 1, 10, 11])))) else []) else [])))) else (bif Nat.blt t 133 then (bif Nat.blt t 128 then (bif Nat.blt t 126 then [] else (bif Nat.blt t 127 then [] else (bif Nat.blt k 6 then (bif Nat.blt k 3 then [] else (bif Nat.blt k 4 then [3, 6, 7, 8] else (bif Nat.blt k 5 then [] else [3, 5, 6, 7, 8]))) else []))) else []) else (bif Nat.blt t 137 then (bif Nat.blt t 135 then (bif Nat.blt t 134 then (bif Nat.blt k 2 then (bif Nat.blt k 1 then [] else [0, 2, 3, 8]) else []) else []) else []) else (bif Nat.blt t 139 then [] else (bif Nat.blt t 140 then (bif Nat.blt k 2 then (bif Nat.blt k 1 then [] else [0, 1]) else []) else (bif Nat.blt t 141 then [] else (bif Nat.blt k 2 then (bif Nat.blt k 1 then [] else [0, 2, 3]) else []))))))))) else []
def pkx (t : FuncId) (k : Nat) : List Nat := bif Nat.blt t 142 then (bif Nat.blt t 71 then (bif Nat.blt t 35 then (bif Nat.blt t 17 then (bif Nat.blt t 8 then (bif Nat.blt t 4 then (bif Nat.blt t 2 then [] else (bif Nat.blt t 3 then [] else (bif Nat.blt k 8 then (bif Nat.blt k 4 then (bif Nat.blt k 2 then [] else (bif Nat.blt k 3 then [] else [6, 7])) else (bif Nat.blt k 6 then [] else (bif Nat.blt k 7 then [] else [4, 5, 6, 7, 20, 21, 22]))) else []))) else (bif Nat.blt t 6 then (bif Nat.blt t 5 then (bif Nat.blt k 19 then (bif Nat.blt k 9 then (bif Nat.blt k 4 then [] else (bif Nat.blt k 6 then (bif Nat.blt k 5 then [6, 7] else []) else [])) else (bif Nat.blt k 14 then (bif Nat.blt k 11 then [] else (bif Nat.blt k 12 then [] else (bif Nat.blt k 13 then [1, 5, 6, 7, 45, 46, 47] else []))) else (bif Nat.blt k 16 then (bif Nat.blt k 15 then [] else [1, 5, 6, 7, 9, 10, 11, 45, 46, 47, 81, 82, 83]) else (bif Nat.blt k 17 then [] else (bif Nat.blt k 18 then [] else [1, 5, 6, 7, 9, 10, 11, 14, 45, 46, 47, 81, 82, 83, 97, 98, 99]))))) else []) else (bif Nat.blt k 32 then (bif Nat.blt k 16 then (bif Nat.blt k 8 then (bif Nat.blt k 4 then [] else (bif Nat.blt k 6 then (bif Nat.blt k 5 then [4, 6, 7, 8] else []) else (bif Nat.blt k 7 then [] else [4, 5, 6, 7, 8, 39, 40, 41]))) else []) else (bif Nat.blt k 24 then (bif Nat.blt k 20 then (bif Nat.blt k 18 then (bif Nat.blt k 17 then [] else [4, 7, 8, 17]) else []) else (bif Nat.blt k 22 then [] else (bif Nat.blt k 23 then [] else [6, 7]))) else (bif Nat.blt k 28 then [] else (bif Nat.blt k 30 then (bif Nat.blt k 29 then [4, 6, 7, 8, 17, 120, 121, 122] else []) else (bif Nat.blt k 31 then [] else [4, 6, 7, 8, 17, 120, 121, 122, 145, 146, 147]))))) else [])) else (bif Nat.blt t 7 then (bif Nat.blt k 8 then (bif Nat.blt k 4 then [] else (bif Nat.blt k 6 then [] else (bif Nat.blt k 7 then [] else [0, 1, 2, 3]))) else []) else (bif Nat.blt k 4 then (bif Nat.blt k 2 then [] else (bif Nat.blt k 3 then [] else [3])) else [])))) else (bif Nat.blt t 12 then (bif Nat.blt t 10 then (bif Nat.blt t 9 then (bif Nat.blt k 9 then (bif Nat.blt k 4 then [] else (bif Nat.blt k 6 then (bif Nat.blt k 5 then [1, 2, 3] else []) else (bif Nat.blt k 7 then [] else (bif Nat.blt k 8 then [] else [2, 3])))) else []) else []) else (bif Nat.blt t 11 then (bif Nat.blt k 16 then (bif Nat.blt k 8 then [] else (bif Nat.blt k 12 then [] else (bif Nat.blt k 14 then (bif Nat.blt k 13 then [1, 2] else []) else (bif Nat.blt k 15 then [] else [1, 2, 52, 53, 54])))) else []) else (bif Nat.blt k 21 then (bif Nat.blt k 10 then [] else (bif Nat.blt k 15 then [] else (bif Nat.blt k 18 then (bif Nat.blt k 16 then [1, 2] else []) else (bif Nat.blt k 19 then [] else (bif Nat.blt k 20 then [] else [1, 2]))))) else []))) else (bif Nat.blt t 14 then [] else (bif Nat.blt t 15 then (bif Nat.blt k 6 then (bif Nat.blt k 3 then [] else (bif Nat.blt k 4 then [] else (bif Nat.blt k 5 then [] else [6]))) else []) else [])))) else (bif Nat.blt t 26 then (bif Nat.blt t 21 then (bif Nat.blt t 19 then (bif Nat.blt t 18 then [] else (bif Nat.blt k 14 then (bif Nat.blt k 7 then [] else (bif Nat.blt k 10 then [] else (bif Nat.blt k 12 then [] else (bif Nat.blt k 13 then [] else [13])))) else [])) else (bif Nat.blt t 20 then (bif Nat.blt k 17 then (bif Nat.blt k 8 then (bif Nat.blt k 4 then [] else (bif Nat.blt k 6 then (bif Nat.blt k 5 then [] else [2, 3, 4, 8, 9]) else [])) else (bif Nat.blt k 12 then [] else (bif Nat.blt k 14 then [] else (bif Nat.blt k 15 then [] else (bif Nat.blt k 16 then [] else [13]))))) else []) else (bif Nat.blt k 5 then (bif Nat.blt k 2 then [] else (bif Nat.blt k 3 then [] else (bif Nat.blt k 4 then [] else [4]))) else []))) else (bif Nat.blt t 23 then (bif Nat.blt t 22 then (bif Nat.blt k 5 then (bif Nat.blt k 2 then [] else (bif Nat.blt k 3 then [] else (bif Nat.blt k 4 then [] else [1, 2, 4]))) else []) else (bif Nat.blt k 10 then (bif Nat.blt k 5 then (bif Nat.blt k 2 then [] else (bif Nat.blt k 3 then [] else (bif Nat.blt k 4 then [] else [1, 2, 4]))) else (bif Nat.blt k 7 then [] else (bif Nat.blt k 8 then [] else (bif Nat.blt k 9 then [] else [1, 2, 4, 5])))) else [])) else (bif Nat.blt t 24 then [] else (bif Nat.blt t 25 then [] else (bif Nat.blt k 5 then (bif Nat.blt k 2 then [] else (bif Nat.blt k 3 then [] else (bif Nat.blt k 4 then [] else [4]))) else []))))) else (bif Nat.blt t 30 then (bif Nat.blt t 28 then (bif Nat.blt t 27 then (bif Nat.blt k 7 then (bif Nat.blt k 3 then [] else (bif Nat.blt k 5 then [] else (bif Nat.blt k 6 then [] else [0, 4, 5]))) else []) else []) else (bif Nat.blt t 29 then (bif Nat.blt k 10 then (bif Nat.blt k 5 then [] else (bif Nat.blt k 7 then [] else (bif Nat.blt k 8 then [] else (bif Nat.blt k 9 then [] else [0, 3, 7])))) else []) else [])) else []))) else (bif Nat.blt t 53 then (bif Nat.blt t 44 then (bif Nat.blt t 39 then (bif Nat.blt t 37 then (bif Nat.blt t 36 then (bif Nat.blt k 4 then (bif Nat.blt k 2 then [] else (bif Nat.blt k 3 then [] else [3])) else []) else []) else []) else (bif Nat.blt t 41 then [] else (bif Nat.blt t 42 then [] else (bif Nat.blt t 43 then [] else (bif Nat.blt k 3 then (bif Nat.blt k 1 then [] else (bif Nat.blt k 2 then [] else [2])) else []))))) else (bif Nat.blt t 48 then (bif Nat.blt t 46 then (bif Nat.blt t 45 then (bif Nat.blt k 4 then (bif Nat.blt k 2 then [] else (bif Nat.blt k 3 then [] else [3])) else []) else (bif Nat.blt k 3 then (bif Nat.blt k 1 then [] else (bif Nat.blt k 2 then [] else [4])) else [])) else []) else (bif Nat.blt t 50 then [] else (bif Nat.blt t 51 then [] else (bif Nat.blt t 52 then (bif Nat.blt k 4 then (bif Nat.blt k 2 then [] else (bif Nat.blt k 3 then [] else [5])) else []) else []))))) else (bif Nat.blt t 62 then (bif Nat.blt t 57 then (bif Nat.blt t 55 then [] else (bif Nat.blt t 56 then [] else (bif Nat.blt k 10 then (bif Nat.blt k 5 then [] else (bif Nat.blt k 7 then (bif Nat.blt k 6 then [5, 6] else []) else (bif Nat.blt k 8 then [] else (bif Nat.blt k 9 then [] else [4, 5, 6, 13, 14, 15])))) else []))) else (bif Nat.blt t 59 then (bif Nat.blt t 58 then (bif Nat.blt k 4 then (bif Nat.blt k 2 then [] else (bif Nat.blt k 3 then [] else [5])) else []) else []) else [])) else (bif Nat.blt t 66 then (bif Nat.blt t 64 then [] else (bif Nat.blt t 65 then (bif Nat.blt k 4 then (bif Nat.blt k 2 then [] else (bif Nat.blt k 3 then [] else [3])) else []) else (bif Nat.blt k 13 then (bif Nat.blt k 6 then (bif Nat.blt k 3 then [] else (bif Nat.blt k 4 then [3] else [])) else (bif Nat.blt k 9 then (bif Nat.blt k 7 then [0, 3, 4] else []) else (bif Nat.blt k 11 then [] else (bif Nat.blt k 12 then [] else [0, 3, 4, 5])))) else []))) else (bif Nat.blt t 68 then (bif Nat.blt t 67 then (bif Nat.blt k 5 then (bif Nat.blt k 2 then [] else (bif Nat.blt k 3 then [] else (bif Nat.blt k 4 then [] else [4]))) else []) else (bif Nat.blt k 5 then (bif Nat.blt k 2 then [] else (bif Nat.blt k 3 then [] else (bif Nat.blt k 4 then [] else [4]))) else [])) else (bif Nat.blt t 69 then (bif Nat.blt k 6 then (bif Nat.blt k 3 then (bif Nat.blt k 1 then [] else (bif Nat.blt k 2 then [] else [4])) else (bif Nat.blt k 4 then [] else (bif Nat.blt k 5 then [] else [0, 1, 4, 5]))) else []) else (bif Nat.blt t 70 then [] else (bif Nat.blt k 5 then (bif Nat.blt k 2 then [] else (bif Nat.blt k 3 then [] else (bif Nat.blt k 4 then [] else [3]))) else [])))))))) else (bif Nat.blt t 106 then (bif Nat.blt t 88 then (bif Nat.blt t 79 then (bif Nat.blt t 75 then (bif Nat.blt t 73 then (bif Nat.blt t 72 then (bif Nat.blt k 3 then (bif Nat.blt k 1 then [] else (bif Nat.blt k 2 then [] else [4])) else []) else (bif Nat.blt k 4 then (bif Nat.blt k 2 then [] else (bif Nat.blt k 3 then [] else [3])) else [])) else (bif Nat.blt t 74 then (bif Nat.blt k 6 then (bif Nat.blt k 3 then [] else (bif Nat.blt k 4 then [] else (bif Nat.blt k 5 then [] else [4]))) else []) else (bif Nat.blt k 6 then (bif Nat.blt k 3 then [] else (bif Nat.blt k 4 then [3] else (bif Nat.blt k 5 then [] else [0, 3, 4, 5]))) else []))) else (bif Nat.blt t 77 then (bif Nat.blt t 76 then [] else (bif Nat.blt k 3 then (bif Nat.blt k 1 then [] else (bif Nat.blt k 2 then [] else [4])) else [])) else [])) else (bif Nat.blt t 83 then (bif Nat.blt t 81 then [] else (bif Nat.blt t 82 then (bif Nat.blt k 3 then (bif Nat.blt k 1 then [] else (bif Nat.blt k 2 then [] else [4])) else []) else (bif Nat.blt k 3 then (bif Nat.blt k 1 then [] else (bif Nat.blt k 2 then [] else [4])) else []))) else (bif Nat.blt t 85 then (bif Nat.blt t 84 then [] else (bif Nat.blt k 3 then (bif Nat.blt k 1 then [] else (bif Nat.blt k 2 then [] else [0, 2])) else [])) else (bif Nat.blt t 86 then [] else (bif Nat.blt t 87 then (bif Nat.blt k 3 then (bif Nat.blt k 1 then [] else (bif Nat.blt k 2 then [] else [1, 2])) else []) else (bif Nat.blt k 9 then (bif Nat.blt k 4 then [] else (bif Nat.blt k 6 then [] else (bif Nat.blt k 7 then [] else (bif Nat.blt k 8 then [] else [4, 5, 6, 7])))) else [])))))) else (bif Nat.blt t 97 then (bif Nat.blt t 92 then (bif Nat.blt t 90 then [] else (bif Nat.blt t 91 then [] else (bif Nat.blt k 3 then (bif Nat.blt k 1 then [] else (bif Nat.blt k 2 then [] else [])) else []))) else (bif Nat.blt t 94 then (bif Nat.blt t 93 then [] else (bif Nat.blt k 6 then (bif Nat.blt k 3 then [] else (bif Nat.blt k 4 then [] else (bif Nat.blt k 5 then [] else [3]))) else [])) else (bif Nat.blt t 95 then [] else (bif Nat.blt t 96 then [] else (bif Nat.blt k 9 then (bif Nat.blt k 4 then [] else (bif Nat.blt k 6 then [] else (bif Nat.blt k 7 then [] else (bif Nat.blt k 8 then [] else [4, 5, 6, 7])))) else []))))) else (bif Nat.blt t 101 then [] else (bif Nat.blt t 103 then [] else (bif Nat.blt t 104 then (bif Nat.blt k 5 then (bif Nat.blt k 2 then [] else (bif Nat.blt k 3 then [] else (bif Nat.blt k 4 then [] else [4]))) else []) else (bif Nat.blt t 105 then (bif Nat.blt k 5 then (bif Nat.blt k 2 then [] else (bif Nat.blt k 3 then [] else (bif Nat.blt k 4 then [] else [0, 1, 5]))) else []) else [])))))) else (bif Nat.blt t 124 then (bif Nat.blt t 115 then (bif Nat.blt t 110 then (bif Nat.blt t 108 then (bif Nat.blt t 107 then [] else (bif Nat.blt k 3 then (bif Nat.blt k 1 then [] else (bif Nat.blt k 2 then [] else [6])) else [])) else []) else (bif Nat.blt t 112 then [] else (bif Nat.blt t 113 then [] else (bif Nat.blt t 114 then (bif Nat.blt k 5 then (bif Nat.blt k 2 then (bif Nat.blt k 1 then [] else []) else (bif Nat.blt k 3 then [] else (bif Nat.blt k 4 then [] else [0, 1, 2, 6]))) else []) else (bif Nat.blt k 9 then (bif Nat.blt k 4 then [] else (bif Nat.blt k 6 then (bif Nat.blt k 5 then [0, 6, 7, 8] else []) else (bif Nat.blt k 7 then [] else (bif Nat.blt k 8 then [] else [])))) else []))))) else (bif Nat.blt t 119 then (bif Nat.blt t 117 then (bif Nat.blt t 116 then (bif Nat.blt k 6 then (bif Nat.blt k 3 then [] else (bif Nat.blt k 4 then [] else (bif Nat.blt k 5 then [] else []))) else []) else []) else (bif Nat.blt t 118 then (bif Nat.blt k 3 then (bif Nat.blt k 1 then [] else (bif Nat.blt k 2 then [] else [])) else []) else (bif Nat.blt k 21 then (bif Nat.blt k 10 then (bif Nat.blt k 5 then (bif Nat.blt k 2 then [] else (bif Nat.blt k 3 then [] else (bif Nat.blt k 4 then [6] else []))) else (bif Nat.blt k 7 then (bif Nat.blt k 6 then [0, 1, 2, 7, 8] else []) else [])) else (bif Nat.blt k 15 then (bif Nat.blt k 12 then [] else (bif Nat.blt k 13 then [] else (bif Nat.blt k 14 then [] else [0, 1, 2, 7, 8]))) else (bif Nat.blt k 18 then [] else (bif Nat.blt k 19 then [] else (bif Nat.blt k 20 then [] else [0, 1, 2, 7, 8]))))) else []))) else (bif Nat.blt t 121 then (bif Nat.blt t 120 then [] else (bif Nat.blt k 6 then (bif Nat.blt k 3 then [] else (bif Nat.blt k 4 then [9] else (bif Nat.blt k 5 then [] else [0, 1, 9, 10]))) else [])) else (bif Nat.blt t 122 then (bif Nat.blt k 16 then (bif Nat.blt k 8 then (bif Nat.blt k 4 then (bif Nat.blt k 2 then [] else (bif Nat.blt k 3 then [] else [0, 1, 10, 11])) else (bif Nat.blt k 6 then (bif Nat.blt k 5 then [] else [0, 1, 10, 11]) else [])) else (bif Nat.blt k 12 then [] else (bif Nat.blt k 14 then (bif Nat.blt k 13 then [] else [0, 1, 11]) else (bif Nat.blt k 15 then [] else [0, 1, 10, 11])))) else []) else [])))) else (bif Nat.blt t 133 then (bif Nat.blt t 128 then (bif Nat.blt t 126 then [] else (bif Nat.blt t 127 then [] else (bif Nat.blt k 6 then (bif Nat.blt k 3 then [] else (bif Nat.blt k 4 then [3] else (bif Nat.blt k 5 then [] else [3, 6, 7, 8]))) else []))) else []) else (bif Nat.blt t 137 then (bif Nat.blt t 135 then (bif Nat.blt t 134 then (bif Nat.blt k 2 then (bif Nat.blt k 1 then [] else []) else []) else []) else []) else (bif Nat.blt t 139 then [] else (bif Nat.blt t 140 then (bif Nat.blt k 2 then (bif Nat.blt k 1 then [] else [0]) else []) else (bif Nat.blt t 141 then [] else (bif Nat.blt k 2 then (bif Nat.blt k 1 then [] else []) else []))))))))) else []
def prw (t : FuncId) (k : Nat) : List Rw := bif Nat.blt t 73 then (bif Nat.blt t 36 then (bif Nat.blt t 18 then (bif Nat.blt t 9 then (bif Nat.blt t 4 then [] else (bif Nat.blt t 6 then [] else (bif Nat.blt t 7 then [] else (bif Nat.blt t 8 then (bif Nat.blt k 4 then (bif Nat.blt k 2 then [] else (bif Nat.blt k 3 then [] else [.slot 3 30 11])) else []) else (bif Nat.blt k 9 then (bif Nat.blt k 4 then [] else (bif Nat.blt k 6 then (bif Nat.blt k 5 then [.cell 3 5 9 1] else []) else (bif Nat.blt k 7 then [] else (bif Nat.blt k 8 then [] else [.cell 3 6 79 2])))) else []))))) else (bif Nat.blt t 13 then [] else (bif Nat.blt t 15 then (bif Nat.blt t 14 then [] else (bif Nat.blt k 6 then (bif Nat.blt k 3 then [] else (bif Nat.blt k 4 then [] else (bif Nat.blt k 5 then [] else [.slot 6 53 8]))) else [])) else []))) else (bif Nat.blt t 27 then (bif Nat.blt t 22 then (bif Nat.blt t 20 then (bif Nat.blt t 19 then (bif Nat.blt k 14 then (bif Nat.blt k 7 then [] else (bif Nat.blt k 10 then [] else (bif Nat.blt k 12 then [] else (bif Nat.blt k 13 then [] else [.slot 13 53 8])))) else []) else (bif Nat.blt k 17 then (bif Nat.blt k 8 then (bif Nat.blt k 4 then [] else (bif Nat.blt k 6 then (bif Nat.blt k 5 then [] else [.slot 8 3 1, .slot 9 3 1]) else [])) else (bif Nat.blt k 12 then [] else (bif Nat.blt k 14 then [] else (bif Nat.blt k 15 then [] else (bif Nat.blt k 16 then [] else [.slot 13 53 8]))))) else [])) else []) else (bif Nat.blt t 24 then [] else (bif Nat.blt t 25 then [] else (bif Nat.blt t 26 then [] else (bif Nat.blt k 7 then (bif Nat.blt k 3 then [] else (bif Nat.blt k 5 then [] else (bif Nat.blt k 6 then [] else [.cell 5 6 79 2]))) else []))))) else (bif Nat.blt t 31 then [] else (bif Nat.blt t 33 then [] else (bif Nat.blt t 34 then [] else (bif Nat.blt t 35 then [] else (bif Nat.blt k 4 then (bif Nat.blt k 2 then [] else (bif Nat.blt k 3 then [] else [.slot 3 9 1])) else []))))))) else (bif Nat.blt t 54 then (bif Nat.blt t 45 then (bif Nat.blt t 40 then [] else (bif Nat.blt t 42 then [] else (bif Nat.blt t 43 then [] else (bif Nat.blt t 44 then [] else (bif Nat.blt k 4 then (bif Nat.blt k 2 then [] else (bif Nat.blt k 3 then [] else [.slot 3 9 1])) else []))))) else (bif Nat.blt t 49 then [] else (bif Nat.blt t 51 then [] else (bif Nat.blt t 52 then (bif Nat.blt k 4 then (bif Nat.blt k 2 then [] else (bif Nat.blt k 3 then [] else [.slot 5 3 1])) else []) else [])))) else (bif Nat.blt t 63 then (bif Nat.blt t 58 then (bif Nat.blt t 56 then [] else (bif Nat.blt t 57 then (bif Nat.blt k 10 then (bif Nat.blt k 5 then [] else (bif Nat.blt k 7 then (bif Nat.blt k 6 then [.slot 5 3 1] else []) else (bif Nat.blt k 8 then [] else (bif Nat.blt k 9 then [] else [.slot 5 3 1])))) else []) else (bif Nat.blt k 4 then (bif Nat.blt k 2 then [] else (bif Nat.blt k 3 then [] else [.slot 5 45 1])) else []))) else []) else (bif Nat.blt t 68 then (bif Nat.blt t 65 then [] else (bif Nat.blt t 66 then (bif Nat.blt k 7 then (bif Nat.blt k 3 then [] else (bif Nat.blt k 5 then (bif Nat.blt k 4 then [.slot 3 3 1] else []) else (bif Nat.blt k 6 then [] else [.slot 3 3 1]))) else []) else [])) else (bif Nat.blt t 70 then [] else (bif Nat.blt t 71 then [] else (bif Nat.blt t 72 then [] else (bif Nat.blt k 4 then (bif Nat.blt k 2 then [] else (bif Nat.blt k 3 then [] else [.slot 3 30 11])) else [])))))))) else []
def pdm (t : FuncId) (k : Nat) : Nat := bif Nat.blt t 143 then (bif Nat.blt t 71 then (bif Nat.blt t 35 then (bif Nat.blt t 17 then (bif Nat.blt t 8 then (bif Nat.blt t 4 then (bif Nat.blt t 2 then 0 else (bif Nat.blt t 3 then 0 else (bif Nat.blt k 10 then (bif Nat.blt k 5 then (bif Nat.blt k 2 then 0 else (bif Nat.blt k 3 then 9 else 0)) else (bif Nat.blt k 7 then (bif Nat.blt k 6 then 0 else 9) else (bif Nat.blt k 8 then 0 else (bif Nat.blt k 9 then 0 else 37)))) else 0))) else (bif Nat.blt t 6 then (bif Nat.blt t 5 then (bif Nat.blt k 23 then (bif Nat.blt k 11 then (bif Nat.blt k 5 then (bif Nat.blt k 2 then 0 else (bif Nat.blt k 3 then 0 else (bif Nat.blt k 4 then 13 else 0))) else (bif Nat.blt k 8 then 0 else (bif Nat.blt k 9 then 0 else (bif Nat.blt k 10 then 0 else 9)))) else (bif Nat.blt k 17 then (bif Nat.blt k 14 then (bif Nat.blt k 12 then 9 else 0) else (bif Nat.blt k 15 then 13 else 0)) else (bif Nat.blt k 20 then (bif Nat.blt k 18 then 8 else 0) else (bif Nat.blt k 21 then 0 else (bif Nat.blt k 22 then 0 else 15))))) else 0) else (bif Nat.blt k 28 then (bif Nat.blt k 14 then (bif Nat.blt k 7 then (bif Nat.blt k 3 then 0 else (bif Nat.blt k 5 then (bif Nat.blt k 4 then 8 else 0) else (bif Nat.blt k 6 then 0 else 8))) else 0) else (bif Nat.blt k 21 then 0 else (bif Nat.blt k 24 then (bif Nat.blt k 22 then 5 else 0) else (bif Nat.blt k 26 then 0 else (bif Nat.blt k 27 then 0 else 9))))) else 0)) else (bif Nat.blt t 7 then (bif Nat.blt k 24 then (bif Nat.blt k 12 then 0 else (bif Nat.blt k 18 then 0 else (bif Nat.blt k 21 then (bif Nat.blt k 19 then 14 else 0) else (bif Nat.blt k 22 then 0 else (bif Nat.blt k 23 then 0 else 11))))) else 0) else 0))) else (bif Nat.blt t 12 then (bif Nat.blt t 10 then (bif Nat.blt t 9 then (bif Nat.blt k 11 then (bif Nat.blt k 5 then 0 else (bif Nat.blt k 8 then (bif Nat.blt k 6 then 0 else (bif Nat.blt k 7 then 16 else 0)) else (bif Nat.blt k 9 then 0 else (bif Nat.blt k 10 then 0 else 25)))) else 0) else (bif Nat.blt k 32 then (bif Nat.blt k 16 then (bif Nat.blt k 8 then 0 else (bif Nat.blt k 12 then 0 else (bif Nat.blt k 14 then 0 else (bif Nat.blt k 15 then 0 else 8)))) else (bif Nat.blt k 24 then (bif Nat.blt k 20 then (bif Nat.blt k 18 then (bif Nat.blt k 17 then 0 else 8) else (bif Nat.blt k 19 then 0 else 10)) else (bif Nat.blt k 22 then (bif Nat.blt k 21 then 0 else 8) else 0)) else (bif Nat.blt k 28 then (bif Nat.blt k 26 then (bif Nat.blt k 25 then 12 else 0) else 0) else (bif Nat.blt k 30 then 0 else (bif Nat.blt k 31 then 0 else 7))))) else 0)) else (bif Nat.blt t 11 then (bif Nat.blt k 12 then (bif Nat.blt k 6 then 0 else (bif Nat.blt k 9 then 0 else (bif Nat.blt k 10 then 0 else (bif Nat.blt k 11 then 0 else 8)))) else 0) else (bif Nat.blt k 23 then (bif Nat.blt k 11 then 0 else (bif Nat.blt k 17 then 0 else (bif Nat.blt k 20 then 0 else (bif Nat.blt k 21 then 0 else (bif Nat.blt k 22 then 0 else 14))))) else 0))) else (bif Nat.blt t 14 then 0 else (bif Nat.blt t 15 then (bif Nat.blt k 8 then (bif Nat.blt k 4 then 0 else (bif Nat.blt k 6 then 0 else (bif Nat.blt k 7 then 0 else 27))) else 0) else 0)))) else (bif Nat.blt t 26 then (bif Nat.blt t 21 then (bif Nat.blt t 19 then (bif Nat.blt t 18 then 0 else (bif Nat.blt k 16 then (bif Nat.blt k 8 then (bif Nat.blt k 4 then 0 else (bif Nat.blt k 6 then (bif Nat.blt k 5 then 11 else 0) else 0)) else (bif Nat.blt k 12 then 0 else (bif Nat.blt k 14 then 0 else (bif Nat.blt k 15 then 0 else 24)))) else 0)) else (bif Nat.blt t 20 then (bif Nat.blt k 21 then (bif Nat.blt k 10 then 0 else (bif Nat.blt k 15 then 0 else (bif Nat.blt k 18 then 0 else (bif Nat.blt k 19 then 20 else (bif Nat.blt k 20 then 0 else 9))))) else 0) else (bif Nat.blt k 7 then (bif Nat.blt k 3 then 0 else (bif Nat.blt k 5 then 0 else (bif Nat.blt k 6 then 0 else 8))) else 0))) else (bif Nat.blt t 23 then (bif Nat.blt t 22 then (bif Nat.blt k 11 then (bif Nat.blt k 5 then 0 else (bif Nat.blt k 8 then (bif Nat.blt k 6 then 0 else (bif Nat.blt k 7 then 18 else 0)) else (bif Nat.blt k 9 then 0 else (bif Nat.blt k 10 then 0 else 5)))) else 0) else (bif Nat.blt k 15 then (bif Nat.blt k 7 then (bif Nat.blt k 3 then 0 else (bif Nat.blt k 5 then 0 else (bif Nat.blt k 6 then 0 else 13))) else (bif Nat.blt k 11 then 0 else (bif Nat.blt k 13 then (bif Nat.blt k 12 then 10 else 13) else (bif Nat.blt k 14 then 0 else 3)))) else 0)) else (bif Nat.blt t 24 then (bif Nat.blt k 10 then (bif Nat.blt k 5 then 0 else (bif Nat.blt k 7 then 0 else (bif Nat.blt k 8 then 0 else (bif Nat.blt k 9 then 0 else 19)))) else 0) else (bif Nat.blt t 25 then 0 else (bif Nat.blt k 7 then (bif Nat.blt k 3 then 0 else (bif Nat.blt k 5 then 0 else (bif Nat.blt k 6 then 0 else 8))) else 0))))) else (bif Nat.blt t 30 then (bif Nat.blt t 28 then (bif Nat.blt t 27 then (bif Nat.blt k 13 then (bif Nat.blt k 6 then (bif Nat.blt k 3 then (bif Nat.blt k 1 then 0 else (bif Nat.blt k 2 then 16 else 0)) else (bif Nat.blt k 4 then 4 else 0)) else (bif Nat.blt k 9 then (bif Nat.blt k 7 then 0 else (bif Nat.blt k 8 then 0 else 12)) else (bif Nat.blt k 11 then (bif Nat.blt k 10 then 13 else 0) else (bif Nat.blt k 12 then 0 else 7)))) else 0) else (bif Nat.blt k 12 then (bif Nat.blt k 6 then 0 else (bif Nat.blt k 9 then 0 else (bif Nat.blt k 10 then 0 else (bif Nat.blt k 11 then 0 else 6)))) else 0)) else (bif Nat.blt t 29 then (bif Nat.blt k 12 then (bif Nat.blt k 6 then 0 else (bif Nat.blt k 9 then 0 else (bif Nat.blt k 10 then 12 else (bif Nat.blt k 11 then 0 else 5)))) else 0) else (bif Nat.blt k 5 then (bif Nat.blt k 2 then 0 else (bif Nat.blt k 3 then 0 else (bif Nat.blt k 4 then 0 else 5))) else 0))) else 0))) else (bif Nat.blt t 53 then (bif Nat.blt t 44 then (bif Nat.blt t 39 then 0 else (bif Nat.blt t 41 then 0 else (bif Nat.blt t 42 then (bif Nat.blt k 2 then (bif Nat.blt k 1 then 0 else 28) else 0) else (bif Nat.blt t 43 then 0 else (bif Nat.blt k 8 then (bif Nat.blt k 4 then 0 else (bif Nat.blt k 6 then 0 else (bif Nat.blt k 7 then 0 else 12))) else 0))))) else (bif Nat.blt t 48 then 0 else (bif Nat.blt t 50 then (bif Nat.blt t 49 then 0 else (bif Nat.blt k 5 then (bif Nat.blt k 2 then (bif Nat.blt k 1 then 0 else 9) else (bif Nat.blt k 3 then 0 else (bif Nat.blt k 4 then 0 else 12))) else 0)) else 0))) else (bif Nat.blt t 62 then (bif Nat.blt t 57 then (bif Nat.blt t 55 then (bif Nat.blt t 54 then (bif Nat.blt k 11 then (bif Nat.blt k 5 then 0 else (bif Nat.blt k 8 then 0 else (bif Nat.blt k 9 then 0 else (bif Nat.blt k 10 then 0 else 23)))) else 0) else 0) else 0) else 0) else (bif Nat.blt t 66 then (bif Nat.blt t 64 then 0 else (bif Nat.blt t 65 then 0 else (bif Nat.blt k 15 then (bif Nat.blt k 7 then 0 else (bif Nat.blt k 11 then 0 else (bif Nat.blt k 13 then (bif Nat.blt k 12 then 0 else 12) else (bif Nat.blt k 14 then 0 else 16)))) else 0))) else (bif Nat.blt t 68 then (bif Nat.blt t 67 then (bif Nat.blt k 7 then (bif Nat.blt k 3 then 0 else (bif Nat.blt k 5 then 0 else (bif Nat.blt k 6 then 0 else 8))) else 0) else (bif Nat.blt k 7 then (bif Nat.blt k 3 then 0 else (bif Nat.blt k 5 then 0 else (bif Nat.blt k 6 then 0 else 8))) else 0)) else (bif Nat.blt t 69 then (bif Nat.blt k 8 then (bif Nat.blt k 4 then 0 else (bif Nat.blt k 6 then 0 else (bif Nat.blt k 7 then 0 else 8))) else 0) else (bif Nat.blt t 70 then 0 else (bif Nat.blt k 7 then (bif Nat.blt k 3 then 0 else (bif Nat.blt k 5 then 0 else (bif Nat.blt k 6 then 0 else 19))) else 0)))))))) else (bif Nat.blt t 107 then (bif Nat.blt t 89 then (bif Nat.blt t 80 then (bif Nat.blt t 75 then (bif Nat.blt t 73 then 0 else (bif Nat.blt t 74 then (bif Nat.blt k 8 then (bif Nat.blt k 4 then 0 else (bif Nat.blt k 6 then 0 else (bif Nat.blt k 7 then 0 else 10))) else 0) else 0)) else (bif Nat.blt t 77 then 0 else (bif Nat.blt t 78 then 0 else (bif Nat.blt t 79 then (bif Nat.blt k 16 then (bif Nat.blt k 8 then 0 else (bif Nat.blt k 12 then (bif Nat.blt k 10 then 0 else (bif Nat.blt k 11 then 0 else 8)) else (bif Nat.blt k 14 then 0 else (bif Nat.blt k 15 then 0 else 8)))) else 0) else 0)))) else (bif Nat.blt t 84 then 0 else (bif Nat.blt t 86 then 0 else (bif Nat.blt t 87 then (bif Nat.blt k 8 then (bif Nat.blt k 4 then 0 else (bif Nat.blt k 6 then 0 else (bif Nat.blt k 7 then 0 else 15))) else 0) else 0)))) else (bif Nat.blt t 98 then (bif Nat.blt t 93 then (bif Nat.blt t 91 then 0 else (bif Nat.blt t 92 then (bif Nat.blt k 18 then (bif Nat.blt k 9 then 0 else (bif Nat.blt k 13 then 0 else (bif Nat.blt k 15 then 0 else (bif Nat.blt k 16 then 0 else (bif Nat.blt k 17 then 0 else 12))))) else 0) else 0)) else (bif Nat.blt t 95 then 0 else (bif Nat.blt t 96 then 0 else (bif Nat.blt t 97 then (bif Nat.blt k 13 then (bif Nat.blt k 6 then 0 else (bif Nat.blt k 9 then 0 else (bif Nat.blt k 11 then 0 else (bif Nat.blt k 12 then 0 else 10)))) else 0) else 0)))) else (bif Nat.blt t 102 then 0 else (bif Nat.blt t 104 then (bif Nat.blt t 103 then 0 else (bif Nat.blt k 7 then (bif Nat.blt k 3 then 0 else (bif Nat.blt k 5 then 0 else (bif Nat.blt k 6 then 0 else 8))) else 0)) else (bif Nat.blt t 105 then (bif Nat.blt k 8 then (bif Nat.blt k 4 then 0 else (bif Nat.blt k 6 then 0 else (bif Nat.blt k 7 then 0 else 7))) else 0) else 0))))) else (bif Nat.blt t 125 then (bif Nat.blt t 116 then (bif Nat.blt t 111 then (bif Nat.blt t 109 then (bif Nat.blt t 108 then 0 else (bif Nat.blt k 2 then (bif Nat.blt k 1 then 0 else 9) else 0)) else (bif Nat.blt t 110 then (bif Nat.blt k 5 then (bif Nat.blt k 2 then 0 else (bif Nat.blt k 3 then 0 else (bif Nat.blt k 4 then 0 else 9))) else 0) else 0)) else (bif Nat.blt t 113 then 0 else (bif Nat.blt t 114 then (bif Nat.blt k 7 then (bif Nat.blt k 3 then 0 else (bif Nat.blt k 5 then (bif Nat.blt k 4 then 0 else 13) else (bif Nat.blt k 6 then 0 else 16))) else 0) else (bif Nat.blt t 115 then (bif Nat.blt k 11 then (bif Nat.blt k 5 then 0 else (bif Nat.blt k 8 then 0 else (bif Nat.blt k 9 then 0 else (bif Nat.blt k 10 then 0 else 18)))) else 0) else (bif Nat.blt k 11 then (bif Nat.blt k 5 then 0 else (bif Nat.blt k 8 then 0 else (bif Nat.blt k 9 then 0 else (bif Nat.blt k 10 then 0 else 18)))) else 0))))) else (bif Nat.blt t 120 then (bif Nat.blt t 118 then (bif Nat.blt t 117 then 0 else (bif Nat.blt k 4 then (bif Nat.blt k 2 then 0 else (bif Nat.blt k 3 then 0 else 14)) else 0)) else (bif Nat.blt t 119 then (bif Nat.blt k 24 then (bif Nat.blt k 12 then (bif Nat.blt k 6 then (bif Nat.blt k 3 then 0 else (bif Nat.blt k 4 then 0 else (bif Nat.blt k 5 then 0 else 13))) else (bif Nat.blt k 9 then 0 else (bif Nat.blt k 10 then 0 else (bif Nat.blt k 11 then 0 else 16)))) else (bif Nat.blt k 18 then (bif Nat.blt k 15 then 0 else (bif Nat.blt k 16 then 0 else (bif Nat.blt k 17 then 9 else 16))) else (bif Nat.blt k 21 then 0 else (bif Nat.blt k 22 then 0 else (bif Nat.blt k 23 then 9 else 16))))) else 0) else 0)) else (bif Nat.blt t 122 then (bif Nat.blt t 121 then (bif Nat.blt k 9 then (bif Nat.blt k 4 then (bif Nat.blt k 2 then (bif Nat.blt k 1 then 0 else 14) else (bif Nat.blt k 3 then 0 else 12)) else (bif Nat.blt k 6 then (bif Nat.blt k 5 then 0 else 12) else (bif Nat.blt k 7 then 0 else (bif Nat.blt k 8 then 0 else 14)))) else 0) else (bif Nat.blt k 22 then (bif Nat.blt k 11 then (bif Nat.blt k 5 then (bif Nat.blt k 2 then (bif Nat.blt k 1 then 0 else 14) else (bif Nat.blt k 3 then 0 else (bif Nat.blt k 4 then 12 else 0))) else (bif Nat.blt k 8 then (bif Nat.blt k 6 then 12 else 0) else (bif Nat.blt k 9 then 14 else (bif Nat.blt k 10 then 0 else 14)))) else (bif Nat.blt k 16 then (bif Nat.blt k 13 then 0 else (bif Nat.blt k 14 then 12 else (bif Nat.blt k 15 then 0 else 12))) else (bif Nat.blt k 19 then (bif Nat.blt k 17 then 0 else (bif Nat.blt k 18 then 0 else 14)) else (bif Nat.blt k 20 then 0 else (bif Nat.blt k 21 then 0 else 14))))) else 0)) else 0))) else (bif Nat.blt t 134 then (bif Nat.blt t 129 then (bif Nat.blt t 127 then 0 else (bif Nat.blt t 128 then (bif Nat.blt k 7 then (bif Nat.blt k 3 then 0 else (bif Nat.blt k 5 then 0 else (bif Nat.blt k 6 then 0 else 5))) else 0) else 0)) else (bif Nat.blt t 131 then 0 else (bif Nat.blt t 132 then 0 else (bif Nat.blt t 133 then 0 else (bif Nat.blt k 7 then (bif Nat.blt k 3 then 0 else (bif Nat.blt k 5 then (bif Nat.blt k 4 then 18 else 0) else (bif Nat.blt k 6 then 12 else 22))) else 0))))) else (bif Nat.blt t 138 then (bif Nat.blt t 136 then (bif Nat.blt t 135 then 0 else (bif Nat.blt k 4 then (bif Nat.blt k 2 then (bif Nat.blt k 1 then 0 else 7) else (bif Nat.blt k 3 then 7 else 7)) else 0)) else 0) else (bif Nat.blt t 140 then (bif Nat.blt t 139 then 0 else (bif Nat.blt k 3 then (bif Nat.blt k 1 then 0 else (bif Nat.blt k 2 then 0 else 5)) else 0)) else (bif Nat.blt t 141 then 0 else (bif Nat.blt t 142 then (bif Nat.blt k 4 then (bif Nat.blt k 2 then 0 else (bif Nat.blt k 3 then 0 else 14)) else 0) else (bif Nat.blt k 2 then (bif Nat.blt k 1 then 0 else 8) else 0))))))))) else 0
def pan (t : FuncId) (k : Nat) : List (List Nat) := bif Nat.blt t 143 then (bif Nat.blt t 71 then (bif Nat.blt t 35 then (bif Nat.blt t 17 then (bif Nat.blt t 8 then (bif Nat.blt t 4 then (bif Nat.blt t 2 then [] else (bif Nat.blt t 3 then [] else (bif Nat.blt k 10 then (bif Nat.blt k 5 then (bif Nat.blt k 2 then [] else (bif Nat.blt k 3 then [[], [], [], [], [1, 3], [1, 3, 4], [0, 1, 2, 3, 4, 5], [1, 3, 4, 5, 6], []] else [])) else (bif Nat.blt k 7 then (bif Nat.blt k 6 then [] else [[], [], [], [], [], [2, 4], [0, 1, 2, 4, 5], [], []]) else (bif Nat.blt k 8 then [] else (bif Nat.blt k 9 then [] else [[], [0], [], [0, 1, 2], [], [], [0, 1, 2, 3], [], [0, 1, 2, 3], [0, 1, 2, 3, 6, 8], [0, 1, 2, 3], [], [0, 1, 2, 3], [0, 1, 2, 3, 6, 8, 9, 10, 12], [], [], [], [0, 1, 2, 3, 6, 8, 9, 10, 12, 13], [], [0, 1, 2, 3, 6, 8, 9, 10, 12, 13], [], [0, 1, 2, 3, 6, 8, 9, 10, 12, 13, 17, 19], [0, 1, 2, 3, 6, 8, 9, 10, 12, 13], [], [0, 1, 2, 3, 6, 8, 9, 10, 12, 13], [], [0, 1, 2, 3, 6, 8, 9, 10, 12, 13, 17, 19, 21, 22, 24], [], [], [], [0, 1, 2, 3, 6, 8, 9, 10, 12, 13, 17, 19, 21, 22, 24, 26], [], [0, 1, 2, 3, 6, 8, 9, 10, 12, 13, 17, 19, 21, 22, 24, 26], [0, 1, 2, 3, 6, 8, 9, 10, 12, 13, 17, 19, 21, 22, 24, 26, 30, 32], [0, 1, 2, 3, 6, 8, 9, 10, 12, 13, 17, 19, 21, 22, 24, 26], [], [0, 1, 2, 3, 6, 8, 9, 10, 12, 13, 17, 19, 21, 22, 24, 26]])))) else []))) else (bif Nat.blt t 6 then (bif Nat.blt t 5 then (bif Nat.blt k 23 then (bif Nat.blt k 11 then (bif Nat.blt k 5 then (bif Nat.blt k 2 then [] else (bif Nat.blt k 3 then [] else (bif Nat.blt k 4 then [[], [], [], [], [], [1, 4], [], [], [1, 4, 5, 7], [1, 4, 5, 7, 8], [0, 1, 2, 3, 4, 5, 6, 7, 8, 9], [1, 4, 5, 7, 8, 9, 10], []] else []))) else (bif Nat.blt k 8 then [] else (bif Nat.blt k 9 then [] else (bif Nat.blt k 10 then [] else [[], [], [], [], [], [], [], [], [5, 7]])))) else (bif Nat.blt k 17 then (bif Nat.blt k 14 then (bif Nat.blt k 12 then [[], [], [1], [], [], [], [1, 2, 5], [], []] else []) else (bif Nat.blt k 15 then [[], [], [], [], [], [], [], [5, 6], [], [5, 6, 7, 8], [4, 5, 7, 9], [4, 5, 7, 9, 10], []] else [])) else (bif Nat.blt k 20 then (bif Nat.blt k 18 then [[], [], [], [], [1, 3], [0, 1, 3, 4], [], []] else []) else (bif Nat.blt k 21 then [] else (bif Nat.blt k 22 then [] else [[], [], [], [], [], [], [], [], [], [], [6], [], [6, 10], [6], []]))))) else []) else (bif Nat.blt k 28 then (bif Nat.blt k 14 then (bif Nat.blt k 7 then (bif Nat.blt k 3 then [] else (bif Nat.blt k 5 then (bif Nat.blt k 4 then [[], [], [], [], [3], [1, 3, 4], [], []] else []) else (bif Nat.blt k 6 then [] else [[], [], [], [], [3], [1, 3, 4], [], []]))) else []) else (bif Nat.blt k 21 then [] else (bif Nat.blt k 24 then (bif Nat.blt k 22 then [[], [], [0, 1], [], [3]] else []) else (bif Nat.blt k 26 then [] else (bif Nat.blt k 27 then [] else [[], [], [], [], [], [2, 4], [0, 1, 2, 4, 5], [], []]))))) else [])) else (bif Nat.blt t 7 then (bif Nat.blt k 24 then (bif Nat.blt k 12 then [] else (bif Nat.blt k 18 then [] else (bif Nat.blt k 21 then (bif Nat.blt k 19 then [[], [], [], [], [], [], [], [], [4, 7], [0, 1, 4, 7, 8], [0, 1, 4, 7, 8, 9], [0, 1, 4, 7, 8, 9], [0, 1, 4, 7, 8, 9], [0, 1, 4, 7, 8, 9]] else []) else (bif Nat.blt k 22 then [] else (bif Nat.blt k 23 then [] else [[], [], [], [], [2, 3], [], [], [], [], [2, 3, 4], [2, 3, 4]]))))) else []) else []))) else (bif Nat.blt t 12 then (bif Nat.blt t 10 then (bif Nat.blt t 9 then (bif Nat.blt k 11 then (bif Nat.blt k 5 then [] else (bif Nat.blt k 8 then (bif Nat.blt k 6 then [] else (bif Nat.blt k 7 then [[], [], [], [], [], [], [3], [], [], [], [], [8], [], [], [], [3, 6, 8, 11]] else [])) else (bif Nat.blt k 9 then [] else (bif Nat.blt k 10 then [] else [[], [], [], [], [], [], [], [3], [], [], [], [], [], [9], [], [], [], [], [], [], [], [], [18], [], [3, 7, 9, 13, 18, 22]])))) else []) else (bif Nat.blt k 32 then (bif Nat.blt k 16 then (bif Nat.blt k 8 then [] else (bif Nat.blt k 12 then [] else (bif Nat.blt k 14 then [] else (bif Nat.blt k 15 then [] else [[], [], [], [], [], [], [2], [2, 6]])))) else (bif Nat.blt k 24 then (bif Nat.blt k 20 then (bif Nat.blt k 18 then (bif Nat.blt k 17 then [] else [[], [], [], [], [], [], [], []]) else (bif Nat.blt k 19 then [] else [[], [], [], [], [], [], [2], [], [], [2, 6]])) else (bif Nat.blt k 22 then (bif Nat.blt k 21 then [] else [[], [], [], [], [], [], [], []]) else [])) else (bif Nat.blt k 28 then (bif Nat.blt k 26 then (bif Nat.blt k 25 then [[], [], [], [], [], [], [], [], [], [], [], [7]] else []) else []) else (bif Nat.blt k 30 then [] else (bif Nat.blt k 31 then [] else [[], [], [], [], [], [], [2]]))))) else [])) else (bif Nat.blt t 11 then (bif Nat.blt k 12 then (bif Nat.blt k 6 then [] else (bif Nat.blt k 9 then [] else (bif Nat.blt k 10 then [] else (bif Nat.blt k 11 then [] else [[], [], [], [], [3], [1, 3, 4], [], []])))) else []) else (bif Nat.blt k 23 then (bif Nat.blt k 11 then [] else (bif Nat.blt k 17 then [] else (bif Nat.blt k 20 then [] else (bif Nat.blt k 21 then [] else (bif Nat.blt k 22 then [] else [[], [], [], [], [], [], [], [1, 3], [], [1, 3], [], [], [], [1, 3, 9]]))))) else []))) else (bif Nat.blt t 14 then [] else (bif Nat.blt t 15 then (bif Nat.blt k 8 then (bif Nat.blt k 4 then [] else (bif Nat.blt k 6 then [] else (bif Nat.blt k 7 then [] else [[], [], [], [], [], [], [3], [], [], [], [], [], [8, 10], [], [10], [], [], [10, 14], [], [], [], [], [], [], [19], [], []]))) else []) else [])))) else (bif Nat.blt t 26 then (bif Nat.blt t 21 then (bif Nat.blt t 19 then (bif Nat.blt t 18 then [] else (bif Nat.blt k 16 then (bif Nat.blt k 8 then (bif Nat.blt k 4 then [] else (bif Nat.blt k 6 then (bif Nat.blt k 5 then [[], [], [], [], [], [], [1, 2, 5], [], [], [], []] else []) else [])) else (bif Nat.blt k 12 then [] else (bif Nat.blt k 14 then [] else (bif Nat.blt k 15 then [] else [[], [], [], [], [], [], [], [], [], [], [], [], [10], [], [], [], [], [10, 12, 16], [], [], [19], [9, 10, 11, 12, 13, 14, 15, 16, 17, 18, 19, 20], [2, 4, 7, 10, 12, 16, 17, 19, 20, 21], [2, 4, 7, 10, 12, 16, 17, 19, 20, 21]])))) else [])) else (bif Nat.blt t 20 then (bif Nat.blt k 21 then (bif Nat.blt k 10 then [] else (bif Nat.blt k 15 then [] else (bif Nat.blt k 18 then [] else (bif Nat.blt k 19 then [[], [], [], [], [], [], [], [3], [], [], [], [], [], [], [10], [], [], [], [], []] else (bif Nat.blt k 20 then [] else [[], [], [], [], [], [0, 1, 2, 3, 4], [], [], [7]]))))) else []) else (bif Nat.blt k 7 then (bif Nat.blt k 3 then [] else (bif Nat.blt k 5 then [] else (bif Nat.blt k 6 then [] else [[], [], [], [], [], [], [], []]))) else []))) else (bif Nat.blt t 23 then (bif Nat.blt t 22 then (bif Nat.blt k 11 then (bif Nat.blt k 5 then [] else (bif Nat.blt k 8 then (bif Nat.blt k 6 then [] else (bif Nat.blt k 7 then [[], [], [], [], [], [], [], [], [5], [], [], [], [], [1, 3, 5, 8], [], [], [], [1, 3, 5, 8]] else [])) else (bif Nat.blt k 9 then [] else (bif Nat.blt k 10 then [] else [[], [], [], [], []])))) else []) else (bif Nat.blt k 15 then (bif Nat.blt k 7 then (bif Nat.blt k 3 then [] else (bif Nat.blt k 5 then [] else (bif Nat.blt k 6 then [] else [[], [], [], [], [], [], [], [], [], [], [], [8], []]))) else (bif Nat.blt k 11 then [] else (bif Nat.blt k 13 then (bif Nat.blt k 12 then [[], [], [], [], [], [], [], [], [], []] else [[], [], [], [], [], [], [], [], [], [], [], [], []]) else (bif Nat.blt k 14 then [] else [[], [], []])))) else [])) else (bif Nat.blt t 24 then (bif Nat.blt k 10 then (bif Nat.blt k 5 then [] else (bif Nat.blt k 7 then [] else (bif Nat.blt k 8 then [] else (bif Nat.blt k 9 then [] else [[], [], [], [], [], [], [], [], [], [], [], [4], [], [], [], [], [], [4], []])))) else []) else (bif Nat.blt t 25 then [] else (bif Nat.blt k 7 then (bif Nat.blt k 3 then [] else (bif Nat.blt k 5 then [] else (bif Nat.blt k 6 then [] else [[], [], [], [], [], [], [], []]))) else []))))) else (bif Nat.blt t 30 then (bif Nat.blt t 28 then (bif Nat.blt t 27 then (bif Nat.blt k 13 then (bif Nat.blt k 6 then (bif Nat.blt k 3 then (bif Nat.blt k 1 then [] else (bif Nat.blt k 2 then [[], [], [], [], [], [2], [], [], [], [2, 5], [], [2, 5, 7, 9], [], [2, 5, 9], [], []] else [])) else (bif Nat.blt k 4 then [[], [], [], []] else [])) else (bif Nat.blt k 9 then (bif Nat.blt k 7 then [] else (bif Nat.blt k 8 then [] else [[], [], [], [], [], [], [], [1, 3], [], [], [], [1, 3]])) else (bif Nat.blt k 11 then (bif Nat.blt k 10 then [[], [], [], [], [], [], [], [], [], [], [6, 8], [], [5, 6, 8, 10]] else []) else (bif Nat.blt k 12 then [] else [[], [], [], [], [], [], []])))) else []) else (bif Nat.blt k 12 then (bif Nat.blt k 6 then [] else (bif Nat.blt k 9 then [] else (bif Nat.blt k 10 then [] else (bif Nat.blt k 11 then [] else [[], [], [], [], [3], [1, 3, 4]])))) else [])) else (bif Nat.blt t 29 then (bif Nat.blt k 12 then (bif Nat.blt k 6 then [] else (bif Nat.blt k 9 then [] else (bif Nat.blt k 10 then [[], [], [], [], [], [], [], [], [], [], [], []] else (bif Nat.blt k 11 then [] else [[], [], [], [], []])))) else []) else (bif Nat.blt k 5 then (bif Nat.blt k 2 then [] else (bif Nat.blt k 3 then [] else (bif Nat.blt k 4 then [] else [[], [], [], [1, 2], [0]]))) else []))) else []))) else (bif Nat.blt t 53 then (bif Nat.blt t 44 then (bif Nat.blt t 39 then [] else (bif Nat.blt t 41 then [] else (bif Nat.blt t 42 then (bif Nat.blt k 2 then (bif Nat.blt k 1 then [] else [[], [], [1], [], [], [], [], [], [1, 2, 4], [1, 2, 4, 8], [], [1, 2, 4], [], [], [], [], [1, 2, 4, 8, 9, 11], [1, 2, 4, 8, 9, 11, 16], [], [1, 2, 4, 8, 9, 11], [], [], [], [], [1, 2, 4, 8, 9, 11, 16, 17, 19], [1, 2, 4, 8, 9, 11, 16, 17, 19, 24], [], [1, 2, 4, 8, 9, 11, 16, 17, 19]]) else []) else (bif Nat.blt t 43 then [] else (bif Nat.blt k 8 then (bif Nat.blt k 4 then [] else (bif Nat.blt k 6 then [] else (bif Nat.blt k 7 then [] else [[], [], [], [], [], [], [], [], [], [], [], []]))) else []))))) else (bif Nat.blt t 48 then [] else (bif Nat.blt t 50 then (bif Nat.blt t 49 then [] else (bif Nat.blt k 5 then (bif Nat.blt k 2 then (bif Nat.blt k 1 then [] else [[], [], [], [], [], [], [], [], []]) else (bif Nat.blt k 3 then [] else (bif Nat.blt k 4 then [] else [[], [], [], [], [], [], [], [], [], [], [3, 7], []]))) else [])) else []))) else (bif Nat.blt t 62 then (bif Nat.blt t 57 then (bif Nat.blt t 55 then (bif Nat.blt t 54 then (bif Nat.blt k 11 then (bif Nat.blt k 5 then [] else (bif Nat.blt k 8 then [] else (bif Nat.blt k 9 then [] else (bif Nat.blt k 10 then [] else [[], [], [], [], [], [], [], [], [], [], [], [], [], [], [], [], [], [], [1, 3, 6, 8, 12, 14, 17], [], [], [], []])))) else []) else []) else []) else []) else (bif Nat.blt t 66 then (bif Nat.blt t 64 then [] else (bif Nat.blt t 65 then [] else (bif Nat.blt k 15 then (bif Nat.blt k 7 then [] else (bif Nat.blt k 11 then [] else (bif Nat.blt k 13 then (bif Nat.blt k 12 then [] else [[], [], [], [], [], [], [], [], [], [], [], []]) else (bif Nat.blt k 14 then [] else [[], [], [], [], [], [], [], [], [], [], [], [], [], [], [], [8, 13]])))) else []))) else (bif Nat.blt t 68 then (bif Nat.blt t 67 then (bif Nat.blt k 7 then (bif Nat.blt k 3 then [] else (bif Nat.blt k 5 then [] else (bif Nat.blt k 6 then [] else [[], [], [], [], [], [], [], []]))) else []) else (bif Nat.blt k 7 then (bif Nat.blt k 3 then [] else (bif Nat.blt k 5 then [] else (bif Nat.blt k 6 then [] else [[], [], [], [], [], [], [], []]))) else [])) else (bif Nat.blt t 69 then (bif Nat.blt k 8 then (bif Nat.blt k 4 then [] else (bif Nat.blt k 6 then [] else (bif Nat.blt k 7 then [] else [[], [], [], [], [], [], [], []]))) else []) else (bif Nat.blt t 70 then [] else (bif Nat.blt k 7 then (bif Nat.blt k 3 then [] else (bif Nat.blt k 5 then [] else (bif Nat.blt k 6 then [] else [[], [], [], [], [], [], [], [], [], [8], [], [], [], [], [], [8, 9, 14], [], [], [8, 9, 14, 15]]))) else [])))))))) else (bif Nat.blt t 107 then (bif Nat.blt t 89 then (bif Nat.blt t 80 then (bif Nat.blt t 75 then (bif Nat.blt t 73 then [] else (bif Nat.blt t 74 then (bif Nat.blt k 8 then (bif Nat.blt k 4 then [] else (bif Nat.blt k 6 then [] else (bif Nat.blt k 7 then [] else [[], [], [], [], [1], [], [], [], [], [6]]))) else []) else [])) else (bif Nat.blt t 77 then [] else (bif Nat.blt t 78 then [] else (bif Nat.blt t 79 then (bif Nat.blt k 16 then (bif Nat.blt k 8 then [] else (bif Nat.blt k 12 then (bif Nat.blt k 10 then [] else (bif Nat.blt k 11 then [] else [[], [], [], [], [], [], [], []])) else (bif Nat.blt k 14 then [] else (bif Nat.blt k 15 then [] else [[], [], [], [], [], [], [], []])))) else []) else [])))) else (bif Nat.blt t 84 then [] else (bif Nat.blt t 86 then [] else (bif Nat.blt t 87 then (bif Nat.blt k 8 then (bif Nat.blt k 4 then [] else (bif Nat.blt k 6 then [] else (bif Nat.blt k 7 then [] else [[], [], [], [], [], [], [], [1, 3], [], [1, 3], [], [1, 3], [1, 3, 7, 9, 11], [], [1, 3]]))) else []) else [])))) else (bif Nat.blt t 98 then (bif Nat.blt t 93 then (bif Nat.blt t 91 then [] else (bif Nat.blt t 92 then (bif Nat.blt k 18 then (bif Nat.blt k 9 then [] else (bif Nat.blt k 13 then [] else (bif Nat.blt k 15 then [] else (bif Nat.blt k 16 then [] else (bif Nat.blt k 17 then [] else [[], [], [], [], [], [], [], [], [], [], [], []]))))) else []) else [])) else (bif Nat.blt t 95 then [] else (bif Nat.blt t 96 then [] else (bif Nat.blt t 97 then (bif Nat.blt k 13 then (bif Nat.blt k 6 then [] else (bif Nat.blt k 9 then [] else (bif Nat.blt k 11 then [] else (bif Nat.blt k 12 then [] else [[], [], [], [], [], [], [], [], [], []])))) else []) else [])))) else (bif Nat.blt t 102 then [] else (bif Nat.blt t 104 then (bif Nat.blt t 103 then [] else (bif Nat.blt k 7 then (bif Nat.blt k 3 then [] else (bif Nat.blt k 5 then [] else (bif Nat.blt k 6 then [] else [[], [], [], [], [], [], [], []]))) else [])) else (bif Nat.blt t 105 then (bif Nat.blt k 8 then (bif Nat.blt k 4 then [] else (bif Nat.blt k 6 then [] else (bif Nat.blt k 7 then [] else [[], [], [], [0, 1, 2], [], [], []]))) else []) else []))))) else (bif Nat.blt t 125 then (bif Nat.blt t 116 then (bif Nat.blt t 111 then (bif Nat.blt t 109 then (bif Nat.blt t 108 then [] else (bif Nat.blt k 2 then (bif Nat.blt k 1 then [] else [[], [], [], [], [], [], [], [], [0]]) else [])) else (bif Nat.blt t 110 then (bif Nat.blt k 5 then (bif Nat.blt k 2 then [] else (bif Nat.blt k 3 then [] else (bif Nat.blt k 4 then [] else [[], [], [], [], [], [1], [], [], []]))) else []) else [])) else (bif Nat.blt t 113 then [] else (bif Nat.blt t 114 then (bif Nat.blt k 7 then (bif Nat.blt k 3 then [] else (bif Nat.blt k 5 then (bif Nat.blt k 4 then [] else [[], [], [], [], [], [], [], [], [], [], [], [], []]) else (bif Nat.blt k 6 then [] else [[], [], [], [], [], [], [], [], [], [], [], [], [], [], [], [9, 13]]))) else []) else (bif Nat.blt t 115 then (bif Nat.blt k 11 then (bif Nat.blt k 5 then [] else (bif Nat.blt k 8 then [] else (bif Nat.blt k 9 then [] else (bif Nat.blt k 10 then [] else [[], [], [], [], [], [], [], [], [], [], [], [], [], [], [], [], [], [11, 15]])))) else []) else (bif Nat.blt k 11 then (bif Nat.blt k 5 then [] else (bif Nat.blt k 8 then [] else (bif Nat.blt k 9 then [] else (bif Nat.blt k 10 then [] else [[], [], [], [], [], [], [], [], [], [], [], [], [], [], [], [], [], [11, 15]])))) else []))))) else (bif Nat.blt t 120 then (bif Nat.blt t 118 then (bif Nat.blt t 117 then [] else (bif Nat.blt k 4 then (bif Nat.blt k 2 then [] else (bif Nat.blt k 3 then [] else [[], [], [], [], [], [], [], [], [], [], [], [], [], [7, 11]])) else [])) else (bif Nat.blt t 119 then (bif Nat.blt k 24 then (bif Nat.blt k 12 then (bif Nat.blt k 6 then (bif Nat.blt k 3 then [] else (bif Nat.blt k 4 then [] else (bif Nat.blt k 5 then [] else [[], [], [], [], [], [], [], [], [], [], [], [], []]))) else (bif Nat.blt k 9 then [] else (bif Nat.blt k 10 then [] else (bif Nat.blt k 11 then [] else [[], [], [], [], [], [], [], [], [], [], [], [], [], [], [], [9, 13]])))) else (bif Nat.blt k 18 then (bif Nat.blt k 15 then [] else (bif Nat.blt k 16 then [] else (bif Nat.blt k 17 then [[], [], [], [], [], [], [], [], []] else [[], [], [], [], [], [], [], [], [], [], [], [], [], [], [], [9, 13]]))) else (bif Nat.blt k 21 then [] else (bif Nat.blt k 22 then [] else (bif Nat.blt k 23 then [[], [], [], [], [], [], [], [], []] else [[], [], [], [], [], [], [], [], [], [], [], [], [], [], [], [9, 13]]))))) else []) else [])) else (bif Nat.blt t 122 then (bif Nat.blt t 121 then (bif Nat.blt k 9 then (bif Nat.blt k 4 then (bif Nat.blt k 2 then (bif Nat.blt k 1 then [] else [[], [], [], [], [], [], [], [], [], [], [], [], [], [7, 11]]) else (bif Nat.blt k 3 then [] else [[], [], [], [], [], [], [], [], [], [], [], []])) else (bif Nat.blt k 6 then (bif Nat.blt k 5 then [] else [[], [], [], [], [], [], [], [], [], [], [], []]) else (bif Nat.blt k 7 then [] else (bif Nat.blt k 8 then [] else [[], [], [], [], [], [], [], [], [], [], [], [], [], [7, 11]])))) else []) else (bif Nat.blt k 22 then (bif Nat.blt k 11 then (bif Nat.blt k 5 then (bif Nat.blt k 2 then (bif Nat.blt k 1 then [] else [[], [], [], [], [], [], [], [], [], [], [], [], [], [7, 11]]) else (bif Nat.blt k 3 then [] else (bif Nat.blt k 4 then [[], [], [], [], [], [], [], [], [], [], [], []] else []))) else (bif Nat.blt k 8 then (bif Nat.blt k 6 then [[], [], [], [], [], [], [], [], [], [], [], []] else []) else (bif Nat.blt k 9 then [[], [], [], [], [], [], [], [], [], [], [], [], [], [7, 11]] else (bif Nat.blt k 10 then [] else [[], [], [], [], [], [], [], [], [], [], [], [], [], [7, 11]])))) else (bif Nat.blt k 16 then (bif Nat.blt k 13 then [] else (bif Nat.blt k 14 then [[], [], [], [], [], [], [], [], [], [], [], []] else (bif Nat.blt k 15 then [] else [[], [], [], [], [], [], [], [], [], [], [], []]))) else (bif Nat.blt k 19 then (bif Nat.blt k 17 then [] else (bif Nat.blt k 18 then [] else [[], [], [], [], [], [], [], [], [], [], [], [], [], [7, 11]])) else (bif Nat.blt k 20 then [] else (bif Nat.blt k 21 then [] else [[], [], [], [], [], [], [], [], [], [], [], [], [], [7, 11]]))))) else [])) else []))) else (bif Nat.blt t 134 then (bif Nat.blt t 129 then (bif Nat.blt t 127 then [] else (bif Nat.blt t 128 then (bif Nat.blt k 7 then (bif Nat.blt k 3 then [] else (bif Nat.blt k 5 then [] else (bif Nat.blt k 6 then [] else [[], [], [], [], []]))) else []) else [])) else (bif Nat.blt t 131 then [] else (bif Nat.blt t 132 then [] else (bif Nat.blt t 133 then [] else (bif Nat.blt k 7 then (bif Nat.blt k 3 then [] else (bif Nat.blt k 5 then (bif Nat.blt k 4 then [[], [], [], [], [], [], [], [], [], [], [], [], [], [], [], [], [], []] else []) else (bif Nat.blt k 6 then [[], [], [], [], [], [], [], [], [], [], [], []] else [[], [], [], [], [], [], [], [], [], [], [], [], [], [], [], [], [], [], [], [], [], [13, 19]]))) else []))))) else (bif Nat.blt t 138 then (bif Nat.blt t 136 then (bif Nat.blt t 135 then [] else (bif Nat.blt k 4 then (bif Nat.blt k 2 then (bif Nat.blt k 1 then [] else [[], [], [], [], [], [], []]) else (bif Nat.blt k 3 then [[], [], [], [], [], [], []] else [[], [], [], [], [], [], []])) else [])) else []) else (bif Nat.blt t 140 then (bif Nat.blt t 139 then [] else (bif Nat.blt k 3 then (bif Nat.blt k 1 then [] else (bif Nat.blt k 2 then [] else [[], [], [], [], []])) else [])) else (bif Nat.blt t 141 then [] else (bif Nat.blt t 142 then (bif Nat.blt k 4 then (bif Nat.blt k 2 then [] else (bif Nat.blt k 3 then [] else [[], [], [], [], [], [], [], [], [], [], [], [], [], [7, 11]])) else []) else (bif Nat.blt k 2 then (bif Nat.blt k 1 then [] else [[], [], [], [], [], [], [], []]) else []))))))))) else []
def prk (t : FuncId) (k : Nat) : List Nat := bif Nat.blt t 19 then (bif Nat.blt t 9 then [] else (bif Nat.blt t 14 then [] else (bif Nat.blt t 16 then [] else (bif Nat.blt t 17 then [] else (bif Nat.blt t 18 then [] else (bif Nat.blt k 16 then (bif Nat.blt k 8 then [] else (bif Nat.blt k 12 then [] else (bif Nat.blt k 14 then [] else (bif Nat.blt k 15 then [] else [11])))) else [])))))) else []
def ppr : FuncId → Option (Nat → List R → List (Nat × B) → Option (R × List (Nat × B)))
  | 61 => some (pr0 (q2E T 3 true))
  | 101 => some (pr0 (q2E T 9 false))
  | 102 => some (pr0 (q2E T 79 false))
  | 90 => some (q0p)
  | _ => none
def pol : Pol := ⟨pq, pow, pfz, pkp, pkx, prw, pro, pdm, pan, prk, ppr⟩
theorem qtV : T.ip 10 = none := rfl
theorem qtg : T.ip 11 = none := rfl
theorem qu6 : T.ip 31 = none := rfl
theorem qtA : T.ip 34 = none := rfl
theorem qsK : T.ip 36 = none := rfl
theorem qtH : T.ip 38 = none := rfl
theorem quP : T.ip 41 = none := rfl
theorem qsL : T.ip 42 = none := rfl
theorem qtG : T.ip 43 = none := rfl
theorem qte : T.ip 44 = none := rfl
theorem qtx : T.ip 46 = none := rfl
theorem qtJ : T.ip 50 = none := rfl
theorem qsw : T.ip 52 = none := rfl
theorem qsE : T.ip 54 = none := rfl
theorem qto : T.ip 56 = none := rfl
theorem qtF : T.ip 58 = none := rfl
theorem qud : T.ip 59 = some q01 := rfl
theorem qsr : T.ip 65 = none := rfl
theorem qsv : T.ip 74 = none := rfl
theorem qsA : T.ip 79 = none := rfl
theorem qus : T.ip 84 = none := rfl
theorem qsW : T.ip 86 = none := rfl
theorem qtz : T.ip 90 = none := rfl
theorem qtQ : T.ip 93 = none := rfl
theorem qtZ : T.ip 94 = none := rfl
theorem qt4 : T.ip 95 = none := rfl
theorem qoV : T.ip 127 = none := rfl
theorem qnv : T.ip 128 = none := rfl
theorem qmY : T.ip 140 = none := rfl
theorem quM : pol.rk 4 3 = [] := rfl
theorem qpI : pol.rk 4 10 = [] := rfl
theorem qmq : pol.rk 4 11 = [] := rfl
theorem qna : pol.rk 4 14 = [] := rfl
theorem qn4 : pol.rk 4 17 = [] := rfl
theorem qqQ : pol.rk 4 22 = [] := rfl
theorem qsR : pol.rk 8 6 = [] := rfl
theorem qop : pol.rk 8 10 = [] := rfl
theorem qoA : pol.rk 9 15 = [] := rfl
theorem qnn : pol.rk 9 17 = [] := rfl
theorem qow : pol.rk 9 19 = [] := rfl
theorem qqG : pol.rk 9 21 = [] := rfl
theorem qpw : pol.rk 9 24 = [] := rfl
theorem qnM : pol.rk 9 31 = [] := rfl
theorem qiK : pol.rk 10 11 = [] := rfl
theorem qkU : pol.rk 11 22 = [] := rfl
theorem qn0 : pol.rk 14 7 = [] := rfl
theorem qqK : pol.rk 18 4 = [] := rfl
theorem qlh : pol.rk 18 15 = [11] := rfl
theorem qll : pol.rk 19 18 = [] := rfl
theorem qkz : pol.rk 19 20 = [] := rfl
theorem qoa : pol.rk 20 6 = [] := rfl
theorem qoL : pol.rk 21 6 = [] := rfl
theorem qlM : pol.rk 21 10 = [] := rfl
theorem qoX : pol.rk 22 6 = [] := rfl
theorem qk7 : pol.rk 22 11 = [] := rfl
theorem qjM : pol.rk 22 12 = [] := rfl
theorem ql7 : pol.rk 22 14 = [] := rfl
theorem qqB : pol.rk 26 1 = [] := rfl
theorem qok : pol.rk 26 3 = [] := rfl
theorem qpl : pol.rk 26 8 = [] := rfl
theorem qqo : pol.rk 26 9 = [] := rfl
theorem qjp : pol.rk 26 12 = [] := rfl
theorem qpA : pol.rk 41 1 = [] := rfl
theorem qod : pol.rk 43 7 = [] := rfl
theorem qpH : pol.rk 49 1 = [] := rfl
theorem qoy : pol.rk 49 4 = [] := rfl
theorem qkA : pol.rk 53 10 = [] := rfl
theorem qlt : pol.rk 65 12 = [] := rfl
theorem qkv : pol.rk 65 14 = [] := rfl
theorem qnF : pol.rk 66 6 = [] := rfl
theorem qnP : pol.rk 67 6 = [] := rfl
theorem qnd : pol.rk 68 7 = [] := rfl
theorem qoF : pol.rk 86 7 = [] := rfl
theorem qkw : pol.rk 96 12 = [] := rfl
theorem qj0 : pol.rk 104 7 = [] := rfl
theorem qkJ : pol.rk 108 1 = [] := rfl
theorem qlY : pol.rk 109 4 = [] := rfl
theorem qky : pol.rk 127 6 = [] := rfl
theorem qjX : pol.rk 139 2 = [] := rfl
theorem qtB : pol.dm 4 3 = 13 ∧ pol.an 4 3 = [[], [], [], [], [], [1, 4], [], [], [1, 4, 5, 7], [1, 4, 5, 7, 8], [0, 1, 2, 3, 4, 5, 6, 7, 8, 9], [1, 4, 5, 7, 8, 9, 10], []] := ⟨rfl, rfl⟩
theorem qqp : pol.dm 4 10 = 9 ∧ pol.an 4 10 = [[], [], [], [], [], [], [], [], [5, 7]] := ⟨rfl, rfl⟩
theorem qqq : pol.dm 4 11 = 9 ∧ pol.an 4 11 = [[], [], [1], [], [], [], [1, 2, 5], [], []] := ⟨rfl, rfl⟩
theorem qri : pol.dm 4 14 = 13 ∧ pol.an 4 14 = [[], [], [], [], [], [], [], [5, 6], [], [5, 6, 7, 8], [4, 5, 7, 9], [4, 5, 7, 9, 10], []] := ⟨rfl, rfl⟩
theorem qpn : pol.dm 4 17 = 8 ∧ pol.an 4 17 = [[], [], [], [], [1, 3], [0, 1, 3, 4], [], []] := ⟨rfl, rfl⟩
theorem qmj : pol.dm 4 22 = 15 ∧ pol.an 4 22 = [[], [], [], [], [], [], [], [], [], [], [6], [], [6, 10], [6], []] := ⟨rfl, rfl⟩
theorem qu5 : pol.dm 8 6 = 16 ∧ pol.an 8 6 = [[], [], [], [], [], [], [3], [], [], [], [], [8], [], [], [], [3, 6, 8, 11]] := ⟨rfl, rfl⟩
theorem qqu : pol.dm 8 10 = 25 ∧ pol.an 8 10 = [[], [], [], [], [], [], [], [3], [], [], [], [], [], [9], [], [], [], [], [], [], [], [], [18], [], [3, 7, 9, 13, 18, 22]] := ⟨rfl, rfl⟩
theorem qne : pol.dm 9 15 = 8 ∧ pol.an 9 15 = [[], [], [], [], [], [], [2], [2, 6]] := ⟨rfl, rfl⟩
theorem qqy : pol.dm 9 17 = 8 ∧ pol.an 9 17 = [[], [], [], [], [], [], [], []] := ⟨rfl, rfl⟩
theorem qoU : pol.dm 9 19 = 10 ∧ pol.an 9 19 = [[], [], [], [], [], [], [2], [], [], [2, 6]] := ⟨rfl, rfl⟩
theorem qoQ : pol.dm 9 21 = 8 ∧ pol.an 9 21 = [[], [], [], [], [], [], [], []] := ⟨rfl, rfl⟩
theorem qpE : pol.dm 9 24 = 12 ∧ pol.an 9 24 = [[], [], [], [], [], [], [], [], [], [], [], [7]] := ⟨rfl, rfl⟩
theorem qnp : pol.dm 9 31 = 7 ∧ pol.an 9 31 = [[], [], [], [], [], [], [2]] := ⟨rfl, rfl⟩
theorem qkl : pol.dm 10 11 = 8 ∧ pol.an 10 11 = [[], [], [], [], [3], [1, 3, 4], [], []] := ⟨rfl, rfl⟩
theorem qkq : pol.dm 11 22 = 14 ∧ pol.an 11 22 = [[], [], [], [], [], [], [], [1, 3], [], [1, 3], [], [], [], [1, 3, 9]] := ⟨rfl, rfl⟩
theorem qpM : pol.dm 14 7 = 27 ∧ pol.an 14 7 = [[], [], [], [], [], [], [3], [], [], [], [], [], [8, 10], [], [10], [], [], [10, 14], [], [], [], [], [], [], [19], [], []] := ⟨rfl, rfl⟩
theorem qpz : pol.dm 18 4 = 11 ∧ pol.an 18 4 = [[], [], [], [], [], [], [1, 2, 5], [], [], [], []] := ⟨rfl, rfl⟩
theorem qjl : pol.dm 18 15 = 24 ∧ pol.an 18 15 = [[], [], [], [], [], [], [], [], [], [], [], [], [10], [], [], [], [], [10, 12, 16], [], [], [19], [9, 10, 11, 12, 13, 14, 15, 16, 17, 18, 19, 20], [2, 4, 7, 10, 12, 16, 17, 19, 20, 21], [2, 4, 7, 10, 12, 16, 17, 19, 20, 21]] := ⟨rfl, rfl⟩
theorem qkF : pol.dm 19 18 = 20 ∧ pol.an 19 18 = [[], [], [], [], [], [], [], [3], [], [], [], [], [], [], [10], [], [], [], [], []] := ⟨rfl, rfl⟩
theorem qlP : pol.dm 19 20 = 9 ∧ pol.an 19 20 = [[], [], [], [], [], [0, 1, 2, 3, 4], [], [], [7]] := ⟨rfl, rfl⟩
theorem qmC : pol.dm 20 6 = 8 ∧ pol.an 20 6 = [[], [], [], [], [], [], [], []] := ⟨rfl, rfl⟩
theorem qmp : pol.dm 21 6 = 18 ∧ pol.an 21 6 = [[], [], [], [], [], [], [], [], [5], [], [], [], [], [1, 3, 5, 8], [], [], [], [1, 3, 5, 8]] := ⟨rfl, rfl⟩
theorem qko : pol.dm 21 10 = 5 ∧ pol.an 21 10 = [[], [], [], [], []] := ⟨rfl, rfl⟩
theorem qpr : pol.dm 22 6 = 13 ∧ pol.an 22 6 = [[], [], [], [], [], [], [], [], [], [], [], [8], []] := ⟨rfl, rfl⟩
theorem qiY : pol.dm 22 11 = 10 ∧ pol.an 22 11 = [[], [], [], [], [], [], [], [], [], []] := ⟨rfl, rfl⟩
theorem qj4 : pol.dm 22 12 = 13 ∧ pol.an 22 12 = [[], [], [], [], [], [], [], [], [], [], [], [], []] := ⟨rfl, rfl⟩
theorem qiT : pol.dm 22 14 = 3 ∧ pol.an 22 14 = [[], [], []] := ⟨rfl, rfl⟩
theorem qmD : pol.dm 26 1 = 16 ∧ pol.an 26 1 = [[], [], [], [], [], [2], [], [], [], [2, 5], [], [2, 5, 7, 9], [], [2, 5, 9], [], []] := ⟨rfl, rfl⟩
theorem qp7 : pol.dm 26 3 = 4 ∧ pol.an 26 3 = [[], [], [], []] := ⟨rfl, rfl⟩
theorem qp2 : pol.dm 26 8 = 12 ∧ pol.an 26 8 = [[], [], [], [], [], [], [], [1, 3], [], [], [], [1, 3]] := ⟨rfl, rfl⟩
theorem qnQ : pol.dm 26 9 = 13 ∧ pol.an 26 9 = [[], [], [], [], [], [], [], [], [], [], [6, 8], [], [5, 6, 8, 10]] := ⟨rfl, rfl⟩
theorem qkn : pol.dm 26 12 = 7 ∧ pol.an 26 12 = [[], [], [], [], [], [], []] := ⟨rfl, rfl⟩
theorem qn3 : pol.dm 41 1 = 28 ∧ pol.an 41 1 = [[], [], [1], [], [], [], [], [], [1, 2, 4], [1, 2, 4, 8], [], [1, 2, 4], [], [], [], [], [1, 2, 4, 8, 9, 11], [1, 2, 4, 8, 9, 11, 16], [], [1, 2, 4, 8, 9, 11], [], [], [], [], [1, 2, 4, 8, 9, 11, 16, 17, 19], [1, 2, 4, 8, 9, 11, 16, 17, 19, 24], [], [1, 2, 4, 8, 9, 11, 16, 17, 19]] := ⟨rfl, rfl⟩
theorem qnA : pol.dm 43 7 = 12 ∧ pol.an 43 7 = [[], [], [], [], [], [], [], [], [], [], [], []] := ⟨rfl, rfl⟩
theorem qrd : pol.dm 49 1 = 9 ∧ pol.an 49 1 = [[], [], [], [], [], [], [], [], []] := ⟨rfl, rfl⟩
theorem qr3 : pol.dm 49 4 = 12 ∧ pol.an 49 4 = [[], [], [], [], [], [], [], [], [], [], [3, 7], []] := ⟨rfl, rfl⟩
theorem qlL : pol.dm 53 10 = 23 ∧ pol.an 53 10 = [[], [], [], [], [], [], [], [], [], [], [], [], [], [], [], [], [], [], [1, 3, 6, 8, 12, 14, 17], [], [], [], []] := ⟨rfl, rfl⟩
theorem qj6 : pol.dm 65 12 = 12 ∧ pol.an 65 12 = [[], [], [], [], [], [], [], [], [], [], [], []] := ⟨rfl, rfl⟩
theorem qkB : pol.dm 65 14 = 16 ∧ pol.an 65 14 = [[], [], [], [], [], [], [], [], [], [], [], [], [], [], [], [8, 13]] := ⟨rfl, rfl⟩
theorem qnR : pol.dm 66 6 = 8 ∧ pol.an 66 6 = [[], [], [], [], [], [], [], []] := ⟨rfl, rfl⟩
theorem qnS : pol.dm 67 6 = 8 ∧ pol.an 67 6 = [[], [], [], [], [], [], [], []] := ⟨rfl, rfl⟩
theorem qnE : pol.dm 68 7 = 8 ∧ pol.an 68 7 = [[], [], [], [], [], [], [], []] := ⟨rfl, rfl⟩
theorem qnG : pol.dm 86 7 = 15 ∧ pol.an 86 7 = [[], [], [], [], [], [], [], [1, 3], [], [1, 3], [], [1, 3], [1, 3, 7, 9, 11], [], [1, 3]] := ⟨rfl, rfl⟩
theorem qiH : pol.dm 96 12 = 10 ∧ pol.an 96 12 = [[], [], [], [], [], [], [], [], [], []] := ⟨rfl, rfl⟩
theorem qkG : pol.dm 104 7 = 7 ∧ pol.an 104 7 = [[], [], [], [0, 1, 2], [], [], []] := ⟨rfl, rfl⟩
theorem qjH : pol.dm 108 1 = 9 ∧ pol.an 108 1 = [[], [], [], [], [], [], [], [], [0]] := ⟨rfl, rfl⟩
theorem qiJ : pol.dm 109 4 = 9 ∧ pol.an 109 4 = [[], [], [], [], [], [1], [], [], []] := ⟨rfl, rfl⟩
theorem qle : pol.dm 127 6 = 5 ∧ pol.an 127 6 = [[], [], [], [], []] := ⟨rfl, rfl⟩
theorem qjc : pol.dm 139 2 = 5 ∧ pol.an 139 2 = [[], [], [], [], []] := ⟨rfl, rfl⟩
theorem q22 : pol.q 22 = [1] := rfl
theorem q25 : pol.q 25 = [1] := rfl
theorem q26 : pol.q 26 = [2] := rfl
theorem q30 : pol.q 30 = [0, 0, 0, 0, 0, 1, 2, 0, 0, 0, 0] := rfl
theorem q33 : pol.q 33 = [8] := rfl
theorem q37 : pol.q 37 = [11] := rfl
theorem q45 : pol.q 45 = [1] := rfl
theorem q53 : pol.q 53 = [0, 0, 0, 0, 0, 1, 0, 1] := rfl
theorem qx9 : pol.q 170 = [1] := rfl
theorem q3 : pol.q 3 = [] := rfl
theorem q4 : pol.q 4 = [] := rfl
theorem q9 : pol.q 9 = [] := rfl
theorem q10 : pol.q 10 = [] := rfl
theorem q21 : pol.q 21 = [] := rfl
theorem q23 : pol.q 23 = [] := rfl
theorem q28 : pol.q 28 = [] := rfl
theorem q32 : pol.q 32 = [] := rfl
theorem q41 : pol.q 41 = [] := rfl
theorem q68 : pol.q 68 = [] := rfl
theorem q79 : pol.q 79 = [] := rfl
theorem q87 : pol.q 87 = [] := rfl
theorem q95 : pol.q 95 = [] := rfl
theorem qxt : pol.q 102 = [] := rfl
theorem qzI : pol.q 117 = [] := rfl
theorem qyp : pol.q 125 = [] := rfl
theorem qzr : pol.q 129 = [] := rfl
theorem qxR : pol.q 145 = [] := rfl
theorem qy0 : pol.q 159 = [] := rfl
noncomputable def qr6 : Code := (Tryz.f2.body).getD .skip
theorem bd2 : ql Tryz.prog pol 2 = some ⟨qr6, 1, [], []⟩ := by kernel_rfl
noncomputable def qp5 : Code := (Tryz.f3.body).getD .skip
theorem bd3 : ql Tryz.prog pol 3 = some ⟨qp5, 85, [.tmp 6], [4]⟩ := by kernel_rfl
noncomputable def q8a : Code := (Tryz.f4.body).getD .skip
theorem bd4 : ql Tryz.prog pol 4 = some ⟨q8a, 151, [.tmp 6], [4]⟩ := by kernel_rfl
theorem pw4 : pol.ow 4 = [] ∧ pol.fz 4 = false ∧ pol.ro 4 = false ∧ pol.pr 4 = none := ⟨rfl, rfl, rfl, rfl⟩
noncomputable def qoJ : Code := (Tryz.f5.body).getD .skip
theorem bd5 : ql Tryz.prog pol 5 = some ⟨qoJ, 184, [.tmp 6], [4]⟩ := by kernel_rfl
noncomputable def qnL : Code := (Tryz.f6.body).getD .skip
theorem bd6 : ql Tryz.prog pol 6 = some ⟨qnL, 215, [.tmp 0], [4]⟩ := by kernel_rfl
theorem pw6 : pol.ow 6 = [] ∧ pol.fz 6 = false ∧ pol.ro 6 = false ∧ pol.pr 6 = none := ⟨rfl, rfl, rfl, rfl⟩
noncomputable def qdm : Code := (Tryz.f7.body).getD .skip
theorem bd7 : ql Tryz.prog pol 7 = some ⟨qdm, 29, [.tmp 2], [37]⟩ := by kernel_rfl
theorem pw7 : pol.ow 7 = [] ∧ pol.fz 7 = true ∧ pol.ro 7 = true ∧ pol.pr 7 = none := ⟨rfl, rfl, rfl, rfl⟩
noncomputable def qc1 : Code := (Tryz.f8.body).getD .skip
theorem bd8 : ql Tryz.prog pol 8 = some ⟨qc1, 77, [.cell 2 30], [30]⟩ := by kernel_rfl
theorem pw8 : pol.ow 8 = [] ∧ pol.fz 8 = true ∧ pol.ro 8 = false ∧ pol.pr 8 = none := ⟨rfl, rfl, rfl, rfl⟩
noncomputable def qfG : Code := (Tryz.f9.body).getD .skip
theorem bd9 : ql Tryz.prog pol 9 = some ⟨qfG, 154, [.cell 4 30], [30]⟩ := by kernel_rfl
theorem pw9 : pol.ow 9 = [] ∧ pol.fz 9 = true ∧ pol.ro 9 = false ∧ pol.pr 9 = none := ⟨rfl, rfl, rfl, rfl⟩
noncomputable def q6z : Code := (Tryz.f10.body).getD .skip
theorem qm1 : ql Tryz.prog pol 10 = some ⟨q6z, 100, [.tmp 2], [41]⟩ := by kernel_rfl
theorem qwm : pol.ow 10 = [] ∧ pol.fz 10 = false ∧ pol.ro 10 = false ∧ pol.pr 10 = none := ⟨rfl, rfl, rfl, rfl⟩
noncomputable def q6V : Code := (Tryz.f11.body).getD .skip
theorem qlZ : ql Tryz.prog pol 11 = some ⟨q6V, 137, [.tmp 2], [41]⟩ := by kernel_rfl
theorem qv3 : pol.ow 11 = [] ∧ pol.fz 11 = false ∧ pol.ro 11 = false ∧ pol.pr 11 = none := ⟨rfl, rfl, rfl, rfl⟩
noncomputable def qb3 : Code := (Tryz.f12.body).getD .skip
theorem qsa : ql Tryz.prog pol 12 = some ⟨qb3, 11, [.tmp 4], [4]⟩ := by kernel_rfl
theorem qwt : pol.ow 12 = [] ∧ pol.fz 12 = false ∧ pol.ro 12 = false ∧ pol.pr 12 = none := ⟨rfl, rfl, rfl, rfl⟩
noncomputable def qbi : Code := (Tryz.f13.body).getD .skip
theorem qrO : ql Tryz.prog pol 13 = some ⟨qbi, 11, [.tmp 4], [4]⟩ := by kernel_rfl
theorem qvs : pol.ow 13 = [] ∧ pol.fz 13 = false ∧ pol.ro 13 = false ∧ pol.pr 13 = none := ⟨rfl, rfl, rfl, rfl⟩
noncomputable def q8J : Code := (Tryz.f14.body).getD .skip
theorem qqt : ql Tryz.prog pol 14 = some ⟨q8J, 89, [.tmp 4], [33]⟩ := by kernel_rfl
theorem qww : pol.ow 14 = [] ∧ pol.fz 14 = true ∧ pol.ro 14 = false ∧ pol.pr 14 = none := ⟨rfl, rfl, rfl, rfl⟩
noncomputable def qbg : Code := (Tryz.f15.body).getD .skip
theorem qsb : ql Tryz.prog pol 15 = some ⟨qbg, 12, [.tmp 4], [3]⟩ := by kernel_rfl
theorem qw5 : pol.ow 15 = [] ∧ pol.fz 15 = false ∧ pol.ro 15 = false ∧ pol.pr 15 = none := ⟨rfl, rfl, rfl, rfl⟩
noncomputable def qaN : Code := (Tryz.f16.body).getD .skip
theorem qrx : ql Tryz.prog pol 16 = some ⟨qaN, 70, [.cell 4 53], [53]⟩ := by kernel_rfl
theorem qwR : pol.ow 16 = [] ∧ pol.fz 16 = true ∧ pol.ro 16 = false ∧ pol.pr 16 = none := ⟨rfl, rfl, rfl, rfl⟩
noncomputable def qbk : Code := (Tryz.f17.body).getD .skip
theorem qrS : ql Tryz.prog pol 17 = some ⟨qbk, 11, [.cell 2 32], [32]⟩ := by kernel_rfl
theorem qwD : pol.ow 17 = [] ∧ pol.fz 17 = false ∧ pol.ro 17 = false ∧ pol.pr 17 = none := ⟨rfl, rfl, rfl, rfl⟩
noncomputable def q91 : Code := (Tryz.f18.body).getD .skip
theorem qog : ql Tryz.prog pol 18 = some ⟨q91, 81, [.tmp 6, .tmp 7], [33, 41]⟩ := by kernel_rfl
theorem qw9 : pol.ow 18 = [2] ∧ pol.fz 18 = false ∧ pol.ro 18 = false ∧ pol.pr 18 = none := ⟨rfl, rfl, rfl, rfl⟩
noncomputable def q6U : Code := (Tryz.f19.body).getD .skip
theorem qmd : ql Tryz.prog pol 19 = some ⟨q6U, 103, [.tmp 6, .tmp 7], [33, 41]⟩ := by kernel_rfl
theorem qv5 : pol.ow 19 = [] ∧ pol.fz 19 = true ∧ pol.ro 19 = false ∧ pol.pr 19 = none := ⟨rfl, rfl, rfl, rfl⟩
noncomputable def q8C : Code := (Tryz.f20.body).getD .skip
theorem qoC : ql Tryz.prog pol 20 = some ⟨q8C, 29, [.tmp 4], [4]⟩ := by kernel_rfl
theorem qvz : pol.ow 20 = [] ∧ pol.fz 20 = false ∧ pol.ro 20 = false ∧ pol.pr 20 = none := ⟨rfl, rfl, rfl, rfl⟩
noncomputable def q8D : Code := (Tryz.f21.body).getD .skip
theorem qp6 : ql Tryz.prog pol 21 = some ⟨q8D, 62, [.tmp 4], [4]⟩ := by kernel_rfl
theorem quZ : pol.ow 21 = [] ∧ pol.fz 21 = false ∧ pol.ro 21 = false ∧ pol.pr 21 = none := ⟨rfl, rfl, rfl, rfl⟩
noncomputable def q6A : Code := (Tryz.f22.body).getD .skip
theorem qm5 : ql Tryz.prog pol 22 = some ⟨q6A, 74, [.tmp 4], [4]⟩ := by kernel_rfl
theorem qvX : pol.ow 22 = [] ∧ pol.fz 22 = false ∧ pol.ro 22 = false ∧ pol.pr 22 = none := ⟨rfl, rfl, rfl, rfl⟩
noncomputable def qih : Code := (Tryz.f23.body).getD .skip
theorem qxM : ql Tryz.prog pol 23 = some ⟨qih, 66, [.tmp 8, .tmp 9], [37, 41]⟩ := by kernel_rfl
noncomputable def qhK : Code := (Tryz.f24.body).getD .skip
theorem qxc : ql Tryz.prog pol 24 = some ⟨qhK, 69, [.tmp 8, .tmp 9], [37, 41]⟩ := by kernel_rfl
noncomputable def qhN : Code := (Tryz.f25.body).getD .skip
theorem qyI : ql Tryz.prog pol 25 = some ⟨qhN, 27, [.tmp 4], [4]⟩ := by kernel_rfl
noncomputable def q8e : Code := (Tryz.f26.body).getD .skip
theorem qr8 : ql Tryz.prog pol 26 = some ⟨q8e, 87, [.cell 4 30], [30]⟩ := by kernel_rfl
theorem qwX : pol.ow 26 = [] ∧ pol.fz 26 = true ∧ pol.ro 26 = false ∧ pol.pr 26 = none := ⟨rfl, rfl, rfl, rfl⟩
noncomputable def qiE : Code := (Tryz.f27.body).getD .skip
theorem qxs : ql Tryz.prog pol 27 = some ⟨qiE, 37, [.tmp 4, .tmp 5], [37, 41]⟩ := by kernel_rfl
noncomputable def qiu : Code := (Tryz.f28.body).getD .skip
theorem qxv : ql Tryz.prog pol 28 = some ⟨qiu, 52, [.tmp 4, .tmp 5], [37, 41]⟩ := by kernel_rfl
noncomputable def qhP : Code := (Tryz.f29.body).getD .skip
theorem qz1 : ql Tryz.prog pol 29 = some ⟨qhP, 21, [.cell 0 30, .tmp 1], [30, 33]⟩ := by kernel_rfl
noncomputable def qas : Code := (Tryz.f30.body).getD .skip
theorem qrp : ql Tryz.prog pol 30 = some ⟨qas, 56, [.tmp 4], [4]⟩ := by kernel_rfl
theorem qvG : pol.ow 30 = [] ∧ pol.fz 30 = false ∧ pol.ro 30 = false ∧ pol.pr 30 = none := ⟨rfl, rfl, rfl, rfl⟩
noncomputable def qb6 : Code := (Tryz.f31.body).getD .skip
theorem qrG : ql Tryz.prog pol 31 = some ⟨qb6, 14, [.cell 2 30], [30]⟩ := by kernel_rfl
theorem qwn : pol.ow 31 = [] ∧ pol.fz 31 = true ∧ pol.ro 31 = true ∧ pol.pr 31 = none := ⟨rfl, rfl, rfl, rfl⟩
noncomputable def qba : Code := (Tryz.f32.body).getD .skip
theorem qs4 : ql Tryz.prog pol 32 = some ⟨qba, 2, [.tmp 0], [25]⟩ := by kernel_rfl
theorem qwU : pol.ow 32 = [] ∧ pol.fz 32 = true ∧ pol.ro 32 = false ∧ pol.pr 32 = none := ⟨rfl, rfl, rfl, rfl⟩
noncomputable def qa9 : Code := (Tryz.f33.body).getD .skip
theorem qrZ : ql Tryz.prog pol 33 = some ⟨qa9, 15, [.tmp 6], [4]⟩ := by kernel_rfl
theorem qx0 : pol.ow 33 = [] ∧ pol.fz 33 = false ∧ pol.ro 33 = false ∧ pol.pr 33 = none := ⟨rfl, rfl, rfl, rfl⟩
noncomputable def qaF : Code := (Tryz.f34.body).getD .skip
theorem qrX : ql Tryz.prog pol 34 = some ⟨qaF, 9, [.tmp 2], [4]⟩ := by kernel_rfl
theorem quX : pol.ow 34 = [] ∧ pol.fz 34 = false ∧ pol.ro 34 = false ∧ pol.pr 34 = none := ⟨rfl, rfl, rfl, rfl⟩
noncomputable def q89 : Code := (Tryz.f35.body).getD .skip
theorem qpK : ql Tryz.prog pol 35 = some ⟨q89, 19, [.tmp 2], [25]⟩ := by kernel_rfl
theorem qw4 : pol.ow 35 = [] ∧ pol.fz 35 = true ∧ pol.ro 35 = false ∧ pol.pr 35 = none := ⟨rfl, rfl, rfl, rfl⟩
noncomputable def qaQ : Code := (Tryz.f36.body).getD .skip
theorem qrN : ql Tryz.prog pol 36 = some ⟨qaQ, 17, [.tmp 2], [4]⟩ := by kernel_rfl
theorem qwf : pol.ow 36 = [] ∧ pol.fz 36 = false ∧ pol.ro 36 = false ∧ pol.pr 36 = none := ⟨rfl, rfl, rfl, rfl⟩
noncomputable def qap : Code := (Tryz.f37.body).getD .skip
theorem qmo : ql Tryz.prog pol 37 = some ⟨qap, 9, [.tmp 4], [4]⟩ := by kernel_rfl
theorem qtE : pol.ow 37 = [] ∧ pol.fz 37 = false ∧ pol.ro 37 = false ∧ pol.pr 37 = none := ⟨rfl, rfl, rfl, rfl⟩
noncomputable def qaJ : Code := (Tryz.f38.body).getD .skip
theorem qs7 : ql Tryz.prog pol 38 = some ⟨qaJ, 6, [.tmp 2], [4]⟩ := by kernel_rfl
theorem quT : pol.ow 38 = [] ∧ pol.fz 38 = false ∧ pol.ro 38 = false ∧ pol.pr 38 = none := ⟨rfl, rfl, rfl, rfl⟩
noncomputable def qaS : Code := (Tryz.f39.body).getD .skip
theorem qs9 : ql Tryz.prog pol 39 = some ⟨qaS, 9, [.tmp 3], [4]⟩ := by kernel_rfl
theorem qvo : pol.ow 39 = [] ∧ pol.fz 39 = false ∧ pol.ro 39 = false ∧ pol.pr 39 = none := ⟨rfl, rfl, rfl, rfl⟩
noncomputable def qau : Code := (Tryz.f40.body).getD .skip
theorem qrI : ql Tryz.prog pol 40 = some ⟨qau, 9, [.tmp 4], [4]⟩ := by kernel_rfl
theorem qwN : pol.ow 40 = [] ∧ pol.fz 40 = false ∧ pol.ro 40 = false ∧ pol.pr 40 = none := ⟨rfl, rfl, rfl, rfl⟩
noncomputable def qah : Code := (Tryz.f41.body).getD .skip
theorem qrJ : ql Tryz.prog pol 41 = some ⟨qah, 33, [.tmp 2], [41]⟩ := by kernel_rfl
theorem qwY : pol.ow 41 = [] ∧ pol.fz 41 = false ∧ pol.ro 41 = false ∧ pol.pr 41 = none := ⟨rfl, rfl, rfl, rfl⟩
noncomputable def qb7 : Code := (Tryz.f42.body).getD .skip
theorem qs2 : ql Tryz.prog pol 42 = some ⟨qb7, 9, [.tmp 2], [4]⟩ := by kernel_rfl
theorem qv9 : pol.ow 42 = [] ∧ pol.fz 42 = false ∧ pol.ro 42 = false ∧ pol.pr 42 = none := ⟨rfl, rfl, rfl, rfl⟩
noncomputable def q8m : Code := (Tryz.f43.body).getD .skip
theorem qnJ : ql Tryz.prog pol 43 = some ⟨q8m, 32, [.tmp 2], [41]⟩ := by kernel_rfl
theorem qvE : pol.ow 43 = [] ∧ pol.fz 43 = false ∧ pol.ro 43 = false ∧ pol.pr 43 = none := ⟨rfl, rfl, rfl, rfl⟩
noncomputable def q7Y : Code := (Tryz.f44.body).getD .skip
theorem qpf : ql Tryz.prog pol 44 = some ⟨q7Y, 22, [.tmp 2], [25]⟩ := by kernel_rfl
theorem qwj : pol.ow 44 = [] ∧ pol.fz 44 = true ∧ pol.ro 44 = false ∧ pol.pr 44 = none := ⟨rfl, rfl, rfl, rfl⟩
noncomputable def q8V : Code := (Tryz.f45.body).getD .skip
theorem qpk : ql Tryz.prog pol 45 = some ⟨q8V, 18, [.tmp 4], [4]⟩ := by kernel_rfl
theorem qwi : pol.ow 45 = [] ∧ pol.fz 45 = false ∧ pol.ro 45 = false ∧ pol.pr 45 = none := ⟨rfl, rfl, rfl, rfl⟩
noncomputable def qbn : Code := (Tryz.f46.body).getD .skip
theorem qsf : ql Tryz.prog pol 46 = some ⟨qbn, 33, [.tmp 2], [41]⟩ := by kernel_rfl
theorem qvm : pol.ow 46 = [] ∧ pol.fz 46 = false ∧ pol.ro 46 = false ∧ pol.pr 46 = none := ⟨rfl, rfl, rfl, rfl⟩
noncomputable def qae : Code := (Tryz.f47.body).getD .skip
theorem qsk : ql Tryz.prog pol 47 = some ⟨qae, 19, [.tmp 6], [4]⟩ := by kernel_rfl
theorem qw7 : pol.ow 47 = [] ∧ pol.fz 47 = false ∧ pol.ro 47 = false ∧ pol.pr 47 = none := ⟨rfl, rfl, rfl, rfl⟩
noncomputable def qbv : Code := (Tryz.f48.body).getD .skip
theorem qrE : ql Tryz.prog pol 48 = some ⟨qbv, 19, [.tmp 6], [4]⟩ := by kernel_rfl
theorem qvl : pol.ow 48 = [] ∧ pol.fz 48 = false ∧ pol.ro 48 = false ∧ pol.pr 48 = none := ⟨rfl, rfl, rfl, rfl⟩
noncomputable def qac : Code := (Tryz.f49.body).getD .skip
theorem qrr : ql Tryz.prog pol 49 = some ⟨qac, 35, [.tmp 4], [3]⟩ := by kernel_rfl
theorem qvy : pol.ow 49 = [] ∧ pol.fz 49 = false ∧ pol.ro 49 = false ∧ pol.pr 49 = none := ⟨rfl, rfl, rfl, rfl⟩
noncomputable def qbb : Code := (Tryz.f50.body).getD .skip
theorem qrH : ql Tryz.prog pol 50 = some ⟨qbb, 14, [.cell 2 53], [53]⟩ := by kernel_rfl
theorem qvB : pol.ow 50 = [] ∧ pol.fz 50 = true ∧ pol.ro 50 = true ∧ pol.pr 50 = none := ⟨rfl, rfl, rfl, rfl⟩
noncomputable def q8k : Code := (Tryz.f51.body).getD .skip
theorem qku : ql Tryz.prog pol 51 = some ⟨q8k, 22, [.tmp 4], [45]⟩ := by kernel_rfl
theorem qrq : pol.ow 51 = [] ∧ pol.fz 51 = true ∧ pol.ro 51 = false ∧ pol.pr 51 = none := ⟨rfl, rfl, rfl, rfl⟩
noncomputable def qaK : Code := (Tryz.f52.body).getD .skip
theorem qsh : ql Tryz.prog pol 52 = some ⟨qaK, 5, [.tmp 2], [3]⟩ := by kernel_rfl
theorem qv8 : pol.ow 52 = [] ∧ pol.fz 52 = false ∧ pol.ro 52 = false ∧ pol.pr 52 = none := ⟨rfl, rfl, rfl, rfl⟩
noncomputable def qaB : Code := (Tryz.f53.body).getD .skip
theorem qrD : ql Tryz.prog pol 53 = some ⟨qaB, 57, [.tmp 8, .tmp 9], [3, 41]⟩ := by kernel_rfl
theorem qw6 : pol.ow 53 = [] ∧ pol.fz 53 = false ∧ pol.ro 53 = false ∧ pol.pr 53 = none := ⟨rfl, rfl, rfl, rfl⟩
noncomputable def qaM : Code := (Tryz.f54.body).getD .skip
theorem qrQ : ql Tryz.prog pol 54 = some ⟨qaM, 5, [.tmp 2], [3]⟩ := by kernel_rfl
theorem qwW : pol.ow 54 = [] ∧ pol.fz 54 = false ∧ pol.ro 54 = false ∧ pol.pr 54 = none := ⟨rfl, rfl, rfl, rfl⟩
noncomputable def qb9 : Code := (Tryz.f55.body).getD .skip
theorem qrK : ql Tryz.prog pol 55 = some ⟨qb9, 10, [.tmp 4], [4]⟩ := by kernel_rfl
theorem qvw : pol.ow 55 = [] ∧ pol.fz 55 = false ∧ pol.ro 55 = false ∧ pol.pr 55 = none := ⟨rfl, rfl, rfl, rfl⟩
noncomputable def q6L : Code := (Tryz.f56.body).getD .skip
theorem qm9 : ql Tryz.prog pol 56 = some ⟨q6L, 44, [.tmp 2, .tmp 3], [45, 4]⟩ := by kernel_rfl
theorem qv1 : pol.ow 56 = [] ∧ pol.fz 56 = true ∧ pol.ro 56 = true ∧ pol.pr 56 = none := ⟨rfl, rfl, rfl, rfl⟩
noncomputable def q7V : Code := (Tryz.f57.body).getD .skip
theorem qol : ql Tryz.prog pol 57 = some ⟨q7V, 22, [.tmp 4], [22]⟩ := by kernel_rfl
theorem qw0 : pol.ow 57 = [] ∧ pol.fz 57 = true ∧ pol.ro 57 = false ∧ pol.pr 57 = none := ⟨rfl, rfl, rfl, rfl⟩
noncomputable def qa8 : Code := (Tryz.f58.body).getD .skip
theorem qrT : ql Tryz.prog pol 58 = some ⟨qa8, 5, [.tmp 2], [45]⟩ := by kernel_rfl
theorem qvu : pol.ow 58 = [] ∧ pol.fz 58 = true ∧ pol.ro 58 = false ∧ pol.pr 58 = none := ⟨rfl, rfl, rfl, rfl⟩
noncomputable def qiG : Code := (Tryz.f59.body).getD .skip
theorem qzR : ql Tryz.prog pol 59 = some ⟨qiG, 11, [], []⟩ := by kernel_rfl
theorem qA8 : pol.ow 59 = [] ∧ pol.fz 59 = false ∧ pol.ro 59 = false ∧ pol.pr 59 = none := ⟨rfl, rfl, rfl, rfl⟩
noncomputable def qal : Code := (Tryz.f60.body).getD .skip
theorem qs1 : ql Tryz.prog pol 60 = some ⟨qal, 6, [.tmp 2], [3]⟩ := by kernel_rfl
theorem qx1 : pol.ow 60 = [] ∧ pol.fz 60 = false ∧ pol.ro 60 = false ∧ pol.pr 60 = none := ⟨rfl, rfl, rfl, rfl⟩
noncomputable def qhV : Code := (Tryz.f61.body).getD .skip
theorem qzP : ql Tryz.prog pol 61 = some ⟨qhV, 8, [.tmp 2], [45]⟩ := by kernel_rfl
theorem qwu : pol.ow 61 = [] ∧ pol.fz 61 = true ∧ pol.ro 61 = true ∧ pol.pr 61 = some (pr0 (q2E T 3 true)) := ⟨rfl, rfl, rfl, rfl⟩
noncomputable def qb2 : Code := (Tryz.f62.body).getD .skip
theorem qry : ql Tryz.prog pol 62 = some ⟨qb2, 64, [.tmp 8, .tmp 9], [3, 41]⟩ := by kernel_rfl
theorem qwa : pol.ow 62 = [] ∧ pol.fz 62 = false ∧ pol.ro 62 = false ∧ pol.pr 62 = none := ⟨rfl, rfl, rfl, rfl⟩
noncomputable def qbm : Code := (Tryz.f63.body).getD .skip
theorem qsj : ql Tryz.prog pol 63 = some ⟨qbm, 10, [.tmp 4], [4]⟩ := by kernel_rfl
theorem qwB : pol.ow 63 = [] ∧ pol.fz 63 = false ∧ pol.ro 63 = false ∧ pol.pr 63 = none := ⟨rfl, rfl, rfl, rfl⟩
noncomputable def q8G : Code := (Tryz.f64.body).getD .skip
theorem qmH : ql Tryz.prog pol 64 = some ⟨q8G, 28, [.tmp 2], [3]⟩ := by kernel_rfl
theorem qw3 : pol.ow 64 = [] ∧ pol.fz 64 = false ∧ pol.ro 64 = false ∧ pol.pr 64 = none := ⟨rfl, rfl, rfl, rfl⟩
noncomputable def q5H : Code := (Tryz.f65.body).getD .skip
theorem qkj : ql Tryz.prog pol 65 = some ⟨q5H, 75, [.tmp 2], [45]⟩ := by kernel_rfl
theorem qvc : pol.ow 65 = [] ∧ pol.fz 65 = true ∧ pol.ro 65 = false ∧ pol.pr 65 = none := ⟨rfl, rfl, rfl, rfl⟩
noncomputable def q8S : Code := (Tryz.f66.body).getD .skip
theorem qqc : ql Tryz.prog pol 66 = some ⟨q8S, 26, [.tmp 4], [4]⟩ := by kernel_rfl
theorem qwT : pol.ow 66 = [] ∧ pol.fz 66 = false ∧ pol.ro 66 = false ∧ pol.pr 66 = none := ⟨rfl, rfl, rfl, rfl⟩
noncomputable def q8w : Code := (Tryz.f67.body).getD .skip
theorem qpP : ql Tryz.prog pol 67 = some ⟨q8w, 26, [.tmp 4], [4]⟩ := by kernel_rfl
theorem quU : pol.ow 67 = [] ∧ pol.fz 67 = false ∧ pol.ro 67 = false ∧ pol.pr 67 = none := ⟨rfl, rfl, rfl, rfl⟩
noncomputable def q6R : Code := (Tryz.f68.body).getD .skip
theorem qm3 : ql Tryz.prog pol 68 = some ⟨q6R, 28, [.tmp 4], [4]⟩ := by kernel_rfl
theorem qwl : pol.ow 68 = [] ∧ pol.fz 68 = false ∧ pol.ro 68 = false ∧ pol.pr 68 = none := ⟨rfl, rfl, rfl, rfl⟩
noncomputable def qix : Code := (Tryz.f69.body).getD .skip
theorem qx4 : ql Tryz.prog pol 69 = some ⟨qix, 8, [.tmp 4], [3]⟩ := by kernel_rfl
noncomputable def qid : Code := (Tryz.f70.body).getD .skip
theorem qA0 : ql Tryz.prog pol 70 = some ⟨qid, 38, [.tmp 2], [37]⟩ := by kernel_rfl
noncomputable def qi7 : Code := (Tryz.f71.body).getD .skip
theorem qyl : ql Tryz.prog pol 71 = some ⟨qi7, 20, [.tmp 4], [3]⟩ := by kernel_rfl
noncomputable def qi9 : Code := (Tryz.f72.body).getD .skip
theorem qz9 : ql Tryz.prog pol 72 = some ⟨qi9, 20, [.tmp 2], [37]⟩ := by kernel_rfl
noncomputable def qiA : Code := (Tryz.f73.body).getD .skip
theorem qxh : ql Tryz.prog pol 73 = some ⟨qiA, 83, [.tmp 4], [4]⟩ := by kernel_rfl
noncomputable def q6J : Code := (Tryz.f74.body).getD .skip
theorem qm2 : ql Tryz.prog pol 74 = some ⟨q6J, 33, [.tmp 2], [25]⟩ := by kernel_rfl
theorem qv4 : pol.ow 74 = [] ∧ pol.fz 74 = true ∧ pol.ro 74 = false ∧ pol.pr 74 = none := ⟨rfl, rfl, rfl, rfl⟩
noncomputable def qbt : Code := (Tryz.f75.body).getD .skip
theorem qs0 : ql Tryz.prog pol 75 = some ⟨qbt, 39, [.cell 6 28], [28]⟩ := by kernel_rfl
theorem qv0 : pol.ow 75 = [] ∧ pol.fz 75 = false ∧ pol.ro 75 = false ∧ pol.pr 75 = none := ⟨rfl, rfl, rfl, rfl⟩
noncomputable def qhB : Code := (Tryz.f76.body).getD .skip
theorem qxK : ql Tryz.prog pol 76 = some ⟨qhB, 19, [.tmp 4], [3]⟩ := by kernel_rfl
noncomputable def qio : Code := (Tryz.f77.body).getD .skip
theorem qy8 : ql Tryz.prog pol 77 = some ⟨qio, 9, [.tmp 3], [4]⟩ := by kernel_rfl
noncomputable def qhM : Code := (Tryz.f78.body).getD .skip
theorem qz5 : ql Tryz.prog pol 78 = some ⟨qhM, 95, [.tmp 6], [37]⟩ := by kernel_rfl
noncomputable def qbo : Code := (Tryz.f79.body).getD .skip
theorem qsm : ql Tryz.prog pol 79 = some ⟨qbo, 17, [.tmp 2], [4]⟩ := by kernel_rfl
theorem qvV : pol.ow 79 = [] ∧ pol.fz 79 = false ∧ pol.ro 79 = false ∧ pol.pr 79 = none := ⟨rfl, rfl, rfl, rfl⟩
noncomputable def qaC : Code := (Tryz.f80.body).getD .skip
theorem qrM : ql Tryz.prog pol 80 = some ⟨qaC, 8, [.tmp 4], [3]⟩ := by kernel_rfl
theorem qvF : pol.ow 80 = [] ∧ pol.fz 80 = false ∧ pol.ro 80 = false ∧ pol.pr 80 = none := ⟨rfl, rfl, rfl, rfl⟩
noncomputable def q8B : Code := (Tryz.f81.body).getD .skip
theorem qm8 : ql Tryz.prog pol 81 = some ⟨q8B, 19, [.tmp 4], [3]⟩ := by kernel_rfl
theorem qu7 : pol.ow 81 = [] ∧ pol.fz 81 = false ∧ pol.ro 81 = false ∧ pol.pr 81 = none := ⟨rfl, rfl, rfl, rfl⟩
noncomputable def q8y : Code := (Tryz.f82.body).getD .skip
theorem qnV : ql Tryz.prog pol 82 = some ⟨q8y, 19, [.tmp 4], [3]⟩ := by kernel_rfl
theorem qvh : pol.ow 82 = [] ∧ pol.fz 82 = false ∧ pol.ro 82 = false ∧ pol.pr 82 = none := ⟨rfl, rfl, rfl, rfl⟩
noncomputable def qb0 : Code := (Tryz.f83.body).getD .skip
theorem qrs : ql Tryz.prog pol 83 = some ⟨qb0, 16, [.tmp 6], [3]⟩ := by kernel_rfl
theorem qva : pol.ow 83 = [] ∧ pol.fz 83 = false ∧ pol.ro 83 = false ∧ pol.pr 83 = none := ⟨rfl, rfl, rfl, rfl⟩
noncomputable def q8l : Code := (Tryz.f84.body).getD .skip
theorem qrj : ql Tryz.prog pol 84 = some ⟨q8l, 46, [.tmp 2], [4]⟩ := by kernel_rfl
theorem qvM : pol.ow 84 = [] ∧ pol.fz 84 = false ∧ pol.ro 84 = false ∧ pol.pr 84 = none := ⟨rfl, rfl, rfl, rfl⟩
noncomputable def qaa : Code := (Tryz.f85.body).getD .skip
theorem qs5 : ql Tryz.prog pol 85 = some ⟨qaa, 14, [.tmp 4], [4]⟩ := by kernel_rfl
theorem qwF : pol.ow 85 = [] ∧ pol.fz 85 = false ∧ pol.ro 85 = false ∧ pol.pr 85 = none := ⟨rfl, rfl, rfl, rfl⟩
noncomputable def q82 : Code := (Tryz.f86.body).getD .skip
theorem qnz : ql Tryz.prog pol 86 = some ⟨q82, 37, [.tmp 2], [41]⟩ := by kernel_rfl
theorem qwC : pol.ow 86 = [] ∧ pol.fz 86 = false ∧ pol.ro 86 = false ∧ pol.pr 86 = none := ⟨rfl, rfl, rfl, rfl⟩
noncomputable def q88 : Code := (Tryz.f87.body).getD .skip
theorem qnK : ql Tryz.prog pol 87 = some ⟨q88, 51, [.cell 4 125, .tmp 5], [125, 41]⟩ := by kernel_rfl
theorem qvp : pol.ow 87 = [] ∧ pol.fz 87 = false ∧ pol.ro 87 = false ∧ pol.pr 87 = none := ⟨rfl, rfl, rfl, rfl⟩
noncomputable def qao : Code := (Tryz.f88.body).getD .skip
theorem qrw : ql Tryz.prog pol 88 = some ⟨qao, 32, [.tmp 6], [3]⟩ := by kernel_rfl
theorem qvK : pol.ow 88 = [] ∧ pol.fz 88 = false ∧ pol.ro 88 = false ∧ pol.pr 88 = none := ⟨rfl, rfl, rfl, rfl⟩
noncomputable def qbq : Code := (Tryz.f89.body).getD .skip
theorem qru : ql Tryz.prog pol 89 = some ⟨qbq, 26, [.tmp 6], [4]⟩ := by kernel_rfl
theorem qwJ : pol.ow 89 = [] ∧ pol.fz 89 = false ∧ pol.ro 89 = false ∧ pol.pr 89 = none := ⟨rfl, rfl, rfl, rfl⟩
noncomputable def qhG : Code := (Tryz.f90.body).getD .skip
theorem qyW : ql Tryz.prog pol 90 = some ⟨qhG, 9, [.tmp 2], [129]⟩ := by kernel_rfl
theorem qvk : pol.ow 90 = [] ∧ pol.fz 90 = true ∧ pol.ro 90 = false ∧ pol.pr 90 = some (q0p) := ⟨rfl, rfl, rfl, rfl⟩
noncomputable def qhO : Code := (Tryz.f91.body).getD .skip
theorem qyh : ql Tryz.prog pol 91 = some ⟨qhO, 134, [], []⟩ := by kernel_rfl
noncomputable def qhR : Code := (Tryz.f92.body).getD .skip
theorem qxn : ql Tryz.prog pol 92 = some ⟨qhR, 8, [.tmp 2], [3]⟩ := by kernel_rfl
noncomputable def q84 : Code := (Tryz.f93.body).getD .skip
theorem qmk : ql Tryz.prog pol 93 = some ⟨q84, 25, [.tmp 2], [3]⟩ := by kernel_rfl
theorem qvI : pol.ow 93 = [] ∧ pol.fz 93 = false ∧ pol.ro 93 = false ∧ pol.pr 93 = none := ⟨rfl, rfl, rfl, rfl⟩
noncomputable def qam : Code := (Tryz.f94.body).getD .skip
theorem qrn : ql Tryz.prog pol 94 = some ⟨qam, 5, [.tmp 2], [3]⟩ := by kernel_rfl
theorem qwI : pol.ow 94 = [] ∧ pol.fz 94 = false ∧ pol.ro 94 = false ∧ pol.pr 94 = none := ⟨rfl, rfl, rfl, rfl⟩
noncomputable def qbs : Code := (Tryz.f95.body).getD .skip
theorem qrR : ql Tryz.prog pol 95 = some ⟨qbs, 40, [.tmp 2], [41]⟩ := by kernel_rfl
theorem qvY : pol.ow 95 = [] ∧ pol.fz 95 = false ∧ pol.ro 95 = false ∧ pol.pr 95 = none := ⟨rfl, rfl, rfl, rfl⟩
noncomputable def q8u : Code := (Tryz.f96.body).getD .skip
theorem qnq : ql Tryz.prog pol 96 = some ⟨q8u, 73, [.cell 4 125, .tmp 5], [125, 41]⟩ := by kernel_rfl
theorem qvq : pol.ow 96 = [] ∧ pol.fz 96 = false ∧ pol.ro 96 = false ∧ pol.pr 96 = none := ⟨rfl, rfl, rfl, rfl⟩
noncomputable def qbe : Code := (Tryz.f97.body).getD .skip
theorem qrC : ql Tryz.prog pol 97 = some ⟨qbe, 57, [.tmp 6], [3]⟩ := by kernel_rfl
theorem qvx : pol.ow 97 = [] ∧ pol.fz 97 = false ∧ pol.ro 97 = false ∧ pol.pr 97 = none := ⟨rfl, rfl, rfl, rfl⟩
noncomputable def qaG : Code := (Tryz.f98.body).getD .skip
theorem qs6 : ql Tryz.prog pol 98 = some ⟨qaG, 22, [.tmp 6], [4]⟩ := by kernel_rfl
theorem qvA : pol.ow 98 = [] ∧ pol.fz 98 = false ∧ pol.ro 98 = false ∧ pol.pr 98 = none := ⟨rfl, rfl, rfl, rfl⟩
noncomputable def qb8 : Code := (Tryz.f99.body).getD .skip
theorem qsl : ql Tryz.prog pol 99 = some ⟨qb8, 9, [.tmp 4], [4]⟩ := by kernel_rfl
theorem qwQ : pol.ow 99 = [] ∧ pol.fz 99 = false ∧ pol.ro 99 = false ∧ pol.pr 99 = none := ⟨rfl, rfl, rfl, rfl⟩
noncomputable def qdy : Code := (Tryz.f100.body).getD .skip
theorem qt2 : ql Tryz.prog pol 100 = some ⟨qdy, 8, [.tmp 3], [4]⟩ := by kernel_rfl
noncomputable def qeN : Code := (Tryz.f101.body).getD .skip
theorem qt0 : ql Tryz.prog pol 101 = some ⟨qeN, 8, [.tmp 2], [25]⟩ := by kernel_rfl
noncomputable def qed : Code := (Tryz.f102.body).getD .skip
theorem qtu : ql Tryz.prog pol 102 = some ⟨qed, 8, [.tmp 2], [26]⟩ := by kernel_rfl
noncomputable def qcN : Code := (Tryz.f103.body).getD .skip
theorem qsQ : ql Tryz.prog pol 103 = some ⟨qcN, 26, [.tmp 4], [4]⟩ := by kernel_rfl
noncomputable def q5c : Code := (Tryz.f104.body).getD .skip
theorem qeF : ql Tryz.prog pol 104 = some ⟨q5c, 39, [.tmp 4], [25]⟩ := by kernel_rfl
theorem qoo : pol.ow 104 = [] ∧ pol.fz 104 = true ∧ pol.ro 104 = false ∧ pol.pr 104 = none := ⟨rfl, rfl, rfl, rfl⟩
noncomputable def qco : Code := (Tryz.f106.body).getD .skip
theorem qtU : ql Tryz.prog pol 106 = some ⟨qco, 10, [], []⟩ := by kernel_rfl
noncomputable def q5f : Code := (Tryz.f107.body).getD .skip
theorem qcI : ql Tryz.prog pol 107 = some ⟨q5f, 21, [.tmp 6], [3]⟩ := by kernel_rfl
theorem qmS : pol.ow 107 = [] ∧ pol.fz 107 = false ∧ pol.ro 107 = false ∧ pol.pr 107 = none := ⟨rfl, rfl, rfl, rfl⟩
noncomputable def q7r : Code := (Tryz.f108.body).getD .skip
theorem qgf : ql Tryz.prog pol 108 = some ⟨q7r, 25, [.tmp 6], [4]⟩ := by kernel_rfl
theorem qqP : pol.ow 108 = [] ∧ pol.fz 108 = false ∧ pol.ro 108 = false ∧ pol.pr 108 = none := ⟨rfl, rfl, rfl, rfl⟩
noncomputable def q7c : Code := (Tryz.f109.body).getD .skip
theorem qgt : ql Tryz.prog pol 109 = some ⟨q7c, 49, [.cell 4 125, .tmp 5], [125, 41]⟩ := by kernel_rfl
theorem qmm : pol.ow 109 = [] ∧ pol.fz 109 = false ∧ pol.ro 109 = false ∧ pol.pr 109 = none := ⟨rfl, rfl, rfl, rfl⟩
noncomputable def q77 : Code := (Tryz.f110.body).getD .skip
theorem qg6 : ql Tryz.prog pol 110 = some ⟨q77, 6, [.cell 0 145], [145]⟩ := by kernel_rfl
theorem qp0 : pol.ow 110 = [] ∧ pol.fz 110 = true ∧ pol.ro 110 = false ∧ pol.pr 110 = none := ⟨rfl, rfl, rfl, rfl⟩
noncomputable def q7j : Code := (Tryz.f111.body).getD .skip
theorem qh0 : ql Tryz.prog pol 111 = some ⟨q7j, 18, [.tmp 4], [4]⟩ := by kernel_rfl
theorem qpa : pol.ow 111 = [] ∧ pol.fz 111 = false ∧ pol.ro 111 = false ∧ pol.pr 111 = none := ⟨rfl, rfl, rfl, rfl⟩
noncomputable def qex : Code := (Tryz.f113.body).getD .skip
theorem quz : ql Tryz.prog pol 113 = some ⟨qex, 49, [], []⟩ := by kernel_rfl
noncomputable def qdB : Code := (Tryz.f114.body).getD .skip
theorem qur : ql Tryz.prog pol 114 = some ⟨qdB, 56, [], []⟩ := by kernel_rfl
noncomputable def qfh : Code := (Tryz.f115.body).getD .skip
theorem qux : ql Tryz.prog pol 115 = some ⟨qfh, 65, [], []⟩ := by kernel_rfl
noncomputable def qdK : Code := (Tryz.f116.body).getD .skip
theorem qsV : ql Tryz.prog pol 116 = some ⟨qdK, 57, [.tmp 6, .tmp 7], [3, 149]⟩ := by kernel_rfl
noncomputable def qd4 : Code := (Tryz.f117.body).getD .skip
theorem qsX : ql Tryz.prog pol 117 = some ⟨qd4, 32, [], []⟩ := by kernel_rfl
noncomputable def qe2 : Code := (Tryz.f118.body).getD .skip
theorem qt7 : ql Tryz.prog pol 118 = some ⟨qe2, 133, [.tmp 6], [4]⟩ := by kernel_rfl
noncomputable def qe7 : Code := (Tryz.f119.body).getD .skip
theorem qum : ql Tryz.prog pol 119 = some ⟨qe7, 17, [.tmp 4], [4]⟩ := by kernel_rfl
noncomputable def qcx : Code := (Tryz.f120.body).getD .skip
theorem qsN : ql Tryz.prog pol 120 = some ⟨qcx, 84, [.tmp 8], [3]⟩ := by kernel_rfl
noncomputable def qeP : Code := (Tryz.f121.body).getD .skip
theorem qsu : ql Tryz.prog pol 121 = some ⟨qeP, 168, [.tmp 8, .tmp 9], [3, 4]⟩ := by kernel_rfl
noncomputable def q7q : Code := (Tryz.f124.body).getD .skip
theorem qgm : ql Tryz.prog pol 124 = some ⟨q7q, 48, [.cell 4 125, .tmp 5], [125, 41]⟩ := by kernel_rfl
theorem qqY : pol.ow 124 = [] ∧ pol.fz 124 = false ∧ pol.ro 124 = false ∧ pol.pr 124 = none := ⟨rfl, rfl, rfl, rfl⟩
noncomputable def q7h : Code := (Tryz.f125.body).getD .skip
theorem qgO : ql Tryz.prog pol 125 = some ⟨q7h, 26, [.tmp 4], [4]⟩ := by kernel_rfl
theorem qqI : pol.ow 125 = [] ∧ pol.fz 125 = false ∧ pol.ro 125 = false ∧ pol.pr 125 = none := ⟨rfl, rfl, rfl, rfl⟩
noncomputable def qcp : Code := (Tryz.f126.body).getD .skip
theorem qua : ql Tryz.prog pol 126 = some ⟨qcp, 14, [], []⟩ := by kernel_rfl
noncomputable def q3A : Code := (Tryz.f127.body).getD .skip
theorem qbD : ql Tryz.prog pol 127 = some ⟨q3A, 20, [.tmp 2], [159]⟩ := by kernel_rfl
theorem qoB : pol.ow 127 = [] ∧ pol.fz 127 = false ∧ pol.ro 127 = false ∧ pol.pr 127 = none := ⟨rfl, rfl, rfl, rfl⟩
noncomputable def q74 : Code := (Tryz.f128.body).getD .skip
theorem qgQ : ql Tryz.prog pol 128 = some ⟨q74, 10, [.tmp 2], [159]⟩ := by kernel_rfl
theorem qqR : pol.ow 128 = [] ∧ pol.fz 128 = false ∧ pol.ro 128 = false ∧ pol.pr 128 = none := ⟨rfl, rfl, rfl, rfl⟩
noncomputable def q7C : Code := (Tryz.f129.body).getD .skip
theorem qgo : ql Tryz.prog pol 129 = some ⟨q7C, 7, [.tmp 6], [4]⟩ := by kernel_rfl
theorem qox : pol.ow 129 = [] ∧ pol.fz 129 = false ∧ pol.ro 129 = false ∧ pol.pr 129 = none := ⟨rfl, rfl, rfl, rfl⟩
noncomputable def q7d : Code := (Tryz.f130.body).getD .skip
theorem qgZ : ql Tryz.prog pol 130 = some ⟨q7d, 9, [.tmp 6], [4]⟩ := by kernel_rfl
theorem qoN : pol.ow 130 = [] ∧ pol.fz 130 = false ∧ pol.ro 130 = false ∧ pol.pr 130 = none := ⟨rfl, rfl, rfl, rfl⟩
noncomputable def q7g : Code := (Tryz.f131.body).getD .skip
theorem qgB : ql Tryz.prog pol 131 = some ⟨q7g, 11, [.tmp 6], [4]⟩ := by kernel_rfl
theorem qmr : pol.ow 131 = [] ∧ pol.fz 131 = false ∧ pol.ro 131 = false ∧ pol.pr 131 = none := ⟨rfl, rfl, rfl, rfl⟩
noncomputable def q7O : Code := (Tryz.f132.body).getD .skip
theorem qgu : ql Tryz.prog pol 132 = some ⟨q7O, 22, [.tmp 6], [4]⟩ := by kernel_rfl
theorem qmV : pol.ow 132 = [] ∧ pol.fz 132 = false ∧ pol.ro 132 = false ∧ pol.pr 132 = none := ⟨rfl, rfl, rfl, rfl⟩
noncomputable def qdX : Code := (Tryz.f133.body).getD .skip
theorem quA : ql Tryz.prog pol 133 = some ⟨qdX, 76, [], []⟩ := by kernel_rfl
noncomputable def qdd : Code := (Tryz.f134.body).getD .skip
theorem qu3 : ql Tryz.prog pol 134 = some ⟨qdd, 7, [.tmp 2], [133]⟩ := by kernel_rfl
noncomputable def qcu : Code := (Tryz.f135.body).getD .skip
theorem qu2 : ql Tryz.prog pol 135 = some ⟨qcu, 33, [.tmp 2], [159]⟩ := by kernel_rfl
noncomputable def qcS : Code := (Tryz.f136.body).getD .skip
theorem qun : ql Tryz.prog pol 136 = some ⟨qcS, 15, [.tmp 6], [3]⟩ := by kernel_rfl
noncomputable def qcz : Code := (Tryz.f137.body).getD .skip
theorem quO : ql Tryz.prog pol 137 = some ⟨qcz, 36, [.tmp 10], [3]⟩ := by kernel_rfl
noncomputable def qcP : Code := (Tryz.f138.body).getD .skip
theorem qtc : ql Tryz.prog pol 138 = some ⟨qcP, 6, [.tmp 2], [4]⟩ := by kernel_rfl
noncomputable def q5F : Code := (Tryz.f139.body).getD .skip
theorem qf2 : ql Tryz.prog pol 139 = some ⟨q5F, 12, [.tmp 4], [159]⟩ := by kernel_rfl
theorem qqa : pol.ow 139 = [] ∧ pol.fz 139 = false ∧ pol.ro 139 = false ∧ pol.pr 139 = none := ⟨rfl, rfl, rfl, rfl⟩
noncomputable def q7e : Code := (Tryz.f140.body).getD .skip
theorem qfP : ql Tryz.prog pol 140 = some ⟨q7e, 10, [.tmp 2], [159]⟩ := by kernel_rfl
theorem qq7 : pol.ow 140 = [] ∧ pol.fz 140 = false ∧ pol.ro 140 = false ∧ pol.pr 140 = none := ⟨rfl, rfl, rfl, rfl⟩
noncomputable def qcX : Code := (Tryz.f141.body).getD .skip
theorem qtr : ql Tryz.prog pol 141 = some ⟨qcX, 28, [], []⟩ := by kernel_rfl
noncomputable def qeX : Code := (Tryz.f142.body).getD .skip
theorem quD : ql Tryz.prog pol 142 = some ⟨qeX, 28, [.tmp 8, .tmp 9], [3, 3]⟩ := by kernel_rfl
theorem qqb : pol.kp 4 18 = [1, 5, 7, 9, 10, 11, 14, 16, 45, 46, 47, 81, 82, 83, 97, 98, 99, 108, 109, 110] ∧ pol.rw 4 18 = [] ∧ pol.kx 4 18 = [1, 5, 6, 7, 9, 10, 11, 14, 45, 46, 47, 81, 82, 83, 97, 98, 99] := ⟨rfl, rfl, rfl⟩
theorem qph : pol.kp 4 15 = [1, 5, 7, 9, 10, 11, 14, 45, 46, 47, 81, 82, 83, 97, 98, 99] ∧ pol.rw 4 15 = [] ∧ pol.kx 4 15 = [1, 5, 6, 7, 9, 10, 11, 45, 46, 47, 81, 82, 83] := ⟨rfl, rfl, rfl⟩
theorem qp9 : pol.kp 4 12 = [1, 5, 7, 9, 10, 11, 45, 46, 47, 81, 82, 83] ∧ pol.rw 4 12 = [] ∧ pol.kx 4 12 = [1, 5, 6, 7, 45, 46, 47] := ⟨rfl, rfl, rfl⟩
theorem qsx : pol.kp 4 4 = [1, 5, 7, 45, 46, 47] ∧ pol.rw 4 4 = [] ∧ pol.kx 4 4 = [6, 7] := ⟨rfl, rfl, rfl⟩
theorem qsD : pol.kp 7 3 = [0, 3, 4] ∧ pol.rw 7 3 = [.slot 3 30 11] ∧ pol.kx 7 3 = [3] := ⟨rfl, rfl, rfl⟩
theorem qsY : pol.kp 8 8 = [1, 2, 3, 5] ∧ pol.rw 8 8 = [.cell 3 6 79 2] ∧ pol.kx 8 8 = [2, 3] := ⟨rfl, rfl, rfl⟩
theorem quR : pol.kp 8 4 = [1, 2, 3, 4] ∧ pol.rw 8 4 = [.cell 3 5 9 1] ∧ pol.kx 8 4 = [1, 2, 3] := ⟨rfl, rfl, rfl⟩
theorem qke : pol.kp 10 15 = [1, 4, 52, 53, 54, 58, 59, 60] ∧ pol.rw 10 15 = [] ∧ pol.kx 10 15 = [1, 2, 52, 53, 54] := ⟨rfl, rfl, rfl⟩
theorem qiW : pol.kp 10 12 = [1, 52, 53, 54] ∧ pol.rw 10 12 = [] ∧ pol.kx 10 12 = [1, 2] := ⟨rfl, rfl, rfl⟩
theorem qkm : pol.kp 11 20 = [1, 7] ∧ pol.rw 11 20 = [] ∧ pol.kx 11 20 = [1, 2] := ⟨rfl, rfl, rfl⟩
theorem qkd : pol.kp 11 15 = [1, 6] ∧ pol.rw 11 15 = [] ∧ pol.kx 11 15 = [1, 2] := ⟨rfl, rfl, rfl⟩
theorem qpp : pol.kp 14 5 = [2, 5, 6, 7, 8] ∧ pol.rw 14 5 = [.slot 6 53 8] ∧ pol.kx 14 5 = [6] := ⟨rfl, rfl, rfl⟩
theorem qjY : pol.kp 18 13 = [2, 3, 9, 11, 13, 48, 49, 50] ∧ pol.rw 18 13 = [.slot 13 53 8] ∧ pol.kx 18 13 = [13] := ⟨rfl, rfl, rfl⟩
theorem qjD : pol.kp 19 16 = [2, 3, 11, 13, 14] ∧ pol.rw 19 16 = [.slot 13 53 8] ∧ pol.kx 19 16 = [13] := ⟨rfl, rfl, rfl⟩
theorem qmy : pol.kp 19 5 = [2, 3, 4, 8, 9, 10] ∧ pol.rw 19 5 = [.slot 8 3 1, .slot 9 3 1] ∧ pol.kx 19 5 = [2, 3, 4, 8, 9] := ⟨rfl, rfl, rfl⟩
theorem qnI : pol.kp 20 4 = [0, 1, 5] ∧ pol.rw 20 4 = [] ∧ pol.kx 20 4 = [4] := ⟨rfl, rfl, rfl⟩
theorem qpm : pol.kp 21 4 = [1, 2, 20, 21, 22] ∧ pol.rw 21 4 = [] ∧ pol.kx 21 4 = [1, 2, 4] := ⟨rfl, rfl, rfl⟩
theorem qqz : pol.kp 22 9 = [1, 2, 5, 6] ∧ pol.rw 22 9 = [] ∧ pol.kx 22 9 = [1, 2, 4, 5] := ⟨rfl, rfl, rfl⟩
theorem qos : pol.kp 22 4 = [1, 2, 5] ∧ pol.rw 22 4 = [] ∧ pol.kx 22 4 = [1, 2, 4] := ⟨rfl, rfl, rfl⟩
theorem qnN : pol.kp 26 6 = [0, 4, 5, 6, 7] ∧ pol.rw 26 6 = [.cell 5 6 79 2] ∧ pol.kx 26 6 = [0, 4, 5] := ⟨rfl, rfl, rfl⟩
theorem qmW : pol.kp 35 3 = [3, 6, 7, 8] ∧ pol.rw 35 3 = [.slot 3 9 1] ∧ pol.kx 35 3 = [3] := ⟨rfl, rfl, rfl⟩
theorem qoM : pol.kp 43 2 = [0, 3] ∧ pol.rw 43 2 = [] ∧ pol.kx 43 2 = [2] := ⟨rfl, rfl, rfl⟩
theorem qmI : pol.kp 44 3 = [1, 3, 4] ∧ pol.rw 44 3 = [.slot 3 9 1] ∧ pol.kx 44 3 = [3] := ⟨rfl, rfl, rfl⟩
theorem qqf : pol.kp 45 2 = [0, 1, 5] ∧ pol.rw 45 2 = [] ∧ pol.kx 45 2 = [4] := ⟨rfl, rfl, rfl⟩
theorem qr0 : pol.kp 51 3 = [1, 5, 8, 9, 10] ∧ pol.rw 51 3 = [.slot 5 3 1] ∧ pol.kx 51 3 = [5] := ⟨rfl, rfl, rfl⟩
theorem qqm : pol.kp 56 9 = [4, 5, 6, 9, 13, 14, 15, 21, 22, 23] ∧ pol.rw 56 9 = [.slot 5 3 1] ∧ pol.kx 56 9 = [4, 5, 6, 13, 14, 15] := ⟨rfl, rfl, rfl⟩
theorem qqO : pol.kp 56 5 = [4, 5, 6, 13, 14, 15] ∧ pol.rw 56 5 = [.slot 5 3 1] ∧ pol.kx 56 5 = [5, 6] := ⟨rfl, rfl, rfl⟩
theorem qnj : pol.kp 57 3 = [1, 5, 8, 9, 10] ∧ pol.rw 57 3 = [.slot 5 45 1] ∧ pol.kx 57 3 = [5] := ⟨rfl, rfl, rfl⟩
theorem qrl : pol.kp 64 3 = [0, 3, 4] ∧ pol.rw 64 3 = [] ∧ pol.kx 64 3 = [3] := ⟨rfl, rfl, rfl⟩
theorem qkg : pol.kp 65 12 = [0, 3, 4, 5, 7] ∧ pol.rw 65 12 = [] ∧ pol.kx 65 12 = [0, 3, 4, 5] := ⟨rfl, rfl, rfl⟩
theorem qq9 : pol.kp 65 6 = [0, 3, 4, 5] ∧ pol.rw 65 6 = [.slot 3 3 1] ∧ pol.kx 65 6 = [0, 3, 4] := ⟨rfl, rfl, rfl⟩
theorem qqe : pol.kp 65 3 = [0, 3, 4] ∧ pol.rw 65 3 = [.slot 3 3 1] ∧ pol.kx 65 3 = [3] := ⟨rfl, rfl, rfl⟩
theorem qrh : pol.kp 66 4 = [0, 1, 12, 13] ∧ pol.rw 66 4 = [] ∧ pol.kx 66 4 = [4] := ⟨rfl, rfl, rfl⟩
theorem qqE : pol.kp 67 4 = [0, 1, 5] ∧ pol.rw 67 4 = [] ∧ pol.kx 67 4 = [4] := ⟨rfl, rfl, rfl⟩
theorem qnh : pol.kp 68 5 = [0, 1, 5, 6] ∧ pol.rw 68 5 = [] ∧ pol.kx 68 5 = [0, 1, 4, 5] := ⟨rfl, rfl, rfl⟩
theorem qpO : pol.kp 68 2 = [0, 1, 5] ∧ pol.rw 68 2 = [] ∧ pol.kx 68 2 = [4] := ⟨rfl, rfl, rfl⟩
theorem qo9 : pol.kp 74 5 = [0, 3, 4, 5] ∧ pol.rw 74 5 = [] ∧ pol.kx 74 5 = [0, 3, 4, 5] := ⟨rfl, rfl, rfl⟩
theorem qqx : pol.kp 74 3 = [0, 3, 4] ∧ pol.rw 74 3 = [] ∧ pol.kx 74 3 = [3] := ⟨rfl, rfl, rfl⟩
theorem qnT : pol.kp 81 2 = [0, 1, 7, 8] ∧ pol.rw 81 2 = [] ∧ pol.kx 81 2 = [4] := ⟨rfl, rfl, rfl⟩
theorem qpN : pol.kp 82 2 = [0, 1, 7, 8] ∧ pol.rw 82 2 = [] ∧ pol.kx 82 2 = [4] := ⟨rfl, rfl, rfl⟩
theorem qqU : pol.kp 84 2 = [0, 3] ∧ pol.rw 84 2 = [] ∧ pol.kx 84 2 = [0, 2] := ⟨rfl, rfl, rfl⟩
theorem qps : pol.kp 86 2 = [1, 9, 10, 11] ∧ pol.rw 86 2 = [] ∧ pol.kx 86 2 = [1, 2] := ⟨rfl, rfl, rfl⟩
theorem qmL : pol.kp 87 8 = [1, 4, 6, 7, 8, 29, 30, 31] ∧ pol.rw 87 8 = [] ∧ pol.kx 87 8 = [4, 5, 6, 7] := ⟨rfl, rfl, rfl⟩
theorem qoj : pol.kp 93 5 = [0, 3, 4] ∧ pol.rw 93 5 = [] ∧ pol.kx 93 5 = [3] := ⟨rfl, rfl, rfl⟩
theorem qmJ : pol.kp 96 8 = [0, 1, 4, 6, 7, 8] ∧ pol.rw 96 8 = [] ∧ pol.kx 96 8 = [4, 5, 6, 7] := ⟨rfl, rfl, rfl⟩
theorem qk4 : pol.kp 104 4 = [0, 1, 5] ∧ pol.rw 104 4 = [] ∧ pol.kx 104 4 = [0, 1, 5] := ⟨rfl, rfl, rfl⟩
theorem qje : pol.kp 107 2 = [1, 2, 10] ∧ pol.rw 107 2 = [] ∧ pol.kx 107 2 = [6] := ⟨rfl, rfl, rfl⟩
theorem qja : pol.kp 127 5 = [3, 5, 6, 7, 8] ∧ pol.rw 127 5 = [] ∧ pol.kx 127 5 = [3, 6, 7, 8] := ⟨rfl, rfl, rfl⟩
theorem qjv : pol.kp 127 3 = [3, 6, 7, 8] ∧ pol.rw 127 3 = [] ∧ pol.kx 127 3 = [3] := ⟨rfl, rfl, rfl⟩
theorem qlC : pol.kp 139 1 = [0, 1] ∧ pol.rw 139 1 = [] ∧ pol.kx 139 1 = [0] := ⟨rfl, rfl, rfl⟩
noncomputable def qfb : Code := (qL 18 q8a).getD .skip
noncomputable def qdl : Code := (qL 15 q8a).getD .skip
noncomputable def qaD : Code := (qL 12 q8a).getD .skip
noncomputable def qjV : Code := (qL 4 q8a).getD .skip
noncomputable def ql0 : Code := (qL 3 qdm).getD .skip
noncomputable def qlu : Code := (qL 8 qc1).getD .skip
noncomputable def qlT : Code := (qL 4 qc1).getD .skip
noncomputable def q9b : Code := (qL 15 q6z).getD .skip
noncomputable def q9r : Code := (qL 12 q6z).getD .skip
noncomputable def q9s : Code := (qL 20 q6V).getD .skip
noncomputable def q9O : Code := (qL 15 q6V).getD .skip
noncomputable def qdZ : Code := (qL 5 q8J).getD .skip
noncomputable def q9N : Code := (qL 13 q91).getD .skip
noncomputable def q9G : Code := (qL 16 q6U).getD .skip
noncomputable def qea : Code := (qL 5 q6U).getD .skip
noncomputable def qdQ : Code := (qL 4 q8C).getD .skip
noncomputable def qem : Code := (qL 4 q8D).getD .skip
noncomputable def qcq : Code := (qL 9 q6A).getD .skip
noncomputable def qdb : Code := (qL 4 q6A).getD .skip
noncomputable def qei : Code := (qL 6 q8e).getD .skip
noncomputable def qcY : Code := (qL 3 q89).getD .skip
noncomputable def qdw : Code := (qL 2 q8m).getD .skip
noncomputable def qcj : Code := (qL 3 q7Y).getD .skip
noncomputable def qdg : Code := (qL 2 q8V).getD .skip
noncomputable def q8b : Code := (qL 3 q8k).getD .skip
noncomputable def qeT : Code := (qL 9 q6L).getD .skip
noncomputable def qey : Code := (qL 5 q6L).getD .skip
noncomputable def qeY : Code := (qL 3 q7V).getD .skip
noncomputable def qeC : Code := (qL 3 q8G).getD .skip
noncomputable def q9t : Code := (qL 12 q5H).getD .skip
noncomputable def qeq : Code := (qL 6 q5H).getD .skip
noncomputable def qej : Code := (qL 3 q5H).getD .skip
noncomputable def qen : Code := (qL 4 q8S).getD .skip
noncomputable def qcL : Code := (qL 4 q8w).getD .skip
noncomputable def qcy : Code := (qL 5 q6R).getD .skip
noncomputable def qd7 : Code := (qL 2 q6R).getD .skip
noncomputable def qag : Code := (qL 5 q6J).getD .skip
noncomputable def qaw : Code := (qL 3 q6J).getD .skip
noncomputable def qaf : Code := (qL 2 q8B).getD .skip
noncomputable def qdD : Code := (qL 2 q8y).getD .skip
noncomputable def qdW : Code := (qL 2 q8l).getD .skip
noncomputable def qcQ : Code := (qL 2 q82).getD .skip
noncomputable def qef : Code := (qL 8 q88).getD .skip
noncomputable def qdc : Code := (qL 5 q84).getD .skip
noncomputable def qdf : Code := (qL 8 q8u).getD .skip
noncomputable def q9v : Code := (qL 4 q5c).getD .skip
noncomputable def q93 : Code := (qL 2 q5f).getD .skip
noncomputable def q97 : Code := (qL 5 q3A).getD .skip
noncomputable def qa2 : Code := (qL 3 q3A).getD .skip
noncomputable def q9g : Code := (qL 1 q5F).getD .skip
noncomputable def bdt (t : Nat) : Option Bd := bif Nat.blt t 143 then (bif Nat.blt t 71 then (bif Nat.blt t 35 then (bif Nat.blt t 17 then (bif Nat.blt t 8 then (bif Nat.blt t 4 then (bif Nat.blt t 2 then none else (bif Nat.blt t 3 then some ⟨qr6, 1, [], []⟩ else some ⟨qp5, 85, [.tmp 6], [4]⟩)) else (bif Nat.blt t 6 then (bif Nat.blt t 5 then some ⟨q8a, 151, [.tmp 6], [4]⟩ else some ⟨qoJ, 184, [.tmp 6], [4]⟩) else (bif Nat.blt t 7 then some ⟨qnL, 215, [.tmp 0], [4]⟩ else some ⟨qdm, 29, [.tmp 2], [37]⟩))) else (bif Nat.blt t 12 then (bif Nat.blt t 10 then (bif Nat.blt t 9 then some ⟨qc1, 77, [.cell 2 30], [30]⟩ else some ⟨qfG, 154, [.cell 4 30], [30]⟩) else (bif Nat.blt t 11 then some ⟨q6z, 100, [.tmp 2], [41]⟩ else some ⟨q6V, 137, [.tmp 2], [41]⟩)) else (bif Nat.blt t 14 then (bif Nat.blt t 13 then some ⟨qb3, 11, [.tmp 4], [4]⟩ else some ⟨qbi, 11, [.tmp 4], [4]⟩) else (bif Nat.blt t 15 then some ⟨q8J, 89, [.tmp 4], [33]⟩ else (bif Nat.blt t 16 then some ⟨qbg, 12, [.tmp 4], [3]⟩ else some ⟨qaN, 70, [.cell 4 53], [53]⟩))))) else (bif Nat.blt t 26 then (bif Nat.blt t 21 then (bif Nat.blt t 19 then (bif Nat.blt t 18 then some ⟨qbk, 11, [.cell 2 32], [32]⟩ else some ⟨q91, 81, [.tmp 6, .tmp 7], [33, 41]⟩) else (bif Nat.blt t 20 then some ⟨q6U, 103, [.tmp 6, .tmp 7], [33, 41]⟩ else some ⟨q8C, 29, [.tmp 4], [4]⟩)) else (bif Nat.blt t 23 then (bif Nat.blt t 22 then some ⟨q8D, 62, [.tmp 4], [4]⟩ else some ⟨q6A, 74, [.tmp 4], [4]⟩) else (bif Nat.blt t 24 then some ⟨qih, 66, [.tmp 8, .tmp 9], [37, 41]⟩ else (bif Nat.blt t 25 then some ⟨qhK, 69, [.tmp 8, .tmp 9], [37, 41]⟩ else some ⟨qhN, 27, [.tmp 4], [4]⟩)))) else (bif Nat.blt t 30 then (bif Nat.blt t 28 then (bif Nat.blt t 27 then some ⟨q8e, 87, [.cell 4 30], [30]⟩ else some ⟨qiE, 37, [.tmp 4, .tmp 5], [37, 41]⟩) else (bif Nat.blt t 29 then some ⟨qiu, 52, [.tmp 4, .tmp 5], [37, 41]⟩ else some ⟨qhP, 21, [.cell 0 30, .tmp 1], [30, 33]⟩)) else (bif Nat.blt t 32 then (bif Nat.blt t 31 then some ⟨qas, 56, [.tmp 4], [4]⟩ else some ⟨qb6, 14, [.cell 2 30], [30]⟩) else (bif Nat.blt t 33 then some ⟨qba, 2, [.tmp 0], [25]⟩ else (bif Nat.blt t 34 then some ⟨qa9, 15, [.tmp 6], [4]⟩ else some ⟨qaF, 9, [.tmp 2], [4]⟩)))))) else (bif Nat.blt t 53 then (bif Nat.blt t 44 then (bif Nat.blt t 39 then (bif Nat.blt t 37 then (bif Nat.blt t 36 then some ⟨q89, 19, [.tmp 2], [25]⟩ else some ⟨qaQ, 17, [.tmp 2], [4]⟩) else (bif Nat.blt t 38 then some ⟨qap, 9, [.tmp 4], [4]⟩ else some ⟨qaJ, 6, [.tmp 2], [4]⟩)) else (bif Nat.blt t 41 then (bif Nat.blt t 40 then some ⟨qaS, 9, [.tmp 3], [4]⟩ else some ⟨qau, 9, [.tmp 4], [4]⟩) else (bif Nat.blt t 42 then some ⟨qah, 33, [.tmp 2], [41]⟩ else (bif Nat.blt t 43 then some ⟨qb7, 9, [.tmp 2], [4]⟩ else some ⟨q8m, 32, [.tmp 2], [41]⟩)))) else (bif Nat.blt t 48 then (bif Nat.blt t 46 then (bif Nat.blt t 45 then some ⟨q7Y, 22, [.tmp 2], [25]⟩ else some ⟨q8V, 18, [.tmp 4], [4]⟩) else (bif Nat.blt t 47 then some ⟨qbn, 33, [.tmp 2], [41]⟩ else some ⟨qae, 19, [.tmp 6], [4]⟩)) else (bif Nat.blt t 50 then (bif Nat.blt t 49 then some ⟨qbv, 19, [.tmp 6], [4]⟩ else some ⟨qac, 35, [.tmp 4], [3]⟩) else (bif Nat.blt t 51 then some ⟨qbb, 14, [.cell 2 53], [53]⟩ else (bif Nat.blt t 52 then some ⟨q8k, 22, [.tmp 4], [45]⟩ else some ⟨qaK, 5, [.tmp 2], [3]⟩))))) else (bif Nat.blt t 62 then (bif Nat.blt t 57 then (bif Nat.blt t 55 then (bif Nat.blt t 54 then some ⟨qaB, 57, [.tmp 8, .tmp 9], [3, 41]⟩ else some ⟨qaM, 5, [.tmp 2], [3]⟩) else (bif Nat.blt t 56 then some ⟨qb9, 10, [.tmp 4], [4]⟩ else some ⟨q6L, 44, [.tmp 2, .tmp 3], [45, 4]⟩)) else (bif Nat.blt t 59 then (bif Nat.blt t 58 then some ⟨q7V, 22, [.tmp 4], [22]⟩ else some ⟨qa8, 5, [.tmp 2], [45]⟩) else (bif Nat.blt t 60 then some ⟨qiG, 11, [], []⟩ else (bif Nat.blt t 61 then some ⟨qal, 6, [.tmp 2], [3]⟩ else some ⟨qhV, 8, [.tmp 2], [45]⟩)))) else (bif Nat.blt t 66 then (bif Nat.blt t 64 then (bif Nat.blt t 63 then some ⟨qb2, 64, [.tmp 8, .tmp 9], [3, 41]⟩ else some ⟨qbm, 10, [.tmp 4], [4]⟩) else (bif Nat.blt t 65 then some ⟨q8G, 28, [.tmp 2], [3]⟩ else some ⟨q5H, 75, [.tmp 2], [45]⟩)) else (bif Nat.blt t 68 then (bif Nat.blt t 67 then some ⟨q8S, 26, [.tmp 4], [4]⟩ else some ⟨q8w, 26, [.tmp 4], [4]⟩) else (bif Nat.blt t 69 then some ⟨q6R, 28, [.tmp 4], [4]⟩ else (bif Nat.blt t 70 then some ⟨qix, 8, [.tmp 4], [3]⟩ else some ⟨qid, 38, [.tmp 2], [37]⟩))))))) else (bif Nat.blt t 107 then (bif Nat.blt t 89 then (bif Nat.blt t 80 then (bif Nat.blt t 75 then (bif Nat.blt t 73 then (bif Nat.blt t 72 then some ⟨qi7, 20, [.tmp 4], [3]⟩ else some ⟨qi9, 20, [.tmp 2], [37]⟩) else (bif Nat.blt t 74 then some ⟨qiA, 83, [.tmp 4], [4]⟩ else some ⟨q6J, 33, [.tmp 2], [25]⟩)) else (bif Nat.blt t 77 then (bif Nat.blt t 76 then some ⟨qbt, 39, [.cell 6 28], [28]⟩ else some ⟨qhB, 19, [.tmp 4], [3]⟩) else (bif Nat.blt t 78 then some ⟨qio, 9, [.tmp 3], [4]⟩ else (bif Nat.blt t 79 then some ⟨qhM, 95, [.tmp 6], [37]⟩ else some ⟨qbo, 17, [.tmp 2], [4]⟩)))) else (bif Nat.blt t 84 then (bif Nat.blt t 82 then (bif Nat.blt t 81 then some ⟨qaC, 8, [.tmp 4], [3]⟩ else some ⟨q8B, 19, [.tmp 4], [3]⟩) else (bif Nat.blt t 83 then some ⟨q8y, 19, [.tmp 4], [3]⟩ else some ⟨qb0, 16, [.tmp 6], [3]⟩)) else (bif Nat.blt t 86 then (bif Nat.blt t 85 then some ⟨q8l, 46, [.tmp 2], [4]⟩ else some ⟨qaa, 14, [.tmp 4], [4]⟩) else (bif Nat.blt t 87 then some ⟨q82, 37, [.tmp 2], [41]⟩ else (bif Nat.blt t 88 then some ⟨q88, 51, [.cell 4 125, .tmp 5], [125, 41]⟩ else some ⟨qao, 32, [.tmp 6], [3]⟩))))) else (bif Nat.blt t 98 then (bif Nat.blt t 93 then (bif Nat.blt t 91 then (bif Nat.blt t 90 then some ⟨qbq, 26, [.tmp 6], [4]⟩ else some ⟨qhG, 9, [.tmp 2], [129]⟩) else (bif Nat.blt t 92 then some ⟨qhO, 134, [], []⟩ else some ⟨qhR, 8, [.tmp 2], [3]⟩)) else (bif Nat.blt t 95 then (bif Nat.blt t 94 then some ⟨q84, 25, [.tmp 2], [3]⟩ else some ⟨qam, 5, [.tmp 2], [3]⟩) else (bif Nat.blt t 96 then some ⟨qbs, 40, [.tmp 2], [41]⟩ else (bif Nat.blt t 97 then some ⟨q8u, 73, [.cell 4 125, .tmp 5], [125, 41]⟩ else some ⟨qbe, 57, [.tmp 6], [3]⟩)))) else (bif Nat.blt t 102 then (bif Nat.blt t 100 then (bif Nat.blt t 99 then some ⟨qaG, 22, [.tmp 6], [4]⟩ else some ⟨qb8, 9, [.tmp 4], [4]⟩) else (bif Nat.blt t 101 then some ⟨qdy, 8, [.tmp 3], [4]⟩ else some ⟨qeN, 8, [.tmp 2], [25]⟩)) else (bif Nat.blt t 104 then (bif Nat.blt t 103 then some ⟨qed, 8, [.tmp 2], [26]⟩ else some ⟨qcN, 26, [.tmp 4], [4]⟩) else (bif Nat.blt t 105 then some ⟨q5c, 39, [.tmp 4], [25]⟩ else (bif Nat.blt t 106 then none else some ⟨qco, 10, [], []⟩)))))) else (bif Nat.blt t 125 then (bif Nat.blt t 116 then (bif Nat.blt t 111 then (bif Nat.blt t 109 then (bif Nat.blt t 108 then some ⟨q5f, 21, [.tmp 6], [3]⟩ else some ⟨q7r, 25, [.tmp 6], [4]⟩) else (bif Nat.blt t 110 then some ⟨q7c, 49, [.cell 4 125, .tmp 5], [125, 41]⟩ else some ⟨q77, 6, [.cell 0 145], [145]⟩)) else (bif Nat.blt t 113 then (bif Nat.blt t 112 then some ⟨q7j, 18, [.tmp 4], [4]⟩ else none) else (bif Nat.blt t 114 then some ⟨qex, 49, [], []⟩ else (bif Nat.blt t 115 then some ⟨qdB, 56, [], []⟩ else some ⟨qfh, 65, [], []⟩)))) else (bif Nat.blt t 120 then (bif Nat.blt t 118 then (bif Nat.blt t 117 then some ⟨qdK, 57, [.tmp 6, .tmp 7], [3, 149]⟩ else some ⟨qd4, 32, [], []⟩) else (bif Nat.blt t 119 then some ⟨qe2, 133, [.tmp 6], [4]⟩ else some ⟨qe7, 17, [.tmp 4], [4]⟩)) else (bif Nat.blt t 122 then (bif Nat.blt t 121 then some ⟨qcx, 84, [.tmp 8], [3]⟩ else some ⟨qeP, 168, [.tmp 8, .tmp 9], [3, 4]⟩) else (bif Nat.blt t 123 then none else (bif Nat.blt t 124 then none else some ⟨q7q, 48, [.cell 4 125, .tmp 5], [125, 41]⟩))))) else (bif Nat.blt t 134 then (bif Nat.blt t 129 then (bif Nat.blt t 127 then (bif Nat.blt t 126 then some ⟨q7h, 26, [.tmp 4], [4]⟩ else some ⟨qcp, 14, [], []⟩) else (bif Nat.blt t 128 then some ⟨q3A, 20, [.tmp 2], [159]⟩ else some ⟨q74, 10, [.tmp 2], [159]⟩)) else (bif Nat.blt t 131 then (bif Nat.blt t 130 then some ⟨q7C, 7, [.tmp 6], [4]⟩ else some ⟨q7d, 9, [.tmp 6], [4]⟩) else (bif Nat.blt t 132 then some ⟨q7g, 11, [.tmp 6], [4]⟩ else (bif Nat.blt t 133 then some ⟨q7O, 22, [.tmp 6], [4]⟩ else some ⟨qdX, 76, [], []⟩)))) else (bif Nat.blt t 138 then (bif Nat.blt t 136 then (bif Nat.blt t 135 then some ⟨qdd, 7, [.tmp 2], [133]⟩ else some ⟨qcu, 33, [.tmp 2], [159]⟩) else (bif Nat.blt t 137 then some ⟨qcS, 15, [.tmp 6], [3]⟩ else some ⟨qcz, 36, [.tmp 10], [3]⟩)) else (bif Nat.blt t 140 then (bif Nat.blt t 139 then some ⟨qcP, 6, [.tmp 2], [4]⟩ else some ⟨q5F, 12, [.tmp 4], [159]⟩) else (bif Nat.blt t 141 then some ⟨q7e, 10, [.tmp 2], [159]⟩ else (bif Nat.blt t 142 then some ⟨qcX, 28, [], []⟩ else some ⟨qeX, 28, [.tmp 8, .tmp 9], [3, 3]⟩)))))))) else none
theorem qqg : ∀ (f : Nat) (bd : Bd), bdt f = some bd → ql Tryz.prog pol f = some bd
  | 0, bd, h => by cases h
  | 1, bd, h => by cases h
  | 2, bd, h => bd2.trans h
  | 3, bd, h => bd3.trans h
  | 4, bd, h => bd4.trans h
  | 5, bd, h => bd5.trans h
  | 6, bd, h => bd6.trans h
  | 7, bd, h => bd7.trans h
  | 8, bd, h => bd8.trans h
  | 9, bd, h => bd9.trans h
  | 10, bd, h => qm1.trans h
  | 11, bd, h => qlZ.trans h
  | 12, bd, h => qsa.trans h
  | 13, bd, h => qrO.trans h
  | 14, bd, h => qqt.trans h
  | 15, bd, h => qsb.trans h
  | 16, bd, h => qrx.trans h
  | 17, bd, h => qrS.trans h
  | 18, bd, h => qog.trans h
  | 19, bd, h => qmd.trans h
  | 20, bd, h => qoC.trans h
  | 21, bd, h => qp6.trans h
  | 22, bd, h => qm5.trans h
  | 23, bd, h => qxM.trans h
  | 24, bd, h => qxc.trans h
  | 25, bd, h => qyI.trans h
  | 26, bd, h => qr8.trans h
  | 27, bd, h => qxs.trans h
  | 28, bd, h => qxv.trans h
  | 29, bd, h => qz1.trans h
  | 30, bd, h => qrp.trans h
  | 31, bd, h => qrG.trans h
  | 32, bd, h => qs4.trans h
  | 33, bd, h => qrZ.trans h
  | 34, bd, h => qrX.trans h
  | 35, bd, h => qpK.trans h
  | 36, bd, h => qrN.trans h
  | 37, bd, h => qmo.trans h
  | 38, bd, h => qs7.trans h
  | 39, bd, h => qs9.trans h
  | 40, bd, h => qrI.trans h
  | 41, bd, h => qrJ.trans h
  | 42, bd, h => qs2.trans h
  | 43, bd, h => qnJ.trans h
  | 44, bd, h => qpf.trans h
  | 45, bd, h => qpk.trans h
  | 46, bd, h => qsf.trans h
  | 47, bd, h => qsk.trans h
  | 48, bd, h => qrE.trans h
  | 49, bd, h => qrr.trans h
  | 50, bd, h => qrH.trans h
  | 51, bd, h => qku.trans h
  | 52, bd, h => qsh.trans h
  | 53, bd, h => qrD.trans h
  | 54, bd, h => qrQ.trans h
  | 55, bd, h => qrK.trans h
  | 56, bd, h => qm9.trans h
  | 57, bd, h => qol.trans h
  | 58, bd, h => qrT.trans h
  | 59, bd, h => qzR.trans h
  | 60, bd, h => qs1.trans h
  | 61, bd, h => qzP.trans h
  | 62, bd, h => qry.trans h
  | 63, bd, h => qsj.trans h
  | 64, bd, h => qmH.trans h
  | 65, bd, h => qkj.trans h
  | 66, bd, h => qqc.trans h
  | 67, bd, h => qpP.trans h
  | 68, bd, h => qm3.trans h
  | 69, bd, h => qx4.trans h
  | 70, bd, h => qA0.trans h
  | 71, bd, h => qyl.trans h
  | 72, bd, h => qz9.trans h
  | 73, bd, h => qxh.trans h
  | 74, bd, h => qm2.trans h
  | 75, bd, h => qs0.trans h
  | 76, bd, h => qxK.trans h
  | 77, bd, h => qy8.trans h
  | 78, bd, h => qz5.trans h
  | 79, bd, h => qsm.trans h
  | 80, bd, h => qrM.trans h
  | 81, bd, h => qm8.trans h
  | 82, bd, h => qnV.trans h
  | 83, bd, h => qrs.trans h
  | 84, bd, h => qrj.trans h
  | 85, bd, h => qs5.trans h
  | 86, bd, h => qnz.trans h
  | 87, bd, h => qnK.trans h
  | 88, bd, h => qrw.trans h
  | 89, bd, h => qru.trans h
  | 90, bd, h => qyW.trans h
  | 91, bd, h => qyh.trans h
  | 92, bd, h => qxn.trans h
  | 93, bd, h => qmk.trans h
  | 94, bd, h => qrn.trans h
  | 95, bd, h => qrR.trans h
  | 96, bd, h => qnq.trans h
  | 97, bd, h => qrC.trans h
  | 98, bd, h => qs6.trans h
  | 99, bd, h => qsl.trans h
  | 100, bd, h => qt2.trans h
  | 101, bd, h => qt0.trans h
  | 102, bd, h => qtu.trans h
  | 103, bd, h => qsQ.trans h
  | 104, bd, h => qeF.trans h
  | 105, bd, h => by cases h
  | 106, bd, h => qtU.trans h
  | 107, bd, h => qcI.trans h
  | 108, bd, h => qgf.trans h
  | 109, bd, h => qgt.trans h
  | 110, bd, h => qg6.trans h
  | 111, bd, h => qh0.trans h
  | 112, bd, h => by cases h
  | 113, bd, h => quz.trans h
  | 114, bd, h => qur.trans h
  | 115, bd, h => qux.trans h
  | 116, bd, h => qsV.trans h
  | 117, bd, h => qsX.trans h
  | 118, bd, h => qt7.trans h
  | 119, bd, h => qum.trans h
  | 120, bd, h => qsN.trans h
  | 121, bd, h => qsu.trans h
  | 122, bd, h => by cases h
  | 123, bd, h => by cases h
  | 124, bd, h => qgm.trans h
  | 125, bd, h => qgO.trans h
  | 126, bd, h => qua.trans h
  | 127, bd, h => qbD.trans h
  | 128, bd, h => qgQ.trans h
  | 129, bd, h => qgo.trans h
  | 130, bd, h => qgZ.trans h
  | 131, bd, h => qgB.trans h
  | 132, bd, h => qgu.trans h
  | 133, bd, h => quA.trans h
  | 134, bd, h => qu3.trans h
  | 135, bd, h => qu2.trans h
  | 136, bd, h => qun.trans h
  | 137, bd, h => quO.trans h
  | 138, bd, h => qtc.trans h
  | 139, bd, h => qf2.trans h
  | 140, bd, h => qfP.trans h
  | 141, bd, h => qtr.trans h
  | 142, bd, h => quD.trans h
  | n + 143, bd, h => by
    have hb : Nat.blt (n + 143) 143 = false := by
      cases h' : Nat.blt (n + 143) 143 with
      | false => rfl
      | true => exact absurd (Nat.le_of_ble_eq_true h') (by omega)
    unfold bdt at h
    rw [hb] at h
    cases h
theorem qu0 : qts Tryz.prog pol := by
  intro f g k args G r G' hf hg
  unfold pol ppr at hf
  simp only at hf
  split at hf
  · injection hf with hf; subst hf; refine qcC (fun _ _ _ hg => ?_) hg; exact q4l qof (fn := Tryz.f61) (t := 45) (e := 3) (bt := 4) (by kernel_rfl) (by kernel_rfl) (by kernel_rfl) (by kernel_rfl) (by kernel_rfl) k45 (by rw [k3]; simp) (by rw [z3]; decide) (by kernel_rfl) hg
  · injection hf with hf; subst hf; refine qcC (fun _ _ _ hg => ?_) hg; exact q4l qof (fn := Tryz.f101) (t := 25) (e := 9) (bt := 4) (by kernel_rfl) (by kernel_rfl) (by kernel_rfl) (by kernel_rfl) (by kernel_rfl) k25 (by rw [k9]; simp) (by rw [z9]; decide) (by kernel_rfl) hg
  · injection hf with hf; subst hf; refine qcC (fun _ _ _ hg => ?_) hg; exact q4l qof (fn := Tryz.f102) (t := 26) (e := 79) (bt := 4) (by kernel_rfl) (by kernel_rfl) (by kernel_rfl) (by kernel_rfl) (by kernel_rfl) k26 (by rw [k79]; simp) (by rw [z79]; decide) (by kernel_rfl) hg
  · injection hf with hf; subst hf; exact q6Z (fn := Tryz.f90) (by kernel_rfl) (by kernel_rfl) (by kernel_rfl) (AnyW.maps_Clone qmv) (AnyW.maps_Clone_nil qmv) hg
  · cases hf
end Go.Proofs.YtplfjlcnffcenaaGreat.Vc
namespace Go.Proofs.YtplfjlcnffcenaaGreat.Vc
open Go.RowKit
theorem ZH {α β : Type} {c : Prop} [Decidable c] (a b : Option α) (f : α → Option β) : (if c then a else b).bind f = if c then a.bind f else b.bind f := by split <;> rfl
theorem mixed : (Tryz.prog).follows .mixedOrders = true := by kernel_rfl
noncomputable def evo : Orc := EE Tryz.prog T pol (D1 Tryz.prog T pol)
noncomputable def ev (f : FuncId) : Nat → List R → List (Nat × B) → Option (R × List (Nat × B)) := evo (.fn f)
theorem quF {f k : Nat} {args : List R} {G G' : List (Nat × B)} {r : R} (h : ev f k args G = some (r, G')) : AC Tryz.prog f args G k fun r' hp' => r' = r ∧ hp' = G' := (qn1 qof (quv qof mixed) qu0).fn f k args G r G' h
noncomputable def bkk (id : Nat) (r : XS) : XS := r.bind (bkD id)
def rgn (o : Option S) : XS := o.bind fun s' => some (.normal, s')
noncomputable def fnn (f k : Nat) (res : List ResultVar) (rt : List TypeId) (r : XS) : Option (R × List (Nat × B)) := r.bind (qm6 T pol f k ⟨.skip, 0, res, rt⟩)
section
variable {f k : Nat} {s : S} {b : Code} {c : Prop} [Decidable c] {x y : XS} {α : Type} {o : Option α} {g : α → XS}
theorem qbO (i : Nat) : bkk i (some (.normal, s)) = some (.normal, s) := rfl
theorem qiP (i : Nat) : bkk i (some (.ret, s)) = some (.ret, s) := rfl
theorem qh5 (i j : Nat) : bkk i (some (.exit j, s)) = if j = i then some (.normal, s) else some (.exit j, s) := rfl
theorem qfR (i : Nat) : bkk i none = none := rfl
theorem qlB (i : Nat) : bkk i (if c then x else y) = if c then bkk i x else bkk i y := ZH _ _ _
theorem qfJ (i : Nat) : bkk i (o.bind g) = o.bind fun a => bkk i (g a) := by cases o <;> rfl
theorem qg7 : rgn (some s) = some (.normal, s) := rfl
theorem qgr : rgn none = none := rfl
theorem qiI (x y : Option S) : rgn (if c then x else y) = if c then rgn x else rgn y := ZH _ _ _
theorem qhu (g : α → Option S) : rgn (o.bind g) = o.bind fun a => rgn (g a) := by cases o <;> rfl
theorem qhs (res : List ResultVar) (rt : List TypeId) (p : Exit × S) : fnn f k res rt (some p) = qm6 T pol f k ⟨.skip, 0, res, rt⟩ p := rfl
theorem qgI (res : List ResultVar) (rt : List TypeId) : fnn f k res rt none = none := rfl
theorem qjb (res : List ResultVar) (rt : List TypeId) : fnn f k res rt (if c then x else y) = if c then fnn f k res rt x else fnn f k res rt y := ZH _ _ _
theorem qgC (res : List ResultVar) (rt : List TypeId) : fnn f k res rt (o.bind g) = o.bind fun a => fnn f k res rt (g a) := by cases o <;> rfl
end
theorem qjm (f k : Nat) (args : List R) (G : List (Nat × B)) : ev f k args G = match pol.pr f with
  | some g => prx g k args G
  | none => (ql Tryz.prog pol f).bind fun bd => q3B Tryz.prog T pol (D1 Tryz.prog T pol) evo Lim f k args G bd := qo8 q3y q9u f k args G
section
variable {f k n : Nat} {s : S} {asg bd : Code} {c : Prop} [Decidable c] {x y : XS} {α : Type} {o : Option α} {g : α → XS}
end
def wst (q : RS) (d : Option Nat) : Option S := q.bind fun q => if q7I q.2 d = true then some (q.2.put d q.1) else none
def wsF (q : RS) (s : S) (o : Oper) : Option (S × Tx) := q.bind fun q => if q7I q.2 o.dst = true then (qdR pol s q.2 q.1 o.op).bind fun fp => some ((q.2.kill fp.ks).put o.dst q.1, (q.1, fp.wb.map fun x => (x, q.2.blk x)), fp) else none
def cll (q : Option (R × List (Nat × B))) (s : S) (bl rw ln : List Nat) : RS := q.bind fun q => if qjy ln q.1 q.2 = true then some (q.1.rn (ren (bl ++ rw) s.nx), s.aft (bl ++ rw) bl.length q.2) else none
section
variable {s : S} {o : Oper} {c : Prop} [Decidable c] {α : Type} {v : Option α} {ops l : List Oper} {A : List (List Nat)} {s0 : S} {m : Nat} {acc : List Tx}
theorem qgh (r : R) (d : Option Nat) : wst (some (r, s)) d = if q7I s d = true then some (s.put d r) else none := rfl
theorem qhv (d : Option Nat) : wst none d = none := rfl
theorem qkL (x y : RS) (d : Option Nat) : wst (if c then x else y) d = if c then wst x d else wst y d := ZH _ _ _
theorem qh6 (g : α → RS) (d : Option Nat) : wst (v.bind g) d = v.bind fun a => wst (g a) d := by cases v <;> rfl
theorem qgM (r : R) (s' : S) : wsF (some (r, s')) s o = if q7I s' o.dst = true then (qdR pol s s' r o.op).bind fun fp => some ((s'.kill fp.ks).put o.dst r, (r, fp.wb.map fun x => (x, s'.blk x)), fp) else none := rfl
theorem qgN : wsF none s o = none := rfl
theorem qjZ (x y : RS) : wsF (if c then x else y) s o = if c then wsF x s o else wsF y s o := ZH _ _ _
theorem qfL (g : α → RS) : wsF (v.bind g) s o = v.bind fun a => wsF (g a) s o := by cases v <;> rfl
theorem qhx (r : R) (hp : List (Nat × B)) (bl rw ln : List Nat) : cll (some (r, hp)) s bl rw ln = if qjy ln r hp = true then some (r.rn (ren (bl ++ rw) s.nx), s.aft (bl ++ rw) bl.length hp) else none := rfl
theorem qgW (g : α → Option (R × List (Nat × B))) (bl rw ln : List Nat) : cll (v.bind g) s bl rw ln = v.bind fun a => cll (g a) s bl rw ln := by cases v <;> rfl
end
def ldx (T : Ty) (cs : List C) (off : Nat) (t : TypeId) : Option R :=
  match T.k t with
  | .st _ | .arr _ _ => if off + T.sz t ≤ cs.length then some (.agg ((cs.drop off).take (T.sz t))) else none
  | .other => none
  | _ => (cs[off]?).map .c
theorem qlQ (c : C) (cs : List C) (off : Nat) (t : TypeId) : ld T (c :: cs) off t = ldx T (c :: cs) off t := rfl
section
variable {α : Type} {enc : α → List D} {sz : Nat}
theorem q07 (hsz : ∀ x, (enc x).length = sz) : ∀ l : List α, (l.flatMap enc).length = l.length * sz
  | [] => by simp
  | x :: l => by rw [List.flatMap_cons, List.length_append, hsz, q07 hsz l, List.length_cons, Nat.add_mul]; omega
theorem q8Q (hsz : ∀ x, (enc x).length = sz) : ∀ (l : List α) (k : Nat) (x : α), l[k]? = some x → ∃ post, (l.flatMap enc).drop (k * sz) = enc x ++ post
  | [], k, x, h => by simp at h
  | y :: l, 0, x, h => by
    simp only [List.getElem?_cons_zero, Option.some.injEq] at h
    subst h
    exact ⟨l.flatMap enc, by simp⟩
  | y :: l, k + 1, x, h => by
    obtain ⟨post, hp⟩ := q8Q hsz l k x (by simpa using h)
    refine ⟨post, ?_⟩
    rw [List.flatMap_cons, show (k + 1) * sz = (enc y).length + k * sz by rw [hsz, Nat.add_mul]; omega, List.drop_length_add_append]
    exact hp
theorem q1w (hsz : ∀ x, (enc x).length = sz) (l : List α) (k fo : Nat) (t : TypeId) (h0 : 0 < T.sz t) (hf : fo + T.sz t ≤ sz) : ld T ((l.flatMap enc).map C.d) (k * sz + fo) t = (l[k]?).bind fun x => ld T ((enc x).map C.d) fo t := by
  have hl := q07 hsz l
  cases hk : l[k]? with
  | none =>
    have hle : l.length ≤ k := by simpa using hk
    have hle2 : l.length * sz ≤ k * sz := Nat.mul_le_mul_right _ hle
    show ld T _ _ t = none
    unfold ld
    split
    · rw [if_neg (by rw [List.length_map, hl]; omega)]
    · rw [if_neg (by rw [List.length_map, hl]; omega)]
    · rfl
    · rw [List.getElem?_eq_none (by rw [List.length_map, hl]; omega)]; rfl
  | some x =>
    obtain ⟨post, hp⟩ := q8Q hsz l k x hk
    have hx := hsz x
    have hlen : k * sz + sz ≤ l.length * sz := by
      have : k < l.length := (List.getElem?_eq_some_iff.1 hk).1
      have := Nat.mul_le_mul_right sz (show k + 1 ≤ l.length from this)
      rw [Nat.add_mul] at this; omega
    have hd : ∀ n, n + fo ≤ sz → (((l.flatMap enc).map C.d).drop (k * sz + fo)).take n = (((enc x).map C.d).drop fo).take n := fun n hn => by
      rw [← List.drop_drop, ← List.map_drop, hp, List.map_append, List.drop_append_of_le_length (by simp [hx]; omega), List.take_append_of_le_length (by simp [hx]; omega)]
    show _ = ld T _ fo t
    unfold ld
    split
    · rw [if_pos (by rw [List.length_map, hl]; omega), if_pos (by rw [List.length_map, hx]; omega), hd _ (by omega)]
    · rw [if_pos (by rw [List.length_map, hl]; omega), if_pos (by rw [List.length_map, hx]; omega), hd _ (by omega)]
    · rfl
    · have h1 : (((l.flatMap enc).map C.d).drop (k * sz))[fo]? = ((enc x).map C.d)[fo]? := by
        rw [← List.map_drop, hp, List.map_append, List.getElem?_append_left (by simp [hx]; omega)]
      rw [List.getElem?_drop] at h1
      rw [h1]
theorem q1S (hsz : ∀ x, (enc x).length = 1) (l : List α) (k : Nat) (t : TypeId) (h : T.sz t = 1) : ld T ((l.flatMap enc).map C.d) k t = (l[k]?).bind fun x => ld T ((enc x).map C.d) 0 t := by
  have := q1w hsz l k 0 t (by omega) (by omega)
  rwa [Nat.add_zero, Nat.mul_one] at this
theorem q1L (hsz : ∀ x, (enc x).length = sz) (l : List α) (k : Nat) (t : TypeId) (h0 : 0 < T.sz t) (hf : T.sz t ≤ sz) : ld T ((l.flatMap enc).map C.d) (k * sz) t = (l[k]?).bind fun x => ld T ((enc x).map C.d) 0 t := by
  have := q1w hsz l k 0 t h0 (by omega)
  rwa [Nat.add_zero] at this
end
theorem qjj (i : Nat) (ds : List D) : (ds.map C.d).all (C.far i) = true := by rw [List.all_map]; exact List.all_eq_true.2 fun _ _ => rfl
theorem qdE (ds : List D) : (ds.map C.d).all C.known = true := by rw [List.all_map]; exact List.all_eq_true.2 fun _ _ => rfl
theorem qhb (X : List Nat) (ds : List D) : (ds.map C.d).all (C.farF X) = true := by rw [List.all_map]; exact List.all_eq_true.2 fun _ _ => rfl
theorem qgJ (ds : List D) : (ds.map C.d).flatMap C.rows = [] := by rw [List.flatMap_map]; exact List.flatMap_eq_nil_iff.2 fun _ _ => rfl
theorem qn2 (b : Builtin) (args : Array Operand) (ts : Array TypeId) : (Call.operands { callee := .builtin b, args := args, argTypes := ts }).toList = args.toList := by simp [Call.operands]
theorem qpD (f : Operand) (args : Array Operand) (ts : Array TypeId) : (Call.operands { callee := .value f, args := args, argTypes := ts }).toList = f :: args.toList := by simp [Call.operands]
theorem qnl (i : Nat) (ds : List D) : (ds.map C.d).map (C.fg i) = ds.map C.d := by rw [List.map_map]; rfl
end Go.Proofs.YtplfjlcnffcenaaGreat.Vc
namespace Go.Proofs.YtplfjlcnffcenaaGreat.Vc
open Go.RowKit
def ρ0 : Pl := ⟨fun _ => none, fun _ => False⟩
def L0 : Nat → Prop := (Zt [] 0).live
theorem qyR (b : Nat) : ¬ Occ L0 ρ0 b := fun h => by
  rcases h with h | ⟨i, c, h1, h2⟩
  · exact h
  · cases h2
theorem rd0 {W : World} {v : Value} {d : D} (h : RD W (fun _ => False) v d) : RD W (Occ L0 ρ0) v d := h.occ fun b hb => qyR b hb
theorem qil {W : World} {v : Value} {d : D} (h : PV W [v] [d]) : RR W L0 ρ0 v (.c (.d d)) := .c _ _ (.d _ _ (rd0 (h.2 0 v d rfl rfl)))
theorem qn6 {W : World} {cs : Array Value} {ds : List D} (h : PV W cs.toList ds) : RR W L0 ρ0 (.agg cs) (.agg (ds.map C.d)) := by
  refine .agg _ _ (by simpa using h.1) (fun j c hj => ?_)
  rw [List.getElem?_map] at hj
  obtain ⟨d, h1, h2⟩ := Option.map_eq_some_iff.1 hj
  subst h2
  have hj' : j < cs.size := by have := (List.getElem?_eq_some_iff.1 h1).1; rw [← h.1] at this; simpa using this
  have h3 : cs.toList[j]? = some (cs.getD j undef) := by simp [Array.getD_eq_getD_getElem?, hj']
  exact .d _ _ (rd0 (h.2 j _ d h3 h1))
theorem qg2 {f : FuncId} {rs : List R} {b : Bool} (h : ev f 0 rs [] = some (.c (.d (.bool b)), [])) {W : World} {vs : Array Value} (hr : RRs W L0 ρ0 vs rs) :
    Calls Tryz.prog f vs W fun e W' => e = .returned (.bool b) ∧ Below W.heap.size W W' := by
  have hac := quF h
  have hnl : ∀ i, ¬ (Zt [] 0).live i := fun i h => by cases h
  have hs : Sim ⟨fun _ => False, W, ρ0, 0, none⟩ ρ0 (Zt [] 0) q6d W :=
    ⟨Hd.none, rfl, fun i => .any _, fun i b c h => absurd h (hnl i), fun i h => absurd h (hnl i), fun i b c h => absurd h (hnl i), fun i j b c c' h => absurd h (hnl i), fun i h => absurd h (hnl i), qij.refl _ _, fun b hb => hb.elim, fun i hi => absurd hi (Nat.not_lt_zero _), rfl, fun b hb => hb.elim⟩
  refine (hac.call ⟨fun _ => False, W, ρ0, 0, none⟩ ρ0 W vs rfl rfl rfl rfl hs hr).mono ?_
  rintro e W' ⟨v, r, hp', nx', ρ', rfl, ⟨rfl, rfl⟩, h3, h4⟩
  rw [h4.inv_bool]
  exact ⟨rfl, h3.kept.os, h3.kept.tape, h3.kept.output, h3.kept.size, fun k hk => h3.kept.block k hk (fun h => h)⟩
end Go.Proofs.YtplfjlcnffcenaaGreat.Vc
namespace Go.Proofs.YtplfjlcnffcenaaGreat.Vc
open Go.RowKit
set_option linter.unusedVariables false
set_option maxRecDepth 100000
abbrev w64 (n : Int) : Int := IntKind.i64.wrap n
def Ze : Code → List Code
  | .loop c => c :: Ze c
  | .seq a b => Ze a ++ Ze b
  | .cond _ a b => Ze a ++ Ze b
  | .block _ c => Ze c
  | .rangeFunc _ _ a b => Ze a ++ Ze b
  | _ => []
def QT : Code → List (Code × Code)
  | .rangeFunc _ _ a b => (a, b) :: (QT a ++ QT b)
  | .loop c => QT c
  | .seq a b => QT a ++ QT b
  | .cond _ a b => QT a ++ QT b
  | .block _ c => QT c
  | _ => []
theorem q5i : ∀ (c b : Code), b ∈ Ze c → (∀ b' ∈ Ze b, b' ∈ Ze c) ∧ ∀ q ∈ QT b, q ∈ QT c := by
  intro c
  induction c with
  | loop c ih =>
    intro b hb
    rcases List.mem_cons.1 hb with rfl | hb
    · exact ⟨fun b' h => List.mem_cons_of_mem _ h, fun q h => h⟩
    · exact ⟨fun b' h => List.mem_cons_of_mem _ ((ih b hb).1 b' h), fun q h => (ih b hb).2 q h⟩
  | seq a c iha ihc =>
    intro b hb
    rcases List.mem_append.1 hb with hb | hb
    · exact ⟨fun b' h => List.mem_append_left _ ((iha b hb).1 b' h), fun q h => List.mem_append_left _ ((iha b hb).2 q h)⟩
    · exact ⟨fun b' h => List.mem_append_right _ ((ihc b hb).1 b' h), fun q h => List.mem_append_right _ ((ihc b hb).2 q h)⟩
  | cond x a c iha ihc =>
    intro b hb
    rcases List.mem_append.1 hb with hb | hb
    · exact ⟨fun b' h => List.mem_append_left _ ((iha b hb).1 b' h), fun q h => List.mem_append_left _ ((iha b hb).2 q h)⟩
    · exact ⟨fun b' h => List.mem_append_right _ ((ihc b hb).1 b' h), fun q h => List.mem_append_right _ ((ihc b hb).2 q h)⟩
  | rangeFunc g ps a c iha ihc =>
    intro b hb
    rcases List.mem_append.1 hb with hb | hb
    · exact ⟨fun b' h => List.mem_append_left _ ((iha b hb).1 b' h), fun q h => List.mem_cons_of_mem _ (List.mem_append_left _ ((iha b hb).2 q h))⟩
    · exact ⟨fun b' h => List.mem_append_right _ ((ihc b hb).1 b' h), fun q h => List.mem_cons_of_mem _ (List.mem_append_right _ ((ihc b hb).2 q h))⟩
  | block id c ih => intro b hb; exact ih b hb
  | _ => intro b hb; cases hb
noncomputable def q5d (f : Nat) : Code := ((ql Tryz.prog pol f).map Bd.code).getD .skip
noncomputable def lbO (f key : Nat) : Code := (qL key (q5d f)).getD .skip
noncomputable def raO (f key : Nat) : Code := ((JX key (q5d f)).getD (.skip, .skip)).1
noncomputable def rbO (f key : Nat) : Code := ((JX key (q5d f)).getD (.skip, .skip)).2
structure okL (f : Nat) (c : Code) : Prop where
  lo : ∀ b ∈ Ze c, lbO f (qZ b) = b
  ro : ∀ q ∈ QT c, raO f (qZ q.2) = q.1 ∧ rbO f (qZ q.2) = q.2
theorem qw {f : Nat} {c : Code} (hc : q5d f = c) (h : (Ze c).map (fun b => (qL (qZ b) c).getD .skip) = Ze c) (h' : (QT c).map (fun q => (JX (qZ q.2) c).getD (.skip, .skip)) = QT c) : okL f c := by
  refine ⟨fun b hb => ?_, fun q hq => ?_⟩
  · unfold lbO
    rw [hc]
    obtain ⟨i, hi, rfl⟩ := List.mem_iff_getElem.1 hb
    have h1 : ((Ze c).map (fun b => (qL (qZ b) c).getD .skip))[i]? = (Ze c)[i]? := by rw [h]
    rw [List.getElem?_map, List.getElem?_eq_getElem hi] at h1
    simpa using h1
  · unfold raO rbO
    rw [hc]
    obtain ⟨i, hi, rfl⟩ := List.mem_iff_getElem.1 hq
    have h1 : ((QT c).map (fun q => (JX (qZ q.2) c).getD (.skip, .skip)))[i]? = (QT c)[i]? := by rw [h']
    rw [List.getElem?_map, List.getElem?_eq_getElem hi] at h1
    simp only [Option.map_some, Option.some.injEq] at h1
    rw [h1]
    exact ⟨rfl, rfl⟩
noncomputable def XEo (E : Orc) (f k : Nat) : Code → S → XS := XD Tryz.prog T pol E (D1 Tryz.prog T pol E f k) Lim f k
noncomputable def XL2 (E : Orc) (f k key : Nat) (s : S) : XS := Lim (fun s => (XEo E f k (lbO f key) s).bind (lpx pol f key k)) s
def cnd (r : R) (x y : XS) : XS :=
  match r with
  | .c (.d (.bool b)) => if b = true then x else y
  | _ => none
noncomputable def XE2 (E : Orc) (f k : Nat) : Code → S → XS
  | .skip, s => some (.normal, s)
  | .label _, s => some (.normal, s)
  | .ret, s => some (.ret, s)
  | .exit id, s => some (.exit id, s)
  | .seq a b, s => (XE2 E f k a s).bind (sqD fun s' => XE2 E f k b s')
  | .block id c, s => (XE2 E f k c s).bind (bkD id)
  | .cond c x y, s => cnd (s.ev c) (XE2 E f k x (s.ly c tt)) (XE2 E f k y (s.ly c ff))
  | .loop c, s => (nrm pol f (qZ c) k s).bind fun s0 => XL2 E f k (qZ c) s0
  | .rangeFunc g ps _ b, s => xRF pol E f g ps.toList (raO f (qZ b)) (rbO f (qZ b)) ((s.dzr pol.q).frz (q39 (s.dzr pol.q) (pol.rk f (qZ b))))
  | c, s => XEo E f k c s
section
variable {E : Orc} {f k : Nat} {s : S}
theorem qtD (a b : Code) : XEo E f k (.seq a b) s = (XEo E f k a s).bind (sqD fun s' => XEo E f k b s') := rfl
theorem ql3 (i : Nat) (b : Code) : XEo E f k (.block i b) s = (XEo E f k b s).bind (bkD i) := rfl
theorem qqw (p : Operand) (a b : Code) : XEo E f k (.cond p a b) s = cnd (s.ev p) (XEo E f k a (s.ly p tt)) (XEo E f k b (s.ly p ff)) := rfl
theorem qou (b : Code) : XEo E f k (.loop b) s = (nrm pol f (qZ b) k s).bind fun s0 => Lim (fun s => (XEo E f k b s).bind (lpx pol f (qZ b) k)) s0 := rfl
theorem qqN : XEo E f k .skip s = some (.normal, s) := rfl
theorem qk0 (l : Nat) : XEo E f k (.label l) s = some (.normal, s) := rfl
theorem qtn : XEo E f k .ret s = some (.ret, s) := rfl
theorem qqX (i : Nat) : XEo E f k (.exit i) s = some (.exit i, s) := rfl
theorem qkM (g : Operand) (ps : Array Tmp) (asg bd : Code) : XEo E f k (.rangeFunc g ps asg bd) s = xRF pol E f g ps.toList asg bd ((s.dzr pol.q).frz (q39 (s.dzr pol.q) (pol.rk f (qZ bd)))) := rfl
theorem qtb (a b : Code) : XE2 E f k (.seq a b) s = (XE2 E f k a s).bind (sqD fun s' => XE2 E f k b s') := rfl
theorem qiQ (i : Nat) (b : Code) : XE2 E f k (.block i b) s = (XE2 E f k b s).bind (bkD i) := rfl
theorem qr4 (p : Operand) (a b : Code) : XE2 E f k (.cond p a b) s = cnd (s.ev p) (XE2 E f k a (s.ly p tt)) (XE2 E f k b (s.ly p ff)) := rfl
theorem qjO (g : Operand) (ps : Array Tmp) (asg bd : Code) : XE2 E f k (.rangeFunc g ps asg bd) s = xRF pol E f g ps.toList (raO f (qZ bd)) (rbO f (qZ bd)) ((s.dzr pol.q).frz (q39 (s.dzr pol.q) (pol.rk f (qZ bd)))) := rfl
theorem qqS (b : Code) : XE2 E f k (.loop b) s = (nrm pol f (qZ b) k s).bind fun s0 => XL2 E f k (qZ b) s0 := rfl
end
theorem qee {E : Orc} {f k : Nat} : ∀ (c : Code), okL f c → ∀ s, XEo E f k c s = XE2 E f k c s := by
  intro c
  induction c with
  | seq a b iha ihb =>
    intro h s
    have h1 := iha ⟨fun x hx => h.lo x (List.mem_append_left _ hx), fun x hx => h.ro x (List.mem_append_left _ hx)⟩
    have h2 := ihb ⟨fun x hx => h.lo x (List.mem_append_right _ hx), fun x hx => h.ro x (List.mem_append_right _ hx)⟩
    rw [qtD, qtb, h1, funext h2]
  | block id c ih => intro h s; rw [ql3, qiQ, ih ⟨h.lo, h.ro⟩ s]
  | cond x a b iha ihb =>
    intro h s
    have h1 := iha ⟨fun x hx => h.lo x (List.mem_append_left _ hx), fun x hx => h.ro x (List.mem_append_left _ hx)⟩
    have h2 := ihb ⟨fun x hx => h.lo x (List.mem_append_right _ hx), fun x hx => h.ro x (List.mem_append_right _ hx)⟩
    rw [qqw, qr4, h1, h2]
  | loop c ih =>
    intro h s
    rw [qou, qqS]
    unfold XL2
    rw [h.lo c List.mem_cons_self]
  | rangeFunc g ps a b _ _ =>
    intro h s
    obtain ⟨h1, h2⟩ := h.ro (a, b) List.mem_cons_self
    rw [qkM, qjO]
    rw [h1, h2]
  | skip => intro _ s; rw [qqN]; rfl
  | label => intro _ s; rw [qk0]; rfl
  | ret => intro _ s; rw [qtn]; rfl
  | exit => intro _ s; rw [qqX]; rfl
  | _ => intro _ s; unfold XE2; rfl
noncomputable def th2 (E : Orc) (f k : Nat) (r : XS) (b : Code) : XS := r.bind (sqD fun s' => XE2 E f k b s')
noncomputable def lp2 (E : Orc) (f k key : Nat) (o : Option S) : XS := o.bind fun s => XL2 E f k key s
def lz2 (f k key : Nat) (r : XS) : XS := r.bind (lpx pol f key k)
def ly2 (e : Exit) (o : Option S) : XS := o.bind fun s => some (e, s)
noncomputable def rs2 (E : Orc) (ops : List Oper) (o : Option S) (l : List Oper) : Option S := o.bind fun s => xr Tryz.prog T pol E ops l s
noncomputable def qhW (E : Orc) (ops : List Oper) (A : List (List Nat)) (s0 : S) (m : Nat) (o : Option (S × Tx)) (l : List Oper) (acc : List Tx) : Option S := o.bind fun q => xdp Tryz.prog T pol E ops A s0 m l q.1 (acc ++ [q.2])
section
variable {E : Orc} {f k key : Nat} {s : S} {b : Code} {c : Prop} [Decidable c] {x y : XS} {α β : Type} {o : Option α} {g : α → XS} {h : β → XS} {e : α ⊕ β}
theorem qka : XE2 E f k .skip s = some (.normal, s) := rfl
theorem qpF : XE2 E f k .ret s = some (.ret, s) := rfl
theorem qlx (i : Nat) : XE2 E f k (.exit i) s = some (.exit i, s) := rfl
theorem qpq (a : Code) : XE2 E f k (.seq a b) s = th2 E f k (XE2 E f k a s) b := rfl
theorem qhj (i : Nat) : XE2 E f k (.block i b) s = bkk i (XE2 E f k b s) := rfl
theorem qj8 (p : Operand) (a b : Code) : XE2 E f k (.cond p a b) s = match s.ev p with | .c (.d (.bool t)) => if t = true then XE2 E f k a (s.ly p tt) else XE2 E f k b (s.ly p ff) | _ => none := rfl
theorem qdx (i : Nat) (ops : Array Oper) : XE2 E f k (.region i ops false) s = rgn (xr Tryz.prog T pol E ops.toList ops.toList s) := rfl
theorem qlG (i : Nat) (ops : Array Oper) : XE2 E f k (.region i ops true) s = rgn (D1 Tryz.prog T pol E f k i ops.toList ((s.dzr pol.q).frz (q39 (s.dzr pol.q) (pol.rk f i)))) := rfl
theorem qlp : XE2 E f k (.loop b) s = lp2 E f k (qZ b) (nrm pol f (qZ b) k s) := rfl
theorem qbE : th2 E f k (some (.normal, s)) b = XE2 E f k b s := rfl
theorem qjg : th2 E f k (some (.ret, s)) b = some (.ret, s) := rfl
theorem qgA (i : Nat) : th2 E f k (some (.exit i, s)) b = some (.exit i, s) := rfl
theorem qhz : th2 E f k none b = none := rfl
theorem qlc : th2 E f k (if c then x else y) b = if c then th2 E f k x b else th2 E f k y b := ZH _ _ _
theorem qfy : th2 E f k (o.bind g) b = o.bind fun a => th2 E f k (g a) b := by cases o <;> rfl
theorem qkO : th2 E f k (Sum.elim g h e) b = Sum.elim (fun a => th2 E f k (g a) b) (fun a => th2 E f k (h a) b) e := by cases e <;> rfl
theorem qgk : lp2 E f k key (some s) = XL2 E f k key s := rfl
theorem qc4 : lz2 f k key (some (.normal, s)) = ly2 .normal (nrm pol f key k s) := rfl
theorem qjW : lz2 f k key (some (.ret, s)) = ly2 .ret (qiV k (pol.kx f key) (s.fin pol.q)) := rfl
theorem qgR (i : Nat) : lz2 f k key (some (.exit i, s)) = ly2 (.exit i) (qiV k (pol.kx f key) (s.fin pol.q)) := rfl
theorem qha : lz2 f k key none = none := rfl
theorem qkI : lz2 f k key (if c then x else y) = if c then lz2 f k key x else lz2 f k key y := ZH _ _ _
theorem qg5 : lz2 f k key (o.bind g) = o.bind fun a => lz2 f k key (g a) := by cases o <;> rfl
theorem qlj : lz2 f k key (Sum.elim g h e) = Sum.elim (fun a => lz2 f k key (g a)) (fun a => lz2 f k key (h a)) e := by cases e <;> rfl
theorem qfY (x : Exit) : ly2 x (some s) = some (x, s) := rfl
theorem ql1 (i : Nat) : bkk i (Sum.elim g h e) = Sum.elim (fun a => bkk i (g a)) (fun a => bkk i (h a)) e := by cases e <;> rfl
theorem qiM (res : List ResultVar) (rt : List TypeId) : fnn f k res rt (Sum.elim g h e) = Sum.elim (fun a => fnn f k res rt (g a)) (fun a => fnn f k res rt (h a)) e := by cases e <;> rfl
end
section
variable {E : Orc} {α β γ : Type} {e : α ⊕ β}
theorem qhc {δ : Type} (g : α → Option γ) (h : β → Option γ) (F : γ → Option δ) : (Sum.elim g h e).bind F = Sum.elim (fun a => (g a).bind F) (fun a => (h a).bind F) e := by cases e <;> rfl
end
section
variable {E : Orc} {s : S} {o : Oper} {c : Prop} [Decidable c] {α β : Type} {v : Option α} {e : α ⊕ β} {ops l : List Oper} {A : List (List Nat)} {s0 : S} {m : Nat} {acc : List Tx}
theorem qzc : xst Tryz.prog T pol E o true s = wst (xo Tryz.prog T pol E (pre pol s o.op) o.op) o.dst := rfl
theorem qA5 : xst Tryz.prog T pol E o false s = if q7I s o.dst = true then some (s.put o.dst (.tup [])) else none := rfl
theorem qtI : xsF Tryz.prog T pol E o true s = alX E s o (alC pol s o.op) (wsF (xo Tryz.prog T pol E s o.op) s o) := rfl
theorem qtp : xsF Tryz.prog T pol E o false s = if q7I s o.dst = true then some (s.put o.dst (.tup []), (.tup [], []), ⟨[], [], [], [], []⟩) else none := rfl
theorem qty : xr Tryz.prog T pol E ops [] s = some s := rfl
theorem qmt : xr Tryz.prog T pol E ops (o :: l) s = rs2 E ops (xgd Tryz.prog T pol E ops o s) l := rfl
theorem qoT : rs2 E ops (some s) l = xr Tryz.prog T pol E ops l s := rfl
theorem qqk : rs2 E ops none l = none := rfl
theorem quI (x y : Option S) : rs2 E ops (if c then x else y) l = if c then rs2 E ops x l else rs2 E ops y l := ZH _ _ _
theorem qni (g : α → Option S) : rs2 E ops (v.bind g) l = v.bind fun a => rs2 E ops (g a) l := by cases v <;> rfl
theorem qpG : xdp Tryz.prog T pol E ops A s0 0 l s acc = if okP A 0 [] acc = true ∧ okX ops A s0 acc 0 acc = true ∧ okK ops A acc = true ∧ okN acc 0 acc = true then xr Tryz.prog T pol E ops l s else none := by cases l <;> rfl
theorem qoW : xdp Tryz.prog T pol E ops A s0 (m + 1) (o :: l) s acc = qhW E ops A s0 m (xgF Tryz.prog T pol E ops o s) l acc := rfl
theorem qlg (x : Tx) : qhW E ops A s0 m (some (s, x)) l acc = xdp Tryz.prog T pol E ops A s0 m l s (acc ++ [x]) := rfl
theorem qkD : qhW E ops A s0 m none l acc = none := rfl
theorem qmi (x y : Option (S × Tx)) : qhW E ops A s0 m (if c then x else y) l acc = if c then qhW E ops A s0 m x l acc else qhW E ops A s0 m y l acc := ZH _ _ _
theorem qlU (g : α → Option (S × Tx)) : qhW E ops A s0 m (v.bind g) l acc = v.bind fun a => qhW E ops A s0 m (g a) l acc := by cases v <;> rfl
theorem qo5 (g : FuncId) (zs : List (List Nat)) (rs : List R) (bl rw ln : List Nat) : ZY E s g zs rs bl rw ln = (qce s (bl ++ rw) ln zs rs).bind fun rs' => (cvG s (bl ++ rw) (bl ++ rw) 0).bind fun G =>
    if (bl ++ rw).all (fun i => (s.blk i).live) = true ∧ (bl ++ rw).Nodup ∧ ln.all (fun i => (s.blk i).live && !(bl ++ rw).contains i) = true ∧ bl.length ≤ G.length ∧ (List.range G.length).all (fun j => (lk G j .dead).isBlk == decide (j < bl.length)) = true then cll (E (.fn g) bl.length rs' G) s bl rw ln else none := rfl
end
theorem qn9 (g k : Nat) (a : List R) (G : List (Nat × B)) : evo (.fn g) k a G = ev g k a G := rfl
noncomputable def ql4 (E : Orc) (f k : Nat) (args : List R) (G : List (Nat × B)) : Option (R × List (Nat × B)) := (ql Tryz.prog pol f).bind fun bd => q3B Tryz.prog T pol (D1 Tryz.prog T pol) E Lim f k args G bd
theorem qg {f n : Nat} {c : Code} {res : List ResultVar} {rt : List TypeId} (hb : ql Tryz.prog pol f = some ⟨c, n, res, rt⟩) : q5d f = c := by unfold q5d; rw [hb]; rfl
theorem qhy {E : Orc} {f n : Nat} {c : Code} {res : List ResultVar} {rt : List TypeId} (hb : ql Tryz.prog pol f = some ⟨c, n, res, rt⟩) (hl : okL f c) (k : Nat) (args : List R) (G : List (Nat × B)) :
    ql4 E f k args G = if args.length ≤ n then fnn f k res rt (XE2 E f k c ⟨q0O args 0, G, G.length, n⟩) else none := by
  unfold ql4
  rw [hb, Option.bind_some]
  unfold q3B
  split
  · show Option.bind (XEo E f k c _) _ = _
    rw [qee c hl]
    rfl
  · rfl
theorem qlV {f k : Nat} (hp : pol.pr f = none) (args : List R) (G : List (Nat × B)) : ev f k args G = ql4 evo f k args G := by rw [qjm, hp]; rfl
theorem qu {f n : Nat} {c : Code} {res : List ResultVar} {rt : List TypeId} (hb : ql Tryz.prog pol f = some ⟨c, n, res, rt⟩) (hp : pol.pr f = none) (hl : okL f c) (k : Nat) (args : List R) (G : List (Nat × B)) :
    ev f k args G = if args.length ≤ n then fnn f k res rt (XE2 evo f k c ⟨q0O args 0, G, G.length, n⟩) else none := by
  rw [qlV hp, qhy hb hl]
section
variable {σ ε : Type}
def itT (step : σ → Option (σ ⊕ ε)) : Nat → σ → Option ε
  | 0, _ => none
  | n + 1, x => (step x).bind (Sum.elim (itT step n) some)
theorem q7E {step : σ → Option (σ ⊕ ε)} : ∀ {n m : Nat}, n ≤ m → ∀ x r, itT step n x = some r → itT step m x = some r
  | 0, _, _, x, r, h => by cases h
  | n + 1, 0, h, _, _, _ => by omega
  | n + 1, m + 1, h, x, r, hx => by
    unfold itT at hx ⊢
    obtain ⟨a, h1, h2⟩ := Option.bind_eq_some_iff.1 hx
    rw [h1, Option.bind_some]
    cases a with
    | inl y => exact q7E (by omega) y r h2
    | inr e => exact h2
noncomputable def qA (step : σ → Option (σ ⊕ ε)) (x : σ) : Option ε := open Classical in if h : ∃ r n, itT step n x = some r then some (Classical.choose h) else none
theorem q6a {step : σ → Option (σ ⊕ ε)} {n : Nat} {x : σ} {r : ε} (h : itT step n x = some r) : qA step x = some r := by
  have hex : ∃ r n, itT step n x = some r := ⟨r, n, h⟩
  unfold qA
  rw [dif_pos hex]
  obtain ⟨m, hm⟩ := Classical.choose_spec hex
  have h1 := q7E (Nat.le_max_left n m) _ _ h
  have h2 := q7E (Nat.le_max_right n m) _ _ hm
  rw [h1] at h2
  injection h2 with h2
  rw [← h2]
theorem q5v {step : σ → Option (σ ⊕ ε)} {x : σ} {r : ε} (h : qA step x = some r) : ∃ n, itT step n x = some r := by
  unfold qA at h
  split at h
  · rename_i hex
    injection h with h
    obtain ⟨m, hm⟩ := Classical.choose_spec hex
    exact ⟨m, h ▸ hm⟩
  · cases h
theorem qdO (step : σ → Option (σ ⊕ ε)) (x : σ) : qA step x = (step x).bind (Sum.elim (qA step) some) := by
  refine q5Y (fun r h => ?_) (fun r h => ?_)
  · obtain ⟨n, hn⟩ := q5v h
    cases n with
    | zero => cases hn
    | succ n =>
      unfold itT at hn
      obtain ⟨a, h1, h2⟩ := Option.bind_eq_some_iff.1 hn
      rw [h1, Option.bind_some]
      cases a with
      | inl y => exact q6a h2
      | inr e => exact h2
  · obtain ⟨a, h1, h2⟩ := Option.bind_eq_some_iff.1 h
    cases a with
    | inl y =>
      obtain ⟨n, hn⟩ := q5v h2
      refine q6a (n := n + 1) ?_
      unfold itT
      rw [h1]; exact hn
    | inr e =>
      refine q6a (n := 1) ?_
      unfold itT
      rw [h1]; exact h2
end
theorem qjI {F : S → XS} {σ ε : Type} {st : σ → S} {ex : ε → Exit × S} {step : σ → Option (σ ⊕ ε)} (hne : ∀ e, (ex e).1 ≠ .normal)
    (h : ∀ x, F (st x) = (step x).bind (Sum.elim (fun y => some (.normal, st y)) (fun e => some (ex e)))) (x : σ) : Lim F (st x) = (qA step x).bind fun e => some (ex e) := by
  have hit : ∀ (n : Nat) (x : σ), iter n F (st x) = (itT step n x).bind fun e => some (ex e) := by
    intro n
    induction n with
    | zero => intro x; rfl
    | succ n ih =>
      intro x
      unfold iter itT
      rw [h x]
      cases step x with
      | none => rfl
      | some a =>
        cases a with
        | inl y => exact ih y
        | inr e =>
          show sqD (iter n F) (ex e) = some (ex e)
          have := hne e
          generalize ex e = q at this
          obtain ⟨z, t⟩ := q
          cases z <;> first | exact absurd rfl this | rfl
  refine q5Y (fun r hr => ?_) (fun r hr => ?_)
  · obtain ⟨n, hn⟩ := q51 hr
    rw [hit n x] at hn
    obtain ⟨e, h1, h2⟩ := Option.bind_eq_some_iff.1 hn
    rw [q6a h1]; exact h2
  · obtain ⟨e, h1, h2⟩ := Option.bind_eq_some_iff.1 hr
    obtain ⟨n, hn⟩ := q5v h1
    refine q8Z (n := n) ?_
    rw [hit n x, hn]; exact h2
theorem q7D {E : Orc} {f k key : Nat} {c : Code} {σ ε : Type} {st : σ → S} {ex : ε → Exit × S} {step : σ → Option (σ ⊕ ε)} (hc : lbO f key = c) (hl : okL f c) (hne : ∀ e, (ex e).1 ≠ .normal)
    (h : ∀ x, lz2 f k key (XE2 E f k c (st x)) = (step x).bind (Sum.elim (fun y => some (.normal, st y)) (fun e => some (ex e)))) (x : σ) : XL2 E f k key (st x) = (qA step x).bind fun e => some (ex e) := by
  refine qjI hne (fun x => ?_) x
  rw [hc, qee c hl]
  exact h x
noncomputable def xk (E : Orc) (f k key : Nat) (r : XS) : XS := r.bind fun p => match p.1 with | .normal => XL2 E f k key p.2 | e => some (e, p.2)
section
variable {E : Orc} {f k key : Nat} {s : S} {c : Prop} [Decidable c] {α β : Type} {o : Option α} {g : α → XS} {h : β → XS} {e : α ⊕ β}
theorem q80 : xk E f k key (some (.normal, s)) = XL2 E f k key s := rfl
theorem qe4 (i : Nat) : xk E f k key (some (.exit i, s)) = some (.exit i, s) := rfl
theorem qiw : xk E f k key (some (.ret, s)) = some (.ret, s) := rfl
theorem qfi : xk E f k key none = none := rfl
theorem qi5 (x y : XS) : xk E f k key (if c then x else y) = if c then xk E f k key x else xk E f k key y := ZH _ _ _
theorem qdF : xk E f k key (o.bind g) = o.bind fun a => xk E f k key (g a) := by cases o <;> rfl
theorem qhQ : xk E f k key (Sum.elim g h e) = Sum.elim (fun a => xk E f k key (g a)) (fun a => xk E f k key (h a)) e := by cases e <;> rfl
end
theorem qeD {E : Orc} {f k key : Nat} {c : Code} {s : S} (hc : lbO f key = c) (hl : okL f c) : XL2 E f k key s = xk E f k key (lz2 f k key (XE2 E f k c s)) := by
  unfold XL2
  rw [qp3, hc, qee c hl]
  show (lz2 f k key (XE2 E f k c s)).bind _ = _
  unfold xk
  congr 1
  funext p
  obtain ⟨e, t⟩ := p
  cases e <;> first | rfl | (show Lim _ t = Lim _ t; rw [hc])
theorem za {α : Type} {c : Prop} [Decidable c] (x y : α) : (if c then some x else some y) = some (if c then x else y) := by split <;> rfl
theorem zo {f key : Nat} {c b : Code} (hc : q5d f = c) (h : (qL key c).getD .skip = b) : lbO f key = b := by unfold lbO; rw [hc]; exact h
theorem qH {f : Nat} {c b : Code} (hl : okL f c) (hb : b ∈ Ze c) : okL f b := ⟨fun x hx => hl.lo x ((q5i c b hb).1 x hx), fun q hq => hl.ro q ((q5i c b hb).2 q hq)⟩
section
variable {f k key : Nat} {s : S} {c : Prop} [Decidable c] {α β : Type} {o : Option α} {g : α → XS} {h : β → XS} {e : α ⊕ β}
end
section
variable {σ ε : Type} (f k : Nat) (enc : σ → List R × List (Nat × B)) (ex : ε → R × List (Nat × B))
variable {f k enc ex}
end
end Go.Proofs.YtplfjlcnffcenaaGreat.Vc
namespace Go.Proofs.YtplfjlcnffcenaaGreat.Vc
open Go.RowKit
set_option linter.unusedVariables false
set_option linter.unusedSectionVars false
section
variable {α : Type} {E : α → List D} {n : Nat}
theorem qdA (h : ∀ x, (E x).length = n) : ∀ (v : List α) (a : Nat), (v.flatMap E).drop (a * n) = (v.drop a).flatMap E
  | [], a => by simp
  | x :: v, 0 => by simp
  | x :: v, a + 1 => by
    rw [List.flatMap_cons, show (a + 1) * n = (E x).length + a * n by rw [h, Nat.add_mul]; omega, List.drop_length_add_append]
    exact qdA h v a
theorem q5P (h : ∀ x, (E x).length = n) : ∀ (v : List α) (a : Nat), (v.flatMap E).take (a * n) = (v.take a).flatMap E
  | [], a => by simp
  | x :: v, 0 => by simp
  | x :: v, a + 1 => by
    rw [List.flatMap_cons, show (a + 1) * n = (E x).length + a * n by rw [h, Nat.add_mul]; omega, List.take_length_add_append, List.take_succ_cons, List.flatMap_cons, q5P h v a]
theorem qq6 (v w : List α) : v.flatMap E ++ w.flatMap E = (v ++ w).flatMap E := List.flatMap_append.symm
theorem ql2 (v w : List α) : (v.flatMap E).map C.d ++ (w.flatMap E).map C.d = ((v ++ w).flatMap E).map C.d := by rw [← List.map_append, qq6]
theorem q5J (v : List α) (x : α) : (v.flatMap E).map C.d ++ (E x).map C.d = ((v ++ [x]).flatMap E).map C.d := by simp
theorem qec {β : Type} : ∀ (ys p q : List β) (o : Nat), o + ys.length ≤ p.length → spl (p ++ q) o ys = spl p o ys ++ q
  | [], p, q, o, _ => rfl
  | y :: ys, p, q, o, h => by
    rw [List.length_cons] at h
    rw [spl, spl, List.set_append_left _ _ (by omega), qec ys _ q (o + 1) (by rw [List.length_set]; omega)]
theorem qbc {β : Type} : ∀ (ys p q : List β) (o : Nat), spl (p ++ q) (p.length + o) ys = p ++ spl q o ys
  | [], p, q, o => rfl
  | y :: ys, p, q, o => by
    rw [spl, spl, List.set_append_right _ _ (by omega), show p.length + o - p.length = o by omega, show p.length + o + 1 = p.length + (o + 1) by omega, qbc ys]
theorem qay {β : Type} : ∀ (ys p pre : List β), p.length = ys.length → spl (pre ++ p) pre.length ys = pre ++ ys
  | [], p, pre, h => by rw [List.eq_nil_of_length_eq_zero h]; rfl
  | y :: ys, [], pre, h => by cases h
  | y :: ys, x :: p, pre, h => by
    have e : (pre ++ x :: p).set pre.length y = (pre ++ [y]) ++ p := by rw [List.set_append_right _ _ (Nat.le_refl _), Nat.sub_self]; simp
    rw [spl, e, show pre.length + 1 = (pre ++ [y]).length by simp, qay ys p _ (by simpa using h)]
    simp
theorem qek {β : Type} : ∀ (ys : List β) (o : Nat), spl [] o ys = []
  | [], o => rfl
  | y :: ys, o => by rw [spl, List.set_nil, qek ys]
theorem qiz (h : ∀ x, (E x).length = n) : ∀ (v : List α) (i : Nat) (x : α), spl (v.flatMap E) (i * n) (E x) = (v.set i x).flatMap E
  | [], i, x => by rw [List.flatMap_nil, qek]; rfl
  | y :: v, 0, x => by
    rw [List.flatMap_cons, Nat.zero_mul, qec _ _ _ _ (by rw [h, h]; omega)]
    have := qay (E x) (E y) [] (by rw [h, h])
    simp only [List.nil_append, List.length_nil] at this
    rw [this]; rfl
  | y :: v, i + 1, x => by
    rw [List.flatMap_cons, show (i + 1) * n = (E y).length + i * n by rw [h, Nat.add_mul]; omega, qbc, qiz h v i x]
    rfl
theorem q9i {β γ : Type} (f : β → γ) : ∀ (ys cs : List β) (o : Nat), spl (cs.map f) o (ys.map f) = (spl cs o ys).map f
  | [], cs, o => rfl
  | y :: ys, cs, o => by rw [List.map_cons, spl, spl, ← List.map_set, q9i f ys]
theorem q9f (h : ∀ x, (E x).length = n) (v : List α) (i : Nat) (x : α) : spl ((v.flatMap E).map C.d) (i * n) ((E x).map C.d) = ((v.set i x).flatMap E).map C.d := by rw [q9i, qiz h]
theorem qiF (h : ∀ x, (E x).length = n) {fo : Nat} {d : D} (g : α → α) (hf : fo < n) (hg : ∀ x, E (g x) = (E x).set fo d) : ∀ (v : List α) (i : Nat), (v.flatMap E).set (i * n + fo) d = (v.modify i g).flatMap E
  | [], i => by simp
  | y :: v, 0 => by
    rw [List.flatMap_cons, Nat.zero_mul, Nat.zero_add, List.set_append_left _ _ (by rw [h]; exact hf), ← hg]
    simp
  | y :: v, i + 1 => by
    rw [List.flatMap_cons, show (i + 1) * n + fo = (E y).length + (i * n + fo) by rw [h, Nat.add_mul]; omega, List.set_append_right _ _ (by omega), show (E y).length + (i * n + fo) - (E y).length = i * n + fo by omega, qiF h g hf hg v i]
    simp
end
def eI (x : Int) : List D := [.int .i64 x]
def eS (x : ByteArray) : List D := [.str x]
def qmc (x : Int) : List D := [.int .u64 x]
def eL {α : Type} (n : Nat) (E : α → List D) (v : List α) : List D := [.sl n v.length (v.flatMap E)]
theorem qde {α β γ : Type} (f : β → γ) (o : Option α) (g : α → Option β) : (o.bind g).map f = o.bind fun x => (g x).map f := by cases o <;> rfl
theorem qiN (P : Program) (T : Ty) (d : Nat) (t : TypeId) (x y : R) : eqR P T (d + 1) t x y =
    match T.k t, x, y with
    | .int _, .c (.d (.int k a)), .c (.d (.int k' b)) => if k = k' then some (a == b) else none
    | .bool, .c (.d (.bool a)), .c (.d (.bool b)) => some (a == b)
    | .str, .c (.d (.str a)), .c (.d (.str b)) => some (a.toList == b.toList)
    | .st fs, .agg xs, .agg ys => if q8h P t = true then qjt T (eqR P T d) xs ys fs else none
    | _, _, _ => none := by
  generalize hk : T.k t = kd
  unfold eqR
  rw [hk]
  cases kd <;> first
    | rfl
    | (rcases x with (c | _ | _ | _) <;> first
        | rfl
        | (rcases y with (c' | _ | _ | _) <;> first
            | rfl
            | (cases c <;> first
                | rfl
                | (cases c' <;> first
                    | rfl
                    | (rename_i d1 d2; cases d1 <;> first
                        | rfl
                        | (cases d2 <;> rfl))))))
section
variable {α β : Type} {c : Prop} [Decidable c] (a b : List α)
theorem qj1 (f : α → Bool) : (if c then a else b).any f = if c then a.any f else b.any f := by split <;> rfl
theorem qkp (f : α → β) : (if c then a else b).map f = if c then a.map f else b.map f := by split <;> rfl
theorem q9m : (if c then a else b).isEmpty = if c then a.isEmpty else b.isEmpty := by split <;> rfl
theorem q8i [BEq α] (x : α) : (if c then a else b).contains x = if c then a.contains x else b.contains x := by split <;> rfl
end
def qse (op : UnOp) (r : R) (s : S) : RS :=
  match op, r with
  | .not, .c (.d (.bool b)) => some (.c (.d (.bool (!b))), s)
  | .neg, .c (.d (.int k n)) => some (.c (.d (.int k (k.wrap (0 - n)))), s)
  | _, _ => none
theorem qpv (s : S) (op : UnOp) (x : Operand) : xUn s op x = qse op (s.ev x) s := by
  unfold xUn qse
  generalize s.ev x = r
  cases op <;> first
    | rfl
    | (cases r with
       | c c => cases c with
         | d d => cases d <;> rfl
         | _ => rfl
       | _ => rfl)
def lkq (ok : Bool) (z : R) : Option (Nat × R × Nat) → Option R
  | some q => some (tt2 q.2.1 ok true)
  | none => some (tt2 z ok false)
theorem qcd (T : Ty) (s : S) (t : TypeId) (x y : Operand) (ok : Bool) : q1B T s t x y ok =
    match T.k t, q3h s x, (s.ev y).key with
    | .mp k e, some es, some kv => if plK (T.k k) kv = true ∧ es.all (fun q => plK (T.k k) q.1) = true then (zR T e).bind fun z => lkq ok z (fnd kv es 0) else none
    | _, _, _ => none := by
  unfold q1B
  generalize T.k t = kd
  generalize q3h s x = m
  generalize (s.ev y).key = v
  cases kd <;> first
    | rfl
    | (cases m <;> first
        | rfl
        | (cases v <;> first
            | rfl
            | (simp only
               split
               · congr 1
                 funext z
                 cases fnd _ _ _ <;> rfl
               · rfl)))
theorem qdJ (xs ys : List C) : (xs ++ ys).flatMap C.rows = xs.flatMap C.rows ++ ys.flatMap C.rows := List.flatMap_append
theorem qgS (f : C → C) (ds : List D) (ys : List C) : (ds.map C.d ++ ys).map f = (ds.map C.d).map f ++ ys.map f := List.map_append
def ZZ {α : Type} (a b : Option α) : Prop := ∀ r, a = some r → b = some r
theorem ZZ.refl {α : Type} (a : Option α) : ZZ a a := fun _ h => h
theorem ZZ.none {α : Type} (a : Option α) : ZZ Option.none a := fun _ h => by cases h
theorem ZZ.bind {α β : Type} {a b : Option α} {f g : α → Option β} (h : ZZ a b) (hf : ∀ x, ZZ (f x) (g x)) : ZZ (a.bind f) (b.bind g) := fun r hr => by
  obtain ⟨x, h1, h2⟩ := Option.bind_eq_some_iff.1 hr
  rw [h x h1]
  exact hf x r h2
theorem ZZ.ite {α : Type} {c : Prop} [Decidable c] {a b a' b' : Option α} (h : ZZ a a') (h' : ZZ b b') : ZZ (if c then a else b) (if c then a' else b') := by
  split
  · exact h
  · exact h'
theorem ZZ.sum {α β γ : Type} {f f' : α → Option γ} {g g' : β → Option γ} {e : α ⊕ β} (h : ∀ x, ZZ (f x) (f' x)) (h' : ∀ x, ZZ (g x) (g' x)) : ZZ (Sum.elim f g e) (Sum.elim f' g' e) := by
  cases e with
  | inl x => exact h x
  | inr x => exact h' x
theorem ZZ.lim {σ ε : Type} {f g : σ → Option (σ ⊕ ε)} {n : Nat} {x : σ} (h : ∀ x, ZZ (f x) (g x)) : ZZ (itT f n x) (qA g x) := by
  have key : ∀ (n : Nat) (x : σ), ZZ (itT f n x) (itT g n x) := by
    intro n
    induction n with
    | zero => intro x r hr; cases hr
    | succ n ih =>
      intro x
      unfold itT
      refine ZZ.bind (h x) (fun y => ?_)
      cases y with
      | inl y => exact ih y
      | inr e => exact ZZ.refl _
  exact fun r hr => q6a (key n x r hr)
def itR {σ ε : Type} (step : (σ → Option ε) → σ → Option ε) : Nat → σ → Option ε
  | 0, _ => none
  | n + 1, x => step (itR step n) x
theorem ZZ.rec {σ ε : Type} {c s : (σ → Option ε) → σ → Option ε} {f : σ → Option ε} (hs : ∀ x, f x = s f x) (h : ∀ F F', (∀ y, ZZ (F y) (F' y)) → ∀ x, ZZ (c F x) (s F' x)) : ∀ (n : Nat) (x : σ), ZZ (itR c n x) (f x) := by
  intro n
  induction n with
  | zero => intro x r hr; cases hr
  | succ n ih =>
    intro x
    rw [hs x]
    exact h _ _ ih x
def spr (cs : List C) (o : Nat) (ys : List C) : List C := spl cs o ys
theorem qf6 (t : TypeId) (cs ys : List C) (o : Nat) : (B.blk t cs).set o ys = .blk t (spl cs o ys) := rfl
theorem qeJ (e : TypeId) (sz : Nat) (cs ys : List C) (o : Nat) : (B.row e sz cs).set o ys = .row e sz (spr cs o ys) := rfl
def xsl (T : Ty) (s : S) (t : TypeId) (x : R) (lo hi : Option Operand) : RS :=
  match x, T.k t with
  | .c (.d (.str b)), .str =>
    match s.bd lo 0, s.bd hi b.size with
    | some l, some h => if 0 ≤ l ∧ l ≤ h ∧ h ≤ b.size then some (.c (.d (.str (b.extract l.toNat h.toNat))), s) else none
    | _, _ => none
  | .c (.d (.sl sz n cs)), .sl e =>
    if T.k e ≠ .other ∧ T.sz e = sz then
      match s.bd lo 0, s.bd hi n with
      | some l, some h => if 0 ≤ l ∧ l ≤ h ∧ h ≤ n then some (.c (.d (.sl sz (h.toNat - l.toNat) ((cs.drop (l.toNat * sz)).take ((h.toNat - l.toNat) * sz)))), s) else none
      | _, _ => none
    else none
  | .c (.own id sz off n), .sl e =>
    if T.k e ≠ .other ∧ T.sz e = sz then
      match s.bd lo 0, s.bd hi n with
      | some l, some h => if 0 ≤ l ∧ l ≤ h ∧ h ≤ n then (if l = 0 ∨ l < n then some (.c (.own id sz (off + l.toNat) (h.toNat - l.toNat)), s) else some (.c (.d (.sl sz 0 [])), s)) else none
      | _, _ => none
    else none
  | .c .nils, .sl e =>
    if T.k e ≠ .other then
      match s.bd lo 0, s.bd hi 0 with
      | some l, some h => if l = 0 ∧ h = 0 then some (.c .nils, s) else none
      | _, _ => none
    else none
  | _, _ => none
theorem qel (T : Ty) (s : S) (t : TypeId) (x : Operand) (lo hi : Option Operand) : q8r T s t x lo hi none = xsl T s t (s.ev x) lo hi := by
  unfold q8r xsl
  generalize s.ev x = r
  generalize T.k t = kd
  cases r with
  | c c =>
    cases c with
    | d d => cases d <;> cases kd <;> rfl
    | _ => cases kd <;> rfl
  | _ => rfl
section
variable {T : Ty} {s : S} {t : TypeId} {lo hi : Option Operand}
theorem qkk {b : ByteArray} (hk : T.k t = .str) : xsl T s t (.c (.d (.str b))) lo hi =
    match s.bd lo 0, s.bd hi b.size with
    | some l, some h => if 0 ≤ l ∧ l ≤ h ∧ h ≤ b.size then some (.c (.d (.str (b.extract l.toNat h.toNat))), s) else none
    | _, _ => none := by unfold xsl; rw [hk]
theorem qjo {id sz off n : Nat} : xsl T s t (.c (.own id sz off n)) none hi =
    match T.k t with
    | .sl e => if T.k e ≠ .other ∧ T.sz e = sz then
      match s.bd hi n with
      | some h => if 0 ≤ h ∧ h ≤ n then some (.c (.own id sz off (min h.toNat n)), s) else none
      | _ => none
      else none
    | _ => none := by
  unfold xsl
  cases T.k t <;> try rfl
  dsimp only [S.bd]
  split
  · split
    · rename_i l h h1 h2
      injection h1 with h1
      subst h1
      rw [h2]
      dsimp only
      by_cases hc : 0 ≤ h ∧ h ≤ n
      · rw [if_pos ⟨Int.le_refl _, hc⟩, if_pos (.inl rfl), if_pos hc, show min h.toNat n = h.toNat by omega]
        rfl
      · rw [if_neg (fun q => hc q.2), if_neg hc]
    · rename_i h1
      split
      · rename_i h h2
        exact absurd h2 (h1 0 h rfl)
      · rfl
  · rfl
end
def qpQ {α : Type} (s : S) (E : α → List D) (n : Nat) (v : List α) (l h : Option Int) : RS :=
  match l, h with
  | some l, some h => if 0 ≤ l ∧ l ≤ h ∧ h ≤ v.length then some (.c (.d (.sl n ((v.drop l.toNat).take (h.toNat - l.toNat)).length (((v.drop l.toNat).take (h.toNat - l.toNat)).flatMap E))), s) else none
  | _, _ => none
theorem qhX {α : Type} {E : α → List D} {n : Nat} (h : ∀ x, (E x).length = n) {T : Ty} {s : S} {t e : TypeId} (v : List α) (lo hi : Option Operand) (hk : T.k t = .sl e) (hz : T.sz e = n) (ho : T.k e ≠ .other) :
    xsl T s t (.c (.d (.sl n v.length (v.flatMap E)))) lo hi = qpQ s E n v (s.bd lo 0) (s.bd hi v.length) := by
  unfold xsl
  simp only [hk]
  rw [if_pos ⟨ho, hz⟩]
  unfold qpQ
  cases s.bd lo 0 with
  | none => rfl
  | some l =>
    cases s.bd hi v.length with
    | none => rfl
    | some h' =>
      simp only
      split
      · rename_i hc
        rw [qdA h, q5P h, List.length_take, List.length_drop, Nat.min_eq_left (by omega)]
      · rfl
abbrev dI (n : Int) : C := C.d (D.int .i64 n)
abbrev dS (s : ByteArray) : C := C.d (D.str s)
abbrev dL {α : Type} (n : Nat) (E : α → List D) (v : List α) : C := C.d (D.sl n v.length (v.flatMap E))
abbrev dO (i sz n : Nat) : C := C.own i sz 0 n
abbrev dP (i : Nat) : C := C.ptr i 0
abbrev rI (n : Int) : R := R.c (C.d (D.int .i64 n))
abbrev rS (s : ByteArray) : R := R.c (C.d (D.str s))
abbrev rB (b : Bool) : R := R.c (C.d (D.bool b))
abbrev rL {α : Type} (n : Nat) (E : α → List D) (v : List α) : R := R.c (C.d (D.sl n v.length (v.flatMap E)))
abbrev rO (i sz n : Nat) : R := R.c (C.own i sz 0 n)
abbrev rP (i : Nat) : R := R.c (C.ptr i 0)
abbrev bR {α : Type} (e sz : Nat) (E : α → List D) (v : List α) : B := B.row e sz ((v.flatMap E).map C.d)
theorem XLs {E : Orc} {f k key : Nat} {c : Code} {σ ε : Type} {st : σ → S} {ex : ε → XS} {step : σ → Option (σ ⊕ ε)} (hc : lbO f key = c) (hl : okL f c) (hne : ∀ e, ∃ p, ex e = some p ∧ p.1 ≠ .normal)
    (h : ∀ x, lz2 f k key (XE2 E f k c (st x)) = (step x).bind (Sum.elim (fun y => some (.normal, st y)) ex)) (x : σ) : XL2 E f k key (st x) = (qA step x).bind ex := by
  obtain ⟨g, hg⟩ : ∃ g : ε → Exit × S, ∀ e, ex e = some (g e) ∧ (g e).1 ≠ .normal := ⟨fun e => Classical.choose (hne e), fun e => Classical.choose_spec (hne e)⟩
  obtain rfl : ex = fun e => some (g e) := funext fun e => (hg e).1
  exact q7D (ex := g) hc hl (fun e => (hg e).2) h x
theorem q4j {E : Orc} {f k key : Nat} {c : Code} {A1 ε : Type} {st : A1 → S} {ex : ε → XS} {step : A1 → Option ((A1) ⊕ ε)} (hc : lbO f key = c) (hl : okL f c) (hne : ∀ e, ∃ p, ex e = some p ∧ p.1 ≠ .normal)
    (h : ∀ a1, lz2 f k key (XE2 E f k c (st a1)) = (step a1).bind (Sum.elim (fun y => some (.normal, st y)) ex)) (a1 : A1) : XL2 E f k key (st a1) = (qA step a1).bind ex :=
  XLs (st := fun y => st y) hc hl hne (fun a1 => h a1) a1
theorem q7B {E : Orc} {f k key : Nat} {c : Code} {A1 A2 ε : Type} {st : A1 → A2 → S} {ex : ε → XS} {step : (A1 × A2) → Option ((A1 × A2) ⊕ ε)} (hc : lbO f key = c) (hl : okL f c) (hne : ∀ e, ∃ p, ex e = some p ∧ p.1 ≠ .normal)
    (h : ∀ a1 a2, lz2 f k key (XE2 E f k c (st a1 a2)) = (step (a1, a2)).bind (Sum.elim (fun y => some (.normal, st y.1 y.2)) ex)) (a1 : A1) (a2 : A2) : XL2 E f k key (st a1 a2) = (qA step (a1, a2)).bind ex :=
  XLs (st := fun y => st y.1 y.2) hc hl hne (fun ⟨a1, a2⟩ => h a1 a2) (a1, a2)
theorem qtS {E : Orc} {f k key : Nat} {c : Code} {A1 A2 A3 ε : Type} {st : A1 → A2 → A3 → S} {ex : ε → XS} {step : (A1 × A2 × A3) → Option ((A1 × A2 × A3) ⊕ ε)} (hc : lbO f key = c) (hl : okL f c) (hne : ∀ e, ∃ p, ex e = some p ∧ p.1 ≠ .normal)
    (h : ∀ a1 a2 a3, lz2 f k key (XE2 E f k c (st a1 a2 a3)) = (step (a1, a2, a3)).bind (Sum.elim (fun y => some (.normal, st y.1 y.2.1 y.2.2)) ex)) (a1 : A1) (a2 : A2) (a3 : A3) : XL2 E f k key (st a1 a2 a3) = (qA step (a1, a2, a3)).bind ex :=
  XLs (st := fun y => st y.1 y.2.1 y.2.2) hc hl hne (fun ⟨a1, a2, a3⟩ => h a1 a2 a3) (a1, a2, a3)
theorem qvQ {E : Orc} {f k key : Nat} {c : Code} {A1 A2 A3 A4 ε : Type} {st : A1 → A2 → A3 → A4 → S} {ex : ε → XS} {step : (A1 × A2 × A3 × A4) → Option ((A1 × A2 × A3 × A4) ⊕ ε)} (hc : lbO f key = c) (hl : okL f c) (hne : ∀ e, ∃ p, ex e = some p ∧ p.1 ≠ .normal)
    (h : ∀ a1 a2 a3 a4, lz2 f k key (XE2 E f k c (st a1 a2 a3 a4)) = (step (a1, a2, a3, a4)).bind (Sum.elim (fun y => some (.normal, st y.1 y.2.1 y.2.2.1 y.2.2.2)) ex)) (a1 : A1) (a2 : A2) (a3 : A3) (a4 : A4) : XL2 E f k key (st a1 a2 a3 a4) = (qA step (a1, a2, a3, a4)).bind ex :=
  XLs (st := fun y => st y.1 y.2.1 y.2.2.1 y.2.2.2) hc hl hne (fun ⟨a1, a2, a3, a4⟩ => h a1 a2 a3 a4) (a1, a2, a3, a4)
def dzU (Q : TypeId → List Nat) : B → B
  | .row e sz cs => .row e sz (dzc (Q e) [] cs)
  | b => b
theorem qnt (z : Nat) {c : C} (h : c.isNils = false) : dz z c = c := by
  cases c <;> first | rfl | cases h
theorem q8p (zs0 : List Nat) : ∀ {cs : List C} (zs : List Nat), cs.any C.isNils = false → dzc zs0 zs cs = cs
  | [], zs, _ => by cases zs <;> rfl
  | c :: cs, zs, h => by
    rw [List.any_cons, Bool.or_eq_false_iff] at h
    cases zs with
    | nil => rw [dzc, qnt _ h.1, q8p zs0 _ h.2]
    | cons z zs => rw [dzc, qnt _ h.1, q8p zs0 _ h.2]
theorem quJ (Q : TypeId → List Nat) (b : B) : dzB Q b = dzU Q b := by
  cases b with
  | row e sz cs =>
    unfold dzB dzU
    simp only
    split
    · rfl
    · rename_i h
      rw [q8p _ _ (by simpa using h)]
  | _ => rfl
theorem qpX (Q : TypeId → List Nat) (b : B) (h : b.nilr = false) : dzU Q b = b := by
  cases b with
  | row e sz cs => unfold dzU; simp only; rw [q8p _ _ h]
  | _ => rfl
theorem qmF (tm : List (Nat × R)) (hp : List (Nat × B)) (nx n : Nat) (Q : TypeId → List Nat) : S.dzr (S.mk tm hp nx n) Q = S.mk tm (hp.map fun x => (x.1, dzU Q x.2)) nx n := by
  unfold S.dzr
  split
  · simp only [quJ]
  · rename_i h
    congr 1
    have h2 : ∀ x ∈ hp, x.2.nilr = false := fun x hx => by
      cases hb : x.2.nilr with
      | false => rfl
      | true => exact absurd (List.any_eq_true.2 ⟨x, hx, hb⟩) h
    refine (List.map_id' hp).symm.trans (List.map_congr_left fun x hx => ?_)
    rw [qpX Q x.2 (h2 x hx)]
theorem qlz (Q : TypeId → List Nat) (e sz : Nat) (cs : List C) : dzU Q (.row e sz cs) = .row e sz (dzc (Q e) [] cs) := rfl
theorem qjn (Q : TypeId → List Nat) (t : Nat) (cs : List C) : dzU Q (.blk t cs) = .blk t cs := rfl
theorem qp1 (Q : TypeId → List Nat) (o : AO) : dzU Q (.ob o) = .ob o := rfl
theorem qhi (Q : TypeId → List Nat) : dzU Q .dead = .dead := rfl
theorem qj3 {α : Type} (x : α) : Option.toArray (some x) = [x].toArray := rfl
theorem qlX {α : Type} : Option.toArray (none : Option α) = ([] : List α).toArray := rfl
theorem qo1 {α : Type} (l m : List α) : l.toArray ++ m.toArray = (l ++ m).toArray := by simp
theorem qln {α : Type} (l : List α) : Array.toList l.toArray = l := rfl
end Go.Proofs.YtplfjlcnffcenaaGreat.Vc
namespace Go.Proofs.YtplfjlcnffcenaaGreat.Vc
open Go.RowKit
set_option linter.unusedVariables false
set_option linter.unusedSimpArgs false
def mpE {κ ν : Type} (kE : κ → Value) (vE : ν → R) : List (κ × ν) → Nat → List (Value × R × Nat)
  | [], _ => []
  | p :: M, i => (kE p.1, vE p.2, i) :: mpE kE vE M (i + 1)
def mpB {κ ν : Type} (kE : κ → Value) (vE : ν → R) (M : List (κ × ν)) : AO := .mp (mpE kE vE M 0) M.length
def q2J (k : IntKind) (n : Int) : Value := .int k n
section
variable {κ ν : Type} [DecidableEq κ]
def qcg (M : List (κ × ν)) (k : κ) : Nat := match M with
  | [] => 0
  | p :: M => if k = p.1 then 0 else qcg M k + 1
def q6C (z : ν) (M : List (κ × ν)) (k : κ) : ν := match M with
  | [] => z
  | p :: M => if k = p.1 then p.2 else q6C z M k
def qch (M : List (κ × ν)) (k : κ) : Bool := match M with
  | [] => false
  | p :: M => if k = p.1 then true else qch M k
def q7R (M : List (κ × ν)) (k : κ) (v : ν) : List (κ × ν) := match M with
  | [] => [(k, v)]
  | p :: M => if k = p.1 then (k, v) :: M else p :: q7R M k v
end
section
variable {κ ν : Type} {kE : κ → Value} {vE : ν → R}
theorem qlr : ∀ (M : List (κ × ν)) (i : Nat), (mpE kE vE M i).length = M.length
  | [], _ => rfl
  | p :: M, i => by rw [mpE, List.length_cons, qlr M, List.length_cons]
theorem q9A {f : Value × R × Nat → Bool} (hf : ∀ k r i, f (kE k, r, i) = true) : ∀ (M : List (κ × ν)) (i : Nat), (mpE kE vE M i).all f = true
  | [], _ => rfl
  | p :: M, i => by rw [mpE, List.all_cons, hf, q9A hf M]; rfl
theorem q7y {f : R → R} (hf : ∀ v, f (vE v) = vE v) (M : List (κ × ν)) : AO.mapR f (mpB kE vE M) = mpB kE vE M := by
  have : ∀ (M : List (κ × ν)) (i : Nat), (mpE kE vE M i).map (fun e => (e.1, f e.2.1, e.2.2)) = mpE kE vE M i := by
    intro M
    induction M with
    | nil => intro i; rfl
    | cons p M ih => intro i; rw [mpE, List.map_cons, ih, hf]
  unfold mpB
  show AO.mp _ _ = _
  rw [this]
theorem qkE {f : R → Bool} (hf : ∀ v, f (vE v) = true) (M : List (κ × ν)) : (mpB kE vE M).Rs.all f = true := by
  have : ∀ (M : List (κ × ν)) (i : Nat), ((mpE kE vE M i).map (·.2.1)).all f = true := by
    intro M
    induction M with
    | nil => intro i; rfl
    | cons p M ih => intro i; rw [mpE, List.map_cons, List.all_cons, ih, hf]; rfl
  exact this M 0
theorem qgP {f : R → List Nat} (hf : ∀ v, f (vE v) = []) (M : List (κ × ν)) : (mpB kE vE M).Rs.flatMap f = [] := by
  have : ∀ (M : List (κ × ν)) (i : Nat), ((mpE kE vE M i).map (·.2.1)).flatMap f = [] := by
    intro M
    induction M with
    | nil => intro i; rfl
    | cons p M ih => intro i; rw [mpE, List.map_cons, List.flatMap_cons, ih, hf]; rfl
  exact this M 0
variable [DecidableEq κ] (hk : ∀ a b, kq (kE a) (kE b) = decide (a = b))
include hk
theorem qdq (k : κ) : ∀ (M : List (κ × ν)) (i : Nat) (z : ν), fnd (kE k) (mpE kE vE M i) i = if qch M k = true then some (i + qcg M k, vE (q6C z M k), i + qcg M k) else none
  | [], i, z => rfl
  | p :: M, i, z => by
    rw [mpE, fnd]
    simp only [hk, qch, qcg, q6C, decide_eq_true_eq]
    by_cases h : k = p.1
    · simp [h]
    · simp only [if_neg h]
      rw [qdq k M (i + 1) z]
      split
      · rw [show i + 1 + qcg M k = i + (qcg M k + 1) by omega]
      · rfl
theorem qtX (z : ν) (ok : Bool) (k : κ) (M : List (κ × ν)) : lkq ok (vE z) (fnd (kE k) (mpE kE vE M 0) 0) = some (tt2 (vE (q6C z M k)) ok (qch M k)) := by
  rw [qdq hk k M 0 z]
  cases hm : qch M k
  · have : q6C z M k = z := by
      clear hk
      induction M with
      | nil => rfl
      | cons p M ih =>
        rw [qch] at hm
        rw [q6C]
        split
        · rename_i h; rw [if_pos h] at hm; cases hm
        · rename_i h; rw [if_neg h] at hm; exact ih hm
    rw [this]; rfl
  · rfl
end
section
variable {κ ν : Type} {kE : κ → Value} {vE : ν → R} [DecidableEq κ]
theorem qan (k : κ) (v : ν) : ∀ (M : List (κ × ν)) (i : Nat), qch M k = true → (mpE kE vE M i).set (qcg M k) (kE k, vE v, i + qcg M k) = mpE kE vE (q7R M k v) i ∧ (q7R M k v).length = M.length
  | [], _, h => by cases h
  | p :: M, i, h => by
    rw [qch] at h
    by_cases hp : k = p.1
    · simp only [mpE, qcg, q7R, if_pos hp]
      exact ⟨rfl, rfl⟩
    · rw [if_neg hp] at h
      obtain ⟨a, b⟩ := qan k v M (i + 1) h
      simp only [mpE, qcg, q7R, if_neg hp, List.length_cons, List.set_cons_succ]
      rw [show i + (qcg M k + 1) = i + 1 + qcg M k by omega, a, b]
      exact ⟨rfl, rfl⟩
theorem qa5 (k : κ) (v : ν) : ∀ (M : List (κ × ν)) (i : Nat), qch M k = false → mpE kE vE M i ++ [(kE k, vE v, i + M.length)] = mpE kE vE (q7R M k v) i ∧ (q7R M k v).length = M.length + 1
  | [], i, _ => ⟨rfl, rfl⟩
  | p :: M, i, h => by
    rw [qch] at h
    by_cases hp : k = p.1
    · rw [if_pos hp] at h; cases h
    · rw [if_neg hp] at h
      obtain ⟨a, b⟩ := qa5 k v M (i + 1) h
      simp only [mpE, q7R, if_neg hp, List.length_cons, List.cons_append]
      rw [show i + (M.length + 1) = i + 1 + M.length by omega, a, b]
      exact ⟨rfl, rfl⟩
end
def mpq : B → Option (List (Value × R × Nat))
  | .ob (.mp es _) => some es
  | _ => none
def mpo (s : S) : R → Option (List (Value × R × Nat))
  | .c .nilm => some []
  | .c (.hd .map id) => mpq (s.blk id)
  | _ => none
theorem qgG (s : S) (x : Operand) : q3h s x = mpo s (s.ev x) := by
  unfold q3h mpo mpq
  generalize s.ev x = r
  cases r with
  | c c =>
    cases c with
    | hd k id => cases k <;> rfl
    | _ => rfl
  | _ => rfl
theorem que {κ ν : Type} (kE : κ → Value) (vE : ν → R) (M : List (κ × ν)) : mpq (.ob (mpB kE vE M)) = some (mpE kE vE M 0) := rfl
def mup (kt : Kd) (kv : Value) (r : R) : B → Option B
  | .ob (.mp es ck) => if plK kt kv = true ∧ es.all (fun q => plK kt q.1) = true then
      (match fnd kv es 0 with
        | some q => some (.ob (.mp (es.set q.1 (kv, r, q.2.2)) ck))
        | none => some (.ob (.mp (es ++ [(kv, r, ck)]) (ck + 1)))) else none
  | _ => none
def xmu (T : Ty) (s : S) (t : TypeId) (m : R) (kv : Option Value) (r : R) : Option (R × S) :=
  match T.k t, m, kv with
  | .mp kt _, .c (.hd .map id), some kv => (mup (T.k kt) kv r (s.blk id)).bind fun b => some (.any, s.up [(id, b)])
  | _, _, _ => none
theorem qoG (T : Ty) (s : S) (t : TypeId) (m : R) (kv : Option Value) (r : R) : xmu T s t m kv r =
  match T.k t, m, kv with
  | .mp kt _, .c (.hd .map id), some kv => (mup (T.k kt) kv r (s.blk id)).bind fun b => some (.any, s.up [(id, b)])
  | _, _, _ => none := rfl
theorem qca (T : Ty) (s : S) (t : TypeId) (m k x : Operand) : q1y T s t m k x = xmu T s t (s.ev m) (s.ev k).key (s.ev x) := by
  unfold q1y xmu mup
  generalize T.k t = kd
  generalize s.ev m = r
  generalize (s.ev k).key = kv
  cases kd with
  | mp kt e =>
    cases r with
    | c c =>
      cases c with
      | hd h id =>
        cases h with
        | map =>
          cases kv with
          | none => rfl
          | some kv =>
            simp only
            generalize s.blk id = b
            cases b with
            | ob o =>
              cases o with
              | mp es ck =>
                simp only
                split
                · cases fnd kv es 0 <;> rfl
                · rfl
              | _ => rfl
            | _ => rfl
        | _ => rfl
      | _ => rfl
    | _ => rfl
  | _ => rfl
section
variable {κ ν : Type} {kE : κ → Value} {vE : ν → R} [DecidableEq κ] (hk : ∀ a b, kq (kE a) (kE b) = decide (a = b)) {kt : Kd} (hp : ∀ a, plK kt (kE a) = true)
include hk hp
theorem quH (k : κ) (v : ν) (M : List (κ × ν)) : mup kt (kE k) (vE v) (.ob (mpB kE vE M)) = some (.ob (mpB kE vE (q7R M k v))) := by
  unfold mpB mup
  simp only
  rw [if_pos ⟨hp k, q9A (fun k r i => hp k) M 0⟩, qdq hk k M 0 v]
  cases hm : qch M k
  · obtain ⟨a, b⟩ := qa5 (kE := kE) (vE := vE) k v M 0 hm
    simp only [Bool.false_eq_true, if_false]
    rw [Nat.zero_add] at a
    rw [a, b]
  · obtain ⟨a, b⟩ := qan (kE := kE) (vE := vE) k v M 0 hm
    simp only [if_true]
    rw [Nat.zero_add] at a ⊢
    rw [a, b]
end
theorem qlD {κ ν : Type} {kE : κ → Value} {vE : ν → R} {s : S} {sel : List Nat} (h : ∀ v, qfp s sel (vE v) = vE v) (M : List (κ × ν)) : cvA s sel (mpB kE vE M) = some (mpB kE vE M) := by
  have : ∀ (M : List (κ × ν)) (i : Nat), (mpE kE vE M i).map (fun e => (e.1, qfp s sel e.2.1, e.2.2)) = mpE kE vE M i := by
    intro M
    induction M with
    | nil => intro i; rfl
    | cons p M ih => intro i; rw [mpE, List.map_cons, ih, h]
  show some (AO.mp ((mpE kE vE M 0).map fun e => (e.1, qfp s sel e.2.1, e.2.2)) M.length) = _
  rw [this]; rfl
theorem qhJ (k : IntKind) (a b : Int) : kq (q2J k a) (q2J k b) = decide (a = b) := rfl
end Go.Proofs.YtplfjlcnffcenaaGreat.Vc
namespace Go.Proofs.YtplfjlcnffcenaaGreat.Vc
open Go.RowKit
set_option linter.unusedSectionVars false
theorem qh3 {κ ν : Type} (kE : κ → Value) (vE : ν → R) (M : List (κ × ν)) : quN (mpB kE vE M) = true := rfl
theorem q8o (o : AO) : q0p 1 [.c (.hd .map 0)] [(0, .ob o)] = if quN o = true then some (.c (.hd .map 1), [(0, .ob o), (1, .ob o)]) else none := rfl
theorem qa6 : ∀ l : List Int, q9w ((l.flatMap eI).map C.d) = some l
  | [] => rfl
  | x :: l => by
    rw [List.flatMap_cons, List.map_append]
    show (q9w ((l.flatMap eI).map C.d)).map (x :: ·) = _
    rw [qa6 l]; rfl
theorem q6T : ∀ l : List Int, (l.map fun z => C.d (.int .i64 z)) = (l.flatMap eI).map C.d
  | [] => rfl
  | x :: l => by
    rw [List.flatMap_cons, List.map_append, List.map_cons, q6T l]; rfl
end Go.Proofs.YtplfjlcnffcenaaGreat.Vc
namespace Go.Proofs.YtplfjlcnffcenaaGreat.Vc
open Go.RowKit
set_option linter.defProp false
set_option linter.unusedVariables false
def bx0 := JA_ @S.strip.eq_1 (JA_ @q2m.eq_1 (JA_ @q2m.eq_2 (JA_ @qq5.eq_1 (JA_ @R.isA.eq_1 (JA_ @R.isA.eq_2 (JA_ @qwx.eq_1 (JA_ @qrV.eq_1 (JA_ @qe5.eq_1 (JA_ @qdI.eq_1 (JA_ @S.ly.eq_1 (JA_ @alC.eq_1 (JA_ @alC.eq_2 (JA_ @alX.eq_1 (JA_ @alX.eq_2 (JA_ @qvR.eq_1 (JA_ @qns.eq_1 (JA_ @qrW.eq_1 (JA_ @ipX.eq_1 (JA_ @qs3.eq_1 (JA_ @qs3.eq_2 (JA_ @qsC.eq_1 (JA_ @quh.eq_1 (JA_ @qaj.eq_1 (JA_ @qhm.eq_1 (JA_ @qhm.eq_2 (JA_ @zmk.eq_1 (JA_ @zmk.eq_2 (JA_ @S.fin.eq_1 (JA_ @S.fn1.eq_1 (JA_ @S.inr.eq_1 (JA_ @prx.eq_1 (JA_ @pr0.eq_1 (JA_ @List.isEmpty_nil.{0} (JA_ @List.isEmpty_cons.{0} (@wbC.eq_1)))))))))))))))))))))))))))))))))))
def bx1 := JA_ @B.beq.eq_1 (JA_ @C.beqL.eq_1 (JA_ @C.beqL.eq_2 (JA_ @C.beq0.eq_1 (JA_ @D.beq.eq_1 (JA_ @D.beq.eq_4 (JA_ @qt9.eq_1 (JA_ @dzc.eq_2 (JA_ @C.isNils.eq_2 (JA_ @qhg (JA_ @List.any_append.{0} (JA_ @q2E.eq_1 (@q4t.eq_1))))))))))))
def bx2 := JA_ @q4t.eq_2 (JA_ @qgc.eq_1 (JA_ @fpA.eq_1 (JA_ @qc7.eq_1 (JA_ @S.kill.eq_1 (JA_ @qkf.eq_1 (JA_ @qkf.eq_2 (JA_ @qdu.eq_1 (JA_ @qqj.eq_1 (JA_ @okX.eq_1 (JA_ @okX.eq_2 (JA_ @okK.eq_1 (JA_ @okN.eq_1 (JA_ @okN.eq_2 (JA_ @q43.eq_1 (JA_ @qkh.eq_1 (JA_ @qkh.eq_2 (JA_ @qm4.eq_1 (JA_ @qm4.eq_2 (JA_ @q3d.eq_1 (JA_ @qf8.eq_1 (JA_ @q0Z.eq_1 (JA_ @qcW.eq_1 (JA_ @q3k.eq_1 (@q39.eq_1))))))))))))))))))))))))
def bx3 := JA_ @q5O.eq_1 (JA_ @qf7.eq_1 (JA_ @D.key.eq_1 (JA_ @R.key.eq_1 (JA_ @plK.eq_1 (JA_ @zR.eq_1 (@tt2.eq_1))))))
def bx4 := JA_ @B.isOb.eq_2 (JA_ @AO.mapR.eq_3 (JA_ @AO.Rs.eq_3 (JA_ @xgd.eq_1 (JA_ @xgF.eq_1 (JA_ @xo.eq_1 (JA_ @xo.eq_2 (JA_ @xo.eq_3 (JA_ @xo.eq_4 (JA_ @xo.eq_5 (JA_ @xo.eq_6 (JA_ @xo.eq_7 (JA_ @xo.eq_8 (JA_ @xo.eq_9 (JA_ @xo.eq_10 (JA_ @xo.eq_11 (JA_ @xo.eq_12 (JA_ @xo.eq_13 (@xo.eq_14))))))))))))))))))
def bx5 := JA_ @xo.eq_16 (JA_ @xo.eq_17 (JA_ @xo.eq_18 (JA_ @xo.eq_19 (JA_ @xo.eq_20 (JA_ @xo.eq_21 (JA_ @xo.eq_22 (JA_ @xo.eq_23 (JA_ @xo.eq_24 (JA_ @xo.eq_25 (JA_ @xo.eq_29 (JA_ @xo.eq_30 (JA_ @xo.eq_31 (JA_ @xCl.eq_1 (JA_ @pre.eq_1 (JA_ @pre.eq_2 (JA_ @pre.eq_3 (JA_ @q5C.eq_1 (JA_ @q06.eq_1 (JA_ @q6O.eq_1 (JA_ @qaL.eq_1 (JA_ @q99.eq_1 (JA_ @q1D.eq_1 (JA_ @q0K.eq_2 (JA_ @q0K.eq_3 (JA_ @qtj.eq_1 (JA_ @qce.eq_1 (JA_ @qce.eq_2 (JA_ @cvR.eq_1 (JA_ @cvR.eq_2 (JA_ @cvL.eq_1 (JA_ @cvL.eq_2 (@qfq.eq_1))))))))))))))))))))))))))))))))
def bx6 := JA_ @qfq.eq_2 (JA_ @cv.eq_1 (JA_ @cv.eq_2 (JA_ @cv0.eq_1 (JA_ @cv0.eq_5 (JA_ @cv0.eq_8 (JA_ @cv0.eq_9 (JA_ @cv0.eq_10 (JA_ @cvG.eq_1 (JA_ @cvG.eq_2 (JA_ @cvB.eq_1 (JA_ @cvB.eq_3 (JA_ @vis.eq_1 (JA_ @q76.eq_1 (JA_ @q76.eq_2 (JA_ @q1z (JA_ @qjy.eq_1 (JA_ @pos.eq_1 (JA_ @pos.eq_2 (JA_ @qga.eq_1 (JA_ @qgF.eq_1 (JA_ @qaX.eq_1 (JA_ @qrv.eq_1 (JA_ @q2k.eq_1 (JA_ @q1O.eq_1 (JA_ @q1Q.eq_1 (JA_ @q4Z.eq_1 (JA_ @q2K.eq_1 (JA_ @qaH.eq_1 (@qaH.eq_2)))))))))))))))))))))))))))))
def bx7 := JA_ @qaH.eq_3 (JA_ @qaH.eq_4 (JA_ @qaH.eq_5 (JA_ @qaH.eq_10 (JA_ @qaH.eq_11 (JA_ @qaH.eq_12 (JA_ @qaH.eq_13 (JA_ @qaH.eq_14 (JA_ @qaH.eq_15 (JA_ @qld.eq_2 (JA_ @qld.eq_3 (JA_ @qld.eq_6 (JA_ @qld.eq_7 (JA_ @qo4.eq_1 (JA_ @qo4.eq_2 (JA_ @qpd.eq_1 (JA_ @qpd.eq_2 (JA_ @qrL.eq_1 (JA_ @qrB.eq_1 (JA_ @qsd.eq_1 (JA_ @qrt.eq_1 (@qgV.eq_1)))))))))))))))))))))
def bx8 := JA_ @qaA.eq_1 (JA_ @qa7.eq_1 (JA_ @qax.eq_1 (JA_ @J4.eq_1 (JA_ @q3e.eq_1 (JA_ @q2I.eq_1 (JA_ @Kd.isSl.eq_1 (JA_ @nrm.eq_1 (JA_ @qiV.eq_1 (JA_ @qsn.eq_1 (JA_ @rng.eq_1 (JA_ @rng.eq_2 (JA_ @rwAll.eq_1 (JA_ @rwAll.eq_2 (JA_ @rw1.eq_1 (JA_ @rw1.eq_2 (JA_ @cn.eq_1 (JA_ @cn.eq_2 (JA_ @cn0.eq_1 (JA_ @cn0.eq_2 (JA_ @cn0.eq_3 (JA_ @cn0.eq_5 (JA_ @cnR.eq_2 (JA_ @qfa.eq_1 (JA_ @qfa.eq_2 (JA_ @qfa.eq_3 (JA_ @cnB.eq_1 (JA_ @cnB.eq_2 (JA_ @cnB.eq_3 (JA_ @cnH.eq_1 (JA_ @cnH.eq_2 (@qp4)))))))))))))))))))))))))))))))
def bx9 := JA_ @qZ.eq_1 (JA_ @qZ.eq_2 (JA_ @qm6.eq_1 (JA_ @qc2.eq_1 (JA_ @q6t.eq_1 (JA_ @qc0.eq_1 (JA_ @q6l.eq_1 (JA_ @qa3.eq_1 (JA_ @q6r.eq_1 (JA_ @q6r.eq_2 (JA_ @S.frz.eq_1 (JA_ @S.frz.eq_2 (JA_ @S.frz1.eq_1 (JA_ @fz.eq_2 (JA_ @fz0.eq_1 (JA_ @fz0.eq_2 (JA_ @fz0.eq_5 (JA_ @fzR.eq_1 (JA_ @fzR.eq_2 (JA_ @qfv.eq_1 (JA_ @qfv.eq_2 (JA_ @qfv.eq_3 (JA_ @fzB.eq_1 (JA_ @fzB.eq_2 (JA_ @fzB.eq_4 (JA_ @qnD (JA_ @dz.eq_1 (JA_ @dz.eq_2 (JA_ @dzL.eq_1 (JA_ @dzL.eq_2 (JA_ @dzR.eq_1 (@dzR.eq_2)))))))))))))))))))))))))))))))
def qxX := JA_ @qbX.eq_1 (JA_ @qbX.eq_2 (JA_ @one.eq_1 (JA_ @one.eq_2 (JA_ @rvs.eq_1 (JA_ @rvs.eq_2 (JA_ @qiC.eq_1 (JA_ @qiC.eq_2 (JA_ @tt.eq_1 (JA_ @ff.eq_1 (JA_ @q7I.eq_1 (JA_ @q7I.eq_2 (JA_ @C.ref0.eq_1 (JA_ @C.ref0.eq_2 (JA_ @C.ref0.eq_3 (JA_ @C.ref0.eq_4 (JA_ @C.refs.eq_1 (JA_ @C.refs.eq_2 (JA_ @B.refs.eq_1 (JA_ @B.refs.eq_2 (JA_ @B.refs.eq_3 (JA_ @B.refs.eq_4 (JA_ @R.refs.eq_1 (JA_ @R.refs.eq_2 (JA_ @R.refs.eq_4 (JA_ @C.rows0.eq_1 (JA_ @C.rows0.eq_2 (JA_ @C.rows.eq_1 (JA_ @C.rows.eq_2 (JA_ @R.rows.eq_1 (JA_ @R.rows.eq_2 (JA_ @C.ptrs0.eq_1 (JA_ @C.ptrs0.eq_2 (JA_ @C.ptrs0.eq_3 (JA_ @C.ptrs.eq_1 (JA_ @C.ptrs.eq_2 (JA_ @R.ptrs.eq_1 (@R.ptrs.eq_2)))))))))))))))))))))))))))))))))))))
def qxf := JA_ @B.isBlk.eq_1 (JA_ @B.isBlk.eq_2 (JA_ @B.isBlk.eq_3 (JA_ @R.scl.eq_1 (JA_ @R.scl.eq_2 (JA_ @R.scl0.eq_1 (JA_ @R.scl0.eq_2 (JA_ @C.scl.eq_1 (JA_ @C.scl.eq_2 (JA_ @C.scl0.eq_1 (JA_ @C.scl0.eq_4 (JA_ @B.scl.eq_1 (JA_ @B.scl.eq_2 (JA_ @B.scl.eq_3 (JA_ @C.dat.eq_1 (JA_ @C.dat.eq_2 (JA_ @C.dat0.eq_1 (JA_ @C.dat0.eq_8 (JA_ @ren.eq_1 (JA_ @R.rn.eq_1 (JA_ @R.rn.eq_2 (JA_ @R.rn0.eq_1 (JA_ @R.rn0.eq_2 (JA_ @C.rn.eq_1 (JA_ @C.rn.eq_2 (JA_ @C.rn0.eq_2 (@C.rn0.eq_3))))))))))))))))))))))))))
def qzG := JA_ @C.rn0.eq_5 (JA_ @B.rn.eq_1 (JA_ @B.rn.eq_2 (JA_ @B.rn.eq_3 (JA_ @qpi (JA_ @S.aft.eq_1 (JA_ @S.fgL.eq_1 (JA_ @C.farL.eq_1 (JA_ @C.farL.eq_3 (JA_ @C.farL.eq_5 (JA_ @R.farL.eq_1 (JA_ @R.farL.eq_2 (JA_ @R.farL.eq_4 (JA_ @B.farL.eq_1 (JA_ @B.farL.eq_2 (JA_ @qrz.eq_3 (@qjt.eq_1))))))))))))))))
def qy6 := JA_ @qjt.eq_2 (JA_ @S.ev.eq_1 (JA_ @S.ev.eq_2 (JA_ @S.ev.eq_3 (JA_ @S.get.eq_1 (JA_ @S.blk.eq_1 (JA_ @S.put.eq_1 (JA_ @S.put.eq_2 (JA_ @S.up.eq_1 (JA_ @S.bd.eq_1 (JA_ @S.bd.eq_2 (JA_ @S.seq.eq_1 (JA_ @S.cell1.eq_1 (JA_ @lk.eq_1 (JA_ @lk.eq_2 (JA_ @q2s.eq_1 (JA_ @q2s.eq_2 (JA_ @q2s.eq_3 (JA_ @q2s.eq_6 (JA_ @q0O.eq_1 (JA_ @q0O.eq_2 (JA_ @qlQ (JA_ @ldx.eq_1 (JA_ @bld.eq_1 (JA_ @bld.eq_2 (JA_ @spl.eq_1 (JA_ @spl.eq_2 (JA_ @J6.eq_1 (JA_ @Ty.foff.eq_1 (JA_ @R.cells.eq_1 (JA_ @R.cells.eq_2 (JA_ @R.parts.eq_1 (@R.parts.eq_2))))))))))))))))))))))))))))))))
def qyk := JA_ @B.cells.eq_1 (JA_ @B.cells.eq_2 (JA_ @B.live.eq_1 (JA_ @B.live.eq_2 (JA_ @C.known.eq_2 (JA_ @C.far.eq_3 (JA_ @C.far.eq_5 (JA_ @S.fg.eq_1 (JA_ @R.fg.eq_1 (JA_ @R.fg.eq_2 (JA_ @R.fg.eq_3 (JA_ @R.fg.eq_4 (JA_ @B.fg.eq_1 (JA_ @B.fg.eq_2 (JA_ @B.fg.eq_3 (JA_ @B.fg.eq_4 (JA_ @C.fg.eq_1 (JA_ @C.fg.eq_2 (JA_ @C.fg.eq_3 (JA_ @C.fg.eq_4 (JA_ @C.fg.eq_5 (JA_ @D1.eq_1 (JA_ @q0B.eq_1 (JA_ @q0B.eq_2 (JA_ @q0B.eq_3 (JA_ @q0B.eq_4 (JA_ @q0B.eq_6 (JA_ @q0B.eq_7 (JA_ @q0B.eq_8 (JA_ @q0B.eq_9 (JA_ @q0B.eq_10 (@q0B.eq_11)))))))))))))))))))))))))))))))
def qyC := JA_ @q0B.eq_14 (JA_ @q0B.eq_15 (JA_ @q0B.eq_17 (JA_ @q0B.eq_19 (JA_ @q0B.eq_23 (JA_ @q0B.eq_24 (JA_ @qfr.eq_1 (JA_ @qfr.eq_4 (JA_ @qfr.eq_5 (JA_ @q60.eq_3 (JA_ @q60.eq_5 (JA_ @q60.eq_6 (JA_ @qdR.eq_1 (JA_ @qdR.eq_3 (JA_ @qdR.eq_4 (JA_ @qdR.eq_5 (JA_ @fpC.eq_1 (JA_ @qn7.eq_1 (JA_ @qqF.eq_1 (JA_ @qs8.eq_1 (JA_ @C.lt0.eq_3 (JA_ @C.lt0.eq_4 (JA_ @C.ltn.eq_2 (JA_ @R.lt0.eq_1 (@R.lt0.eq_2))))))))))))))))))))))))
def qz8 := JA_ @R.ltn.eq_1 (JA_ @R.ltn.eq_2 (JA_ @B.ltn.eq_1 (JA_ @q1o.eq_1 (JA_ @Fp.none?.eq_1 (JA_ @okP.eq_1 (JA_ @okP.eq_2 (JA_ @qgh (JA_ @qhv (JA_ @qkL (JA_ @qh6 (JA_ @qgM (JA_ @qgN (JA_ @qjZ (JA_ @qfL (JA_ @qhx (JA_ @qgW (JA_ @qbO (JA_ @qiP (JA_ @qh5 (JA_ @qfR (JA_ @qlB (JA_ @qfJ (JA_ @qg7 (JA_ @qgr (JA_ @qiI (JA_ @qhu (JA_ @qhs (JA_ @qgI (JA_ @qjb (JA_ @qgC (JA_ @qjj (@qdE))))))))))))))))))))))))))))))))
def qz2 := JA_ @qjq (JA_ @qhb (JA_ @qgJ (JA_ @qnl (JA_ @C.farF.eq_2 (JA_ @Go.Op.operands.eq_1 (JA_ @Go.Op.operands.eq_4 (JA_ @Go.Op.operands.eq_5 (JA_ @Go.Op.operands.eq_7 (JA_ @Go.Op.operands.eq_8 (JA_ @Go.Op.operands.eq_9 (JA_ @Go.Op.operands.eq_14 (JA_ @Go.Op.operands.eq_20 (JA_ @Go.Op.operands.eq_23 (JA_ @Go.Op.operands.eq_24 (JA_ @Go.Op.operands.eq_25 (JA_ @Go.Op.operands.eq_26 (JA_ @Go.Op.operands.eq_27 (@Go.Op.operands.eq_29))))))))))))))))))
def qy9 := JA_ @Go.Op.operands.eq_36 (JA_ @Go.Op.operands.eq_40 (JA_ @qn2 (JA_ @qpD (JA_ @qqh.eq_1 (JA_ @qqh.eq_2 (JA_ @Option.toList_some.{0} (JA_ @Option.toList_none.{0} (JA_ @List.all_append.{0} (JA_ @List.getElem?_nil.{0} (JA_ @List.drop_zero.{0} (JA_ @Int.cast_ofNat_Int (JA_ @Int.le_refl (JA_ @Nat.le_refl (JA_ @Option.bind_assoc.{0,0,0} (JA_ @List.any_nil.{0} (JA_ @List.any_cons.{0} (JA_ @List.getD_cons_zero.{0} (JA_ @List.getD_cons_succ.{0} (JA_ @true_and (JA_ @and_true (JA_ @and_false (JA_ @Option.some.injEq.{0} (@Prod.mk.injEq.{0,0})))))))))))))))))))))))
def qzd := JA_ @Option.bind_some.{0,0} (JA_ @Option.bind_none.{0,0} (JA_ @Option.map_some.{0,0} (JA_ @Option.map_none.{0,0} (JA_ @Option.getD_some.{0} (JA_ @Option.getD_none.{0} (JA_ @ne_eq.{1} (JA_ @not_false_eq_true (JA_ @or_false (JA_ @Bool.false_eq_true (JA_ @List.map_cons.{0,0} (JA_ @List.map_nil.{0,0} (JA_ @List.all_cons.{0} (JA_ @List.all_nil.{0} (JA_ @Bool.and_true (JA_ @Bool.true_and (JA_ @Bool.and_false (JA_ @Bool.false_and (JA_ @Bool.and_eq_true (JA_ @Bool.or_true (JA_ @Bool.true_or (JA_ @Bool.or_false (JA_ @Bool.false_or (JA_ @List.length_cons.{0} (JA_ @List.length_nil.{0} (JA_ @List.length_map.{0,0} (JA_ @List.getElem?_cons_zero.{0} (JA_ @List.getElem?_cons_succ.{0} (JA_ @List.foldl_cons.{0,0} (JA_ @List.foldl_nil.{0,0} (JA_ @List.cons_append.{0} (JA_ @List.nil_append.{0} (JA_ @List.append_nil.{0} (JA_ @Nat.max_def (JA_ @decide_true (@decide_false)))))))))))))))))))))))))))))))))))
def qyE := JA_ @decide_not (JA_ @decide_eq_true_eq (JA_ @Nat.zero_le (JA_ @Nat.zero_mul (JA_ @Nat.mul_one (JA_ @Nat.one_mul (JA_ @Nat.add_zero (JA_ @Nat.zero_add (JA_ @Int.toNat_natCast (JA_ @List.mapM_cons.{0,0,0} (JA_ @List.mapM_nil.{0,0,0} (JA_ @List.drop_succ_cons.{0} (JA_ @List.drop_nil.{0} (JA_ @List.take_succ_cons.{0} (JA_ @List.take_zero.{0} (JA_ @List.replicate_succ.{0} (JA_ @List.replicate_zero.{0} (JA_ @List.set_cons_zero.{0} (JA_ @List.set_cons_succ.{0} (JA_ @and_self (JA_ @Bool.not_true (JA_ @Bool.not_false (JA_ @List.contains_cons.{0} (JA_ @List.contains_nil.{0} (JA_ @List.flatMap_cons.{0,0} (JA_ @List.flatMap_nil.{0,0} (JA_ @List.filter_cons.{0} (JA_ @List.filter_nil.{0} (JA_ @List.eraseDups_cons.{0} (JA_ @List.eraseDups_nil.{0} (JA_ @List.nodup_cons.{0} (JA_ @List.nodup_nil.{0} (JA_ @List.mem_cons.{0} (JA_ @List.not_mem_nil.{0} (JA_ @List.headD_cons.{0} (JA_ @List.headD_nil.{0} (JA_ @List.tail_cons.{0} (JA_ @List.tail_nil.{0} (JA_ @beq_self_eq_true.{0} (@ZH)))))))))))))))))))))))))))))))))))))))
def qzl := JA_ @List.range_succ (JA_ @List.range_zero (JA_ @ite_self.{1} (JA_ @R.dat.eq_1 (JA_ @R.dat.eq_2 (JA_ @qj3 (JA_ @qlX (JA_ @qo1 (JA_ @qln (JA_ @qmF (JA_ @qlz (JA_ @qjn (JA_ @qp1 (JA_ @qhi (JA_ @q8p (JA_ @qgG (JA_ @mpo.eq_2 (JA_ @que (JA_ @qca (@qoG)))))))))))))))))))
def qA1 := JA_ @qka (JA_ @qpF (JA_ @qlx (JA_ @qpq (JA_ @qhj (JA_ @qj8 (JA_ @qdx (JA_ @qlG (JA_ @qlp (JA_ @qbE (JA_ @qjg (JA_ @qgA (JA_ @qhz (JA_ @qlc (JA_ @qfy (JA_ @qkO (JA_ @qgk (JA_ @qc4 (JA_ @qjW (JA_ @qgR (JA_ @qha (JA_ @qkI (JA_ @qg5 (JA_ @qlj (@qfY))))))))))))))))))))))))
def qzq := JA_ @ql1 (JA_ @qiM (JA_ @qhc (JA_ @qzc (JA_ @qA5 (JA_ @qtI (JA_ @qtp (JA_ @qty (JA_ @qmt (JA_ @qoT (JA_ @qqk (JA_ @quI (JA_ @qni (JA_ @qpG (JA_ @qoW (JA_ @qlg (JA_ @qkD (JA_ @qmi (JA_ @qlU (JA_ @qo5 (JA_ @qn9 (JA_ @Sum.elim_inl.{0,1,0} (@Sum.elim_inr.{0,1,0}))))))))))))))))))))))
def qyG := JA_ @ql2 (JA_ @qf6 (JA_ @qeJ (JA_ @qpQ.eq_1 (JA_ @qel (JA_ @qkk (JA_ @qjo (JA_ @qiN (JA_ @qj1 (JA_ @qkp (JA_ @q9m (JA_ @q8i (JA_ @qpv (JA_ @qse.eq_1 (JA_ @qse.eq_2 (JA_ @List.length_append.{0} (JA_ @List.length_set.{0} (JA_ @List.length_modify.{0} (JA_ @qcd (JA_ @qde (@List.take_nil.{0}))))))))))))))))))))
def qyY := JA_ @qdJ (JA_ @qgS (JA_ @qh3 (JA_ @q8o (JA_ @qa6 (@q6T)))))
theorem qy7 (a0 a1 a2 : Int) (i : Nat) : ([C.d (D.int .i64 a0), C.d (D.int .i64 a1), C.d (D.int .i64 a2)] : List C)[i]? = ([a0, a1, a2][i]?).bind fun x => some (C.d (D.int .i64 x)) := by rw [show ([C.d (D.int .i64 a0), C.d (D.int .i64 a1), C.d (D.int .i64 a2)] : List C) = [a0, a1, a2].map (fun x => C.d (D.int .i64 x)) from rfl, List.getElem?_map]; cases ([a0, a1, a2] : List Int)[i]? <;> rfl
theorem qym (a0 a1 a2 a3 : Int) (i : Nat) : ([C.d (D.int .i64 a0), C.d (D.int .i64 a1), C.d (D.int .i64 a2), C.d (D.int .i64 a3)] : List C)[i]? = ([a0, a1, a2, a3][i]?).bind fun x => some (C.d (D.int .i64 x)) := by rw [show ([C.d (D.int .i64 a0), C.d (D.int .i64 a1), C.d (D.int .i64 a2), C.d (D.int .i64 a3)] : List C) = [a0, a1, a2, a3].map (fun x => C.d (D.int .i64 x)) from rfl, List.getElem?_map]; cases ([a0, a1, a2, a3] : List Int)[i]? <;> rfl
theorem qyB (a0 a1 a2 a3 a4 : Int) (i : Nat) : ([C.d (D.int .i64 a0), C.d (D.int .i64 a1), C.d (D.int .i64 a2), C.d (D.int .i64 a3), C.d (D.int .i64 a4)] : List C)[i]? = ([a0, a1, a2, a3, a4][i]?).bind fun x => some (C.d (D.int .i64 x)) := by rw [show ([C.d (D.int .i64 a0), C.d (D.int .i64 a1), C.d (D.int .i64 a2), C.d (D.int .i64 a3), C.d (D.int .i64 a4)] : List C) = [a0, a1, a2, a3, a4].map (fun x => C.d (D.int .i64 x)) from rfl, List.getElem?_map]; cases ([a0, a1, a2, a3, a4] : List Int)[i]? <;> rfl
theorem qz0 (a0 a1 a2 a3 a4 a5 : Int) (i : Nat) : ([C.d (D.int .i64 a0), C.d (D.int .i64 a1), C.d (D.int .i64 a2), C.d (D.int .i64 a3), C.d (D.int .i64 a4), C.d (D.int .i64 a5)] : List C)[i]? = ([a0, a1, a2, a3, a4, a5][i]?).bind fun x => some (C.d (D.int .i64 x)) := by rw [show ([C.d (D.int .i64 a0), C.d (D.int .i64 a1), C.d (D.int .i64 a2), C.d (D.int .i64 a3), C.d (D.int .i64 a4), C.d (D.int .i64 a5)] : List C) = [a0, a1, a2, a3, a4, a5].map (fun x => C.d (D.int .i64 x)) from rfl, List.getElem?_map]; cases ([a0, a1, a2, a3, a4, a5] : List Int)[i]? <;> rfl
theorem qze (a0 a1 a2 a3 : ByteArray) (i : Nat) : ([C.d (D.str a0), C.d (D.str a1), C.d (D.str a2), C.d (D.str a3)] : List C)[i]? = ([a0, a1, a2, a3][i]?).bind fun x => some (C.d (D.str x)) := by rw [show ([C.d (D.str a0), C.d (D.str a1), C.d (D.str a2), C.d (D.str a3)] : List C) = [a0, a1, a2, a3].map (fun x => C.d (D.str x)) from rfl, List.getElem?_map]; cases ([a0, a1, a2, a3] : List ByteArray)[i]? <;> rfl
theorem qzN (a0 a1 a2 a3 a4 : ByteArray) (i : Nat) : ([C.d (D.str a0), C.d (D.str a1), C.d (D.str a2), C.d (D.str a3), C.d (D.str a4)] : List C)[i]? = ([a0, a1, a2, a3, a4][i]?).bind fun x => some (C.d (D.str x)) := by rw [show ([C.d (D.str a0), C.d (D.str a1), C.d (D.str a2), C.d (D.str a3), C.d (D.str a4)] : List C) = [a0, a1, a2, a3, a4].map (fun x => C.d (D.str x)) from rfl, List.getElem?_map]; cases ([a0, a1, a2, a3, a4] : List ByteArray)[i]? <;> rfl
theorem qxT (a b c : Int) (i : Nat) : ([C.d (D.sl 1 0 []), C.d (D.sl 1 1 [D.int .i64 a]), C.d (D.sl 1 2 [D.int .i64 b, D.int .i64 c])] : List C)[i]? = (([[], [a], [b, c]] : List (List Int))[i]?).bind fun x => some (C.d (D.sl 1 x.length (x.flatMap eI))) := by rw [show ([C.d (D.sl 1 0 []), C.d (D.sl 1 1 [D.int .i64 a]), C.d (D.sl 1 2 [D.int .i64 b, D.int .i64 c])] : List C) = ([[], [a], [b, c]] : List (List Int)).map (fun x => C.d (D.sl 1 x.length (x.flatMap eI))) from rfl, List.getElem?_map]; cases ([[], [a], [b, c]] : List (List Int))[i]? <;> rfl
theorem qyw {β : Type} (T : Ty) (f1 f2 f3 f4 : FuncId) (i : Nat) (t : TypeId) (K : R → Option β) (h : ld T [] 0 t = none) : (ld T (List.take 1 (List.drop i [C.nilf, C.fn f1 [] [], C.fn f2 [] [], C.fn f3 [] [], C.fn f4 [] []])) 0 t).bind K = if i = 0 then (ld T [C.nilf] 0 t).bind K else if i = 1 then (ld T [C.fn f1 [] []] 0 t).bind K else if i = 2 then (ld T [C.fn f2 [] []] 0 t).bind K else if i = 3 then (ld T [C.fn f3 [] []] 0 t).bind K else if i = 4 then (ld T [C.fn f4 [] []] 0 t).bind K else none := by rcases i with _|_|_|_|_|i <;> simp [h]
theorem qjF (T : Ty) (off : Nat) (t : TypeId) : ld T [] off t = ldx T [] off t := rfl
theorem qsH {α : Type} (l : List α) (k : Nat) : (l.length = min k l.length) = (l.length ≤ k) := by apply propext; omega
theorem qtK {α : Type} (l : List α) (k : Nat) : (min k l.length ≤ l.length) = True := eq_true (Nat.min_le_right ..)
theorem qsp {α : Type} (e : α → List D) (l : List α) (k : Nat) : (if l.length ≤ k then some (l.flatMap e) else some ((l.take (min k l.length)).flatMap e)) = some ((l.take k).flatMap e) := by
  split
  · rename_i h; rw [List.take_of_length_le h]
  · rename_i h; rw [show min k l.length = k by omega]
theorem quu {α : Type} (e : α → List D) (sz : Nat) (l : List α) (k : Nat) : D.sl sz (min k l.length) ((l.take k).flatMap e) = D.sl sz (l.take k).length ((l.take k).flatMap e) := by rw [List.length_take]
theorem qoK {α : Type} (l : List α) (k : Nat) : (l.length * 2 = min k l.length * 2) = (l.length ≤ k) := by apply propext; omega
theorem qo6 {α : Type} (l : List α) (k : Nat) : (min k l.length * 2 ≤ l.length * 2) = True := eq_true (by omega)
theorem qqn (l : List Int) : ((q01 l).length = l.length) = True := eq_true (JO l)
theorem qmf (l : List Int) : D.sl 1 l.length ((q01 l).flatMap eI) = D.sl 1 (q01 l).length ((q01 l).flatMap eI) := by rw [JO]
def bz0 := JA_ @qy7 (JA_ @qym (JA_ @qyB (JA_ @qz0 (JA_ @qze (@qzN)))))
def bz1 := JA_ @qxT (JA_ @qyw (JA_ @qjF (JA_ @qsH (JA_ @qtK (JA_ @qsp (JA_ @quu (JA_ @qoK (JA_ @qo6 (JA_ @qqn (@qmf))))))))))
end Go.Proofs.YtplfjlcnffcenaaGreat.Vc
namespace Go.Proofs.YtplfjlcnffcenaaGreat.Vc
open Go.RowKit
set_option linter.unusedVariables false
set_option linter.unusedSimpArgs false
structure Z6 (α : Type) where
  a0 : α
  a1 : α
structure qh where
  Code : ByteArray
  Credits : Int
def qe (x : qh) : List D := [D.str x.Code, D.int .i64 x.Credits]
theorem Qw (x : qh) : qe x = [D.str x.Code, D.int .i64 x.Credits] := rfl
theorem q6i (x : qh) : (qe x).length = 2 := rfl
theorem q6c (x : qh) : qh.mk x.Code x.Credits = x := rfl
structure qd where
  Num : Int
  Add : Int
  Den : Int
  Round : Int
theorem q6p (x : qd) : qd.mk x.Num x.Add x.Den x.Round = x := rfl
structure qa where
  Id : Int
  From : Int
  To : Int
  Begin : Int
  End : Int
  In : List ByteArray
  Out : List qh
  Conv : qd
def qn (x : qa) : List D := [D.int .i64 x.Id, D.int .i64 x.From, D.int .i64 x.To, D.int .i64 x.Begin, D.int .i64 x.End, D.sl 1 x.In.length (x.In.flatMap eS), D.sl 2 x.Out.length (x.Out.flatMap qe), D.int .i64 x.Conv.Num, D.int .i64 x.Conv.Add, D.int .i64 x.Conv.Den, D.int .i64 x.Conv.Round]
theorem q0f (x : qa) : qn x = [D.int .i64 x.Id, D.int .i64 x.From, D.int .i64 x.To, D.int .i64 x.Begin, D.int .i64 x.End, D.sl 1 x.In.length (x.In.flatMap eS), D.sl 2 x.Out.length (x.Out.flatMap qe), D.int .i64 x.Conv.Num, D.int .i64 x.Conv.Add, D.int .i64 x.Conv.Den, D.int .i64 x.Conv.Round] := rfl
theorem q2F (x : qa) : (qn x).length = 11 := rfl
theorem q2u (x : qa) : qa.mk x.Id x.From x.To x.Begin x.End x.In x.Out x.Conv = x := rfl
structure qf where
  Worst : Int
  Best : Int
  Pass : Int
def zp (x : qf) : List D := [D.int .i64 x.Worst, D.int .i64 x.Best, D.int .i64 x.Pass]
theorem q6s (x : qf) : zp x = [D.int .i64 x.Worst, D.int .i64 x.Best, D.int .i64 x.Pass] := rfl
theorem q5j (x : qf) : (zp x).length = 3 := rfl
theorem q5o (x : qf) : qf.mk x.Worst x.Best x.Pass = x := rfl
structure qt where
  School : Int
  Code : ByteArray
theorem q4S (x : qt) : qt.mk x.School x.Code = x := rfl
structure qb where
  Course : qt
  Credits : Int
  Grade : Int
  Day : Int
  Sources : List Int
  Bundle : Int
  Path : List Int
def qc (x : qb) : List D := [D.int .i64 x.Course.School, D.str x.Course.Code, D.int .i64 x.Credits, D.int .i64 x.Grade, D.int .i64 x.Day, D.sl 1 x.Sources.length (x.Sources.flatMap eI), D.int .i64 x.Bundle, D.sl 1 x.Path.length (x.Path.flatMap eI)]
theorem qI (x : qb) : qc x = [D.int .i64 x.Course.School, D.str x.Course.Code, D.int .i64 x.Credits, D.int .i64 x.Grade, D.int .i64 x.Day, D.sl 1 x.Sources.length (x.Sources.flatMap eI), D.int .i64 x.Bundle, D.sl 1 x.Path.length (x.Path.flatMap eI)] := rfl
theorem q1k (x : qb) : (qc x).length = 8 := rfl
theorem q1F (x : qb) : qb.mk x.Course x.Credits x.Grade x.Day x.Sources x.Bundle x.Path = x := rfl
structure qm where
  Agreement : qa
  Day : Int
  Scale : qf
  L : List qb
structure qi where
  At : Int
  Odd : Z6 Int
  Raw : qm
structure qj where
  L : List Int
  At : Int
theorem q4y (x : qj) : qj.mk x.L x.At = x := rfl
structure qq where
  N : Int
  D : Int
theorem qeZ : ∀ x : (List Int), ((eL 1 eI) x).length = 1 := fun _ => rfl
theorem qqH (v : List (List Int)) : (v.flatMap (eL 1 eI)).length = v.length := by rw [q07 qeZ, Nat.mul_one]
theorem qbQ (v : List (List Int)) (i : Nat) : ld T ((v.flatMap (eL 1 eI)).map C.d) (i) 45 = (v[i]?).bind fun x => some (.c (.d (D.sl 1 x.length (x.flatMap eI)))) := by rw [q1S qeZ v i _ (by decide)]; cases v[i]? with | none => rfl | some x => rfl
theorem qnc (v : List (List Int)) (a : List Int) : (v.flatMap (eL 1 eI)).map C.d ++ [C.d (D.sl 1 a.length (a.flatMap eI))] = ((v ++ [a]).flatMap (eL 1 eI)).map C.d := by have h := q5J (E := (eL 1 eI)) v a; exact h
theorem q90 : ∀ x : ByteArray, (eS x).length = 1 := fun _ => rfl
theorem quK (v : List ByteArray) : (v.flatMap eS).length = v.length := by rw [q07 q90, Nat.mul_one]
theorem qgw (v : List ByteArray) (i : Nat) : ld T ((v.flatMap eS).map C.d) (i) 9 = (v[i]?).bind fun x => some (.c (.d (D.str x))) := by rw [q1S q90 v i _ (by decide)]; cases v[i]? with | none => rfl | some x => rfl
theorem quE (v : List ByteArray) (a : ByteArray) : (v.flatMap eS).map C.d ++ [C.d (D.str a)] = ((v ++ [a]).flatMap eS).map C.d := by have h := q5J (E := eS) v a; exact h
theorem qnY (v : List ByteArray) (i : Nat) (a : ByteArray) : spr ((v.flatMap eS).map C.d) (i) [C.d (D.str a)] = ((v.set i a).flatMap eS).map C.d := by have h := q9f q90 v i a; rw [Nat.mul_one] at h; exact h
theorem qtM (v : List ByteArray) (a : Nat) : (v.flatMap eS).take (a) = (v.take a).flatMap eS := by have h := q5P q90 v a; rwa [Nat.mul_one] at h
theorem qr5 (v : List ByteArray) (a : Nat) : ((v.flatMap eS).map C.d).take (a) = ((v.take a).flatMap eS).map C.d := by rw [← List.map_take, qtM]
theorem qkt (s : S) (v : List ByteArray) (lo hi : Option Operand) : xsl T s 25 (.c (.d (.sl 1 v.length (v.flatMap eS)))) lo hi = qpQ s eS 1 v (s.bd lo 0) (s.bd hi v.length) := qhX q90 v lo hi (by rfl) (by rfl) (by decide)
theorem q46 : ∀ x : qh, (qe x).length = 2 := q6i
theorem qmN (v : List qh) : (v.flatMap qe).length = v.length * 2 := by rw [q07 q46]
theorem qbU (v : List qh) (i : Nat) : ld T ((v.flatMap qe).map C.d) (i * 2) 79 = (v[i]?).bind fun x => some (.agg [.d (D.str x.Code), .d (D.int .i64 x.Credits)]) := by rw [q1L q46 v i _ (by decide) (by decide)]; cases v[i]? with | none => rfl | some x => rw [Option.bind_some, Option.bind_some, Qw]; rfl
theorem qe0 (v : List qh) (i : Nat) : ld T ((v.flatMap qe).map C.d) (i * 2) 9 = (v[i]?).bind fun x => some (.c (.d (D.str x.Code))) := by rw [q1L q46 v i _ (by decide) (by decide)]; cases v[i]? with | none => rfl | some x => rw [Option.bind_some, Option.bind_some, Qw]; rfl
theorem qeL (v : List qh) (i : Nat) : ld T ((v.flatMap qe).map C.d) (i * 2 + 1) 3 = (v[i]?).bind fun x => some (.c (.d (D.int .i64 x.Credits))) := by rw [q1w q46 v i 1 _ (by decide) (by decide)]; cases v[i]? with | none => rfl | some x => rw [Option.bind_some, Option.bind_some, Qw]; rfl
theorem qmZ (v : List qh) (a_Code : ByteArray) (a_Credits : Int) : (v.flatMap qe).map C.d ++ [C.d (D.str a_Code), C.d (D.int .i64 a_Credits)] = ((v ++ [(qh.mk a_Code a_Credits)]).flatMap qe).map C.d := by have h := q5J (E := qe) v (qh.mk a_Code a_Credits); rw [Qw] at h; exact h
theorem qg8 (v : List qh) (i : Nat) (b : Int) : spr ((v.flatMap qe).map C.d) (i * 2 + 1) [C.d (D.int .i64 b)] = ((v.modify i fun x => { x with Credits := b }).flatMap qe).map C.d := by have h := qiF q46 (fo := 1) (d := D.int .i64 b) (fun x => { x with Credits := b }) (by decide) (fun x => by rw [Qw, Qw]; rfl) v i; rw [← h]; exact (q9i C.d [D.int .i64 b] _ _)
theorem qqC (v : List qh) (a : Nat) : (v.flatMap qe).take (a * 2) = (v.take a).flatMap qe := by have h := q5P q46 v a; exact h
theorem qls (v : List qh) (a : Nat) : ((v.flatMap qe).map C.d).take (a * 2) = ((v.take a).flatMap qe).map C.d := by rw [← List.map_take, qqC]
theorem q0k : ∀ x : qb, (qc x).length = 8 := q1k
theorem qno (v : List qb) : (v.flatMap qc).length = v.length * 8 := by rw [q07 q0k]
theorem qbM (v : List qb) (i : Nat) : ld T ((v.flatMap qc).map C.d) (i * 8) 53 = (v[i]?).bind fun x => some (.agg [.d (D.int .i64 x.Course.School), .d (D.str x.Course.Code), .d (D.int .i64 x.Credits), .d (D.int .i64 x.Grade), .d (D.int .i64 x.Day), .d (D.sl 1 x.Sources.length (x.Sources.flatMap eI)), .d (D.int .i64 x.Bundle), .d (D.sl 1 x.Path.length (x.Path.flatMap eI))]) := by rw [q1L q0k v i _ (by decide) (by decide)]; cases v[i]? with | none => rfl | some x => rw [Option.bind_some, Option.bind_some, qI]; rfl
theorem qbP (v : List qb) (i : Nat) : ld T ((v.flatMap qc).map C.d) (i * 8) 51 = (v[i]?).bind fun x => some (.agg [.d (D.int .i64 x.Course.School), .d (D.str x.Course.Code)]) := by rw [q1L q0k v i _ (by decide) (by decide)]; cases v[i]? with | none => rfl | some x => rw [Option.bind_some, Option.bind_some, qI]; rfl
theorem qeO (v : List qb) (i : Nat) : ld T ((v.flatMap qc).map C.d) (i * 8 + 2) 3 = (v[i]?).bind fun x => some (.c (.d (D.int .i64 x.Credits))) := by rw [q1w q0k v i 2 _ (by decide) (by decide)]; cases v[i]? with | none => rfl | some x => rw [Option.bind_some, Option.bind_some, qI]; rfl
theorem qd6 (v : List qb) (i : Nat) : ld T ((v.flatMap qc).map C.d) (i * 8 + 3) 3 = (v[i]?).bind fun x => some (.c (.d (D.int .i64 x.Grade))) := by rw [q1w q0k v i 3 _ (by decide) (by decide)]; cases v[i]? with | none => rfl | some x => rw [Option.bind_some, Option.bind_some, qI]; rfl
theorem qdz (v : List qb) (i : Nat) : ld T ((v.flatMap qc).map C.d) (i * 8 + 4) 3 = (v[i]?).bind fun x => some (.c (.d (D.int .i64 x.Day))) := by rw [q1w q0k v i 4 _ (by decide) (by decide)]; cases v[i]? with | none => rfl | some x => rw [Option.bind_some, Option.bind_some, qI]; rfl
theorem qbG (v : List qb) (i : Nat) : ld T ((v.flatMap qc).map C.d) (i * 8 + 5) 45 = (v[i]?).bind fun x => some (.c (.d (D.sl 1 x.Sources.length (x.Sources.flatMap eI)))) := by rw [q1w q0k v i 5 _ (by decide) (by decide)]; cases v[i]? with | none => rfl | some x => rw [Option.bind_some, Option.bind_some, qI]; rfl
theorem q6E (v : List qb) (i : Nat) : ld T ((v.flatMap qc).map C.d) (i * 8 + 7) 45 = (v[i]?).bind fun x => some (.c (.d (D.sl 1 x.Path.length (x.Path.flatMap eI)))) := by rw [q1w q0k v i 7 _ (by decide) (by decide)]; cases v[i]? with | none => rfl | some x => rw [Option.bind_some, Option.bind_some, qI]; rfl
theorem qbI (v : List qb) : ld T ((v.flatMap qc).map C.d) 7 45 = (v[0]?).bind fun x => some (.c (.d (D.sl 1 x.Path.length (x.Path.flatMap eI)))) := by have h := q6E v 0; rwa [Nat.zero_mul, Nat.zero_add] at h
theorem qiS (v : List qb) (i : Nat) (a_Course_School : Int) (a_Course_Code : ByteArray) (a_Credits : Int) (a_Grade : Int) (a_Day : Int) (a_Sources : List Int) (a_Bundle : Int) (a_Path : List Int) : spr ((v.flatMap qc).map C.d) (i * 8) [C.d (D.int .i64 a_Course_School), C.d (D.str a_Course_Code), C.d (D.int .i64 a_Credits), C.d (D.int .i64 a_Grade), C.d (D.int .i64 a_Day), C.d (D.sl 1 a_Sources.length (a_Sources.flatMap eI)), C.d (D.int .i64 a_Bundle), C.d (D.sl 1 a_Path.length (a_Path.flatMap eI))] = ((v.set i (qb.mk (qt.mk a_Course_School a_Course_Code) a_Credits a_Grade a_Day a_Sources a_Bundle a_Path)).flatMap qc).map C.d := by have h := q9f q0k v i (qb.mk (qt.mk a_Course_School a_Course_Code) a_Credits a_Grade a_Day a_Sources a_Bundle a_Path); rw [qI] at h; exact h
theorem qhf (s : S) (v : List qb) (lo hi : Option Operand) : xsl T s 33 (.c (.d (.sl 8 v.length (v.flatMap qc)))) lo hi = qpQ s qc 8 v (s.bd lo 0) (s.bd hi v.length) := qhX q0k v lo hi (by rfl) (by rfl) (by decide)
theorem qeU : ∀ x : qa, (qn x).length = 11 := q2F
theorem qrb (v : List qa) : (v.flatMap qn).length = v.length * 11 := by rw [q07 qeU]
theorem qcc (v : List qa) (i : Nat) : ld T ((v.flatMap qn).map C.d) (i * 11) 30 = (v[i]?).bind fun x => some (.agg [.d (D.int .i64 x.Id), .d (D.int .i64 x.From), .d (D.int .i64 x.To), .d (D.int .i64 x.Begin), .d (D.int .i64 x.End), .d (D.sl 1 x.In.length (x.In.flatMap eS)), .d (D.sl 2 x.Out.length (x.Out.flatMap qe)), .d (D.int .i64 x.Conv.Num), .d (D.int .i64 x.Conv.Add), .d (D.int .i64 x.Conv.Den), .d (D.int .i64 x.Conv.Round)]) := by rw [q1L qeU v i _ (by decide) (by decide)]; cases v[i]? with | none => rfl | some x => rw [Option.bind_some, Option.bind_some, q0f]; rfl
theorem qrf (v : List qa) (a_Id : Int) (a_From : Int) (a_To : Int) (a_Begin : Int) (a_End : Int) (a_In : List ByteArray) (a_Out : List qh) (a_Conv_Num : Int) (a_Conv_Add : Int) (a_Conv_Den : Int) (a_Conv_Round : Int) : (v.flatMap qn).map C.d ++ [C.d (D.int .i64 a_Id), C.d (D.int .i64 a_From), C.d (D.int .i64 a_To), C.d (D.int .i64 a_Begin), C.d (D.int .i64 a_End), C.d (D.sl 1 a_In.length (a_In.flatMap eS)), C.d (D.sl 2 a_Out.length (a_Out.flatMap qe)), C.d (D.int .i64 a_Conv_Num), C.d (D.int .i64 a_Conv_Add), C.d (D.int .i64 a_Conv_Den), C.d (D.int .i64 a_Conv_Round)] = ((v ++ [(qa.mk a_Id a_From a_To a_Begin a_End a_In a_Out (qd.mk a_Conv_Num a_Conv_Add a_Conv_Den a_Conv_Round))]).flatMap qn).map C.d := by have h := q5J (E := qn) v (qa.mk a_Id a_From a_To a_Begin a_End a_In a_Out (qd.mk a_Conv_Num a_Conv_Add a_Conv_Den a_Conv_Round)); rw [q0f] at h; exact h
theorem qai : ∀ x : Int, (eI x).length = 1 := fun _ => rfl
theorem quk (v : List Int) : (v.flatMap eI).length = v.length := by rw [q07 qai, Nat.mul_one]
theorem qfz (v : List Int) (i : Nat) : ld T ((v.flatMap eI).map C.d) (i) 3 = (v[i]?).bind fun x => some (.c (.d (D.int .i64 x))) := by rw [q1S qai v i _ (by decide)]; cases v[i]? with | none => rfl | some x => rfl
theorem quy (v : List Int) (a : Int) : (v.flatMap eI).map C.d ++ [C.d (D.int .i64 a)] = ((v ++ [a]).flatMap eI).map C.d := by have h := q5J (E := eI) v a; exact h
theorem qpR (v : List Int) (i : Nat) (a : Int) : spr ((v.flatMap eI).map C.d) (i) [C.d (D.int .i64 a)] = ((v.set i a).flatMap eI).map C.d := by have h := q9f qai v i a; rw [Nat.mul_one] at h; exact h
theorem qtN (v : List Int) (a : Nat) : (v.flatMap eI).take (a) = (v.take a).flatMap eI := by have h := q5P qai v a; rwa [Nat.mul_one] at h
theorem qpx (v : List Int) (a : Nat) : ((v.flatMap eI).map C.d).take (a) = ((v.take a).flatMap eI).map C.d := by rw [← List.map_take, qtN]
theorem qjK : ∀ x : qf, (zp x).length = 3 := q5j
theorem qbL (v : List qf) (i : Nat) : ld T ((v.flatMap zp).map C.d) (i * 3) 32 = (v[i]?).bind fun x => some (.agg [.d (D.int .i64 x.Worst), .d (D.int .i64 x.Best), .d (D.int .i64 x.Pass)]) := by rw [q1L qjK v i _ (by decide) (by decide)]; cases v[i]? with | none => rfl | some x => rw [Option.bind_some, Option.bind_some, q6s]; rfl
theorem qjT : ∀ x : (List qb), ((eL 8 qc) x).length = 1 := fun _ => rfl
theorem qbW (v : List (List qb)) (i : Nat) : ld T ((v.flatMap (eL 8 qc)).map C.d) (i) 33 = (v[i]?).bind fun x => some (.c (.d (D.sl 8 x.length (x.flatMap qc)))) := by rw [q1S qjT v i _ (by decide)]; cases v[i]? with | none => rfl | some x => rfl
theorem qkP : ∀ x : (List ByteArray), ((eL 1 eS) x).length = 1 := fun _ => rfl
theorem qbF (v : List (List ByteArray)) (i : Nat) : ld T ((v.flatMap (eL 1 eS)).map C.d) (i) 25 = (v[i]?).bind fun x => some (.c (.d (D.sl 1 x.length (x.flatMap eS)))) := by rw [q1S qkP v i _ (by decide)]; cases v[i]? with | none => rfl | some x => rfl
theorem qfQ : ∀ x : Int, (qmc x).length = 1 := fun _ => rfl
theorem q85 (v : List Int) (i : Nat) : ld T ((v.flatMap qmc).map C.d) (i) 159 = (v[i]?).bind fun x => some (.c (.d (D.int .u64 x))) := by rw [q1S qfQ v i _ (by decide)]; cases v[i]? with | none => rfl | some x => rfl
def Qu (v : Bool) : R := R.c (C.d (D.bool v))
theorem qlA (id : Nat) (M : List (Int × Bool)) : AO.mapR (R.fg id) (mpB (q2J .i64) Qu M) = mpB (q2J .i64) Qu M := q7y (vE := Qu) (fun v => rfl) M
theorem qlo (f : Nat → Nat) (M : List (Int × Bool)) : AO.mapR (R.rn0 f) (mpB (q2J .i64) Qu M) = mpB (q2J .i64) Qu M := q7y (vE := Qu) (fun v => rfl) M
theorem qjB (ids : List Nat) (M : List (Int × Bool)) : AO.mapR (qfa ids) (mpB (q2J .i64) Qu M) = mpB (q2J .i64) Qu M := q7y (vE := Qu) (fun v => rfl) M
theorem qjJ (M : List (Int × Bool)) : (mpB (q2J .i64) Qu M).Rs.all (R.scl0) = true := qkE (fun v => rfl) M
theorem qlJ (M : List (Int × Bool)) : (mpB (q2J .i64) Qu M).Rs.flatMap R.refs0 = [] := qgP (fun v => rfl) M
theorem qgT (s : S) (sel : List Nat) (M : List (Int × Bool)) : cvA s sel (mpB (q2J .i64) Qu M) = some (mpB (q2J .i64) Qu M) := qlD (fun v => rfl) M
theorem qfm (M : List (Int × Bool)) : ((mpE (q2J .i64) Qu M 0).all fun q => plK (Kd.int .i64) q.1) = true := q9A (fun k r i => rfl) M 0
theorem qfI (ok : Bool) (k : Int) (M : List (Int × Bool)) : lkq ok (R.c (C.d (D.bool false))) (fnd (Value.int .i64 k) (mpE (q2J .i64) Qu M 0) 0) = some (tt2 (R.c (C.d (D.bool (q6C false M k)))) ok (qch M k)) := qtX (vE := Qu) (kE := (q2J .i64)) (qhJ _) (false) ok k M
theorem qgp (k : Int) (v : Bool) (M : List (Int × Bool)) : mup (Kd.int .i64) (Value.int .i64 k) (R.c (C.d (D.bool v))) (.ob (mpB (q2J .i64) Qu M)) = some (.ob (mpB (q2J .i64) Qu (q7R M k v))) := quH (vE := Qu) (kE := (q2J .i64)) (qhJ _) (fun a => rfl) k v M
theorem qiX (s : S) (p : Nat) : q0U T s p 129 none = some (.c (.hd .map p), s.up [(p, .ob (mpB (q2J .i64) Qu ([] : List (Int × Bool))))]) := rfl
end Go.Proofs.YtplfjlcnffcenaaGreat.Vc
namespace Go.Proofs.YtplfjlcnffcenaaGreat.Vc
open Go.RowKit
set_option linter.defProp false
set_option linter.unusedVariables false
theorem qtY : q8h Tryz.prog 51 = true := by kernel_rfl
def by0 := JA_ @k3 (JA_ @z3 (JA_ @b3 (JA_ @o3 (JA_ @q3 (JA_ @k4 (JA_ @o4 (@q4)))))))
def by1 := JA_ @k9 (JA_ @z9 (JA_ @b9 (JA_ @o9 (@q9))))
def by2 := JA_ @q21 (JA_ @k22 (JA_ @q22 (JA_ @k23 (JA_ @z23 (JA_ @q23 (JA_ @k25 (@z25)))))))
def by3 := JA_ @q25 (JA_ @k26 (JA_ @z26 (JA_ @q26 (JA_ @k28 (JA_ @z28 (JA_ @o28 (JA_ @q28 (JA_ @k30 (JA_ @z30 (JA_ @b30 (JA_ @o30 (JA_ @q30 (JA_ @k32 (JA_ @z32 (JA_ @o32 (JA_ @q32 (JA_ @k33 (@z33))))))))))))))))))
def by4 := JA_ @q33 (JA_ @k35 (JA_ @z35 (JA_ @k37 (@q37))))
def by5 := JA_ @q41 (JA_ @k45 (JA_ @z45 (JA_ @b45 (JA_ @o45 (JA_ @q45 (@k47))))))
def by6 := JA_ @k51 (JA_ @z51 (JA_ @o51 (JA_ @k53 (JA_ @z53 (JA_ @b53 (JA_ @o53 (JA_ @q53 (JA_ @k56 (@k57)))))))))
def by8 := JA_ @q68 (JA_ @k70 (@o70))
def by9 := JA_ @k79 (JA_ @z79 (JA_ @b79 (JA_ @o79 (JA_ @q79 (JA_ @k81 (@z81))))))
def qzB := JA_ @k84 (@q87)
def qyA := @q95
def qyq := @qxt
def qzv := JA_ @qzI (JA_ @qzE (@qxL))
def qxI := JA_ @qyV (JA_ @qyp (JA_ @qxo (@qzr)))
def qyz := JA_ @qxO (JA_ @qya (JA_ @qzK (JA_ @qx8 (JA_ @qyo (JA_ @qyZ (@qxR))))))
def qx5 := JA_ @qxq (JA_ @qyO (@qy0))
def qyt := JA_ @qxx (@qx9)
def qyX := JA_ @qtY (@pw4)
def qxA := JA_ @pw6 (JA_ @pw7 (JA_ @pw8 (JA_ @pw9 (JA_ @qwm (JA_ @qv3 (JA_ @qwt (JA_ @qvs (JA_ @qww (JA_ @qw5 (JA_ @qwR (JA_ @qwD (JA_ @qw9 (JA_ @qv5 (JA_ @qvz (JA_ @quZ (JA_ @qvX (JA_ @qwX (JA_ @qvG (JA_ @qwn (JA_ @qwU (JA_ @qx0 (JA_ @quX (JA_ @qw4 (JA_ @qwf (JA_ @qtE (JA_ @quT (JA_ @qvo (JA_ @qwN (JA_ @qwY (JA_ @qv9 (JA_ @qvE (@qwj))))))))))))))))))))))))))))))))
def qy4 := JA_ @qwi (JA_ @qvm (JA_ @qw7 (JA_ @qvl (JA_ @qvy (JA_ @qvB (JA_ @qrq (JA_ @qv8 (JA_ @qw6 (JA_ @qwW (JA_ @qvw (JA_ @qv1 (JA_ @qw0 (JA_ @qvu (JA_ @qA8 (JA_ @qx1 (JA_ @qwu (JA_ @qwa (JA_ @qwB (JA_ @qw3 (JA_ @qvc (JA_ @qwT (JA_ @quU (JA_ @qwl (JA_ @qv4 (JA_ @qv0 (JA_ @qvV (JA_ @qvF (JA_ @qu7 (JA_ @qvh (JA_ @qva (@qvM)))))))))))))))))))))))))))))))
def qxD := JA_ @qwF (JA_ @qwC (JA_ @qvp (JA_ @qvK (JA_ @qwJ (JA_ @qvk (JA_ @qvI (JA_ @qwI (JA_ @qvY (JA_ @qvq (JA_ @qvx (JA_ @qvA (JA_ @qwQ (JA_ @qoo (JA_ @qmS (JA_ @qqP (JA_ @qmm (JA_ @qp0 (JA_ @qpa (JA_ @qqY (JA_ @qqI (JA_ @qoB (@qqR))))))))))))))))))))))
def qxU := JA_ @qox (JA_ @qoN (JA_ @qmr (JA_ @qmV (JA_ @qqa (JA_ @qq7 (JA_ @qtV (@qtg)))))))
def qxB := JA_ @qu6 (JA_ @qtA (JA_ @qsK (JA_ @qtH (JA_ @quP (JA_ @qsL (JA_ @qtG (JA_ @qte (JA_ @qtx (JA_ @qtJ (JA_ @qsw (JA_ @qsE (JA_ @qto (JA_ @qtF (JA_ @qud (@qsr)))))))))))))))
def qxS := JA_ @qsv (JA_ @qsA (JA_ @qus (JA_ @qsW (JA_ @qtz (JA_ @qtQ (JA_ @qtZ (@qt4)))))))
def qyv := JA_ @qoV (JA_ @qnv (JA_ @qmY (JA_ @qqb (JA_ @qph (JA_ @qp9 (@qsx))))))
def qzh := JA_ @qsD (JA_ @qsY (JA_ @quR (JA_ @qke (JA_ @qiW (JA_ @qkm (JA_ @qkd (JA_ @qpp (JA_ @qjY (JA_ @qjD (JA_ @qmy (JA_ @qnI (JA_ @qpm (JA_ @qqz (JA_ @qos (JA_ @qnN (JA_ @qmW (JA_ @qoM (JA_ @qmI (JA_ @qqf (JA_ @qr0 (JA_ @qqm (JA_ @qqO (JA_ @qnj (JA_ @qrl (JA_ @qkg (JA_ @qq9 (JA_ @qqe (JA_ @qrh (JA_ @qqE (JA_ @qnh (@qpO)))))))))))))))))))))))))))))))
def qyU := JA_ @qo9 (JA_ @qqx (JA_ @qnT (JA_ @qpN (JA_ @qqU (JA_ @qps (JA_ @qmL (JA_ @qoj (JA_ @qmJ (JA_ @qk4 (JA_ @qje (JA_ @qja (JA_ @qjv (@qlC)))))))))))))
def qy1 := JA_ @qtB (JA_ @qqp (JA_ @qqq (JA_ @qri (JA_ @qpn (JA_ @qmj (JA_ @qu5 (JA_ @qqu (JA_ @qne (JA_ @qqy (JA_ @qoU (JA_ @qoQ (JA_ @qpE (JA_ @qnp (JA_ @qkl (JA_ @qkq (JA_ @qpM (JA_ @qpz (JA_ @qjl (JA_ @qkF (JA_ @qlP (JA_ @qmC (JA_ @qmp (JA_ @qko (JA_ @qpr (JA_ @qiY (JA_ @qj4 (@qiT)))))))))))))))))))))))))))
def qye := JA_ @qmD (JA_ @qp7 (JA_ @qp2 (JA_ @qnQ (JA_ @qkn (JA_ @qn3 (JA_ @qnA (JA_ @qrd (JA_ @qr3 (JA_ @qlL (JA_ @qj6 (JA_ @qkB (JA_ @qnR (JA_ @qnS (JA_ @qnE (JA_ @qnG (JA_ @qiH (JA_ @qkG (JA_ @qjH (@qiJ)))))))))))))))))))
def qzV := JA_ @qle (JA_ @qjc (JA_ @quM (JA_ @qpI (JA_ @qmq (JA_ @qna (JA_ @qn4 (@qqQ)))))))
def qxC := JA_ @qsR (JA_ @qop (JA_ @qoA (JA_ @qnn (JA_ @qow (JA_ @qqG (JA_ @qpw (JA_ @qnM (JA_ @qiK (JA_ @qkU (JA_ @qn0 (JA_ @qqK (JA_ @qlh (JA_ @qll (JA_ @qkz (JA_ @qoa (JA_ @qoL (JA_ @qlM (JA_ @qoX (JA_ @qk7 (JA_ @qjM (JA_ @ql7 (JA_ @qqB (JA_ @qok (JA_ @qpl (JA_ @qqo (JA_ @qjp (JA_ @qpA (JA_ @qod (JA_ @qpH (JA_ @qoy (JA_ @qkA (@qlt))))))))))))))))))))))))))))))))
def qyc := JA_ @qkv (JA_ @qnF (JA_ @qnP (JA_ @qnd (JA_ @qoF (JA_ @qkw (JA_ @qj0 (JA_ @qkJ (JA_ @qlY (@qky)))))))))
def qzu := @qjX
def bt0 := JA_ @qqH (JA_ @qbQ (JA_ @qnc (JA_ @quK (JA_ @qgw (JA_ @quE (JA_ @qnY (JA_ @qr5 (JA_ @qkt (JA_ @qmN (@qbU))))))))))
def bt1 := JA_ @qe0 (JA_ @qeL (JA_ @qmZ (JA_ @qg8 (JA_ @qls (JA_ @qno (JA_ @qbM (JA_ @qbP (JA_ @qeO (JA_ @qd6 (JA_ @qdz (@qbG)))))))))))
def bt2 := JA_ @q6E (JA_ @qbI (JA_ @qiS (JA_ @qhf (JA_ @qrb (@qcc)))))
def bt3 := @qrf
def bt4 := JA_ @quk (JA_ @qfz (JA_ @quy (JA_ @qpR (JA_ @qpx (@qbL)))))
def bt5 := @qbW
def bt6 := JA_ @qbF (JA_ @q85 (JA_ @qlA (@qlo)))
def bt7 := JA_ @qjB (JA_ @qjJ (JA_ @qlJ (JA_ @qgT (JA_ @qfm (JA_ @qfI (JA_ @qgp (JA_ @qiX (JA_ @q6p (JA_ @q2u (JA_ @q5o (JA_ @q4S (JA_ @q1F (JA_ @q4y (@q6c))))))))))))))
def bA := JA_ @bx0 (JA_ @bx1 (JA_ @bx2 (JA_ @bx3 (JA_ @bx4 (JA_ @bx5 (JA_ @bx6 (JA_ @bx7 (JA_ @bx8 (JA_ @bx9 (JA_ @qxX (JA_ @qxf (JA_ @qzG (JA_ @qy6 (JA_ @qyk (JA_ @qyC (JA_ @qz8 (JA_ @qz2 (JA_ @qy9 (JA_ @qzd (JA_ @qyE (JA_ @qzl (JA_ @qA1 (JA_ @qzq (JA_ @qyG (JA_ @qyY (JA_ @bz0 (JA_ @bz1 (JA_ @by0 (JA_ @by1 (JA_ @by2 (JA_ @by3 (JA_ @by4 (JA_ @by5 (JA_ @by6 (JA_ @by8 (JA_ @by9 (JA_ @qzB (JA_ @qyA (JA_ @qyq (JA_ @qzv (JA_ @qxI (JA_ @qyz (JA_ @qx5 (JA_ @qyt (JA_ @qyX (JA_ @qxA (JA_ @qy4 (JA_ @qxD (JA_ @qxU (JA_ @qxB (JA_ @qxS (JA_ @qyv (JA_ @qzh (JA_ @qyU (JA_ @qy1 (JA_ @qye (JA_ @qzV (JA_ @qxC (JA_ @qyc (JA_ @qzu (JA_ @bt0 (JA_ @bt1 (JA_ @bt2 (JA_ @bt3 (JA_ @bt4 (JA_ @bt5 (JA_ @bt6 (@bt7))))))))))))))))))))))))))))))))))))))))))))))))))))))))))))))))))))
def bZ := JA_ @List.length_append.{0} (JA_ @List.length_set.{0} (JA_ @List.length_modify.{0} (JA_ @List.length_cons.{0} (JA_ @List.length_nil.{0} (JA_ @Nat.zero_add (JA_ @List.flatMap_cons.{0,0} (JA_ @List.flatMap_nil.{0,0} (JA_ @List.map_cons.{0,0} (JA_ @List.map_nil.{0,0} (JA_ @eI.eq_1 (JA_ @eS.eq_1 (JA_ @List.cons_append.{0} (JA_ @List.nil_append.{0} (JA_ @List.append_nil.{0} (JA_ @List.flatMap_append.{0,0} (JA_ @List.map_append.{0,0} (JA_ @qI (@Qw))))))))))))))))))
theorem gA {P : Prop} (h : P := by simp -implicitDefEqProofs (maxSteps := 10000000) only [bA, Int.reduceToNat, Int.reduceLT, Int.reduceLE, Int.reduceAdd, Int.reduceSub, Int.reduceMul, Int.reduceNeg, Int.reduceEq, Int.reduceNe, Int.reduceBEq, Int.reduceBNe, Nat.reduceLT, Nat.reduceAdd, Nat.reduceMul, Nat.reduceSub, Nat.reduceEqDiff, Nat.reduceLeDiff, Nat.reduceBEq, Nat.reduceBNe, ↓reduceIte, reduceCtorEq, pure, bind, w64, qL, JX, Option.or_some, Option.or_none, Option.none_or, Option.some_or, *] <;> simp only [rL, dL, bR, bZ, Nat.reduceAdd]) : P := h
end Go.Proofs.YtplfjlcnffcenaaGreat.Vc
namespace Go.Proofs.YtplfjlcnffcenaaGreat.Vc
open Go.RowKit
set_option linter.unusedVariables false
section
variable {β : Type}
def frN (n : Nat) (k : Nat → β) : β := match n with | 0 => k 0 | m + 1 => k (m + 1)
theorem Jl (n : Nat) (k : Nat → β) : frN n k = k n := by cases n <;> rfl
def frI (i : Int) (k : Int → β) : β := match i with | .ofNat n => frN n fun n => k (.ofNat n) | .negSucc n => frN n fun n => k (.negSucc n)
theorem qhI (i : Int) (k : Int → β) : frI i k = k i := by cases i <;> simp only [frI, Jl]
def frB (b : Bool) (k : Bool → β) : β := match b with | true => k true | false => k false
theorem qiy (b : Bool) (k : Bool → β) : frB b k = k b := by cases b <;> rfl
noncomputable def frD (d : D) : (D → β) → β :=
  D.rec (motive_1 := fun _ => (D → β) → β) (motive_2 := fun _ => (List D → β) → β)
    (fun k n K => frI n fun n => K (.int k n)) (fun b K => frB b fun b => K (.bool b)) (fun s K => K (.str s)) (fun sz n _ ih K => frN sz fun sz => frN n fun n => ih fun cs => K (.sl sz n cs))
    (fun K => K []) (fun _ _ ih1 ih2 K => ih1 fun x => ih2 fun l => K (x :: l)) d
noncomputable def qqv (d : List D) : (List D → β) → β :=
  D.rec_1 (motive_1 := fun _ => (D → β) → β) (motive_2 := fun _ => (List D → β) → β)
    (fun k n K => frI n fun n => K (.int k n)) (fun b K => frB b fun b => K (.bool b)) (fun s K => K (.str s)) (fun sz n _ ih K => frN sz fun sz => frN n fun n => ih fun cs => K (.sl sz n cs))
    (fun K => K []) (fun _ _ ih1 ih2 K => ih1 fun x => ih2 fun l => K (x :: l)) d
mutual
theorem qie : ∀ (d : D) (K : D → β), frD d K = K d
  | .int k n, K => by show frI n (fun n => K (.int k n)) = _; rw [qhI]
  | .bool b, K => by show frB b (fun b => K (.bool b)) = _; rw [qiy]
  | .str s, K => rfl
  | .sl sz n cs, K => by show frN sz (fun sz => frN n fun n => qqv cs fun cs => K (.sl sz n cs)) = _; rw [Jl, Jl, q9Y cs]
theorem q9Y : ∀ (d : List D) (K : List D → β), qqv d K = K d
  | [], K => rfl
  | x :: l, K => (qie x _).trans (q9Y l _)
end
noncomputable def frC (c : C) : (C → β) → β :=
  C.rec (motive_1 := fun _ => (C → β) → β) (motive_2 := fun _ => (List C → β) → β)
    (fun x K => frD x fun x => K (.d x)) (fun i o K => frN i fun i => frN o fun o => K (.ptr i o)) (fun h i K => frN i fun i => K (.hd h i)) (fun K => K .nilm) (fun K => K .nilp) (fun K => K .nilf) (fun K => K .nils)
    (fun cs o K => qqv cs fun cs => frN o fun o => K (.eptr cs o)) (fun i sz o n K => frN i fun i => frN sz fun sz => frN o fun o => frN n fun n => K (.own i sz o n))
    (fun f _ _ ih1 ih2 K => ih1 fun fs => ih2 fun caps => K (.fn f fs caps)) (fun K => K .any)
    (fun K => K []) (fun _ _ ih1 ih2 K => ih1 fun x => ih2 fun l => K (x :: l)) c
noncomputable def qqi (c : List C) : (List C → β) → β :=
  C.rec_1 (motive_1 := fun _ => (C → β) → β) (motive_2 := fun _ => (List C → β) → β)
    (fun x K => frD x fun x => K (.d x)) (fun i o K => frN i fun i => frN o fun o => K (.ptr i o)) (fun h i K => frN i fun i => K (.hd h i)) (fun K => K .nilm) (fun K => K .nilp) (fun K => K .nilf) (fun K => K .nils)
    (fun cs o K => qqv cs fun cs => frN o fun o => K (.eptr cs o)) (fun i sz o n K => frN i fun i => frN sz fun sz => frN o fun o => frN n fun n => K (.own i sz o n))
    (fun f _ _ ih1 ih2 K => ih1 fun fs => ih2 fun caps => K (.fn f fs caps)) (fun K => K .any)
    (fun K => K []) (fun _ _ ih1 ih2 K => ih1 fun x => ih2 fun l => K (x :: l)) c
mutual
theorem qhL : ∀ (c : C) (K : C → β), frC c K = K c
  | .d x, K => by show frD x (fun x => K (.d x)) = _; rw [qie]
  | .ptr i o, K => by show frN i (fun i => frN o fun o => K (.ptr i o)) = _; rw [Jl, Jl]
  | .hd h i, K => by show frN i (fun i => K (.hd h i)) = _; rw [Jl]
  | .nilm, K => rfl
  | .nilp, K => rfl
  | .nilf, K => rfl
  | .nils, K => rfl
  | .eptr cs o, K => by show qqv cs (fun cs => frN o fun o => K (.eptr cs o)) = _; rw [q9Y, Jl]
  | .own i sz o n, K => by show frN i (fun i => frN sz fun sz => frN o fun o => frN n fun n => K (.own i sz o n)) = _; rw [Jl, Jl, Jl, Jl]
  | .fn f fs caps, K => (q3R fs _).trans (q3R caps _)
  | .any, K => rfl
theorem q3R : ∀ (c : List C) (K : List C → β), qqi c K = K c
  | [], K => rfl
  | x :: l, K => (qhL x _).trans (q3R l _)
end
noncomputable def frR (r : R) : (R → β) → β :=
  R.rec (motive_1 := fun _ => (R → β) → β) (motive_2 := fun _ => (List R → β) → β)
    (fun x K => frC x fun x => K (.c x)) (fun xs K => qqi xs fun xs => K (.agg xs)) (fun _ ih K => ih fun xs => K (.tup xs)) (fun K => K .any)
    (fun K => K []) (fun _ _ ih1 ih2 K => ih1 fun x => ih2 fun l => K (x :: l)) r
noncomputable def qoH (r : List R) : (List R → β) → β :=
  R.rec_1 (motive_1 := fun _ => (R → β) → β) (motive_2 := fun _ => (List R → β) → β)
    (fun x K => frC x fun x => K (.c x)) (fun xs K => qqi xs fun xs => K (.agg xs)) (fun _ ih K => ih fun xs => K (.tup xs)) (fun K => K .any)
    (fun K => K []) (fun _ _ ih1 ih2 K => ih1 fun x => ih2 fun l => K (x :: l)) r
mutual
theorem q8g : ∀ (r : R) (K : R → β), frR r K = K r
  | .c x, K => qhL x _
  | .agg xs, K => q3R xs _
  | .tup xs, K => q5a xs _
  | .any, K => rfl
theorem q5a : ∀ (r : List R) (K : List R → β), qoH r K = K r
  | [], K => rfl
  | x :: l, K => (q8g x _).trans (q5a l _)
end
def frV (v : Value) (K : Value → β) : β := match v with | .int k n => frI n fun n => K (.int k n) | .bool b => frB b fun b => K (.bool b) | v => K v
theorem qql (v : Value) (K : Value → β) : frV v K = K v := by cases v <;> simp only [frV, qhI, qiy]
noncomputable def frM (l : List (Value × R × Nat)) : (List (Value × R × Nat) → β) → β :=
  List.rec (motive := fun _ => (List (Value × R × Nat) → β) → β) (fun K => K []) (fun x _ ih K => match x with | (v, r, b) => frV v fun v => frR r fun r => frN b fun b => ih fun l => K ((v, r, b) :: l)) l
theorem qh2 (v : Value) (r : R) (b : Nat) (l : List (Value × R × Nat)) (K : List (Value × R × Nat) → β) : frM ((v, r, b) :: l) K = frV v fun v => frR r fun r => frN b fun b => frM l fun l => K ((v, r, b) :: l) := rfl
theorem qi8 : ∀ (l : List (Value × R × Nat)) (K : List (Value × R × Nat) → β), frM l K = K l
  | [], K => rfl
  | (v, r, b) :: l, K => by rw [qh2, qql, q8g, Jl, qi8 l]
def frP (p : Option Code) (K : Option Code → β) : β := match p with | none => K none | some c => K (some c)
theorem qq8 (p : Option Code) (K : Option Code → β) : frP p K = K p := by cases p <;> rfl
noncomputable def qub (b : B) (K : B → β) : β := match b with
  | .blk t cs => qqi cs fun cs => K (.blk t cs)
  | .row e sz cs => qqi cs fun cs => K (.row e sz cs)
  | .ob (.mp es ck) => frM es fun es => frN ck fun ck => K (.ob (.mp es ck))
  | .ob (.si s p) => frN p fun p => K (.ob (.si s p))
  | .ob (.lp f tm ps a c st pd) => qoH tm fun tm => frP pd fun pd => K (.ob (.lp f tm ps a c st pd))
  | .ob .df => K (.ob .df)
  | .dead => K .dead
theorem qkc (b : B) (K : B → β) : qub b K = K b := by
  cases b with
  | blk t cs => exact q3R cs _
  | row e sz cs => exact q3R cs _
  | ob o =>
    cases o with
    | mp es ck => show frM es (fun es => frN ck fun ck => K (.ob (.mp es ck))) = _; rw [qi8, Jl]
    | si s p => show frN p (fun p => K (.ob (.si s p))) = _; rw [Jl]
    | lp f tm ps a c st pd => show qoH tm (fun tm => frP pd fun pd => K (.ob (.lp f tm ps a c st pd))) = _; rw [q5a, qq8]
    | df => rfl
  | dead => rfl
noncomputable def frT (l : List (Nat × R)) : (List (Nat × R) → β) → β :=
  List.rec (motive := fun _ => (List (Nat × R) → β) → β) (fun K => K []) (fun x _ ih K => match x with | (i, r) => frR r fun r => ih fun l => K ((i, r) :: l)) l
theorem qiv : ∀ (l : List (Nat × R)) (K : List (Nat × R) → β), frT l K = K l
  | [], K => rfl
  | (i, r) :: l, K => (q8g r _).trans (qiv l _)
noncomputable def frH (l : List (Nat × B)) : (List (Nat × B) → β) → β :=
  List.rec (motive := fun _ => (List (Nat × B) → β) → β) (fun K => K []) (fun x _ ih K => match x with | (i, r) => frN i fun i => qub r fun r => ih fun l => K ((i, r) :: l)) l
theorem qh4 (i : Nat) (r : B) (l : List (Nat × B)) (K : List (Nat × B) → β) : frH ((i, r) :: l) K = frN i fun i => qub r fun r => frH l fun l => K ((i, r) :: l) := rfl
theorem q6Y : ∀ (l : List (Nat × B)) (K : List (Nat × B) → β), frH l K = K l
  | [], K => rfl
  | (i, r) :: l, K => by rw [qh4, Jl, qkc, q6Y l]
noncomputable def frS (s : S) (K : S → β) : β := match s with | ⟨tm, hp, nx, n⟩ => frT tm fun tm => frH hp fun hp => frN nx fun nx => K ⟨tm, hp, nx, n⟩
theorem q5G (s : S) (K : S → β) : frS s K = K s := by
  obtain ⟨tm, hp, nx, n⟩ := s
  show frT tm (fun tm => frH hp fun hp => frN nx fun nx => K ⟨tm, hp, nx, n⟩) = _
  rw [qiv, q6Y, Jl]
end
section
variable (P : Program) (T : Ty) (po : Pol) (E : Orc)
noncomputable def kxr (ops : List Oper) : List Oper → S → Option S
  | [], s => some s
  | o :: l, s => (xgd P T po E ops o s).bind fun s' => frS s' fun s' => kxr ops l s'
noncomputable def qcf {β : Type} (l : List Nat) : (List Nat → β) → β :=
  List.rec (motive := fun _ => (List Nat → β) → β) (fun K => K []) (fun x _ ih K => frN x fun x => ih fun l => K (x :: l)) l
theorem q3U {β : Type} : ∀ (l : List Nat) (K : List Nat → β), qcf l K = K l
  | [], K => rfl
  | x :: l, K => by show frN x (fun x => qcf l fun l => K (x :: l)) = _; rw [Jl, q3U l]
noncomputable def frX {β : Type} (x : Tx) (K : Tx → β) : β := match x with | ((r, us), ⟨rb, wb, X, ks, nw⟩) => frR r fun r => frH us fun us => qcf rb fun rb => qcf wb fun wb => qcf X fun X => qcf ks fun ks => qcf nw fun nw => K ((r, us), ⟨rb, wb, X, ks, nw⟩)
theorem qpg {β : Type} (x : Tx) (K : Tx → β) : frX x K = K x := by
  obtain ⟨⟨r, us⟩, ⟨rb, wb, X, ks, nw⟩⟩ := x
  show (frR r fun r => frH us fun us => qcf rb fun rb => qcf wb fun wb => qcf X fun X => qcf ks fun ks => qcf nw fun nw => K ((r, us), ⟨rb, wb, X, ks, nw⟩)) = _
  rw [q8g, q6Y, q3U, q3U, q3U, q3U, q3U]
noncomputable def qpy (ops : List Oper) (A : List (List Nat)) (s0 : S) : Nat → List Oper → S → List Tx → Option S | 0, l, s, acc => if okP A 0 [] acc = true ∧ okX ops A s0 acc 0 acc = true ∧ okK ops A acc = true ∧ okN acc 0 acc = true then kxr P T po E ops l s else none | m + 1, o :: l, s, acc => (xgF P T po E ops o s).bind fun q => frS q.1 fun s1 => frX q.2 fun x => qpy ops A s0 m l s1 (acc ++ [x]) | _ + 1, [], _, _ => none
theorem qcF (ops : List Oper) : ∀ (l : List Oper) (s : S), kxr P T po E ops l s = xr P T po E ops l s
  | [], s => rfl
  | o :: l, s => by
    unfold kxr xr
    congr 1
    funext s'
    rw [q5G, qcF ops l]
theorem qfe (ops : List Oper) (A : List (List Nat)) (s0 : S) : ∀ (m : Nat) (l : List Oper) (s : S) (acc : List Tx), qpy P T po E ops A s0 m l s acc = xdp P T po E ops A s0 m l s acc
  | 0, l, s, acc => by unfold qpy xdp; rw [qcF]
  | m + 1, o :: l, s, acc => by
    unfold qpy xdp
    congr 1
    funext q
    rw [q5G, qpg, qfe ops A s0 m l]
  | _ + 1, [], _, _ => rfl
noncomputable def qso (x : XS) : XS := x.bind fun p => frS p.2 fun s => some (p.1, s)
theorem qcE (x : XS) : qso x = x := by
  cases x with
  | none => rfl
  | some p => show frS p.2 (fun s => some (p.1, s)) = _; rw [q5G]
noncomputable def kXD (LO : (S → XS) → S → XS) (f k : Nat) : Code → S → XS
  | .skip, s => some (.normal, s)
  | .label _, s => some (.normal, s)
  | .ret, s => some (.ret, s)
  | .exit id, s => some (.exit id, s)
  | .seq a b, s => (kXD LO f k a s).bind (sqD fun s' => kXD LO f k b s')
  | .block id c, s => (kXD LO f k c s).bind (bkD id)
  | .cond c x y, s => match s.ev c with
    | .c (.d (.bool b)) => if b = true then kXD LO f k x (s.ly c tt) else kXD LO f k y (s.ly c ff)
    | _ => none
  | .region id ops draw, s => if draw = true then frS ((s.dzr po.q).frz (q39 (s.dzr po.q) (po.rk f id))).strip fun s => (qpy P T po E ops.toList (po.an f id) s (po.dm f id) ops.toList s []).bind fun s' => some (.normal, s') else (kxr P T po E ops.toList ops.toList s).bind fun s' => some (.normal, s')
  | .rangeFunc g ps a b, s => qso (frS ((s.dzr po.q).frz (q39 (s.dzr po.q) (po.rk f (qZ b)))) fun s => xRF po E f g ps.toList a b s)
  | .loop c, s => (nrm po f (qZ c) k s).bind fun s0 => frS s0 fun s0 => LO (fun s => qso ((kXD LO f k c s).bind (lpx po f (qZ c) k))) s0
  | _, _ => none
theorem qeS (LO : (S → XS) → S → XS) (f k : Nat) : ∀ (c : Code) (s : S), kXD P T po E LO f k c s = XD P T po E (D1 P T po E f k) LO f k c s := by
  intro c
  induction c with
  | seq a b iha ihb => intro s; unfold kXD XD; rw [iha]; congr 1; funext p; unfold sqD; split <;> first | exact ihb _ | rfl
  | block id c ih => intro s; unfold kXD XD; rw [ih]
  | cond c x y ihx ihy =>
    intro s
    unfold kXD XD
    rw [ihx, ihy]
    generalize s.ev c = r
    cases r with
    | c x =>
      cases x with
      | d d => cases d <;> rfl
      | _ => rfl
    | _ => rfl
  | region id ops draw =>
    intro s
    unfold kXD XD
    rw [q5G, qfe, qcF]
    rfl
  | rangeFunc g ps a b _ _ => intro s; unfold kXD XD; rw [qcE, q5G]
  | loop c ih =>
    intro s
    unfold kXD XD
    congr 1
    funext s0
    rw [q5G]
    congr 1
    funext s
    rw [qcE, ih]
  | _ => intro s; rfl
noncomputable def frF (x : Option (R × List (Nat × B))) : Option (R × List (Nat × B)) := x.bind fun q => frR q.1 fun r => frH q.2 fun hp => some (r, hp)
theorem qf3 (x : Option (R × List (Nat × B))) : frF x = x := by
  cases x with
  | none => rfl
  | some q => show frR q.1 (fun r => frH q.2 fun hp => some (r, hp)) = _; rw [q8g, q6Y]
noncomputable def qj7 (LO : (S → XS) → S → XS) (f k : Nat) (args : List R) (G : List (Nat × B)) (bd : Bd) : Option (R × List (Nat × B)) := if args.length ≤ bd.n then qoH args fun args => frH G fun G => frF ((kXD P T po E LO f k bd.code ⟨q0O args 0, G, G.length, bd.n⟩).bind (qm6 T po f k bd)) else none
noncomputable def qd2 (LO : (S → XS) → S → XS) (f k : Nat) (a b : Code) (tm : List R) (G : List (Nat × B)) : Option (R × List (Nat × B)) :=
  if 0 < k ∧ q6h (drq po f) false a = true ∧ q6h (drq po f) false b = true then qoH tm fun tm => frH G fun G => frF ((kXD P T po E LO f k a ⟨q0O tm 0, G, G.length, tm.length⟩).bind fun p =>
    match p.1 with
    | .normal => (rdB (p.2.blk (k - 1))).bind fun x => frS (p.2.up [(k - 1, x)]) fun s => (kXD P T po E LO f k b s).bind (q9B k)
    | _ => none) else none
theorem qfE (LO : (S → XS) → S → XS) (f k : Nat) (args : List R) (G : List (Nat × B)) (bd : Bd) : qj7 P T po E LO f k args G bd = q3B P T po (D1 P T po) E LO f k args G bd := by
  unfold qj7 q3B
  rw [q5a, q6Y, qf3, qeS]
theorem qf9 (LO : (S → XS) → S → XS) (f k : Nat) (a b : Code) (tm : List R) (G : List (Nat × B)) : qd2 P T po E LO f k a b tm G = q12 P T po (D1 P T po) E LO f k a b tm G := by
  unfold qd2 q12
  rw [q5a, q6Y, qf3, qeS]
  congr 1
  congr 1
  funext p
  obtain ⟨e, t⟩ := p
  unfold q5B
  cases e with
  | normal =>
    simp only
    congr 1
    funext x
    rw [q5G, qeS]
  | _ => rfl
end
noncomputable def kf (P : Program) (T : Ty) (po : Pol) (bt : Nat → Option Bd) (tab : Orc) : Nat → Orc
  | 0 => fun _ _ _ _ => none
  | n + 1 => fun g k args G => match tab g k args G with
    | some x => some x
    | none => match g with
      | .fn f => (match po.pr f with | some g => frF (prx g k args G) | none => (bt f).bind fun bd => qj7 P T po (kf P T po bt tab n) (iter n) f k args G bd)
      | .rd f a b => qd2 P T po (kf P T po bt tab n) (iter n) f k a b args G
theorem qpZ {P : Program} {T : Ty} {po : Pol} {bt : Nat → Option Bd} {tab : Orc} (hb : ∀ f bd, bt f = some bd → ql P po f = some bd) (ht : OLe tab (EE P T po (D1 P T po))) : ∀ n, OLe (kf P T po bt tab n) (EE P T po (D1 P T po))
  | 0 => fun _ _ _ _ _ h => by cases h
  | n + 1 => fun g k args G x h => by
    have ih := qpZ hb ht n
    unfold kf at h
    split at h
    · rename_i y hy
      injection h with h
      subst h
      exact ht _ _ _ _ _ hy
    · cases g with
      | fn f =>
        simp only at h
        rw [qo8 q3y q9u]
        unfold fnx
        cases hg : po.pr f with
        | some g =>
          rw [hg] at h
          simp only [qf3] at h
          exact h
        | none =>
          rw [hg] at h
          obtain ⟨bd, h1, h2⟩ := Option.bind_eq_some_iff.1 h
          rw [qfE] at h2
          simp only [hb f bd h1, Option.bind_some]
          exact q6M q3y ih (q7b n) h2
      | rd f a b =>
        simp only at h
        rw [qt3 q3y q9u]
        rw [qf9] at h
        exact q2t q3y ih (q7b n) h
def qv2 : Orc := fun _ _ _ _ => none
theorem qk6 {E : Orc} : OLe qv2 E := fun _ _ _ _ _ h => by cases h
end Go.Proofs.YtplfjlcnffcenaaGreat.Vc
