/- Part 4 of a proof. -/
import Derived.Test.YtplfjlcnffcenaaGreatM3
import Derived.TacticsInMore
import Derived.Below
set_option linter.unusedVariables false
set_option linter.unusedSimpArgs false
set_option linter.defProp false
set_option linter.unusedSectionVars false
set_option linter.unnecessarySimpa false
namespace Go.Proofs.YtplfjlcnffcenaaGreat.Vc
open Go.RowKit
set_option linter.unusedVariables false
def pq (t : TypeId) : List Nat := bif Nat.blt t 171 then (bif Nat.blt t 85 then (bif Nat.blt t 42 then (bif Nat.blt t 21 then [] else (bif Nat.blt t 31 then (bif Nat.blt t 26 then (bif Nat.blt t 23 then (bif Nat.blt t 22 then [] else [1]) else (bif Nat.blt t 24 then [] else (bif Nat.blt t 25 then [] else [1]))) else (bif Nat.blt t 28 then (bif Nat.blt t 27 then [2] else []) else (bif Nat.blt t 29 then [] else (bif Nat.blt t 30 then [0, 0, 0, 0, 0, 1, 2, 0, 0, 0, 0] else [0, 0, 0, 0, 0, 1, 2, 0, 0, 0, 0])))) else (bif Nat.blt t 36 then (bif Nat.blt t 33 then [] else (bif Nat.blt t 34 then [8] else (bif Nat.blt t 35 then [0, 0, 0, 0, 0, 1, 2, 0, 0, 0, 0, 0, 0, 0, 0, 8] else [0, 0, 0, 0, 0, 1, 2, 0, 0, 0, 0, 0, 0, 0, 0, 8]))) else (bif Nat.blt t 39 then (bif Nat.blt t 37 then [] else (bif Nat.blt t 38 then [11] else [])) else [])))) else (bif Nat.blt t 63 then (bif Nat.blt t 52 then (bif Nat.blt t 47 then (bif Nat.blt t 44 then [] else (bif Nat.blt t 45 then [] else (bif Nat.blt t 46 then [1] else [0, 0, 0, 0, 0, 0, 0, 0, 1, 2, 0, 0, 0, 0, 0, 0, 0, 0, 8]))) else (bif Nat.blt t 49 then (bif Nat.blt t 48 then [0, 0, 0, 0, 0, 0, 0, 0, 1, 2, 0, 0, 0, 0, 0, 0, 0, 0, 8] else []) else [])) else (bif Nat.blt t 57 then (bif Nat.blt t 54 then (bif Nat.blt t 53 then [0, 0, 0, 0, 0, 1, 0, 1] else [0, 0, 0, 0, 0, 1, 0, 1]) else (bif Nat.blt t 55 then [] else (bif Nat.blt t 56 then [] else [3]))) else (bif Nat.blt t 60 then (bif Nat.blt t 58 then [1] else []) else []))) else (bif Nat.blt t 74 then (bif Nat.blt t 68 then [] else (bif Nat.blt t 71 then (bif Nat.blt t 69 then [] else (bif Nat.blt t 70 then [1, 0] else [1, 0])) else (bif Nat.blt t 72 then [1] else []))) else (bif Nat.blt t 79 then (bif Nat.blt t 76 then [] else (bif Nat.blt t 77 then [1] else [])) else (bif Nat.blt t 82 then [] else (bif Nat.blt t 83 then [] else (bif Nat.blt t 84 then [] else [1]))))))) else (bif Nat.blt t 128 then [] else (bif Nat.blt t 149 then [] else (bif Nat.blt t 160 then [] else (bif Nat.blt t 165 then [] else (bif Nat.blt t 168 then [] else (bif Nat.blt t 169 then [] else (bif Nat.blt t 170 then [] else [1])))))))) else []
def pow (t : FuncId) : List Nat := bif Nat.blt t 24 then (bif Nat.blt t 12 then [] else (bif Nat.blt t 18 then [] else (bif Nat.blt t 21 then (bif Nat.blt t 19 then [2] else []) else (bif Nat.blt t 22 then [] else (bif Nat.blt t 23 then [] else [0]))))) else []
def pfz (f : FuncId) : Bool := ([7, 8, 9, 14, 16, 19, 24, 26, 27, 28, 29, 31, 32, 35, 44, 50, 51, 56, 57, 58, 61, 65, 70, 72, 74, 78, 90, 104, 110] : List Nat).contains f
def pro (f : FuncId) : Bool := ([7, 31, 56, 61, 70] : List Nat).contains f
def pkp (t : FuncId) (k : Nat) : List Nat := bif Nat.blt t 142 then (bif Nat.blt t 71 then (bif Nat.blt t 35 then (bif Nat.blt t 17 then (bif Nat.blt t 8 then (bif Nat.blt t 4 then (bif Nat.blt t 2 then [] else (bif Nat.blt t 3 then [] else (bif Nat.blt k 8 then (bif Nat.blt k 4 then (bif Nat.blt k 2 then [] else (bif Nat.blt k 3 then [] else [4, 5, 7, 20, 21, 22])) else (bif Nat.blt k 6 then [] else (bif Nat.blt k 7 then [] else [4, 5, 7, 20, 21, 22, 36, 37, 38]))) else []))) else (bif Nat.blt t 6 then (bif Nat.blt t 5 then (bif Nat.blt k 19 then (bif Nat.blt k 9 then (bif Nat.blt k 4 then [] else (bif Nat.blt k 6 then (bif Nat.blt k 5 then [1, 5, 7, 45, 46, 47] else []) else [])) else (bif Nat.blt k 14 then (bif Nat.blt k 11 then [] else (bif Nat.blt k 12 then [] else (bif Nat.blt k 13 then [1, 5, 7, 9, 10, 11, 45, 46, 47, 81, 82, 83] else []))) else (bif Nat.blt k 16 then (bif Nat.blt k 15 then [] else [1, 5, 7, 9, 10, 11, 14, 45, 46, 47, 81, 82, 83, 97, 98, 99]) else (bif Nat.blt k 17 then [] else (bif Nat.blt k 18 then [] else [1, 5, 7, 9, 10, 11, 14, 16, 45, 46, 47, 81, 82, 83, 97, 98, 99, 108, 109, 110]))))) else []) else (bif Nat.blt k 32 then (bif Nat.blt k 16 then (bif Nat.blt k 8 then (bif Nat.blt k 4 then [] else (bif Nat.blt k 6 then (bif Nat.blt k 5 then [4, 5, 7, 8, 39, 40, 41] else []) else (bif Nat.blt k 7 then [] else [4, 5, 7, 8, 10, 39, 40, 41, 50, 51, 52]))) else []) else (bif Nat.blt k 24 then (bif Nat.blt k 20 then (bif Nat.blt k 18 then (bif Nat.blt k 17 then [] else [4, 7, 8, 17, 18]) else []) else (bif Nat.blt k 22 then [] else (bif Nat.blt k 23 then [] else [4, 7, 8, 17, 120, 121, 122]))) else (bif Nat.blt k 28 then [] else (bif Nat.blt k 30 then (bif Nat.blt k 29 then [4, 7, 8, 17, 120, 121, 122, 145, 146, 147] else []) else (bif Nat.blt k 31 then [] else [4, 7, 8, 17, 24, 120, 121, 122, 145, 146, 147, 153, 154, 155]))))) else [])) else (bif Nat.blt t 7 then (bif Nat.blt k 8 then (bif Nat.blt k 4 then [] else (bif Nat.blt k 6 then [] else (bif Nat.blt k 7 then [] else [1, 2, 3, 4, 56, 57, 58]))) else []) else (bif Nat.blt k 4 then (bif Nat.blt k 2 then [] else (bif Nat.blt k 3 then [] else [0, 3, 4])) else [])))) else (bif Nat.blt t 12 then (bif Nat.blt t 10 then (bif Nat.blt t 9 then (bif Nat.blt k 9 then (bif Nat.blt k 4 then [] else (bif Nat.blt k 6 then (bif Nat.blt k 5 then [1, 2, 3, 4] else []) else (bif Nat.blt k 7 then [] else (bif Nat.blt k 8 then [] else [1, 2, 3, 5])))) else []) else []) else (bif Nat.blt t 11 then (bif Nat.blt k 16 then (bif Nat.blt k 8 then [] else (bif Nat.blt k 12 then [] else (bif Nat.blt k 14 then (bif Nat.blt k 13 then [1, 52, 53, 54] else []) else (bif Nat.blt k 15 then [] else [1, 4, 52, 53, 54, 58, 59, 60])))) else []) else (bif Nat.blt k 21 then (bif Nat.blt k 10 then [] else (bif Nat.blt k 15 then [] else (bif Nat.blt k 18 then (bif Nat.blt k 16 then [1, 6] else []) else (bif Nat.blt k 19 then [] else (bif Nat.blt k 20 then [] else [1, 7]))))) else []))) else (bif Nat.blt t 14 then [] else (bif Nat.blt t 15 then (bif Nat.blt k 6 then (bif Nat.blt k 3 then [] else (bif Nat.blt k 4 then [] else (bif Nat.blt k 5 then [] else [2, 5, 6, 7, 8]))) else []) else [])))) else (bif Nat.blt t 26 then (bif Nat.blt t 21 then (bif Nat.blt t 19 then (bif Nat.blt t 18 then [] else (bif Nat.blt k 14 then (bif Nat.blt k 7 then [] else (bif Nat.blt k 10 then [] else (bif Nat.blt k 12 then [] else (bif Nat.blt k 13 then [] else [2, 3, 9, 11, 13, 48, 49, 50])))) else [])) else (bif Nat.blt t 20 then (bif Nat.blt k 17 then (bif Nat.blt k 8 then (bif Nat.blt k 4 then [] else (bif Nat.blt k 6 then (bif Nat.blt k 5 then [] else [2, 3, 4, 8, 9, 10]) else [])) else (bif Nat.blt k 12 then [] else (bif Nat.blt k 14 then [] else (bif Nat.blt k 15 then [] else (bif Nat.blt k 16 then [] else [2, 3, 11, 13, 14]))))) else []) else (bif Nat.blt k 5 then (bif Nat.blt k 2 then [] else (bif Nat.blt k 3 then [] else (bif Nat.blt k 4 then [] else [0, 1, 5]))) else []))) else (bif Nat.blt t 23 then (bif Nat.blt t 22 then (bif Nat.blt k 5 then (bif Nat.blt k 2 then [] else (bif Nat.blt k 3 then [] else (bif Nat.blt k 4 then [] else [1, 2, 20, 21, 22]))) else []) else (bif Nat.blt k 10 then (bif Nat.blt k 5 then (bif Nat.blt k 2 then [] else (bif Nat.blt k 3 then [] else (bif Nat.blt k 4 then [] else [1, 2, 5]))) else (bif Nat.blt k 7 then [] else (bif Nat.blt k 8 then [] else (bif Nat.blt k 9 then [] else [1, 2, 5, 6])))) else [])) else (bif Nat.blt t 24 then [] else (bif Nat.blt t 25 then [] else (bif Nat.blt k 5 then (bif Nat.blt k 2 then [] else (bif Nat.blt k 3 then [] else (bif Nat.blt k 4 then [] else [0, 1, 5]))) else []))))) else (bif Nat.blt t 30 then (bif Nat.blt t 28 then (bif Nat.blt t 27 then (bif Nat.blt k 7 then (bif Nat.blt k 3 then [] else (bif Nat.blt k 5 then [] else (bif Nat.blt k 6 then [] else [0, 4, 5, 6, 7]))) else []) else []) else (bif Nat.blt t 29 then (bif Nat.blt k 10 then (bif Nat.blt k 5 then [] else (bif Nat.blt k 7 then [] else (bif Nat.blt k 8 then [] else (bif Nat.blt k 9 then [] else [0, 3, 7])))) else []) else [])) else []))) else (bif Nat.blt t 53 then (bif Nat.blt t 44 then (bif Nat.blt t 39 then (bif Nat.blt t 37 then (bif Nat.blt t 36 then (bif Nat.blt k 4 then (bif Nat.blt k 2 then [] else (bif Nat.blt k 3 then [] else [3, 6, 7, 8])) else []) else []) else []) else (bif Nat.blt t 41 then [] else (bif Nat.blt t 42 then [] else (bif Nat.blt t 43 then [] else (bif Nat.blt k 3 then (bif Nat.blt k 1 then [] else (bif Nat.blt k 2 then [] else [0, 3])) else []))))) else (bif Nat.blt t 48 then (bif Nat.blt t 46 then (bif Nat.blt t 45 then (bif Nat.blt k 4 then (bif Nat.blt k 2 then [] else (bif Nat.blt k 3 then [] else [1, 3, 4])) else []) else (bif Nat.blt k 3 then (bif Nat.blt k 1 then [] else (bif Nat.blt k 2 then [] else [0, 1, 5])) else [])) else []) else (bif Nat.blt t 50 then [] else (bif Nat.blt t 51 then [] else (bif Nat.blt t 52 then (bif Nat.blt k 4 then (bif Nat.blt k 2 then [] else (bif Nat.blt k 3 then [] else [1, 5, 8, 9, 10])) else []) else []))))) else (bif Nat.blt t 62 then (bif Nat.blt t 57 then (bif Nat.blt t 55 then [] else (bif Nat.blt t 56 then [] else (bif Nat.blt k 10 then (bif Nat.blt k 5 then [] else (bif Nat.blt k 7 then (bif Nat.blt k 6 then [4, 5, 6, 13, 14, 15] else []) else (bif Nat.blt k 8 then [] else (bif Nat.blt k 9 then [] else [4, 5, 6, 9, 13, 14, 15, 21, 22, 23])))) else []))) else (bif Nat.blt t 59 then (bif Nat.blt t 58 then (bif Nat.blt k 4 then (bif Nat.blt k 2 then [] else (bif Nat.blt k 3 then [] else [1, 5, 8, 9, 10])) else []) else []) else [])) else (bif Nat.blt t 66 then (bif Nat.blt t 64 then [] else (bif Nat.blt t 65 then (bif Nat.blt k 4 then (bif Nat.blt k 2 then [] else (bif Nat.blt k 3 then [] else [0, 3, 4])) else []) else (bif Nat.blt k 13 then (bif Nat.blt k 6 then (bif Nat.blt k 3 then [] else (bif Nat.blt k 4 then [0, 3, 4] else [])) else (bif Nat.blt k 9 then (bif Nat.blt k 7 then [0, 3, 4, 5] else []) else (bif Nat.blt k 11 then [] else (bif Nat.blt k 12 then [] else [0, 3, 4, 5, 7])))) else []))) else (bif Nat.blt t 68 then (bif Nat.blt t 67 then (bif Nat.blt k 5 then (bif Nat.blt k 2 then [] else (bif Nat.blt k 3 then [] else (bif Nat.blt k 4 then [] else [0, 1, 12, 13]))) else []) else (bif Nat.blt k 5 then (bif Nat.blt k 2 then [] else (bif Nat.blt k 3 then [] else (bif Nat.blt k 4 then [] else [0, 1, 5]))) else [])) else (bif Nat.blt t 69 then (bif Nat.blt k 6 then (bif Nat.blt k 3 then (bif Nat.blt k 1 then [] else (bif Nat.blt k 2 then [] else [0, 1, 5])) else (bif Nat.blt k 4 then [] else (bif Nat.blt k 5 then [] else [0, 1, 5, 6]))) else []) else (bif Nat.blt t 70 then [] else (bif Nat.blt k 5 then (bif Nat.blt k 2 then [] else (bif Nat.blt k 3 then [] else (bif Nat.blt k 4 then [] else [3, 12, 13]))) else [])))))))) else (bif Nat.blt t 106 then (bif Nat.blt t 88 then (bif Nat.blt t 79 then (bif Nat.blt t 75 then (bif Nat.blt t 73 then (bif Nat.blt t 72 then (bif Nat.blt k 3 then (bif Nat.blt k 1 then [] else (bif Nat.blt k 2 then [] else [0, 1, 5])) else []) else (bif Nat.blt k 4 then (bif Nat.blt k 2 then [] else (bif Nat.blt k 3 then [] else [0, 3, 4])) else [])) else (bif Nat.blt t 74 then (bif Nat.blt k 6 then (bif Nat.blt k 3 then [] else (bif Nat.blt k 4 then [] else (bif Nat.blt k 5 then [] else [2, 3, 6]))) else []) else (bif Nat.blt k 6 then (bif Nat.blt k 3 then [] else (bif Nat.blt k 4 then [0, 3, 4] else (bif Nat.blt k 5 then [] else [0, 3, 4, 5]))) else []))) else (bif Nat.blt t 77 then (bif Nat.blt t 76 then [] else (bif Nat.blt k 3 then (bif Nat.blt k 1 then [] else (bif Nat.blt k 2 then [] else [0, 1, 7, 8])) else [])) else [])) else (bif Nat.blt t 83 then (bif Nat.blt t 81 then [] else (bif Nat.blt t 82 then (bif Nat.blt k 3 then (bif Nat.blt k 1 then [] else (bif Nat.blt k 2 then [] else [0, 1, 7, 8])) else []) else (bif Nat.blt k 3 then (bif Nat.blt k 1 then [] else (bif Nat.blt k 2 then [] else [0, 1, 7, 8])) else []))) else (bif Nat.blt t 85 then (bif Nat.blt t 84 then [] else (bif Nat.blt k 3 then (bif Nat.blt k 1 then [] else (bif Nat.blt k 2 then [] else [0, 3])) else [])) else (bif Nat.blt t 86 then [] else (bif Nat.blt t 87 then (bif Nat.blt k 3 then (bif Nat.blt k 1 then [] else (bif Nat.blt k 2 then [] else [1, 9, 10, 11])) else []) else (bif Nat.blt k 9 then (bif Nat.blt k 4 then [] else (bif Nat.blt k 6 then [] else (bif Nat.blt k 7 then [] else (bif Nat.blt k 8 then [] else [1, 4, 6, 7, 8, 29, 30, 31])))) else [])))))) else (bif Nat.blt t 97 then (bif Nat.blt t 92 then (bif Nat.blt t 90 then [] else (bif Nat.blt t 91 then [] else (bif Nat.blt k 3 then (bif Nat.blt k 1 then [] else (bif Nat.blt k 2 then [] else [0, 1, 2, 3, 8, 9])) else []))) else (bif Nat.blt t 94 then (bif Nat.blt t 93 then [] else (bif Nat.blt k 6 then (bif Nat.blt k 3 then [] else (bif Nat.blt k 4 then [] else (bif Nat.blt k 5 then [] else [0, 3, 4]))) else [])) else (bif Nat.blt t 95 then [] else (bif Nat.blt t 96 then [] else (bif Nat.blt k 9 then (bif Nat.blt k 4 then [] else (bif Nat.blt k 6 then [] else (bif Nat.blt k 7 then [] else (bif Nat.blt k 8 then [] else [0, 1, 4, 6, 7, 8])))) else []))))) else (bif Nat.blt t 101 then [] else (bif Nat.blt t 103 then [] else (bif Nat.blt t 104 then (bif Nat.blt k 5 then (bif Nat.blt k 2 then [] else (bif Nat.blt k 3 then [] else (bif Nat.blt k 4 then [] else [0, 1, 5]))) else []) else (bif Nat.blt t 105 then (bif Nat.blt k 5 then (bif Nat.blt k 2 then [] else (bif Nat.blt k 3 then [] else (bif Nat.blt k 4 then [] else [0, 1, 5]))) else []) else [])))))) else (bif Nat.blt t 124 then (bif Nat.blt t 115 then (bif Nat.blt t 110 then (bif Nat.blt t 108 then (bif Nat.blt t 107 then [] else (bif Nat.blt k 3 then (bif Nat.blt k 1 then [] else (bif Nat.blt k 2 then [] else [1, 2, 10])) else [])) else []) else (bif Nat.blt t 112 then [] else (bif Nat.blt t 113 then [] else (bif Nat.blt t 114 then (bif Nat.blt k 5 then (bif Nat.blt k 2 then (bif Nat.blt k 1 then [] else [0, 1, 2, 6]) else (bif Nat.blt k 3 then [] else (bif Nat.blt k 4 then [] else [0, 1, 2, 6, 7]))) else []) else (bif Nat.blt k 9 then (bif Nat.blt k 4 then [] else (bif Nat.blt k 6 then (bif Nat.blt k 5 then [0, 6, 7, 8, 9] else []) else (bif Nat.blt k 7 then [] else (bif Nat.blt k 8 then [] else [0, 6, 7, 10])))) else []))))) else (bif Nat.blt t 119 then (bif Nat.blt t 117 then (bif Nat.blt t 116 then (bif Nat.blt k 6 then (bif Nat.blt k 3 then [] else (bif Nat.blt k 4 then [] else (bif Nat.blt k 5 then [] else [0, 1, 6, 7, 8, 9]))) else []) else []) else (bif Nat.blt t 118 then (bif Nat.blt k 3 then (bif Nat.blt k 1 then [] else (bif Nat.blt k 2 then [] else [0, 6, 7])) else []) else (bif Nat.blt k 21 then (bif Nat.blt k 10 then (bif Nat.blt k 5 then (bif Nat.blt k 2 then [] else (bif Nat.blt k 3 then [] else (bif Nat.blt k 4 then [0, 1, 2, 7, 8] else []))) else (bif Nat.blt k 7 then (bif Nat.blt k 6 then [0, 1, 2, 7, 8] else []) else [])) else (bif Nat.blt k 15 then (bif Nat.blt k 12 then [] else (bif Nat.blt k 13 then [] else (bif Nat.blt k 14 then [] else [0, 1, 2, 7, 8, 9]))) else (bif Nat.blt k 18 then [] else (bif Nat.blt k 19 then [] else (bif Nat.blt k 20 then [] else [0, 1, 2, 7, 8, 10]))))) else []))) else (bif Nat.blt t 121 then (bif Nat.blt t 120 then [] else (bif Nat.blt k 6 then (bif Nat.blt k 3 then [] else (bif Nat.blt k 4 then [0, 1, 9, 10] else (bif Nat.blt k 5 then [] else [0, 1, 9, 10]))) else [])) else (bif Nat.blt t 122 then (bif Nat.blt k 16 then (bif Nat.blt k 8 then (bif Nat.blt k 4 then (bif Nat.blt k 2 then [] else (bif Nat.blt k 3 then [] else [0, 1, 10, 11])) else (bif Nat.blt k 6 then (bif Nat.blt k 5 then [] else [0, 1, 10, 11]) else [])) else (bif Nat.blt k 12 then [] else (bif Nat.blt k 14 then (bif Nat.blt k 13 then [] else [0, 1, 10, 11]) else (bif Nat.blt k 15 then [] else [0, 1, 10, 11])))) else []) else [])))) else (bif Nat.blt t 133 then (bif Nat.blt t 128 then (bif Nat.blt t 126 then [] else (bif Nat.blt t 127 then [] else (bif Nat.blt k 6 then (bif Nat.blt k 3 then [] else (bif Nat.blt k 4 then [3, 6, 7, 8] else (bif Nat.blt k 5 then [] else [3, 5, 6, 7, 8]))) else []))) else []) else (bif Nat.blt t 137 then (bif Nat.blt t 135 then (bif Nat.blt t 134 then (bif Nat.blt k 2 then (bif Nat.blt k 1 then [] else [0, 2, 3, 8]) else []) else []) else []) else (bif Nat.blt t 139 then [] else (bif Nat.blt t 140 then (bif Nat.blt k 2 then (bif Nat.blt k 1 then [] else [0, 1]) else []) else (bif Nat.blt t 141 then [] else (bif Nat.blt k 2 then (bif Nat.blt k 1 then [] else [0, 2, 3]) else []))))))))) else []
def pkx (t : FuncId) (k : Nat) : List Nat := bif Nat.blt t 142 then (bif Nat.blt t 71 then (bif Nat.blt t 35 then (bif Nat.blt t 17 then (bif Nat.blt t 8 then (bif Nat.blt t 4 then (bif Nat.blt t 2 then [] else (bif Nat.blt t 3 then [] else (bif Nat.blt k 8 then (bif Nat.blt k 4 then (bif Nat.blt k 2 then [] else (bif Nat.blt k 3 then [] else [6, 7])) else (bif Nat.blt k 6 then [] else (bif Nat.blt k 7 then [] else [4, 5, 6, 7, 20, 21, 22]))) else []))) else (bif Nat.blt t 6 then (bif Nat.blt t 5 then (bif Nat.blt k 19 then (bif Nat.blt k 9 then (bif Nat.blt k 4 then [] else (bif Nat.blt k 6 then (bif Nat.blt k 5 then [6, 7] else []) else [])) else (bif Nat.blt k 14 then (bif Nat.blt k 11 then [] else (bif Nat.blt k 12 then [] else (bif Nat.blt k 13 then [1, 5, 6, 7, 45, 46, 47] else []))) else (bif Nat.blt k 16 then (bif Nat.blt k 15 then [] else [1, 5, 6, 7, 9, 10, 11, 45, 46, 47, 81, 82, 83]) else (bif Nat.blt k 17 then [] else (bif Nat.blt k 18 then [] else [1, 5, 6, 7, 9, 10, 11, 14, 45, 46, 47, 81, 82, 83, 97, 98, 99]))))) else []) else (bif Nat.blt k 32 then (bif Nat.blt k 16 then (bif Nat.blt k 8 then (bif Nat.blt k 4 then [] else (bif Nat.blt k 6 then (bif Nat.blt k 5 then [4, 6, 7, 8] else []) else (bif Nat.blt k 7 then [] else [4, 5, 6, 7, 8, 39, 40, 41]))) else []) else (bif Nat.blt k 24 then (bif Nat.blt k 20 then (bif Nat.blt k 18 then (bif Nat.blt k 17 then [] else [4, 7, 8, 17]) else []) else (bif Nat.blt k 22 then [] else (bif Nat.blt k 23 then [] else [6, 7]))) else (bif Nat.blt k 28 then [] else (bif Nat.blt k 30 then (bif Nat.blt k 29 then [4, 6, 7, 8, 17, 120, 121, 122] else []) else (bif Nat.blt k 31 then [] else [4, 6, 7, 8, 17, 120, 121, 122, 145, 146, 147]))))) else [])) else (bif Nat.blt t 7 then (bif Nat.blt k 8 then (bif Nat.blt k 4 then [] else (bif Nat.blt k 6 then [] else (bif Nat.blt k 7 then [] else [0, 1, 2, 3]))) else []) else (bif Nat.blt k 4 then (bif Nat.blt k 2 then [] else (bif Nat.blt k 3 then [] else [3])) else [])))) else (bif Nat.blt t 12 then (bif Nat.blt t 10 then (bif Nat.blt t 9 then (bif Nat.blt k 9 then (bif Nat.blt k 4 then [] else (bif Nat.blt k 6 then (bif Nat.blt k 5 then [1, 2, 3] else []) else (bif Nat.blt k 7 then [] else (bif Nat.blt k 8 then [] else [2, 3])))) else []) else []) else (bif Nat.blt t 11 then (bif Nat.blt k 16 then (bif Nat.blt k 8 then [] else (bif Nat.blt k 12 then [] else (bif Nat.blt k 14 then (bif Nat.blt k 13 then [1, 2] else []) else (bif Nat.blt k 15 then [] else [1, 2, 52, 53, 54])))) else []) else (bif Nat.blt k 21 then (bif Nat.blt k 10 then [] else (bif Nat.blt k 15 then [] else (bif Nat.blt k 18 then (bif Nat.blt k 16 then [1, 2] else []) else (bif Nat.blt k 19 then [] else (bif Nat.blt k 20 then [] else [1, 2]))))) else []))) else (bif Nat.blt t 14 then [] else (bif Nat.blt t 15 then (bif Nat.blt k 6 then (bif Nat.blt k 3 then [] else (bif Nat.blt k 4 then [] else (bif Nat.blt k 5 then [] else [6]))) else []) else [])))) else (bif Nat.blt t 26 then (bif Nat.blt t 21 then (bif Nat.blt t 19 then (bif Nat.blt t 18 then [] else (bif Nat.blt k 14 then (bif Nat.blt k 7 then [] else (bif Nat.blt k 10 then [] else (bif Nat.blt k 12 then [] else (bif Nat.blt k 13 then [] else [13])))) else [])) else (bif Nat.blt t 20 then (bif Nat.blt k 17 then (bif Nat.blt k 8 then (bif Nat.blt k 4 then [] else (bif Nat.blt k 6 then (bif Nat.blt k 5 then [] else [2, 3, 4, 8, 9]) else [])) else (bif Nat.blt k 12 then [] else (bif Nat.blt k 14 then [] else (bif Nat.blt k 15 then [] else (bif Nat.blt k 16 then [] else [13]))))) else []) else (bif Nat.blt k 5 then (bif Nat.blt k 2 then [] else (bif Nat.blt k 3 then [] else (bif Nat.blt k 4 then [] else [4]))) else []))) else (bif Nat.blt t 23 then (bif Nat.blt t 22 then (bif Nat.blt k 5 then (bif Nat.blt k 2 then [] else (bif Nat.blt k 3 then [] else (bif Nat.blt k 4 then [] else [1, 2, 4]))) else []) else (bif Nat.blt k 10 then (bif Nat.blt k 5 then (bif Nat.blt k 2 then [] else (bif Nat.blt k 3 then [] else (bif Nat.blt k 4 then [] else [1, 2, 4]))) else (bif Nat.blt k 7 then [] else (bif Nat.blt k 8 then [] else (bif Nat.blt k 9 then [] else [1, 2, 4, 5])))) else [])) else (bif Nat.blt t 24 then [] else (bif Nat.blt t 25 then [] else (bif Nat.blt k 5 then (bif Nat.blt k 2 then [] else (bif Nat.blt k 3 then [] else (bif Nat.blt k 4 then [] else [4]))) else []))))) else (bif Nat.blt t 30 then (bif Nat.blt t 28 then (bif Nat.blt t 27 then (bif Nat.blt k 7 then (bif Nat.blt k 3 then [] else (bif Nat.blt k 5 then [] else (bif Nat.blt k 6 then [] else [0, 4, 5]))) else []) else []) else (bif Nat.blt t 29 then (bif Nat.blt k 10 then (bif Nat.blt k 5 then [] else (bif Nat.blt k 7 then [] else (bif Nat.blt k 8 then [] else (bif Nat.blt k 9 then [] else [0, 3, 7])))) else []) else [])) else []))) else (bif Nat.blt t 53 then (bif Nat.blt t 44 then (bif Nat.blt t 39 then (bif Nat.blt t 37 then (bif Nat.blt t 36 then (bif Nat.blt k 4 then (bif Nat.blt k 2 then [] else (bif Nat.blt k 3 then [] else [3])) else []) else []) else []) else (bif Nat.blt t 41 then [] else (bif Nat.blt t 42 then [] else (bif Nat.blt t 43 then [] else (bif Nat.blt k 3 then (bif Nat.blt k 1 then [] else (bif Nat.blt k 2 then [] else [2])) else []))))) else (bif Nat.blt t 48 then (bif Nat.blt t 46 then (bif Nat.blt t 45 then (bif Nat.blt k 4 then (bif Nat.blt k 2 then [] else (bif Nat.blt k 3 then [] else [3])) else []) else (bif Nat.blt k 3 then (bif Nat.blt k 1 then [] else (bif Nat.blt k 2 then [] else [4])) else [])) else []) else (bif Nat.blt t 50 then [] else (bif Nat.blt t 51 then [] else (bif Nat.blt t 52 then (bif Nat.blt k 4 then (bif Nat.blt k 2 then [] else (bif Nat.blt k 3 then [] else [5])) else []) else []))))) else (bif Nat.blt t 62 then (bif Nat.blt t 57 then (bif Nat.blt t 55 then [] else (bif Nat.blt t 56 then [] else (bif Nat.blt k 10 then (bif Nat.blt k 5 then [] else (bif Nat.blt k 7 then (bif Nat.blt k 6 then [5, 6] else []) else (bif Nat.blt k 8 then [] else (bif Nat.blt k 9 then [] else [4, 5, 6, 13, 14, 15])))) else []))) else (bif Nat.blt t 59 then (bif Nat.blt t 58 then (bif Nat.blt k 4 then (bif Nat.blt k 2 then [] else (bif Nat.blt k 3 then [] else [5])) else []) else []) else [])) else (bif Nat.blt t 66 then (bif Nat.blt t 64 then [] else (bif Nat.blt t 65 then (bif Nat.blt k 4 then (bif Nat.blt k 2 then [] else (bif Nat.blt k 3 then [] else [3])) else []) else (bif Nat.blt k 13 then (bif Nat.blt k 6 then (bif Nat.blt k 3 then [] else (bif Nat.blt k 4 then [3] else [])) else (bif Nat.blt k 9 then (bif Nat.blt k 7 then [0, 3, 4] else []) else (bif Nat.blt k 11 then [] else (bif Nat.blt k 12 then [] else [0, 3, 4, 5])))) else []))) else (bif Nat.blt t 68 then (bif Nat.blt t 67 then (bif Nat.blt k 5 then (bif Nat.blt k 2 then [] else (bif Nat.blt k 3 then [] else (bif Nat.blt k 4 then [] else [4]))) else []) else (bif Nat.blt k 5 then (bif Nat.blt k 2 then [] else (bif Nat.blt k 3 then [] else (bif Nat.blt k 4 then [] else [4]))) else [])) else (bif Nat.blt t 69 then (bif Nat.blt k 6 then (bif Nat.blt k 3 then (bif Nat.blt k 1 then [] else (bif Nat.blt k 2 then [] else [4])) else (bif Nat.blt k 4 then [] else (bif Nat.blt k 5 then [] else [0, 1, 4, 5]))) else []) else (bif Nat.blt t 70 then [] else (bif Nat.blt k 5 then (bif Nat.blt k 2 then [] else (bif Nat.blt k 3 then [] else (bif Nat.blt k 4 then [] else [3]))) else [])))))))) else (bif Nat.blt t 106 then (bif Nat.blt t 88 then (bif Nat.blt t 79 then (bif Nat.blt t 75 then (bif Nat.blt t 73 then (bif Nat.blt t 72 then (bif Nat.blt k 3 then (bif Nat.blt k 1 then [] else (bif Nat.blt k 2 then [] else [4])) else []) else (bif Nat.blt k 4 then (bif Nat.blt k 2 then [] else (bif Nat.blt k 3 then [] else [3])) else [])) else (bif Nat.blt t 74 then (bif Nat.blt k 6 then (bif Nat.blt k 3 then [] else (bif Nat.blt k 4 then [] else (bif Nat.blt k 5 then [] else [4]))) else []) else (bif Nat.blt k 6 then (bif Nat.blt k 3 then [] else (bif Nat.blt k 4 then [3] else (bif Nat.blt k 5 then [] else [0, 3, 4, 5]))) else []))) else (bif Nat.blt t 77 then (bif Nat.blt t 76 then [] else (bif Nat.blt k 3 then (bif Nat.blt k 1 then [] else (bif Nat.blt k 2 then [] else [4])) else [])) else [])) else (bif Nat.blt t 83 then (bif Nat.blt t 81 then [] else (bif Nat.blt t 82 then (bif Nat.blt k 3 then (bif Nat.blt k 1 then [] else (bif Nat.blt k 2 then [] else [4])) else []) else (bif Nat.blt k 3 then (bif Nat.blt k 1 then [] else (bif Nat.blt k 2 then [] else [4])) else []))) else (bif Nat.blt t 85 then (bif Nat.blt t 84 then [] else (bif Nat.blt k 3 then (bif Nat.blt k 1 then [] else (bif Nat.blt k 2 then [] else [0, 2])) else [])) else (bif Nat.blt t 86 then [] else (bif Nat.blt t 87 then (bif Nat.blt k 3 then (bif Nat.blt k 1 then [] else (bif Nat.blt k 2 then [] else [1, 2])) else []) else (bif Nat.blt k 9 then (bif Nat.blt k 4 then [] else (bif Nat.blt k 6 then [] else (bif Nat.blt k 7 then [] else (bif Nat.blt k 8 then [] else [4, 5, 6, 7])))) else [])))))) else (bif Nat.blt t 97 then (bif Nat.blt t 92 then (bif Nat.blt t 90 then [] else (bif Nat.blt t 91 then [] else (bif Nat.blt k 3 then (bif Nat.blt k 1 then [] else (bif Nat.blt k 2 then [] else [])) else []))) else (bif Nat.blt t 94 then (bif Nat.blt t 93 then [] else (bif Nat.blt k 6 then (bif Nat.blt k 3 then [] else (bif Nat.blt k 4 then [] else (bif Nat.blt k 5 then [] else [3]))) else [])) else (bif Nat.blt t 95 then [] else (bif Nat.blt t 96 then [] else (bif Nat.blt k 9 then (bif Nat.blt k 4 then [] else (bif Nat.blt k 6 then [] else (bif Nat.blt k 7 then [] else (bif Nat.blt k 8 then [] else [4, 5, 6, 7])))) else []))))) else (bif Nat.blt t 101 then [] else (bif Nat.blt t 103 then [] else (bif Nat.blt t 104 then (bif Nat.blt k 5 then (bif Nat.blt k 2 then [] else (bif Nat.blt k 3 then [] else (bif Nat.blt k 4 then [] else [4]))) else []) else (bif Nat.blt t 105 then (bif Nat.blt k 5 then (bif Nat.blt k 2 then [] else (bif Nat.blt k 3 then [] else (bif Nat.blt k 4 then [] else [0, 1, 5]))) else []) else [])))))) else (bif Nat.blt t 124 then (bif Nat.blt t 115 then (bif Nat.blt t 110 then (bif Nat.blt t 108 then (bif Nat.blt t 107 then [] else (bif Nat.blt k 3 then (bif Nat.blt k 1 then [] else (bif Nat.blt k 2 then [] else [6])) else [])) else []) else (bif Nat.blt t 112 then [] else (bif Nat.blt t 113 then [] else (bif Nat.blt t 114 then (bif Nat.blt k 5 then (bif Nat.blt k 2 then (bif Nat.blt k 1 then [] else []) else (bif Nat.blt k 3 then [] else (bif Nat.blt k 4 then [] else [0, 1, 2, 6]))) else []) else (bif Nat.blt k 9 then (bif Nat.blt k 4 then [] else (bif Nat.blt k 6 then (bif Nat.blt k 5 then [0, 6, 7, 8] else []) else (bif Nat.blt k 7 then [] else (bif Nat.blt k 8 then [] else [])))) else []))))) else (bif Nat.blt t 119 then (bif Nat.blt t 117 then (bif Nat.blt t 116 then (bif Nat.blt k 6 then (bif Nat.blt k 3 then [] else (bif Nat.blt k 4 then [] else (bif Nat.blt k 5 then [] else []))) else []) else []) else (bif Nat.blt t 118 then (bif Nat.blt k 3 then (bif Nat.blt k 1 then [] else (bif Nat.blt k 2 then [] else [])) else []) else (bif Nat.blt k 21 then (bif Nat.blt k 10 then (bif Nat.blt k 5 then (bif Nat.blt k 2 then [] else (bif Nat.blt k 3 then [] else (bif Nat.blt k 4 then [6] else []))) else (bif Nat.blt k 7 then (bif Nat.blt k 6 then [0, 1, 2, 7, 8] else []) else [])) else (bif Nat.blt k 15 then (bif Nat.blt k 12 then [] else (bif Nat.blt k 13 then [] else (bif Nat.blt k 14 then [] else [0, 1, 2, 7, 8]))) else (bif Nat.blt k 18 then [] else (bif Nat.blt k 19 then [] else (bif Nat.blt k 20 then [] else [0, 1, 2, 7, 8]))))) else []))) else (bif Nat.blt t 121 then (bif Nat.blt t 120 then [] else (bif Nat.blt k 6 then (bif Nat.blt k 3 then [] else (bif Nat.blt k 4 then [9] else (bif Nat.blt k 5 then [] else [0, 1, 9, 10]))) else [])) else (bif Nat.blt t 122 then (bif Nat.blt k 16 then (bif Nat.blt k 8 then (bif Nat.blt k 4 then (bif Nat.blt k 2 then [] else (bif Nat.blt k 3 then [] else [0, 1, 10, 11])) else (bif Nat.blt k 6 then (bif Nat.blt k 5 then [] else [0, 1, 10, 11]) else [])) else (bif Nat.blt k 12 then [] else (bif Nat.blt k 14 then (bif Nat.blt k 13 then [] else [0, 1, 11]) else (bif Nat.blt k 15 then [] else [0, 1, 10, 11])))) else []) else [])))) else (bif Nat.blt t 133 then (bif Nat.blt t 128 then (bif Nat.blt t 126 then [] else (bif Nat.blt t 127 then [] else (bif Nat.blt k 6 then (bif Nat.blt k 3 then [] else (bif Nat.blt k 4 then [3] else (bif Nat.blt k 5 then [] else [3, 6, 7, 8]))) else []))) else []) else (bif Nat.blt t 137 then (bif Nat.blt t 135 then (bif Nat.blt t 134 then (bif Nat.blt k 2 then (bif Nat.blt k 1 then [] else []) else []) else []) else []) else (bif Nat.blt t 139 then [] else (bif Nat.blt t 140 then (bif Nat.blt k 2 then (bif Nat.blt k 1 then [] else [0]) else []) else (bif Nat.blt t 141 then [] else (bif Nat.blt k 2 then (bif Nat.blt k 1 then [] else []) else []))))))))) else []
def prw (t : FuncId) (k : Nat) : List Rw := bif Nat.blt t 73 then (bif Nat.blt t 36 then (bif Nat.blt t 18 then (bif Nat.blt t 9 then (bif Nat.blt t 4 then [] else (bif Nat.blt t 6 then [] else (bif Nat.blt t 7 then [] else (bif Nat.blt t 8 then (bif Nat.blt k 4 then (bif Nat.blt k 2 then [] else (bif Nat.blt k 3 then [] else [.slot 3 30 11])) else []) else (bif Nat.blt k 9 then (bif Nat.blt k 4 then [] else (bif Nat.blt k 6 then (bif Nat.blt k 5 then [.cell 3 5 9 1] else []) else (bif Nat.blt k 7 then [] else (bif Nat.blt k 8 then [] else [.cell 3 6 79 2])))) else []))))) else (bif Nat.blt t 13 then [] else (bif Nat.blt t 15 then (bif Nat.blt t 14 then [] else (bif Nat.blt k 6 then (bif Nat.blt k 3 then [] else (bif Nat.blt k 4 then [] else (bif Nat.blt k 5 then [] else [.slot 6 53 8]))) else [])) else []))) else (bif Nat.blt t 27 then (bif Nat.blt t 22 then (bif Nat.blt t 20 then (bif Nat.blt t 19 then (bif Nat.blt k 14 then (bif Nat.blt k 7 then [] else (bif Nat.blt k 10 then [] else (bif Nat.blt k 12 then [] else (bif Nat.blt k 13 then [] else [.slot 13 53 8])))) else []) else (bif Nat.blt k 17 then (bif Nat.blt k 8 then (bif Nat.blt k 4 then [] else (bif Nat.blt k 6 then (bif Nat.blt k 5 then [] else [.slot 8 3 1, .slot 9 3 1]) else [])) else (bif Nat.blt k 12 then [] else (bif Nat.blt k 14 then [] else (bif Nat.blt k 15 then [] else (bif Nat.blt k 16 then [] else [.slot 13 53 8]))))) else [])) else []) else (bif Nat.blt t 24 then [] else (bif Nat.blt t 25 then [] else (bif Nat.blt t 26 then [] else (bif Nat.blt k 7 then (bif Nat.blt k 3 then [] else (bif Nat.blt k 5 then [] else (bif Nat.blt k 6 then [] else [.cell 5 6 79 2]))) else []))))) else (bif Nat.blt t 31 then [] else (bif Nat.blt t 33 then [] else (bif Nat.blt t 34 then [] else (bif Nat.blt t 35 then [] else (bif Nat.blt k 4 then (bif Nat.blt k 2 then [] else (bif Nat.blt k 3 then [] else [.slot 3 9 1])) else []))))))) else (bif Nat.blt t 54 then (bif Nat.blt t 45 then (bif Nat.blt t 40 then [] else (bif Nat.blt t 42 then [] else (bif Nat.blt t 43 then [] else (bif Nat.blt t 44 then [] else (bif Nat.blt k 4 then (bif Nat.blt k 2 then [] else (bif Nat.blt k 3 then [] else [.slot 3 9 1])) else []))))) else (bif Nat.blt t 49 then [] else (bif Nat.blt t 51 then [] else (bif Nat.blt t 52 then (bif Nat.blt k 4 then (bif Nat.blt k 2 then [] else (bif Nat.blt k 3 then [] else [.slot 5 3 1])) else []) else [])))) else (bif Nat.blt t 63 then (bif Nat.blt t 58 then (bif Nat.blt t 56 then [] else (bif Nat.blt t 57 then (bif Nat.blt k 10 then (bif Nat.blt k 5 then [] else (bif Nat.blt k 7 then (bif Nat.blt k 6 then [.slot 5 3 1] else []) else (bif Nat.blt k 8 then [] else (bif Nat.blt k 9 then [] else [.slot 5 3 1])))) else []) else (bif Nat.blt k 4 then (bif Nat.blt k 2 then [] else (bif Nat.blt k 3 then [] else [.slot 5 45 1])) else []))) else []) else (bif Nat.blt t 68 then (bif Nat.blt t 65 then [] else (bif Nat.blt t 66 then (bif Nat.blt k 7 then (bif Nat.blt k 3 then [] else (bif Nat.blt k 5 then (bif Nat.blt k 4 then [.slot 3 3 1] else []) else (bif Nat.blt k 6 then [] else [.slot 3 3 1]))) else []) else [])) else (bif Nat.blt t 70 then [] else (bif Nat.blt t 71 then [] else (bif Nat.blt t 72 then [] else (bif Nat.blt k 4 then (bif Nat.blt k 2 then [] else (bif Nat.blt k 3 then [] else [.slot 3 30 11])) else [])))))))) else []
def pdm (t : FuncId) (k : Nat) : Nat := bif Nat.blt t 143 then (bif Nat.blt t 71 then (bif Nat.blt t 35 then (bif Nat.blt t 17 then (bif Nat.blt t 8 then (bif Nat.blt t 4 then (bif Nat.blt t 2 then 0 else (bif Nat.blt t 3 then 0 else (bif Nat.blt k 10 then (bif Nat.blt k 5 then (bif Nat.blt k 2 then 0 else (bif Nat.blt k 3 then 9 else 0)) else (bif Nat.blt k 7 then (bif Nat.blt k 6 then 0 else 9) else (bif Nat.blt k 8 then 0 else (bif Nat.blt k 9 then 0 else 37)))) else 0))) else (bif Nat.blt t 6 then (bif Nat.blt t 5 then (bif Nat.blt k 23 then (bif Nat.blt k 11 then (bif Nat.blt k 5 then (bif Nat.blt k 2 then 0 else (bif Nat.blt k 3 then 0 else (bif Nat.blt k 4 then 13 else 0))) else (bif Nat.blt k 8 then 0 else (bif Nat.blt k 9 then 0 else (bif Nat.blt k 10 then 0 else 9)))) else (bif Nat.blt k 17 then (bif Nat.blt k 14 then (bif Nat.blt k 12 then 9 else 0) else (bif Nat.blt k 15 then 13 else 0)) else (bif Nat.blt k 20 then (bif Nat.blt k 18 then 8 else 0) else (bif Nat.blt k 21 then 0 else (bif Nat.blt k 22 then 0 else 15))))) else 0) else (bif Nat.blt k 28 then (bif Nat.blt k 14 then (bif Nat.blt k 7 then (bif Nat.blt k 3 then 0 else (bif Nat.blt k 5 then (bif Nat.blt k 4 then 8 else 0) else (bif Nat.blt k 6 then 0 else 8))) else 0) else (bif Nat.blt k 21 then 0 else (bif Nat.blt k 24 then (bif Nat.blt k 22 then 5 else 0) else (bif Nat.blt k 26 then 0 else (bif Nat.blt k 27 then 0 else 9))))) else 0)) else (bif Nat.blt t 7 then (bif Nat.blt k 24 then (bif Nat.blt k 12 then 0 else (bif Nat.blt k 18 then 0 else (bif Nat.blt k 21 then (bif Nat.blt k 19 then 14 else 0) else (bif Nat.blt k 22 then 0 else (bif Nat.blt k 23 then 0 else 11))))) else 0) else 0))) else (bif Nat.blt t 12 then (bif Nat.blt t 10 then (bif Nat.blt t 9 then (bif Nat.blt k 11 then (bif Nat.blt k 5 then 0 else (bif Nat.blt k 8 then (bif Nat.blt k 6 then 0 else (bif Nat.blt k 7 then 16 else 0)) else (bif Nat.blt k 9 then 0 else (bif Nat.blt k 10 then 0 else 25)))) else 0) else (bif Nat.blt k 32 then (bif Nat.blt k 16 then (bif Nat.blt k 8 then 0 else (bif Nat.blt k 12 then 0 else (bif Nat.blt k 14 then 0 else (bif Nat.blt k 15 then 0 else 8)))) else (bif Nat.blt k 24 then (bif Nat.blt k 20 then (bif Nat.blt k 18 then (bif Nat.blt k 17 then 0 else 8) else (bif Nat.blt k 19 then 0 else 10)) else (bif Nat.blt k 22 then (bif Nat.blt k 21 then 0 else 8) else 0)) else (bif Nat.blt k 28 then (bif Nat.blt k 26 then (bif Nat.blt k 25 then 12 else 0) else 0) else (bif Nat.blt k 30 then 0 else (bif Nat.blt k 31 then 0 else 7))))) else 0)) else (bif Nat.blt t 11 then (bif Nat.blt k 12 then (bif Nat.blt k 6 then 0 else (bif Nat.blt k 9 then 0 else (bif Nat.blt k 10 then 0 else (bif Nat.blt k 11 then 0 else 8)))) else 0) else (bif Nat.blt k 23 then (bif Nat.blt k 11 then 0 else (bif Nat.blt k 17 then 0 else (bif Nat.blt k 20 then 0 else (bif Nat.blt k 21 then 0 else (bif Nat.blt k 22 then 0 else 14))))) else 0))) else (bif Nat.blt t 14 then 0 else (bif Nat.blt t 15 then (bif Nat.blt k 8 then (bif Nat.blt k 4 then 0 else (bif Nat.blt k 6 then 0 else (bif Nat.blt k 7 then 0 else 27))) else 0) else 0)))) else (bif Nat.blt t 26 then (bif Nat.blt t 21 then (bif Nat.blt t 19 then (bif Nat.blt t 18 then 0 else (bif Nat.blt k 16 then (bif Nat.blt k 8 then (bif Nat.blt k 4 then 0 else (bif Nat.blt k 6 then (bif Nat.blt k 5 then 11 else 0) else 0)) else (bif Nat.blt k 12 then 0 else (bif Nat.blt k 14 then 0 else (bif Nat.blt k 15 then 0 else 24)))) else 0)) else (bif Nat.blt t 20 then (bif Nat.blt k 21 then (bif Nat.blt k 10 then 0 else (bif Nat.blt k 15 then 0 else (bif Nat.blt k 18 then 0 else (bif Nat.blt k 19 then 20 else (bif Nat.blt k 20 then 0 else 9))))) else 0) else (bif Nat.blt k 7 then (bif Nat.blt k 3 then 0 else (bif Nat.blt k 5 then 0 else (bif Nat.blt k 6 then 0 else 8))) else 0))) else (bif Nat.blt t 23 then (bif Nat.blt t 22 then (bif Nat.blt k 11 then (bif Nat.blt k 5 then 0 else (bif Nat.blt k 8 then (bif Nat.blt k 6 then 0 else (bif Nat.blt k 7 then 18 else 0)) else (bif Nat.blt k 9 then 0 else (bif Nat.blt k 10 then 0 else 5)))) else 0) else (bif Nat.blt k 15 then (bif Nat.blt k 7 then (bif Nat.blt k 3 then 0 else (bif Nat.blt k 5 then 0 else (bif Nat.blt k 6 then 0 else 13))) else (bif Nat.blt k 11 then 0 else (bif Nat.blt k 13 then (bif Nat.blt k 12 then 10 else 13) else (bif Nat.blt k 14 then 0 else 3)))) else 0)) else (bif Nat.blt t 24 then (bif Nat.blt k 10 then (bif Nat.blt k 5 then 0 else (bif Nat.blt k 7 then 0 else (bif Nat.blt k 8 then 0 else (bif Nat.blt k 9 then 0 else 19)))) else 0) else (bif Nat.blt t 25 then 0 else (bif Nat.blt k 7 then (bif Nat.blt k 3 then 0 else (bif Nat.blt k 5 then 0 else (bif Nat.blt k 6 then 0 else 8))) else 0))))) else (bif Nat.blt t 30 then (bif Nat.blt t 28 then (bif Nat.blt t 27 then (bif Nat.blt k 13 then (bif Nat.blt k 6 then (bif Nat.blt k 3 then (bif Nat.blt k 1 then 0 else (bif Nat.blt k 2 then 16 else 0)) else (bif Nat.blt k 4 then 4 else 0)) else (bif Nat.blt k 9 then (bif Nat.blt k 7 then 0 else (bif Nat.blt k 8 then 0 else 12)) else (bif Nat.blt k 11 then (bif Nat.blt k 10 then 13 else 0) else (bif Nat.blt k 12 then 0 else 7)))) else 0) else (bif Nat.blt k 12 then (bif Nat.blt k 6 then 0 else (bif Nat.blt k 9 then 0 else (bif Nat.blt k 10 then 0 else (bif Nat.blt k 11 then 0 else 6)))) else 0)) else (bif Nat.blt t 29 then (bif Nat.blt k 12 then (bif Nat.blt k 6 then 0 else (bif Nat.blt k 9 then 0 else (bif Nat.blt k 10 then 12 else (bif Nat.blt k 11 then 0 else 5)))) else 0) else (bif Nat.blt k 5 then (bif Nat.blt k 2 then 0 else (bif Nat.blt k 3 then 0 else (bif Nat.blt k 4 then 0 else 5))) else 0))) else 0))) else (bif Nat.blt t 53 then (bif Nat.blt t 44 then (bif Nat.blt t 39 then 0 else (bif Nat.blt t 41 then 0 else (bif Nat.blt t 42 then (bif Nat.blt k 2 then (bif Nat.blt k 1 then 0 else 28) else 0) else (bif Nat.blt t 43 then 0 else (bif Nat.blt k 8 then (bif Nat.blt k 4 then 0 else (bif Nat.blt k 6 then 0 else (bif Nat.blt k 7 then 0 else 12))) else 0))))) else (bif Nat.blt t 48 then 0 else (bif Nat.blt t 50 then (bif Nat.blt t 49 then 0 else (bif Nat.blt k 5 then (bif Nat.blt k 2 then (bif Nat.blt k 1 then 0 else 9) else (bif Nat.blt k 3 then 0 else (bif Nat.blt k 4 then 0 else 12))) else 0)) else 0))) else (bif Nat.blt t 62 then (bif Nat.blt t 57 then (bif Nat.blt t 55 then (bif Nat.blt t 54 then (bif Nat.blt k 11 then (bif Nat.blt k 5 then 0 else (bif Nat.blt k 8 then 0 else (bif Nat.blt k 9 then 0 else (bif Nat.blt k 10 then 0 else 23)))) else 0) else 0) else 0) else 0) else (bif Nat.blt t 66 then (bif Nat.blt t 64 then 0 else (bif Nat.blt t 65 then 0 else (bif Nat.blt k 15 then (bif Nat.blt k 7 then 0 else (bif Nat.blt k 11 then 0 else (bif Nat.blt k 13 then (bif Nat.blt k 12 then 0 else 12) else (bif Nat.blt k 14 then 0 else 16)))) else 0))) else (bif Nat.blt t 68 then (bif Nat.blt t 67 then (bif Nat.blt k 7 then (bif Nat.blt k 3 then 0 else (bif Nat.blt k 5 then 0 else (bif Nat.blt k 6 then 0 else 8))) else 0) else (bif Nat.blt k 7 then (bif Nat.blt k 3 then 0 else (bif Nat.blt k 5 then 0 else (bif Nat.blt k 6 then 0 else 8))) else 0)) else (bif Nat.blt t 69 then (bif Nat.blt k 8 then (bif Nat.blt k 4 then 0 else (bif Nat.blt k 6 then 0 else (bif Nat.blt k 7 then 0 else 8))) else 0) else (bif Nat.blt t 70 then 0 else (bif Nat.blt k 7 then (bif Nat.blt k 3 then 0 else (bif Nat.blt k 5 then 0 else (bif Nat.blt k 6 then 0 else 19))) else 0)))))))) else (bif Nat.blt t 107 then (bif Nat.blt t 89 then (bif Nat.blt t 80 then (bif Nat.blt t 75 then (bif Nat.blt t 73 then 0 else (bif Nat.blt t 74 then (bif Nat.blt k 8 then (bif Nat.blt k 4 then 0 else (bif Nat.blt k 6 then 0 else (bif Nat.blt k 7 then 0 else 10))) else 0) else 0)) else (bif Nat.blt t 77 then 0 else (bif Nat.blt t 78 then 0 else (bif Nat.blt t 79 then (bif Nat.blt k 16 then (bif Nat.blt k 8 then 0 else (bif Nat.blt k 12 then (bif Nat.blt k 10 then 0 else (bif Nat.blt k 11 then 0 else 8)) else (bif Nat.blt k 14 then 0 else (bif Nat.blt k 15 then 0 else 8)))) else 0) else 0)))) else (bif Nat.blt t 84 then 0 else (bif Nat.blt t 86 then 0 else (bif Nat.blt t 87 then (bif Nat.blt k 8 then (bif Nat.blt k 4 then 0 else (bif Nat.blt k 6 then 0 else (bif Nat.blt k 7 then 0 else 15))) else 0) else 0)))) else (bif Nat.blt t 98 then (bif Nat.blt t 93 then (bif Nat.blt t 91 then 0 else (bif Nat.blt t 92 then (bif Nat.blt k 18 then (bif Nat.blt k 9 then 0 else (bif Nat.blt k 13 then 0 else (bif Nat.blt k 15 then 0 else (bif Nat.blt k 16 then 0 else (bif Nat.blt k 17 then 0 else 12))))) else 0) else 0)) else (bif Nat.blt t 95 then 0 else (bif Nat.blt t 96 then 0 else (bif Nat.blt t 97 then (bif Nat.blt k 13 then (bif Nat.blt k 6 then 0 else (bif Nat.blt k 9 then 0 else (bif Nat.blt k 11 then 0 else (bif Nat.blt k 12 then 0 else 10)))) else 0) else 0)))) else (bif Nat.blt t 102 then 0 else (bif Nat.blt t 104 then (bif Nat.blt t 103 then 0 else (bif Nat.blt k 7 then (bif Nat.blt k 3 then 0 else (bif Nat.blt k 5 then 0 else (bif Nat.blt k 6 then 0 else 8))) else 0)) else (bif Nat.blt t 105 then (bif Nat.blt k 8 then (bif Nat.blt k 4 then 0 else (bif Nat.blt k 6 then 0 else (bif Nat.blt k 7 then 0 else 7))) else 0) else 0))))) else (bif Nat.blt t 125 then (bif Nat.blt t 116 then (bif Nat.blt t 111 then (bif Nat.blt t 109 then (bif Nat.blt t 108 then 0 else (bif Nat.blt k 2 then (bif Nat.blt k 1 then 0 else 9) else 0)) else (bif Nat.blt t 110 then (bif Nat.blt k 5 then (bif Nat.blt k 2 then 0 else (bif Nat.blt k 3 then 0 else (bif Nat.blt k 4 then 0 else 9))) else 0) else 0)) else (bif Nat.blt t 113 then 0 else (bif Nat.blt t 114 then (bif Nat.blt k 7 then (bif Nat.blt k 3 then 0 else (bif Nat.blt k 5 then (bif Nat.blt k 4 then 0 else 13) else (bif Nat.blt k 6 then 0 else 16))) else 0) else (bif Nat.blt t 115 then (bif Nat.blt k 11 then (bif Nat.blt k 5 then 0 else (bif Nat.blt k 8 then 0 else (bif Nat.blt k 9 then 0 else (bif Nat.blt k 10 then 0 else 18)))) else 0) else (bif Nat.blt k 11 then (bif Nat.blt k 5 then 0 else (bif Nat.blt k 8 then 0 else (bif Nat.blt k 9 then 0 else (bif Nat.blt k 10 then 0 else 18)))) else 0))))) else (bif Nat.blt t 120 then (bif Nat.blt t 118 then (bif Nat.blt t 117 then 0 else (bif Nat.blt k 4 then (bif Nat.blt k 2 then 0 else (bif Nat.blt k 3 then 0 else 14)) else 0)) else (bif Nat.blt t 119 then (bif Nat.blt k 24 then (bif Nat.blt k 12 then (bif Nat.blt k 6 then (bif Nat.blt k 3 then 0 else (bif Nat.blt k 4 then 0 else (bif Nat.blt k 5 then 0 else 13))) else (bif Nat.blt k 9 then 0 else (bif Nat.blt k 10 then 0 else (bif Nat.blt k 11 then 0 else 16)))) else (bif Nat.blt k 18 then (bif Nat.blt k 15 then 0 else (bif Nat.blt k 16 then 0 else (bif Nat.blt k 17 then 9 else 16))) else (bif Nat.blt k 21 then 0 else (bif Nat.blt k 22 then 0 else (bif Nat.blt k 23 then 9 else 16))))) else 0) else 0)) else (bif Nat.blt t 122 then (bif Nat.blt t 121 then (bif Nat.blt k 9 then (bif Nat.blt k 4 then (bif Nat.blt k 2 then (bif Nat.blt k 1 then 0 else 14) else (bif Nat.blt k 3 then 0 else 12)) else (bif Nat.blt k 6 then (bif Nat.blt k 5 then 0 else 12) else (bif Nat.blt k 7 then 0 else (bif Nat.blt k 8 then 0 else 14)))) else 0) else (bif Nat.blt k 22 then (bif Nat.blt k 11 then (bif Nat.blt k 5 then (bif Nat.blt k 2 then (bif Nat.blt k 1 then 0 else 14) else (bif Nat.blt k 3 then 0 else (bif Nat.blt k 4 then 12 else 0))) else (bif Nat.blt k 8 then (bif Nat.blt k 6 then 12 else 0) else (bif Nat.blt k 9 then 14 else (bif Nat.blt k 10 then 0 else 14)))) else (bif Nat.blt k 16 then (bif Nat.blt k 13 then 0 else (bif Nat.blt k 14 then 12 else (bif Nat.blt k 15 then 0 else 12))) else (bif Nat.blt k 19 then (bif Nat.blt k 17 then 0 else (bif Nat.blt k 18 then 0 else 14)) else (bif Nat.blt k 20 then 0 else (bif Nat.blt k 21 then 0 else 14))))) else 0)) else 0))) else (bif Nat.blt t 134 then (bif Nat.blt t 129 then (bif Nat.blt t 127 then 0 else (bif Nat.blt t 128 then (bif Nat.blt k 7 then (bif Nat.blt k 3 then 0 else (bif Nat.blt k 5 then 0 else (bif Nat.blt k 6 then 0 else 5))) else 0) else 0)) else (bif Nat.blt t 131 then 0 else (bif Nat.blt t 132 then 0 else (bif Nat.blt t 133 then 0 else (bif Nat.blt k 7 then (bif Nat.blt k 3 then 0 else (bif Nat.blt k 5 then (bif Nat.blt k 4 then 18 else 0) else (bif Nat.blt k 6 then 12 else 22))) else 0))))) else (bif Nat.blt t 138 then (bif Nat.blt t 136 then (bif Nat.blt t 135 then 0 else (bif Nat.blt k 4 then (bif Nat.blt k 2 then (bif Nat.blt k 1 then 0 else 7) else (bif Nat.blt k 3 then 7 else 7)) else 0)) else 0) else (bif Nat.blt t 140 then (bif Nat.blt t 139 then 0 else (bif Nat.blt k 3 then (bif Nat.blt k 1 then 0 else (bif Nat.blt k 2 then 0 else 5)) else 0)) else (bif Nat.blt t 141 then 0 else (bif Nat.blt t 142 then (bif Nat.blt k 4 then (bif Nat.blt k 2 then 0 else (bif Nat.blt k 3 then 0 else 14)) else 0) else (bif Nat.blt k 2 then (bif Nat.blt k 1 then 0 else 8) else 0))))))))) else 0
def pan (t : FuncId) (k : Nat) : List (List Nat) := bif Nat.blt t 143 then (bif Nat.blt t 71 then (bif Nat.blt t 35 then (bif Nat.blt t 17 then (bif Nat.blt t 8 then (bif Nat.blt t 4 then (bif Nat.blt t 2 then [] else (bif Nat.blt t 3 then [] else (bif Nat.blt k 10 then (bif Nat.blt k 5 then (bif Nat.blt k 2 then [] else (bif Nat.blt k 3 then [[], [], [], [], [1, 3], [1, 3, 4], [0, 1, 2, 3, 4, 5], [1, 3, 4, 5, 6], []] else [])) else (bif Nat.blt k 7 then (bif Nat.blt k 6 then [] else [[], [], [], [], [], [2, 4], [0, 1, 2, 4, 5], [], []]) else (bif Nat.blt k 8 then [] else (bif Nat.blt k 9 then [] else [[], [0], [], [0, 1, 2], [], [], [0, 1, 2, 3], [], [0, 1, 2, 3], [0, 1, 2, 3, 6, 8], [0, 1, 2, 3], [], [0, 1, 2, 3], [0, 1, 2, 3, 6, 8, 9, 10, 12], [], [], [], [0, 1, 2, 3, 6, 8, 9, 10, 12, 13], [], [0, 1, 2, 3, 6, 8, 9, 10, 12, 13], [], [0, 1, 2, 3, 6, 8, 9, 10, 12, 13, 17, 19], [0, 1, 2, 3, 6, 8, 9, 10, 12, 13], [], [0, 1, 2, 3, 6, 8, 9, 10, 12, 13], [], [0, 1, 2, 3, 6, 8, 9, 10, 12, 13, 17, 19, 21, 22, 24], [], [], [], [0, 1, 2, 3, 6, 8, 9, 10, 12, 13, 17, 19, 21, 22, 24, 26], [], [0, 1, 2, 3, 6, 8, 9, 10, 12, 13, 17, 19, 21, 22, 24, 26], [0, 1, 2, 3, 6, 8, 9, 10, 12, 13, 17, 19, 21, 22, 24, 26, 30, 32], [0, 1, 2, 3, 6, 8, 9, 10, 12, 13, 17, 19, 21, 22, 24, 26], [], [0, 1, 2, 3, 6, 8, 9, 10, 12, 13, 17, 19, 21, 22, 24, 26]])))) else []))) else (bif Nat.blt t 6 then (bif Nat.blt t 5 then (bif Nat.blt k 23 then (bif Nat.blt k 11 then (bif Nat.blt k 5 then (bif Nat.blt k 2 then [] else (bif Nat.blt k 3 then [] else (bif Nat.blt k 4 then [[], [], [], [], [], [1, 4], [], [], [1, 4, 5, 7], [1, 4, 5, 7, 8], [0, 1, 2, 3, 4, 5, 6, 7, 8, 9], [1, 4, 5, 7, 8, 9, 10], []] else []))) else (bif Nat.blt k 8 then [] else (bif Nat.blt k 9 then [] else (bif Nat.blt k 10 then [] else [[], [], [], [], [], [], [], [], [5, 7]])))) else (bif Nat.blt k 17 then (bif Nat.blt k 14 then (bif Nat.blt k 12 then [[], [], [1], [], [], [], [1, 2, 5], [], []] else []) else (bif Nat.blt k 15 then [[], [], [], [], [], [], [], [5, 6], [], [5, 6, 7, 8], [4, 5, 7, 9], [4, 5, 7, 9, 10], []] else [])) else (bif Nat.blt k 20 then (bif Nat.blt k 18 then [[], [], [], [], [1, 3], [0, 1, 3, 4], [], []] else []) else (bif Nat.blt k 21 then [] else (bif Nat.blt k 22 then [] else [[], [], [], [], [], [], [], [], [], [], [6], [], [6, 10], [6], []]))))) else []) else (bif Nat.blt k 28 then (bif Nat.blt k 14 then (bif Nat.blt k 7 then (bif Nat.blt k 3 then [] else (bif Nat.blt k 5 then (bif Nat.blt k 4 then [[], [], [], [], [3], [1, 3, 4], [], []] else []) else (bif Nat.blt k 6 then [] else [[], [], [], [], [3], [1, 3, 4], [], []]))) else []) else (bif Nat.blt k 21 then [] else (bif Nat.blt k 24 then (bif Nat.blt k 22 then [[], [], [0, 1], [], [3]] else []) else (bif Nat.blt k 26 then [] else (bif Nat.blt k 27 then [] else [[], [], [], [], [], [2, 4], [0, 1, 2, 4, 5], [], []]))))) else [])) else (bif Nat.blt t 7 then (bif Nat.blt k 24 then (bif Nat.blt k 12 then [] else (bif Nat.blt k 18 then [] else (bif Nat.blt k 21 then (bif Nat.blt k 19 then [[], [], [], [], [], [], [], [], [4, 7], [0, 1, 4, 7, 8], [0, 1, 4, 7, 8, 9], [0, 1, 4, 7, 8, 9], [0, 1, 4, 7, 8, 9], [0, 1, 4, 7, 8, 9]] else []) else (bif Nat.blt k 22 then [] else (bif Nat.blt k 23 then [] else [[], [], [], [], [2, 3], [], [], [], [], [2, 3, 4], [2, 3, 4]]))))) else []) else []))) else (bif Nat.blt t 12 then (bif Nat.blt t 10 then (bif Nat.blt t 9 then (bif Nat.blt k 11 then (bif Nat.blt k 5 then [] else (bif Nat.blt k 8 then (bif Nat.blt k 6 then [] else (bif Nat.blt k 7 then [[], [], [], [], [], [], [3], [], [], [], [], [8], [], [], [], [3, 6, 8, 11]] else [])) else (bif Nat.blt k 9 then [] else (bif Nat.blt k 10 then [] else [[], [], [], [], [], [], [], [3], [], [], [], [], [], [9], [], [], [], [], [], [], [], [], [18], [], [3, 7, 9, 13, 18, 22]])))) else []) else (bif Nat.blt k 32 then (bif Nat.blt k 16 then (bif Nat.blt k 8 then [] else (bif Nat.blt k 12 then [] else (bif Nat.blt k 14 then [] else (bif Nat.blt k 15 then [] else [[], [], [], [], [], [], [2], [2, 6]])))) else (bif Nat.blt k 24 then (bif Nat.blt k 20 then (bif Nat.blt k 18 then (bif Nat.blt k 17 then [] else [[], [], [], [], [], [], [], []]) else (bif Nat.blt k 19 then [] else [[], [], [], [], [], [], [2], [], [], [2, 6]])) else (bif Nat.blt k 22 then (bif Nat.blt k 21 then [] else [[], [], [], [], [], [], [], []]) else [])) else (bif Nat.blt k 28 then (bif Nat.blt k 26 then (bif Nat.blt k 25 then [[], [], [], [], [], [], [], [], [], [], [], [7]] else []) else []) else (bif Nat.blt k 30 then [] else (bif Nat.blt k 31 then [] else [[], [], [], [], [], [], [2]]))))) else [])) else (bif Nat.blt t 11 then (bif Nat.blt k 12 then (bif Nat.blt k 6 then [] else (bif Nat.blt k 9 then [] else (bif Nat.blt k 10 then [] else (bif Nat.blt k 11 then [] else [[], [], [], [], [3], [1, 3, 4], [], []])))) else []) else (bif Nat.blt k 23 then (bif Nat.blt k 11 then [] else (bif Nat.blt k 17 then [] else (bif Nat.blt k 20 then [] else (bif Nat.blt k 21 then [] else (bif Nat.blt k 22 then [] else [[], [], [], [], [], [], [], [1, 3], [], [1, 3], [], [], [], [1, 3, 9]]))))) else []))) else (bif Nat.blt t 14 then [] else (bif Nat.blt t 15 then (bif Nat.blt k 8 then (bif Nat.blt k 4 then [] else (bif Nat.blt k 6 then [] else (bif Nat.blt k 7 then [] else [[], [], [], [], [], [], [3], [], [], [], [], [], [8, 10], [], [10], [], [], [10, 14], [], [], [], [], [], [], [19], [], []]))) else []) else [])))) else (bif Nat.blt t 26 then (bif Nat.blt t 21 then (bif Nat.blt t 19 then (bif Nat.blt t 18 then [] else (bif Nat.blt k 16 then (bif Nat.blt k 8 then (bif Nat.blt k 4 then [] else (bif Nat.blt k 6 then (bif Nat.blt k 5 then [[], [], [], [], [], [], [1, 2, 5], [], [], [], []] else []) else [])) else (bif Nat.blt k 12 then [] else (bif Nat.blt k 14 then [] else (bif Nat.blt k 15 then [] else [[], [], [], [], [], [], [], [], [], [], [], [], [10], [], [], [], [], [10, 12, 16], [], [], [19], [9, 10, 11, 12, 13, 14, 15, 16, 17, 18, 19, 20], [2, 4, 7, 10, 12, 16, 17, 19, 20, 21], [2, 4, 7, 10, 12, 16, 17, 19, 20, 21]])))) else [])) else (bif Nat.blt t 20 then (bif Nat.blt k 21 then (bif Nat.blt k 10 then [] else (bif Nat.blt k 15 then [] else (bif Nat.blt k 18 then [] else (bif Nat.blt k 19 then [[], [], [], [], [], [], [], [3], [], [], [], [], [], [], [10], [], [], [], [], []] else (bif Nat.blt k 20 then [] else [[], [], [], [], [], [0, 1, 2, 3, 4], [], [], [7]]))))) else []) else (bif Nat.blt k 7 then (bif Nat.blt k 3 then [] else (bif Nat.blt k 5 then [] else (bif Nat.blt k 6 then [] else [[], [], [], [], [], [], [], []]))) else []))) else (bif Nat.blt t 23 then (bif Nat.blt t 22 then (bif Nat.blt k 11 then (bif Nat.blt k 5 then [] else (bif Nat.blt k 8 then (bif Nat.blt k 6 then [] else (bif Nat.blt k 7 then [[], [], [], [], [], [], [], [], [5], [], [], [], [], [1, 3, 5, 8], [], [], [], [1, 3, 5, 8]] else [])) else (bif Nat.blt k 9 then [] else (bif Nat.blt k 10 then [] else [[], [], [], [], []])))) else []) else (bif Nat.blt k 15 then (bif Nat.blt k 7 then (bif Nat.blt k 3 then [] else (bif Nat.blt k 5 then [] else (bif Nat.blt k 6 then [] else [[], [], [], [], [], [], [], [], [], [], [], [8], []]))) else (bif Nat.blt k 11 then [] else (bif Nat.blt k 13 then (bif Nat.blt k 12 then [[], [], [], [], [], [], [], [], [], []] else [[], [], [], [], [], [], [], [], [], [], [], [], []]) else (bif Nat.blt k 14 then [] else [[], [], []])))) else [])) else (bif Nat.blt t 24 then (bif Nat.blt k 10 then (bif Nat.blt k 5 then [] else (bif Nat.blt k 7 then [] else (bif Nat.blt k 8 then [] else (bif Nat.blt k 9 then [] else [[], [], [], [], [], [], [], [], [], [], [], [4], [], [], [], [], [], [4], []])))) else []) else (bif Nat.blt t 25 then [] else (bif Nat.blt k 7 then (bif Nat.blt k 3 then [] else (bif Nat.blt k 5 then [] else (bif Nat.blt k 6 then [] else [[], [], [], [], [], [], [], []]))) else []))))) else (bif Nat.blt t 30 then (bif Nat.blt t 28 then (bif Nat.blt t 27 then (bif Nat.blt k 13 then (bif Nat.blt k 6 then (bif Nat.blt k 3 then (bif Nat.blt k 1 then [] else (bif Nat.blt k 2 then [[], [], [], [], [], [2], [], [], [], [2, 5], [], [2, 5, 7, 9], [], [2, 5, 9], [], []] else [])) else (bif Nat.blt k 4 then [[], [], [], []] else [])) else (bif Nat.blt k 9 then (bif Nat.blt k 7 then [] else (bif Nat.blt k 8 then [] else [[], [], [], [], [], [], [], [1, 3], [], [], [], [1, 3]])) else (bif Nat.blt k 11 then (bif Nat.blt k 10 then [[], [], [], [], [], [], [], [], [], [], [6, 8], [], [5, 6, 8, 10]] else []) else (bif Nat.blt k 12 then [] else [[], [], [], [], [], [], []])))) else []) else (bif Nat.blt k 12 then (bif Nat.blt k 6 then [] else (bif Nat.blt k 9 then [] else (bif Nat.blt k 10 then [] else (bif Nat.blt k 11 then [] else [[], [], [], [], [3], [1, 3, 4]])))) else [])) else (bif Nat.blt t 29 then (bif Nat.blt k 12 then (bif Nat.blt k 6 then [] else (bif Nat.blt k 9 then [] else (bif Nat.blt k 10 then [[], [], [], [], [], [], [], [], [], [], [], []] else (bif Nat.blt k 11 then [] else [[], [], [], [], []])))) else []) else (bif Nat.blt k 5 then (bif Nat.blt k 2 then [] else (bif Nat.blt k 3 then [] else (bif Nat.blt k 4 then [] else [[], [], [], [1, 2], [0]]))) else []))) else []))) else (bif Nat.blt t 53 then (bif Nat.blt t 44 then (bif Nat.blt t 39 then [] else (bif Nat.blt t 41 then [] else (bif Nat.blt t 42 then (bif Nat.blt k 2 then (bif Nat.blt k 1 then [] else [[], [], [1], [], [], [], [], [], [1, 2, 4], [1, 2, 4, 8], [], [1, 2, 4], [], [], [], [], [1, 2, 4, 8, 9, 11], [1, 2, 4, 8, 9, 11, 16], [], [1, 2, 4, 8, 9, 11], [], [], [], [], [1, 2, 4, 8, 9, 11, 16, 17, 19], [1, 2, 4, 8, 9, 11, 16, 17, 19, 24], [], [1, 2, 4, 8, 9, 11, 16, 17, 19]]) else []) else (bif Nat.blt t 43 then [] else (bif Nat.blt k 8 then (bif Nat.blt k 4 then [] else (bif Nat.blt k 6 then [] else (bif Nat.blt k 7 then [] else [[], [], [], [], [], [], [], [], [], [], [], []]))) else []))))) else (bif Nat.blt t 48 then [] else (bif Nat.blt t 50 then (bif Nat.blt t 49 then [] else (bif Nat.blt k 5 then (bif Nat.blt k 2 then (bif Nat.blt k 1 then [] else [[], [], [], [], [], [], [], [], []]) else (bif Nat.blt k 3 then [] else (bif Nat.blt k 4 then [] else [[], [], [], [], [], [], [], [], [], [], [3, 7], []]))) else [])) else []))) else (bif Nat.blt t 62 then (bif Nat.blt t 57 then (bif Nat.blt t 55 then (bif Nat.blt t 54 then (bif Nat.blt k 11 then (bif Nat.blt k 5 then [] else (bif Nat.blt k 8 then [] else (bif Nat.blt k 9 then [] else (bif Nat.blt k 10 then [] else [[], [], [], [], [], [], [], [], [], [], [], [], [], [], [], [], [], [], [1, 3, 6, 8, 12, 14, 17], [], [], [], []])))) else []) else []) else []) else []) else (bif Nat.blt t 66 then (bif Nat.blt t 64 then [] else (bif Nat.blt t 65 then [] else (bif Nat.blt k 15 then (bif Nat.blt k 7 then [] else (bif Nat.blt k 11 then [] else (bif Nat.blt k 13 then (bif Nat.blt k 12 then [] else [[], [], [], [], [], [], [], [], [], [], [], []]) else (bif Nat.blt k 14 then [] else [[], [], [], [], [], [], [], [], [], [], [], [], [], [], [], [8, 13]])))) else []))) else (bif Nat.blt t 68 then (bif Nat.blt t 67 then (bif Nat.blt k 7 then (bif Nat.blt k 3 then [] else (bif Nat.blt k 5 then [] else (bif Nat.blt k 6 then [] else [[], [], [], [], [], [], [], []]))) else []) else (bif Nat.blt k 7 then (bif Nat.blt k 3 then [] else (bif Nat.blt k 5 then [] else (bif Nat.blt k 6 then [] else [[], [], [], [], [], [], [], []]))) else [])) else (bif Nat.blt t 69 then (bif Nat.blt k 8 then (bif Nat.blt k 4 then [] else (bif Nat.blt k 6 then [] else (bif Nat.blt k 7 then [] else [[], [], [], [], [], [], [], []]))) else []) else (bif Nat.blt t 70 then [] else (bif Nat.blt k 7 then (bif Nat.blt k 3 then [] else (bif Nat.blt k 5 then [] else (bif Nat.blt k 6 then [] else [[], [], [], [], [], [], [], [], [], [8], [], [], [], [], [], [8, 9, 14], [], [], [8, 9, 14, 15]]))) else [])))))))) else (bif Nat.blt t 107 then (bif Nat.blt t 89 then (bif Nat.blt t 80 then (bif Nat.blt t 75 then (bif Nat.blt t 73 then [] else (bif Nat.blt t 74 then (bif Nat.blt k 8 then (bif Nat.blt k 4 then [] else (bif Nat.blt k 6 then [] else (bif Nat.blt k 7 then [] else [[], [], [], [], [1], [], [], [], [], [6]]))) else []) else [])) else (bif Nat.blt t 77 then [] else (bif Nat.blt t 78 then [] else (bif Nat.blt t 79 then (bif Nat.blt k 16 then (bif Nat.blt k 8 then [] else (bif Nat.blt k 12 then (bif Nat.blt k 10 then [] else (bif Nat.blt k 11 then [] else [[], [], [], [], [], [], [], []])) else (bif Nat.blt k 14 then [] else (bif Nat.blt k 15 then [] else [[], [], [], [], [], [], [], []])))) else []) else [])))) else (bif Nat.blt t 84 then [] else (bif Nat.blt t 86 then [] else (bif Nat.blt t 87 then (bif Nat.blt k 8 then (bif Nat.blt k 4 then [] else (bif Nat.blt k 6 then [] else (bif Nat.blt k 7 then [] else [[], [], [], [], [], [], [], [1, 3], [], [1, 3], [], [1, 3], [1, 3, 7, 9, 11], [], [1, 3]]))) else []) else [])))) else (bif Nat.blt t 98 then (bif Nat.blt t 93 then (bif Nat.blt t 91 then [] else (bif Nat.blt t 92 then (bif Nat.blt k 18 then (bif Nat.blt k 9 then [] else (bif Nat.blt k 13 then [] else (bif Nat.blt k 15 then [] else (bif Nat.blt k 16 then [] else (bif Nat.blt k 17 then [] else [[], [], [], [], [], [], [], [], [], [], [], []]))))) else []) else [])) else (bif Nat.blt t 95 then [] else (bif Nat.blt t 96 then [] else (bif Nat.blt t 97 then (bif Nat.blt k 13 then (bif Nat.blt k 6 then [] else (bif Nat.blt k 9 then [] else (bif Nat.blt k 11 then [] else (bif Nat.blt k 12 then [] else [[], [], [], [], [], [], [], [], [], []])))) else []) else [])))) else (bif Nat.blt t 102 then [] else (bif Nat.blt t 104 then (bif Nat.blt t 103 then [] else (bif Nat.blt k 7 then (bif Nat.blt k 3 then [] else (bif Nat.blt k 5 then [] else (bif Nat.blt k 6 then [] else [[], [], [], [], [], [], [], []]))) else [])) else (bif Nat.blt t 105 then (bif Nat.blt k 8 then (bif Nat.blt k 4 then [] else (bif Nat.blt k 6 then [] else (bif Nat.blt k 7 then [] else [[], [], [], [0, 1, 2], [], [], []]))) else []) else []))))) else (bif Nat.blt t 125 then (bif Nat.blt t 116 then (bif Nat.blt t 111 then (bif Nat.blt t 109 then (bif Nat.blt t 108 then [] else (bif Nat.blt k 2 then (bif Nat.blt k 1 then [] else [[], [], [], [], [], [], [], [], [0]]) else [])) else (bif Nat.blt t 110 then (bif Nat.blt k 5 then (bif Nat.blt k 2 then [] else (bif Nat.blt k 3 then [] else (bif Nat.blt k 4 then [] else [[], [], [], [], [], [1], [], [], []]))) else []) else [])) else (bif Nat.blt t 113 then [] else (bif Nat.blt t 114 then (bif Nat.blt k 7 then (bif Nat.blt k 3 then [] else (bif Nat.blt k 5 then (bif Nat.blt k 4 then [] else [[], [], [], [], [], [], [], [], [], [], [], [], []]) else (bif Nat.blt k 6 then [] else [[], [], [], [], [], [], [], [], [], [], [], [], [], [], [], [9, 13]]))) else []) else (bif Nat.blt t 115 then (bif Nat.blt k 11 then (bif Nat.blt k 5 then [] else (bif Nat.blt k 8 then [] else (bif Nat.blt k 9 then [] else (bif Nat.blt k 10 then [] else [[], [], [], [], [], [], [], [], [], [], [], [], [], [], [], [], [], [11, 15]])))) else []) else (bif Nat.blt k 11 then (bif Nat.blt k 5 then [] else (bif Nat.blt k 8 then [] else (bif Nat.blt k 9 then [] else (bif Nat.blt k 10 then [] else [[], [], [], [], [], [], [], [], [], [], [], [], [], [], [], [], [], [11, 15]])))) else []))))) else (bif Nat.blt t 120 then (bif Nat.blt t 118 then (bif Nat.blt t 117 then [] else (bif Nat.blt k 4 then (bif Nat.blt k 2 then [] else (bif Nat.blt k 3 then [] else [[], [], [], [], [], [], [], [], [], [], [], [], [], [7, 11]])) else [])) else (bif Nat.blt t 119 then (bif Nat.blt k 24 then (bif Nat.blt k 12 then (bif Nat.blt k 6 then (bif Nat.blt k 3 then [] else (bif Nat.blt k 4 then [] else (bif Nat.blt k 5 then [] else [[], [], [], [], [], [], [], [], [], [], [], [], []]))) else (bif Nat.blt k 9 then [] else (bif Nat.blt k 10 then [] else (bif Nat.blt k 11 then [] else [[], [], [], [], [], [], [], [], [], [], [], [], [], [], [], [9, 13]])))) else (bif Nat.blt k 18 then (bif Nat.blt k 15 then [] else (bif Nat.blt k 16 then [] else (bif Nat.blt k 17 then [[], [], [], [], [], [], [], [], []] else [[], [], [], [], [], [], [], [], [], [], [], [], [], [], [], [9, 13]]))) else (bif Nat.blt k 21 then [] else (bif Nat.blt k 22 then [] else (bif Nat.blt k 23 then [[], [], [], [], [], [], [], [], []] else [[], [], [], [], [], [], [], [], [], [], [], [], [], [], [], [9, 13]]))))) else []) else [])) else (bif Nat.blt t 122 then (bif Nat.blt t 121 then (bif Nat.blt k 9 then (bif Nat.blt k 4 then (bif Nat.blt k 2 then (bif Nat.blt k 1 then [] else [[], [], [], [], [], [], [], [], [], [], [], [], [], [7, 11]]) else (bif Nat.blt k 3 then [] else [[], [], [], [], [], [], [], [], [], [], [], []])) else (bif Nat.blt k 6 then (bif Nat.blt k 5 then [] else [[], [], [], [], [], [], [], [], [], [], [], []]) else (bif Nat.blt k 7 then [] else (bif Nat.blt k 8 then [] else [[], [], [], [], [], [], [], [], [], [], [], [], [], [7, 11]])))) else []) else (bif Nat.blt k 22 then (bif Nat.blt k 11 then (bif Nat.blt k 5 then (bif Nat.blt k 2 then (bif Nat.blt k 1 then [] else [[], [], [], [], [], [], [], [], [], [], [], [], [], [7, 11]]) else (bif Nat.blt k 3 then [] else (bif Nat.blt k 4 then [[], [], [], [], [], [], [], [], [], [], [], []] else []))) else (bif Nat.blt k 8 then (bif Nat.blt k 6 then [[], [], [], [], [], [], [], [], [], [], [], []] else []) else (bif Nat.blt k 9 then [[], [], [], [], [], [], [], [], [], [], [], [], [], [7, 11]] else (bif Nat.blt k 10 then [] else [[], [], [], [], [], [], [], [], [], [], [], [], [], [7, 11]])))) else (bif Nat.blt k 16 then (bif Nat.blt k 13 then [] else (bif Nat.blt k 14 then [[], [], [], [], [], [], [], [], [], [], [], []] else (bif Nat.blt k 15 then [] else [[], [], [], [], [], [], [], [], [], [], [], []]))) else (bif Nat.blt k 19 then (bif Nat.blt k 17 then [] else (bif Nat.blt k 18 then [] else [[], [], [], [], [], [], [], [], [], [], [], [], [], [7, 11]])) else (bif Nat.blt k 20 then [] else (bif Nat.blt k 21 then [] else [[], [], [], [], [], [], [], [], [], [], [], [], [], [7, 11]]))))) else [])) else []))) else (bif Nat.blt t 134 then (bif Nat.blt t 129 then (bif Nat.blt t 127 then [] else (bif Nat.blt t 128 then (bif Nat.blt k 7 then (bif Nat.blt k 3 then [] else (bif Nat.blt k 5 then [] else (bif Nat.blt k 6 then [] else [[], [], [], [], []]))) else []) else [])) else (bif Nat.blt t 131 then [] else (bif Nat.blt t 132 then [] else (bif Nat.blt t 133 then [] else (bif Nat.blt k 7 then (bif Nat.blt k 3 then [] else (bif Nat.blt k 5 then (bif Nat.blt k 4 then [[], [], [], [], [], [], [], [], [], [], [], [], [], [], [], [], [], []] else []) else (bif Nat.blt k 6 then [[], [], [], [], [], [], [], [], [], [], [], []] else [[], [], [], [], [], [], [], [], [], [], [], [], [], [], [], [], [], [], [], [], [], [13, 19]]))) else []))))) else (bif Nat.blt t 138 then (bif Nat.blt t 136 then (bif Nat.blt t 135 then [] else (bif Nat.blt k 4 then (bif Nat.blt k 2 then (bif Nat.blt k 1 then [] else [[], [], [], [], [], [], []]) else (bif Nat.blt k 3 then [[], [], [], [], [], [], []] else [[], [], [], [], [], [], []])) else [])) else []) else (bif Nat.blt t 140 then (bif Nat.blt t 139 then [] else (bif Nat.blt k 3 then (bif Nat.blt k 1 then [] else (bif Nat.blt k 2 then [] else [[], [], [], [], []])) else [])) else (bif Nat.blt t 141 then [] else (bif Nat.blt t 142 then (bif Nat.blt k 4 then (bif Nat.blt k 2 then [] else (bif Nat.blt k 3 then [] else [[], [], [], [], [], [], [], [], [], [], [], [], [], [7, 11]])) else []) else (bif Nat.blt k 2 then (bif Nat.blt k 1 then [] else [[], [], [], [], [], [], [], []]) else []))))))))) else []
def prk (t : FuncId) (k : Nat) : List Nat := bif Nat.blt t 19 then (bif Nat.blt t 9 then [] else (bif Nat.blt t 14 then [] else (bif Nat.blt t 16 then [] else (bif Nat.blt t 17 then [] else (bif Nat.blt t 18 then [] else (bif Nat.blt k 16 then (bif Nat.blt k 8 then [] else (bif Nat.blt k 12 then [] else (bif Nat.blt k 14 then [] else (bif Nat.blt k 15 then [] else [11])))) else [])))))) else []
def ppr : FuncId → Option (Nat → List R → List (Nat × B) → Option (R × List (Nat × B)))
  | 61 => some (pr0 (q1I T 3 true))
  | 101 => some (pr0 (q1I T 9 false))
  | 102 => some (pr0 (q1I T 79 false))
  | 90 => some (q07)
  | _ => none
def pol : Pol := ⟨pq, pow, pfz, pkp, pkx, prw, pro, pdm, pan, prk, ppr⟩
theorem qis : T.ip 31 = none := rfl
theorem qiS : T.ip 34 = none := rfl
theorem qiI : T.ip 36 = none := rfl
theorem qjn : T.ip 38 = none := rfl
theorem qi7 : T.ip 41 = none := rfl
theorem qi9 : T.ip 42 = none := rfl
theorem qid : T.ip 43 = none := rfl
theorem qiz : T.ip 44 = none := rfl
theorem qiD : T.ip 46 = none := rfl
theorem qjh : T.ip 74 = none := rfl
theorem qiK : T.ip 79 = none := rfl
theorem qjH : T.ip 84 = none := rfl
theorem qjB : pol.rk 3 2 = [] := rfl
theorem qjp : pol.rk 3 6 = [] := rfl
theorem qib : pol.rk 3 9 = [] := rfl
theorem qju : pol.rk 8 6 = [] := rfl
theorem qeh : pol.rk 8 10 = [] := rfl
theorem qgn : pol.rk 9 15 = [] := rfl
theorem qfu : pol.rk 9 17 = [] := rfl
theorem qf7 : pol.rk 9 19 = [] := rfl
theorem qgu : pol.rk 9 21 = [] := rfl
theorem qfZ : pol.rk 9 24 = [] := rfl
theorem qem : pol.rk 9 31 = [] := rfl
theorem qdl : pol.rk 10 11 = [] := rfl
theorem qdz : pol.rk 11 22 = [] := rfl
theorem qf5 : pol.rk 26 1 = [] := rfl
theorem qg9 : pol.rk 26 3 = [] := rfl
theorem qeQ : pol.rk 26 8 = [] := rfl
theorem qg1 : pol.rk 26 9 = [] := rfl
theorem qbY : pol.rk 26 12 = [] := rfl
theorem qh0 : pol.rk 41 1 = [] := rfl
theorem qgL : pol.rk 43 7 = [] := rfl
theorem qgD : pol.rk 49 1 = [] := rfl
theorem qex : pol.rk 49 4 = [] := rfl
theorem qcI : pol.rk 104 7 = [] := rfl
theorem qiE : pol.dm 3 2 = 9 ∧ pol.an 3 2 = [[], [], [], [], [1, 3], [1, 3, 4], [0, 1, 2, 3, 4, 5], [1, 3, 4, 5, 6], []] := ⟨rfl, rfl⟩
theorem qiW : pol.dm 3 6 = 9 ∧ pol.an 3 6 = [[], [], [], [], [], [2, 4], [0, 1, 2, 4, 5], [], []] := ⟨rfl, rfl⟩
theorem qiv : pol.dm 3 9 = 37 ∧ pol.an 3 9 = [[], [0], [], [0, 1, 2], [], [], [0, 1, 2, 3], [], [0, 1, 2, 3], [0, 1, 2, 3, 6, 8], [0, 1, 2, 3], [], [0, 1, 2, 3], [0, 1, 2, 3, 6, 8, 9, 10, 12], [], [], [], [0, 1, 2, 3, 6, 8, 9, 10, 12, 13], [], [0, 1, 2, 3, 6, 8, 9, 10, 12, 13], [], [0, 1, 2, 3, 6, 8, 9, 10, 12, 13, 17, 19], [0, 1, 2, 3, 6, 8, 9, 10, 12, 13], [], [0, 1, 2, 3, 6, 8, 9, 10, 12, 13], [], [0, 1, 2, 3, 6, 8, 9, 10, 12, 13, 17, 19, 21, 22, 24], [], [], [], [0, 1, 2, 3, 6, 8, 9, 10, 12, 13, 17, 19, 21, 22, 24, 26], [], [0, 1, 2, 3, 6, 8, 9, 10, 12, 13, 17, 19, 21, 22, 24, 26], [0, 1, 2, 3, 6, 8, 9, 10, 12, 13, 17, 19, 21, 22, 24, 26, 30, 32], [0, 1, 2, 3, 6, 8, 9, 10, 12, 13, 17, 19, 21, 22, 24, 26], [], [0, 1, 2, 3, 6, 8, 9, 10, 12, 13, 17, 19, 21, 22, 24, 26]] := ⟨rfl, rfl⟩
theorem qjw : pol.dm 8 6 = 16 ∧ pol.an 8 6 = [[], [], [], [], [], [], [3], [], [], [], [], [8], [], [], [], [3, 6, 8, 11]] := ⟨rfl, rfl⟩
theorem qgh : pol.dm 8 10 = 25 ∧ pol.an 8 10 = [[], [], [], [], [], [], [], [3], [], [], [], [], [], [9], [], [], [], [], [], [], [], [], [18], [], [3, 7, 9, 13, 18, 22]] := ⟨rfl, rfl⟩
theorem qh4 : pol.dm 9 15 = 8 ∧ pol.an 9 15 = [[], [], [], [], [], [], [2], [2, 6]] := ⟨rfl, rfl⟩
theorem qgK : pol.dm 9 17 = 8 ∧ pol.an 9 17 = [[], [], [], [], [], [], [], []] := ⟨rfl, rfl⟩
theorem qgG : pol.dm 9 19 = 10 ∧ pol.an 9 19 = [[], [], [], [], [], [], [2], [], [], [2, 6]] := ⟨rfl, rfl⟩
theorem qgE : pol.dm 9 21 = 8 ∧ pol.an 9 21 = [[], [], [], [], [], [], [], []] := ⟨rfl, rfl⟩
theorem qeV : pol.dm 9 24 = 12 ∧ pol.an 9 24 = [[], [], [], [], [], [], [], [], [], [], [], [7]] := ⟨rfl, rfl⟩
theorem qgQ : pol.dm 9 31 = 7 ∧ pol.an 9 31 = [[], [], [], [], [], [], [2]] := ⟨rfl, rfl⟩
theorem qcd : pol.dm 10 11 = 8 ∧ pol.an 10 11 = [[], [], [], [], [3], [1, 3, 4], [], []] := ⟨rfl, rfl⟩
theorem qd2 : pol.dm 11 22 = 14 ∧ pol.an 11 22 = [[], [], [], [], [], [], [], [1, 3], [], [1, 3], [], [], [], [1, 3, 9]] := ⟨rfl, rfl⟩
theorem qgk : pol.dm 26 1 = 16 ∧ pol.an 26 1 = [[], [], [], [], [], [2], [], [], [], [2, 5], [], [2, 5, 7, 9], [], [2, 5, 9], [], []] := ⟨rfl, rfl⟩
theorem qew : pol.dm 26 3 = 4 ∧ pol.an 26 3 = [[], [], [], []] := ⟨rfl, rfl⟩
theorem qg0 : pol.dm 26 8 = 12 ∧ pol.an 26 8 = [[], [], [], [], [], [], [], [1, 3], [], [], [], [1, 3]] := ⟨rfl, rfl⟩
theorem qfM : pol.dm 26 9 = 13 ∧ pol.an 26 9 = [[], [], [], [], [], [], [], [], [], [], [6, 8], [], [5, 6, 8, 10]] := ⟨rfl, rfl⟩
theorem qdY : pol.dm 26 12 = 7 ∧ pol.an 26 12 = [[], [], [], [], [], [], []] := ⟨rfl, rfl⟩
theorem qeq : pol.dm 41 1 = 28 ∧ pol.an 41 1 = [[], [], [1], [], [], [], [], [], [1, 2, 4], [1, 2, 4, 8], [], [1, 2, 4], [], [], [], [], [1, 2, 4, 8, 9, 11], [1, 2, 4, 8, 9, 11, 16], [], [1, 2, 4, 8, 9, 11], [], [], [], [], [1, 2, 4, 8, 9, 11, 16, 17, 19], [1, 2, 4, 8, 9, 11, 16, 17, 19, 24], [], [1, 2, 4, 8, 9, 11, 16, 17, 19]] := ⟨rfl, rfl⟩
theorem qfp : pol.dm 43 7 = 12 ∧ pol.an 43 7 = [[], [], [], [], [], [], [], [], [], [], [], []] := ⟨rfl, rfl⟩
theorem qh1 : pol.dm 49 1 = 9 ∧ pol.an 49 1 = [[], [], [], [], [], [], [], [], []] := ⟨rfl, rfl⟩
theorem qer : pol.dm 49 4 = 12 ∧ pol.an 49 4 = [[], [], [], [], [], [], [], [], [], [], [3, 7], []] := ⟨rfl, rfl⟩
theorem qbQ : pol.dm 104 7 = 7 ∧ pol.an 104 7 = [[], [], [], [0, 1, 2], [], [], []] := ⟨rfl, rfl⟩
theorem q22 : pol.q 22 = [1] := rfl
theorem q25 : pol.q 25 = [1] := rfl
theorem q26 : pol.q 26 = [2] := rfl
theorem q30 : pol.q 30 = [0, 0, 0, 0, 0, 1, 2, 0, 0, 0, 0] := rfl
theorem q37 : pol.q 37 = [11] := rfl
theorem q3 : pol.q 3 = [] := rfl
theorem q4 : pol.q 4 = [] := rfl
theorem q9 : pol.q 9 = [] := rfl
theorem q10 : pol.q 10 = [] := rfl
theorem q21 : pol.q 21 = [] := rfl
theorem q23 : pol.q 23 = [] := rfl
theorem q28 : pol.q 28 = [] := rfl
theorem q41 : pol.q 41 = [] := rfl
theorem q68 : pol.q 68 = [] := rfl
theorem q79 : pol.q 79 = [] := rfl
theorem q87 : pol.q 87 = [] := rfl
theorem qli : pol.q 117 = [] := rfl
noncomputable def qeL : Code := (Tryz.f2.body).getD .skip
theorem bd2 : qf Tryz.prog pol 2 = some ⟨qeL, 1, [], []⟩ := by kernel_rfl
noncomputable def q5u : Code := (Tryz.f3.body).getD .skip
theorem bd3 : qf Tryz.prog pol 3 = some ⟨q5u, 85, [.tmp 6], [4]⟩ := by kernel_rfl
theorem pw3 : pol.ow 3 = [] ∧ pol.fz 3 = false ∧ pol.ro 3 = false ∧ pol.pr 3 = none := ⟨rfl, rfl, rfl, rfl⟩
noncomputable def qgC : Code := (Tryz.f4.body).getD .skip
theorem bd4 : qf Tryz.prog pol 4 = some ⟨qgC, 151, [.tmp 6], [4]⟩ := by kernel_rfl
noncomputable def qg6 : Code := (Tryz.f5.body).getD .skip
theorem bd5 : qf Tryz.prog pol 5 = some ⟨qg6, 184, [.tmp 6], [4]⟩ := by kernel_rfl
noncomputable def qgl : Code := (Tryz.f6.body).getD .skip
theorem bd6 : qf Tryz.prog pol 6 = some ⟨qgl, 215, [.tmp 0], [4]⟩ := by kernel_rfl
theorem pw6 : pol.ow 6 = [] ∧ pol.fz 6 = false ∧ pol.ro 6 = false ∧ pol.pr 6 = none := ⟨rfl, rfl, rfl, rfl⟩
noncomputable def q7b : Code := (Tryz.f7.body).getD .skip
theorem bd7 : qf Tryz.prog pol 7 = some ⟨q7b, 29, [.tmp 2], [37]⟩ := by kernel_rfl
theorem pw7 : pol.ow 7 = [] ∧ pol.fz 7 = true ∧ pol.ro 7 = true ∧ pol.pr 7 = none := ⟨rfl, rfl, rfl, rfl⟩
noncomputable def q5C : Code := (Tryz.f8.body).getD .skip
theorem bd8 : qf Tryz.prog pol 8 = some ⟨q5C, 77, [.cell 2 30], [30]⟩ := by kernel_rfl
theorem pw8 : pol.ow 8 = [] ∧ pol.fz 8 = true ∧ pol.ro 8 = false ∧ pol.pr 8 = none := ⟨rfl, rfl, rfl, rfl⟩
noncomputable def q9m : Code := (Tryz.f9.body).getD .skip
theorem bd9 : qf Tryz.prog pol 9 = some ⟨q9m, 154, [.cell 4 30], [30]⟩ := by kernel_rfl
theorem pw9 : pol.ow 9 = [] ∧ pol.fz 9 = true ∧ pol.ro 9 = false ∧ pol.pr 9 = none := ⟨rfl, rfl, rfl, rfl⟩
noncomputable def q2m : Code := (Tryz.f10.body).getD .skip
theorem qe6 : qf Tryz.prog pol 10 = some ⟨q2m, 100, [.tmp 2], [41]⟩ := by kernel_rfl
theorem qkE : pol.ow 10 = [] ∧ pol.fz 10 = false ∧ pol.ro 10 = false ∧ pol.pr 10 = none := ⟨rfl, rfl, rfl, rfl⟩
noncomputable def q2g : Code := (Tryz.f11.body).getD .skip
theorem qe3 : qf Tryz.prog pol 11 = some ⟨q2g, 137, [.tmp 2], [41]⟩ := by kernel_rfl
theorem qkg : pol.ow 11 = [] ∧ pol.fz 11 = false ∧ pol.ro 11 = false ∧ pol.pr 11 = none := ⟨rfl, rfl, rfl, rfl⟩
noncomputable def q5i : Code := (Tryz.f12.body).getD .skip
theorem qhz : qf Tryz.prog pol 12 = some ⟨q5i, 11, [.tmp 4], [4]⟩ := by kernel_rfl
theorem qkJ : pol.ow 12 = [] ∧ pol.fz 12 = false ∧ pol.ro 12 = false ∧ pol.pr 12 = none := ⟨rfl, rfl, rfl, rfl⟩
noncomputable def q4D : Code := (Tryz.f13.body).getD .skip
theorem qhw : qf Tryz.prog pol 13 = some ⟨q4D, 11, [.tmp 4], [4]⟩ := by kernel_rfl
theorem qkj : pol.ow 13 = [] ∧ pol.fz 13 = false ∧ pol.ro 13 = false ∧ pol.pr 13 = none := ⟨rfl, rfl, rfl, rfl⟩
noncomputable def qbH : Code := (Tryz.f14.body).getD .skip
theorem qms : qf Tryz.prog pol 14 = some ⟨qbH, 89, [.tmp 4], [33]⟩ := by kernel_rfl
noncomputable def q5o : Code := (Tryz.f15.body).getD .skip
theorem qho : qf Tryz.prog pol 15 = some ⟨q5o, 12, [.tmp 4], [3]⟩ := by kernel_rfl
theorem qkh : pol.ow 15 = [] ∧ pol.fz 15 = false ∧ pol.ro 15 = false ∧ pol.pr 15 = none := ⟨rfl, rfl, rfl, rfl⟩
noncomputable def qbw : Code := (Tryz.f16.body).getD .skip
theorem qni : qf Tryz.prog pol 16 = some ⟨qbw, 70, [.cell 4 53], [53]⟩ := by kernel_rfl
noncomputable def qb0 : Code := (Tryz.f17.body).getD .skip
theorem qlY : qf Tryz.prog pol 17 = some ⟨qb0, 11, [.cell 2 32], [32]⟩ := by kernel_rfl
noncomputable def qaG : Code := (Tryz.f18.body).getD .skip
theorem qlw : qf Tryz.prog pol 18 = some ⟨qaG, 81, [.tmp 6, .tmp 7], [33, 41]⟩ := by kernel_rfl
noncomputable def qav : Code := (Tryz.f19.body).getD .skip
theorem qkZ : qf Tryz.prog pol 19 = some ⟨qav, 103, [.tmp 6, .tmp 7], [33, 41]⟩ := by kernel_rfl
noncomputable def qbJ : Code := (Tryz.f20.body).getD .skip
theorem qlq : qf Tryz.prog pol 20 = some ⟨qbJ, 29, [.tmp 4], [4]⟩ := by kernel_rfl
noncomputable def qb3 : Code := (Tryz.f21.body).getD .skip
theorem qno : qf Tryz.prog pol 21 = some ⟨qb3, 62, [.tmp 4], [4]⟩ := by kernel_rfl
noncomputable def qbr : Code := (Tryz.f22.body).getD .skip
theorem ql4 : qf Tryz.prog pol 22 = some ⟨qbr, 74, [.tmp 4], [4]⟩ := by kernel_rfl
noncomputable def qbB : Code := (Tryz.f23.body).getD .skip
theorem qmQ : qf Tryz.prog pol 23 = some ⟨qbB, 66, [.tmp 8, .tmp 9], [37, 41]⟩ := by kernel_rfl
noncomputable def qbo : Code := (Tryz.f24.body).getD .skip
theorem qlM : qf Tryz.prog pol 24 = some ⟨qbo, 69, [.tmp 8, .tmp 9], [37, 41]⟩ := by kernel_rfl
noncomputable def qbh : Code := (Tryz.f25.body).getD .skip
theorem qm9 : qf Tryz.prog pol 25 = some ⟨qbh, 27, [.tmp 4], [4]⟩ := by kernel_rfl
noncomputable def q2Y : Code := (Tryz.f26.body).getD .skip
theorem qes : qf Tryz.prog pol 26 = some ⟨q2Y, 87, [.cell 4 30], [30]⟩ := by kernel_rfl
theorem qjS : pol.ow 26 = [] ∧ pol.fz 26 = true ∧ pol.ro 26 = false ∧ pol.pr 26 = none := ⟨rfl, rfl, rfl, rfl⟩
noncomputable def qar : Code := (Tryz.f27.body).getD .skip
theorem qkU : qf Tryz.prog pol 27 = some ⟨qar, 37, [.tmp 4, .tmp 5], [37, 41]⟩ := by kernel_rfl
noncomputable def qan : Code := (Tryz.f28.body).getD .skip
theorem qmj : qf Tryz.prog pol 28 = some ⟨qan, 52, [.tmp 4, .tmp 5], [37, 41]⟩ := by kernel_rfl
noncomputable def qal : Code := (Tryz.f29.body).getD .skip
theorem qlJ : qf Tryz.prog pol 29 = some ⟨qal, 21, [.cell 0 30, .tmp 1], [30, 33]⟩ := by kernel_rfl
noncomputable def qaZ : Code := (Tryz.f30.body).getD .skip
theorem qmp : qf Tryz.prog pol 30 = some ⟨qaZ, 56, [.tmp 4], [4]⟩ := by kernel_rfl
noncomputable def q4S : Code := (Tryz.f31.body).getD .skip
theorem qhm : qf Tryz.prog pol 31 = some ⟨q4S, 14, [.cell 2 30], [30]⟩ := by kernel_rfl
theorem qk7 : pol.ow 31 = [] ∧ pol.fz 31 = true ∧ pol.ro 31 = true ∧ pol.pr 31 = none := ⟨rfl, rfl, rfl, rfl⟩
noncomputable def q5j : Code := (Tryz.f32.body).getD .skip
theorem qhp : qf Tryz.prog pol 32 = some ⟨q5j, 2, [.tmp 0], [25]⟩ := by kernel_rfl
theorem qkf : pol.ow 32 = [] ∧ pol.fz 32 = true ∧ pol.ro 32 = false ∧ pol.pr 32 = none := ⟨rfl, rfl, rfl, rfl⟩
noncomputable def q4K : Code := (Tryz.f33.body).getD .skip
theorem qhE : qf Tryz.prog pol 33 = some ⟨q4K, 15, [.tmp 6], [4]⟩ := by kernel_rfl
theorem qky : pol.ow 33 = [] ∧ pol.fz 33 = false ∧ pol.ro 33 = false ∧ pol.pr 33 = none := ⟨rfl, rfl, rfl, rfl⟩
noncomputable def q5k : Code := (Tryz.f34.body).getD .skip
theorem qhK : qf Tryz.prog pol 34 = some ⟨q5k, 9, [.tmp 2], [4]⟩ := by kernel_rfl
theorem qjU : pol.ow 34 = [] ∧ pol.fz 34 = false ∧ pol.ro 34 = false ∧ pol.pr 34 = none := ⟨rfl, rfl, rfl, rfl⟩
noncomputable def q3r : Code := (Tryz.f35.body).getD .skip
theorem qeE : qf Tryz.prog pol 35 = some ⟨q3r, 19, [.tmp 2], [25]⟩ := by kernel_rfl
theorem qkL : pol.ow 35 = [] ∧ pol.fz 35 = true ∧ pol.ro 35 = false ∧ pol.pr 35 = none := ⟨rfl, rfl, rfl, rfl⟩
noncomputable def q4V : Code := (Tryz.f36.body).getD .skip
theorem qhl : qf Tryz.prog pol 36 = some ⟨q4V, 17, [.tmp 2], [4]⟩ := by kernel_rfl
theorem qkB : pol.ow 36 = [] ∧ pol.fz 36 = false ∧ pol.ro 36 = false ∧ pol.pr 36 = none := ⟨rfl, rfl, rfl, rfl⟩
noncomputable def q4x : Code := (Tryz.f37.body).getD .skip
theorem qgN : qf Tryz.prog pol 37 = some ⟨q4x, 9, [.tmp 4], [4]⟩ := by kernel_rfl
theorem qhR : pol.ow 37 = [] ∧ pol.fz 37 = false ∧ pol.ro 37 = false ∧ pol.pr 37 = none := ⟨rfl, rfl, rfl, rfl⟩
noncomputable def q5h : Code := (Tryz.f38.body).getD .skip
theorem qha : qf Tryz.prog pol 38 = some ⟨q5h, 6, [.tmp 2], [4]⟩ := by kernel_rfl
theorem qk8 : pol.ow 38 = [] ∧ pol.fz 38 = false ∧ pol.ro 38 = false ∧ pol.pr 38 = none := ⟨rfl, rfl, rfl, rfl⟩
noncomputable def q4I : Code := (Tryz.f39.body).getD .skip
theorem qhL : qf Tryz.prog pol 39 = some ⟨q4I, 9, [.tmp 3], [4]⟩ := by kernel_rfl
theorem qjK : pol.ow 39 = [] ∧ pol.fz 39 = false ∧ pol.ro 39 = false ∧ pol.pr 39 = none := ⟨rfl, rfl, rfl, rfl⟩
noncomputable def q5n : Code := (Tryz.f40.body).getD .skip
theorem qhi : qf Tryz.prog pol 40 = some ⟨q5n, 9, [.tmp 4], [4]⟩ := by kernel_rfl
theorem qk4 : pol.ow 40 = [] ∧ pol.fz 40 = false ∧ pol.ro 40 = false ∧ pol.pr 40 = none := ⟨rfl, rfl, rfl, rfl⟩
noncomputable def q5a : Code := (Tryz.f41.body).getD .skip
theorem qhB : qf Tryz.prog pol 41 = some ⟨q5a, 33, [.tmp 2], [41]⟩ := by kernel_rfl
theorem qk1 : pol.ow 41 = [] ∧ pol.fz 41 = false ∧ pol.ro 41 = false ∧ pol.pr 41 = none := ⟨rfl, rfl, rfl, rfl⟩
noncomputable def q56 : Code := (Tryz.f42.body).getD .skip
theorem qht : qf Tryz.prog pol 42 = some ⟨q56, 9, [.tmp 2], [4]⟩ := by kernel_rfl
theorem qkF : pol.ow 42 = [] ∧ pol.fz 42 = false ∧ pol.ro 42 = false ∧ pol.pr 42 = none := ⟨rfl, rfl, rfl, rfl⟩
noncomputable def q31 : Code := (Tryz.f43.body).getD .skip
theorem qfC : qf Tryz.prog pol 43 = some ⟨q31, 32, [.tmp 2], [41]⟩ := by kernel_rfl
theorem qkd : pol.ow 43 = [] ∧ pol.fz 43 = false ∧ pol.ro 43 = false ∧ pol.pr 43 = none := ⟨rfl, rfl, rfl, rfl⟩
noncomputable def q3w : Code := (Tryz.f44.body).getD .skip
theorem qgm : qf Tryz.prog pol 44 = some ⟨q3w, 22, [.tmp 2], [25]⟩ := by kernel_rfl
theorem qkM : pol.ow 44 = [] ∧ pol.fz 44 = true ∧ pol.ro 44 = false ∧ pol.pr 44 = none := ⟨rfl, rfl, rfl, rfl⟩
noncomputable def q3h : Code := (Tryz.f45.body).getD .skip
theorem qea : qf Tryz.prog pol 45 = some ⟨q3h, 18, [.tmp 4], [4]⟩ := by kernel_rfl
theorem qkz : pol.ow 45 = [] ∧ pol.fz 45 = false ∧ pol.ro 45 = false ∧ pol.pr 45 = none := ⟨rfl, rfl, rfl, rfl⟩
noncomputable def q5l : Code := (Tryz.f46.body).getD .skip
theorem qhd : qf Tryz.prog pol 46 = some ⟨q5l, 33, [.tmp 2], [41]⟩ := by kernel_rfl
theorem qkw : pol.ow 46 = [] ∧ pol.fz 46 = false ∧ pol.ro 46 = false ∧ pol.pr 46 = none := ⟨rfl, rfl, rfl, rfl⟩
noncomputable def q5g : Code := (Tryz.f47.body).getD .skip
theorem qhc : qf Tryz.prog pol 47 = some ⟨q5g, 19, [.tmp 6], [4]⟩ := by kernel_rfl
theorem qku : pol.ow 47 = [] ∧ pol.fz 47 = false ∧ pol.ro 47 = false ∧ pol.pr 47 = none := ⟨rfl, rfl, rfl, rfl⟩
noncomputable def q4R : Code := (Tryz.f48.body).getD .skip
theorem qhg : qf Tryz.prog pol 48 = some ⟨q4R, 19, [.tmp 6], [4]⟩ := by kernel_rfl
theorem qkr : pol.ow 48 = [] ∧ pol.fz 48 = false ∧ pol.ro 48 = false ∧ pol.pr 48 = none := ⟨rfl, rfl, rfl, rfl⟩
noncomputable def q51 : Code := (Tryz.f49.body).getD .skip
theorem qh8 : qf Tryz.prog pol 49 = some ⟨q51, 35, [.tmp 4], [3]⟩ := by kernel_rfl
theorem qkK : pol.ow 49 = [] ∧ pol.fz 49 = false ∧ pol.ro 49 = false ∧ pol.pr 49 = none := ⟨rfl, rfl, rfl, rfl⟩
noncomputable def qai : Code := (Tryz.f50.body).getD .skip
theorem qlU : qf Tryz.prog pol 50 = some ⟨qai, 14, [.cell 2 53], [53]⟩ := by kernel_rfl
noncomputable def qaM : Code := (Tryz.f51.body).getD .skip
theorem qlm : qf Tryz.prog pol 51 = some ⟨qaM, 22, [.tmp 4], [45]⟩ := by kernel_rfl
noncomputable def qas : Code := (Tryz.f52.body).getD .skip
theorem qlD : qf Tryz.prog pol 52 = some ⟨qas, 5, [.tmp 2], [3]⟩ := by kernel_rfl
noncomputable def qb4 : Code := (Tryz.f53.body).getD .skip
theorem qlB : qf Tryz.prog pol 53 = some ⟨qb4, 57, [.tmp 8, .tmp 9], [3, 41]⟩ := by kernel_rfl
noncomputable def qbA : Code := (Tryz.f54.body).getD .skip
theorem qmC : qf Tryz.prog pol 54 = some ⟨qbA, 5, [.tmp 2], [3]⟩ := by kernel_rfl
noncomputable def qaF : Code := (Tryz.f55.body).getD .skip
theorem qmG : qf Tryz.prog pol 55 = some ⟨qaF, 10, [.tmp 4], [4]⟩ := by kernel_rfl
noncomputable def qbd : Code := (Tryz.f56.body).getD .skip
theorem qlt : qf Tryz.prog pol 56 = some ⟨qbd, 44, [.tmp 2, .tmp 3], [45, 4]⟩ := by kernel_rfl
noncomputable def qaU : Code := (Tryz.f57.body).getD .skip
theorem qlO : qf Tryz.prog pol 57 = some ⟨qaU, 22, [.tmp 4], [22]⟩ := by kernel_rfl
noncomputable def qae : Code := (Tryz.f58.body).getD .skip
theorem qkY : qf Tryz.prog pol 58 = some ⟨qae, 5, [.tmp 2], [45]⟩ := by kernel_rfl
noncomputable def qb8 : Code := (Tryz.f59.body).getD .skip
theorem ql3 : qf Tryz.prog pol 59 = some ⟨qb8, 11, [], []⟩ := by kernel_rfl
noncomputable def qb1 : Code := (Tryz.f60.body).getD .skip
theorem qlh : qf Tryz.prog pol 60 = some ⟨qb1, 6, [.tmp 2], [3]⟩ := by kernel_rfl
noncomputable def qau : Code := (Tryz.f61.body).getD .skip
theorem qm8 : qf Tryz.prog pol 61 = some ⟨qau, 8, [.tmp 2], [45]⟩ := by kernel_rfl
noncomputable def qaI : Code := (Tryz.f62.body).getD .skip
theorem qlR : qf Tryz.prog pol 62 = some ⟨qaI, 64, [.tmp 8, .tmp 9], [3, 41]⟩ := by kernel_rfl
noncomputable def qaJ : Code := (Tryz.f63.body).getD .skip
theorem qlc : qf Tryz.prog pol 63 = some ⟨qaJ, 10, [.tmp 4], [4]⟩ := by kernel_rfl
noncomputable def qaQ : Code := (Tryz.f64.body).getD .skip
theorem qnb : qf Tryz.prog pol 64 = some ⟨qaQ, 28, [.tmp 2], [3]⟩ := by kernel_rfl
noncomputable def qbx : Code := (Tryz.f65.body).getD .skip
theorem qlN : qf Tryz.prog pol 65 = some ⟨qbx, 75, [.tmp 2], [45]⟩ := by kernel_rfl
noncomputable def qaY : Code := (Tryz.f66.body).getD .skip
theorem qm7 : qf Tryz.prog pol 66 = some ⟨qaY, 26, [.tmp 4], [4]⟩ := by kernel_rfl
noncomputable def qaq : Code := (Tryz.f67.body).getD .skip
theorem qmf : qf Tryz.prog pol 67 = some ⟨qaq, 26, [.tmp 4], [4]⟩ := by kernel_rfl
noncomputable def qby : Code := (Tryz.f68.body).getD .skip
theorem qlg : qf Tryz.prog pol 68 = some ⟨qby, 28, [.tmp 4], [4]⟩ := by kernel_rfl
noncomputable def qak : Code := (Tryz.f69.body).getD .skip
theorem qnd : qf Tryz.prog pol 69 = some ⟨qak, 8, [.tmp 4], [3]⟩ := by kernel_rfl
noncomputable def qb7 : Code := (Tryz.f70.body).getD .skip
theorem qmE : qf Tryz.prog pol 70 = some ⟨qb7, 38, [.tmp 2], [37]⟩ := by kernel_rfl
noncomputable def qbz : Code := (Tryz.f71.body).getD .skip
theorem qly : qf Tryz.prog pol 71 = some ⟨qbz, 20, [.tmp 4], [3]⟩ := by kernel_rfl
noncomputable def qaS : Code := (Tryz.f72.body).getD .skip
theorem qlG : qf Tryz.prog pol 72 = some ⟨qaS, 20, [.tmp 2], [37]⟩ := by kernel_rfl
noncomputable def qbI : Code := (Tryz.f73.body).getD .skip
theorem qn7 : qf Tryz.prog pol 73 = some ⟨qbI, 83, [.tmp 4], [4]⟩ := by kernel_rfl
noncomputable def q29 : Code := (Tryz.f74.body).getD .skip
theorem qe2 : qf Tryz.prog pol 74 = some ⟨q29, 33, [.tmp 2], [25]⟩ := by kernel_rfl
theorem qjN : pol.ow 74 = [] ∧ pol.fz 74 = true ∧ pol.ro 74 = false ∧ pol.pr 74 = none := ⟨rfl, rfl, rfl, rfl⟩
noncomputable def q50 : Code := (Tryz.f75.body).getD .skip
theorem qhH : qf Tryz.prog pol 75 = some ⟨q50, 39, [.cell 6 28], [28]⟩ := by kernel_rfl
theorem qkA : pol.ow 75 = [] ∧ pol.fz 75 = false ∧ pol.ro 75 = false ∧ pol.pr 75 = none := ⟨rfl, rfl, rfl, rfl⟩
noncomputable def qaH : Code := (Tryz.f76.body).getD .skip
theorem qlA : qf Tryz.prog pol 76 = some ⟨qaH, 19, [.tmp 4], [3]⟩ := by kernel_rfl
noncomputable def qaD : Code := (Tryz.f77.body).getD .skip
theorem qls : qf Tryz.prog pol 77 = some ⟨qaD, 9, [.tmp 3], [4]⟩ := by kernel_rfl
noncomputable def qbe : Code := (Tryz.f78.body).getD .skip
theorem qmX : qf Tryz.prog pol 78 = some ⟨qbe, 95, [.tmp 6], [37]⟩ := by kernel_rfl
noncomputable def q4C : Code := (Tryz.f79.body).getD .skip
theorem qh9 : qf Tryz.prog pol 79 = some ⟨q4C, 17, [.tmp 2], [4]⟩ := by kernel_rfl
theorem qko : pol.ow 79 = [] ∧ pol.fz 79 = false ∧ pol.ro 79 = false ∧ pol.pr 79 = none := ⟨rfl, rfl, rfl, rfl⟩
noncomputable def q4T : Code := (Tryz.f80.body).getD .skip
theorem qhs : qf Tryz.prog pol 80 = some ⟨q4T, 8, [.tmp 4], [3]⟩ := by kernel_rfl
theorem qjQ : pol.ow 80 = [] ∧ pol.fz 80 = false ∧ pol.ro 80 = false ∧ pol.pr 80 = none := ⟨rfl, rfl, rfl, rfl⟩
noncomputable def q3t : Code := (Tryz.f81.body).getD .skip
theorem qe7 : qf Tryz.prog pol 81 = some ⟨q3t, 19, [.tmp 4], [3]⟩ := by kernel_rfl
theorem qjG : pol.ow 81 = [] ∧ pol.fz 81 = false ∧ pol.ro 81 = false ∧ pol.pr 81 = none := ⟨rfl, rfl, rfl, rfl⟩
noncomputable def q34 : Code := (Tryz.f82.body).getD .skip
theorem qgT : qf Tryz.prog pol 82 = some ⟨q34, 19, [.tmp 4], [3]⟩ := by kernel_rfl
theorem qke : pol.ow 82 = [] ∧ pol.fz 82 = false ∧ pol.ro 82 = false ∧ pol.pr 82 = none := ⟨rfl, rfl, rfl, rfl⟩
noncomputable def q4w : Code := (Tryz.f83.body).getD .skip
theorem qhv : qf Tryz.prog pol 83 = some ⟨q4w, 16, [.tmp 6], [3]⟩ := by kernel_rfl
theorem qkx : pol.ow 83 = [] ∧ pol.fz 83 = false ∧ pol.ro 83 = false ∧ pol.pr 83 = none := ⟨rfl, rfl, rfl, rfl⟩
noncomputable def q3s : Code := (Tryz.f84.body).getD .skip
theorem qec : qf Tryz.prog pol 84 = some ⟨q3s, 46, [.tmp 2], [4]⟩ := by kernel_rfl
theorem qkH : pol.ow 84 = [] ∧ pol.fz 84 = false ∧ pol.ro 84 = false ∧ pol.pr 84 = none := ⟨rfl, rfl, rfl, rfl⟩
noncomputable def q4H : Code := (Tryz.f85.body).getD .skip
theorem qhD : qf Tryz.prog pol 85 = some ⟨q4H, 14, [.tmp 4], [4]⟩ := by kernel_rfl
theorem qkO : pol.ow 85 = [] ∧ pol.fz 85 = false ∧ pol.ro 85 = false ∧ pol.pr 85 = none := ⟨rfl, rfl, rfl, rfl⟩
noncomputable def qbg : Code := (Tryz.f86.body).getD .skip
theorem ql6 : qf Tryz.prog pol 86 = some ⟨qbg, 37, [.tmp 2], [41]⟩ := by kernel_rfl
noncomputable def qaL : Code := (Tryz.f87.body).getD .skip
theorem qln : qf Tryz.prog pol 87 = some ⟨qaL, 51, [.cell 4 125, .tmp 5], [125, 41]⟩ := by kernel_rfl
noncomputable def qaC : Code := (Tryz.f88.body).getD .skip
theorem qn2 : qf Tryz.prog pol 88 = some ⟨qaC, 32, [.tmp 6], [3]⟩ := by kernel_rfl
noncomputable def qbk : Code := (Tryz.f89.body).getD .skip
theorem ql1 : qf Tryz.prog pol 89 = some ⟨qbk, 26, [.tmp 6], [4]⟩ := by kernel_rfl
noncomputable def qaN : Code := (Tryz.f90.body).getD .skip
theorem qmZ : qf Tryz.prog pol 90 = some ⟨qaN, 9, [.tmp 2], [129]⟩ := by kernel_rfl
noncomputable def qaA : Code := (Tryz.f91.body).getD .skip
theorem qmw : qf Tryz.prog pol 91 = some ⟨qaA, 134, [], []⟩ := by kernel_rfl
noncomputable def qb5 : Code := (Tryz.f92.body).getD .skip
theorem qkT : qf Tryz.prog pol 92 = some ⟨qb5, 8, [.tmp 2], [3]⟩ := by kernel_rfl
noncomputable def qaz : Code := (Tryz.f93.body).getD .skip
theorem ql5 : qf Tryz.prog pol 93 = some ⟨qaz, 25, [.tmp 2], [3]⟩ := by kernel_rfl
noncomputable def qax : Code := (Tryz.f94.body).getD .skip
theorem qm0 : qf Tryz.prog pol 94 = some ⟨qax, 5, [.tmp 2], [3]⟩ := by kernel_rfl
noncomputable def qaB : Code := (Tryz.f95.body).getD .skip
theorem qmz : qf Tryz.prog pol 95 = some ⟨qaB, 40, [.tmp 2], [41]⟩ := by kernel_rfl
noncomputable def qaf : Code := (Tryz.f96.body).getD .skip
theorem qkS : qf Tryz.prog pol 96 = some ⟨qaf, 73, [.cell 4 125, .tmp 5], [125, 41]⟩ := by kernel_rfl
noncomputable def qbj : Code := (Tryz.f97.body).getD .skip
theorem qmB : qf Tryz.prog pol 97 = some ⟨qbj, 57, [.tmp 6], [3]⟩ := by kernel_rfl
noncomputable def qbt : Code := (Tryz.f98.body).getD .skip
theorem qla : qf Tryz.prog pol 98 = some ⟨qbt, 22, [.tmp 6], [4]⟩ := by kernel_rfl
noncomputable def qaj : Code := (Tryz.f99.body).getD .skip
theorem qmi : qf Tryz.prog pol 99 = some ⟨qaj, 9, [.tmp 4], [4]⟩ := by kernel_rfl
noncomputable def q7d : Code := (Tryz.f100.body).getD .skip
theorem qhY : qf Tryz.prog pol 100 = some ⟨q7d, 8, [.tmp 3], [4]⟩ := by kernel_rfl
noncomputable def q7p : Code := (Tryz.f101.body).getD .skip
theorem qjo : qf Tryz.prog pol 101 = some ⟨q7p, 8, [.tmp 2], [25]⟩ := by kernel_rfl
noncomputable def q7t : Code := (Tryz.f102.body).getD .skip
theorem qiR : qf Tryz.prog pol 102 = some ⟨q7t, 8, [.tmp 2], [26]⟩ := by kernel_rfl
noncomputable def q7Z : Code := (Tryz.f103.body).getD .skip
theorem qiU : qf Tryz.prog pol 103 = some ⟨q7Z, 26, [.tmp 4], [4]⟩ := by kernel_rfl
noncomputable def q1C : Code := (Tryz.f104.body).getD .skip
theorem q6E : qf Tryz.prog pol 104 = some ⟨q1C, 39, [.tmp 4], [25]⟩ := by kernel_rfl
theorem qfI : pol.ow 104 = [] ∧ pol.fz 104 = true ∧ pol.ro 104 = false ∧ pol.pr 104 = none := ⟨rfl, rfl, rfl, rfl⟩
noncomputable def q8w : Code := (Tryz.f106.body).getD .skip
theorem qir : qf Tryz.prog pol 106 = some ⟨q8w, 10, [], []⟩ := by kernel_rfl
noncomputable def q17 : Code := (Tryz.f107.body).getD .skip
theorem q8f : qf Tryz.prog pol 107 = some ⟨q17, 21, [.tmp 6], [3]⟩ := by kernel_rfl
theorem qep : pol.ow 107 = [] ∧ pol.fz 107 = false ∧ pol.ro 107 = false ∧ pol.pr 107 = none := ⟨rfl, rfl, rfl, rfl⟩
noncomputable def q71 : Code := (Tryz.f108.body).getD .skip
theorem qj2 : qf Tryz.prog pol 108 = some ⟨q71, 25, [.tmp 6], [4]⟩ := by kernel_rfl
noncomputable def q7k : Code := (Tryz.f109.body).getD .skip
theorem qi3 : qf Tryz.prog pol 109 = some ⟨q7k, 49, [.cell 4 125, .tmp 5], [125, 41]⟩ := by kernel_rfl
noncomputable def q6r : Code := (Tryz.f110.body).getD .skip
theorem qhS : qf Tryz.prog pol 110 = some ⟨q6r, 6, [.cell 0 145], [145]⟩ := by kernel_rfl
noncomputable def q7B : Code := (Tryz.f111.body).getD .skip
theorem qih : qf Tryz.prog pol 111 = some ⟨q7B, 18, [.tmp 4], [4]⟩ := by kernel_rfl
noncomputable def q64 : Code := (Tryz.f113.body).getD .skip
theorem qiZ : qf Tryz.prog pol 113 = some ⟨q64, 49, [], []⟩ := by kernel_rfl
noncomputable def q73 : Code := (Tryz.f114.body).getD .skip
theorem qjd : qf Tryz.prog pol 114 = some ⟨q73, 56, [], []⟩ := by kernel_rfl
noncomputable def q7V : Code := (Tryz.f115.body).getD .skip
theorem qiq : qf Tryz.prog pol 115 = some ⟨q7V, 65, [], []⟩ := by kernel_rfl
noncomputable def q8o : Code := (Tryz.f116.body).getD .skip
theorem qik : qf Tryz.prog pol 116 = some ⟨q8o, 57, [.tmp 6, .tmp 7], [3, 149]⟩ := by kernel_rfl
noncomputable def q62 : Code := (Tryz.f117.body).getD .skip
theorem qjC : qf Tryz.prog pol 117 = some ⟨q62, 32, [], []⟩ := by kernel_rfl
noncomputable def q7R : Code := (Tryz.f118.body).getD .skip
theorem qig : qf Tryz.prog pol 118 = some ⟨q7R, 133, [.tmp 6], [4]⟩ := by kernel_rfl
noncomputable def q7T : Code := (Tryz.f119.body).getD .skip
theorem qiF : qf Tryz.prog pol 119 = some ⟨q7T, 17, [.tmp 4], [4]⟩ := by kernel_rfl
noncomputable def q6n : Code := (Tryz.f120.body).getD .skip
theorem qjy : qf Tryz.prog pol 120 = some ⟨q6n, 84, [.tmp 8], [3]⟩ := by kernel_rfl
noncomputable def q7x : Code := (Tryz.f121.body).getD .skip
theorem qjr : qf Tryz.prog pol 121 = some ⟨q7x, 168, [.tmp 8, .tmp 9], [3, 4]⟩ := by kernel_rfl
noncomputable def q6G : Code := (Tryz.f124.body).getD .skip
theorem qj6 : qf Tryz.prog pol 124 = some ⟨q6G, 48, [.cell 4 125, .tmp 5], [125, 41]⟩ := by kernel_rfl
noncomputable def q8p : Code := (Tryz.f125.body).getD .skip
theorem qiY : qf Tryz.prog pol 125 = some ⟨q8p, 26, [.tmp 4], [4]⟩ := by kernel_rfl
noncomputable def q77 : Code := (Tryz.f126.body).getD .skip
theorem qie : qf Tryz.prog pol 126 = some ⟨q77, 14, [], []⟩ := by kernel_rfl
noncomputable def q72 : Code := (Tryz.f127.body).getD .skip
theorem qjz : qf Tryz.prog pol 127 = some ⟨q72, 20, [.tmp 2], [159]⟩ := by kernel_rfl
noncomputable def q8d : Code := (Tryz.f128.body).getD .skip
theorem qio : qf Tryz.prog pol 128 = some ⟨q8d, 10, [.tmp 2], [159]⟩ := by kernel_rfl
noncomputable def q89 : Code := (Tryz.f129.body).getD .skip
theorem qj1 : qf Tryz.prog pol 129 = some ⟨q89, 7, [.tmp 6], [4]⟩ := by kernel_rfl
noncomputable def q6X : Code := (Tryz.f130.body).getD .skip
theorem qiA : qf Tryz.prog pol 130 = some ⟨q6X, 9, [.tmp 6], [4]⟩ := by kernel_rfl
noncomputable def q7u : Code := (Tryz.f131.body).getD .skip
theorem qic : qf Tryz.prog pol 131 = some ⟨q7u, 11, [.tmp 6], [4]⟩ := by kernel_rfl
noncomputable def q6H : Code := (Tryz.f132.body).getD .skip
theorem qi5 : qf Tryz.prog pol 132 = some ⟨q6H, 22, [.tmp 6], [4]⟩ := by kernel_rfl
noncomputable def q6I : Code := (Tryz.f133.body).getD .skip
theorem qi4 : qf Tryz.prog pol 133 = some ⟨q6I, 76, [], []⟩ := by kernel_rfl
noncomputable def q6u : Code := (Tryz.f134.body).getD .skip
theorem qhX : qf Tryz.prog pol 134 = some ⟨q6u, 7, [.tmp 2], [133]⟩ := by kernel_rfl
noncomputable def q7h : Code := (Tryz.f135.body).getD .skip
theorem qix : qf Tryz.prog pol 135 = some ⟨q7h, 33, [.tmp 2], [159]⟩ := by kernel_rfl
noncomputable def q7X : Code := (Tryz.f136.body).getD .skip
theorem qiL : qf Tryz.prog pol 136 = some ⟨q7X, 15, [.tmp 6], [3]⟩ := by kernel_rfl
noncomputable def q83 : Code := (Tryz.f137.body).getD .skip
theorem qjb : qf Tryz.prog pol 137 = some ⟨q83, 36, [.tmp 10], [3]⟩ := by kernel_rfl
noncomputable def q7U : Code := (Tryz.f138.body).getD .skip
theorem qi1 : qf Tryz.prog pol 138 = some ⟨q7U, 6, [.tmp 2], [4]⟩ := by kernel_rfl
noncomputable def q7z : Code := (Tryz.f139.body).getD .skip
theorem qiO : qf Tryz.prog pol 139 = some ⟨q7z, 12, [.tmp 4], [159]⟩ := by kernel_rfl
noncomputable def q6D : Code := (Tryz.f140.body).getD .skip
theorem qjf : qf Tryz.prog pol 140 = some ⟨q6D, 10, [.tmp 2], [159]⟩ := by kernel_rfl
noncomputable def q6P : Code := (Tryz.f141.body).getD .skip
theorem qj8 : qf Tryz.prog pol 141 = some ⟨q6P, 28, [], []⟩ := by kernel_rfl
noncomputable def q7G : Code := (Tryz.f142.body).getD .skip
theorem qjI : qf Tryz.prog pol 142 = some ⟨q7G, 28, [.tmp 8, .tmp 9], [3, 3]⟩ := by kernel_rfl
theorem qjc : pol.kp 3 7 = [4, 5, 7, 20, 21, 22, 36, 37, 38] ∧ pol.rw 3 7 = [] ∧ pol.kx 3 7 = [4, 5, 6, 7, 20, 21, 22] := ⟨rfl, rfl, rfl⟩
theorem qja : pol.kp 3 3 = [4, 5, 7, 20, 21, 22] ∧ pol.rw 3 3 = [] ∧ pol.kx 3 3 = [6, 7] := ⟨rfl, rfl, rfl⟩
theorem qjj : pol.kp 7 3 = [0, 3, 4] ∧ pol.rw 7 3 = [.slot 3 30 11] ∧ pol.kx 7 3 = [3] := ⟨rfl, rfl, rfl⟩
theorem qj5 : pol.kp 8 8 = [1, 2, 3, 5] ∧ pol.rw 8 8 = [.cell 3 6 79 2] ∧ pol.kx 8 8 = [2, 3] := ⟨rfl, rfl, rfl⟩
theorem qij : pol.kp 8 4 = [1, 2, 3, 4] ∧ pol.rw 8 4 = [.cell 3 5 9 1] ∧ pol.kx 8 4 = [1, 2, 3] := ⟨rfl, rfl, rfl⟩
theorem qcE : pol.kp 10 15 = [1, 4, 52, 53, 54, 58, 59, 60] ∧ pol.rw 10 15 = [] ∧ pol.kx 10 15 = [1, 2, 52, 53, 54] := ⟨rfl, rfl, rfl⟩
theorem qdk : pol.kp 10 12 = [1, 52, 53, 54] ∧ pol.rw 10 12 = [] ∧ pol.kx 10 12 = [1, 2] := ⟨rfl, rfl, rfl⟩
theorem qdN : pol.kp 11 20 = [1, 7] ∧ pol.rw 11 20 = [] ∧ pol.kx 11 20 = [1, 2] := ⟨rfl, rfl, rfl⟩
theorem qdr : pol.kp 11 15 = [1, 6] ∧ pol.rw 11 15 = [] ∧ pol.kx 11 15 = [1, 2] := ⟨rfl, rfl, rfl⟩
theorem qen : pol.kp 26 6 = [0, 4, 5, 6, 7] ∧ pol.rw 26 6 = [.cell 5 6 79 2] ∧ pol.kx 26 6 = [0, 4, 5] := ⟨rfl, rfl, rfl⟩
theorem qfA : pol.kp 35 3 = [3, 6, 7, 8] ∧ pol.rw 35 3 = [.slot 3 9 1] ∧ pol.kx 35 3 = [3] := ⟨rfl, rfl, rfl⟩
theorem qeG : pol.kp 43 2 = [0, 3] ∧ pol.rw 43 2 = [] ∧ pol.kx 43 2 = [2] := ⟨rfl, rfl, rfl⟩
theorem qff : pol.kp 44 3 = [1, 3, 4] ∧ pol.rw 44 3 = [.slot 3 9 1] ∧ pol.kx 44 3 = [3] := ⟨rfl, rfl, rfl⟩
theorem qfq : pol.kp 45 2 = [0, 1, 5] ∧ pol.rw 45 2 = [] ∧ pol.kx 45 2 = [4] := ⟨rfl, rfl, rfl⟩
theorem qfa : pol.kp 74 5 = [0, 3, 4, 5] ∧ pol.rw 74 5 = [] ∧ pol.kx 74 5 = [0, 3, 4, 5] := ⟨rfl, rfl, rfl⟩
theorem qgB : pol.kp 74 3 = [0, 3, 4] ∧ pol.rw 74 3 = [] ∧ pol.kx 74 3 = [3] := ⟨rfl, rfl, rfl⟩
theorem qfl : pol.kp 81 2 = [0, 1, 7, 8] ∧ pol.rw 81 2 = [] ∧ pol.kx 81 2 = [4] := ⟨rfl, rfl, rfl⟩
theorem qeR : pol.kp 82 2 = [0, 1, 7, 8] ∧ pol.rw 82 2 = [] ∧ pol.kx 82 2 = [4] := ⟨rfl, rfl, rfl⟩
theorem qf4 : pol.kp 84 2 = [0, 3] ∧ pol.rw 84 2 = [] ∧ pol.kx 84 2 = [0, 2] := ⟨rfl, rfl, rfl⟩
theorem qd6 : pol.kp 104 4 = [0, 1, 5] ∧ pol.rw 104 4 = [] ∧ pol.kx 104 4 = [0, 1, 5] := ⟨rfl, rfl, rfl⟩
theorem qdx : pol.kp 107 2 = [1, 2, 10] ∧ pol.rw 107 2 = [] ∧ pol.kx 107 2 = [6] := ⟨rfl, rfl, rfl⟩
noncomputable def qbV : Code := (zb 7 q5u).getD .skip
noncomputable def qc8 : Code := (zb 3 q5u).getD .skip
noncomputable def qcS : Code := (zb 3 q7b).getD .skip
noncomputable def qc0 : Code := (zb 8 q5C).getD .skip
noncomputable def qcw : Code := (zb 4 q5C).getD .skip
noncomputable def q4m : Code := (zb 15 q2m).getD .skip
noncomputable def q3K : Code := (zb 12 q2m).getD .skip
noncomputable def q3V : Code := (zb 20 q2g).getD .skip
noncomputable def q4g : Code := (zb 15 q2g).getD .skip
noncomputable def q6B : Code := (zb 6 q2Y).getD .skip
noncomputable def q84 : Code := (zb 3 q3r).getD .skip
noncomputable def q8m : Code := (zb 2 q31).getD .skip
noncomputable def q7l : Code := (zb 3 q3w).getD .skip
noncomputable def q7J : Code := (zb 2 q3h).getD .skip
noncomputable def q4Y : Code := (zb 5 q29).getD .skip
noncomputable def q4y : Code := (zb 3 q29).getD .skip
noncomputable def q4E : Code := (zb 2 q3t).getD .skip
noncomputable def q8j : Code := (zb 2 q34).getD .skip
noncomputable def q6j : Code := (zb 2 q3s).getD .skip
noncomputable def q4b : Code := (zb 4 q1C).getD .skip
noncomputable def q4r : Code := (zb 2 q17).getD .skip
noncomputable def bdt (t : Nat) : Option Bd := bif Nat.blt t 143 then (bif Nat.blt t 71 then (bif Nat.blt t 35 then (bif Nat.blt t 17 then (bif Nat.blt t 8 then (bif Nat.blt t 4 then (bif Nat.blt t 2 then none else (bif Nat.blt t 3 then some ⟨qeL, 1, [], []⟩ else some ⟨q5u, 85, [.tmp 6], [4]⟩)) else (bif Nat.blt t 6 then (bif Nat.blt t 5 then some ⟨qgC, 151, [.tmp 6], [4]⟩ else some ⟨qg6, 184, [.tmp 6], [4]⟩) else (bif Nat.blt t 7 then some ⟨qgl, 215, [.tmp 0], [4]⟩ else some ⟨q7b, 29, [.tmp 2], [37]⟩))) else (bif Nat.blt t 12 then (bif Nat.blt t 10 then (bif Nat.blt t 9 then some ⟨q5C, 77, [.cell 2 30], [30]⟩ else some ⟨q9m, 154, [.cell 4 30], [30]⟩) else (bif Nat.blt t 11 then some ⟨q2m, 100, [.tmp 2], [41]⟩ else some ⟨q2g, 137, [.tmp 2], [41]⟩)) else (bif Nat.blt t 14 then (bif Nat.blt t 13 then some ⟨q5i, 11, [.tmp 4], [4]⟩ else some ⟨q4D, 11, [.tmp 4], [4]⟩) else (bif Nat.blt t 15 then some ⟨qbH, 89, [.tmp 4], [33]⟩ else (bif Nat.blt t 16 then some ⟨q5o, 12, [.tmp 4], [3]⟩ else some ⟨qbw, 70, [.cell 4 53], [53]⟩))))) else (bif Nat.blt t 26 then (bif Nat.blt t 21 then (bif Nat.blt t 19 then (bif Nat.blt t 18 then some ⟨qb0, 11, [.cell 2 32], [32]⟩ else some ⟨qaG, 81, [.tmp 6, .tmp 7], [33, 41]⟩) else (bif Nat.blt t 20 then some ⟨qav, 103, [.tmp 6, .tmp 7], [33, 41]⟩ else some ⟨qbJ, 29, [.tmp 4], [4]⟩)) else (bif Nat.blt t 23 then (bif Nat.blt t 22 then some ⟨qb3, 62, [.tmp 4], [4]⟩ else some ⟨qbr, 74, [.tmp 4], [4]⟩) else (bif Nat.blt t 24 then some ⟨qbB, 66, [.tmp 8, .tmp 9], [37, 41]⟩ else (bif Nat.blt t 25 then some ⟨qbo, 69, [.tmp 8, .tmp 9], [37, 41]⟩ else some ⟨qbh, 27, [.tmp 4], [4]⟩)))) else (bif Nat.blt t 30 then (bif Nat.blt t 28 then (bif Nat.blt t 27 then some ⟨q2Y, 87, [.cell 4 30], [30]⟩ else some ⟨qar, 37, [.tmp 4, .tmp 5], [37, 41]⟩) else (bif Nat.blt t 29 then some ⟨qan, 52, [.tmp 4, .tmp 5], [37, 41]⟩ else some ⟨qal, 21, [.cell 0 30, .tmp 1], [30, 33]⟩)) else (bif Nat.blt t 32 then (bif Nat.blt t 31 then some ⟨qaZ, 56, [.tmp 4], [4]⟩ else some ⟨q4S, 14, [.cell 2 30], [30]⟩) else (bif Nat.blt t 33 then some ⟨q5j, 2, [.tmp 0], [25]⟩ else (bif Nat.blt t 34 then some ⟨q4K, 15, [.tmp 6], [4]⟩ else some ⟨q5k, 9, [.tmp 2], [4]⟩)))))) else (bif Nat.blt t 53 then (bif Nat.blt t 44 then (bif Nat.blt t 39 then (bif Nat.blt t 37 then (bif Nat.blt t 36 then some ⟨q3r, 19, [.tmp 2], [25]⟩ else some ⟨q4V, 17, [.tmp 2], [4]⟩) else (bif Nat.blt t 38 then some ⟨q4x, 9, [.tmp 4], [4]⟩ else some ⟨q5h, 6, [.tmp 2], [4]⟩)) else (bif Nat.blt t 41 then (bif Nat.blt t 40 then some ⟨q4I, 9, [.tmp 3], [4]⟩ else some ⟨q5n, 9, [.tmp 4], [4]⟩) else (bif Nat.blt t 42 then some ⟨q5a, 33, [.tmp 2], [41]⟩ else (bif Nat.blt t 43 then some ⟨q56, 9, [.tmp 2], [4]⟩ else some ⟨q31, 32, [.tmp 2], [41]⟩)))) else (bif Nat.blt t 48 then (bif Nat.blt t 46 then (bif Nat.blt t 45 then some ⟨q3w, 22, [.tmp 2], [25]⟩ else some ⟨q3h, 18, [.tmp 4], [4]⟩) else (bif Nat.blt t 47 then some ⟨q5l, 33, [.tmp 2], [41]⟩ else some ⟨q5g, 19, [.tmp 6], [4]⟩)) else (bif Nat.blt t 50 then (bif Nat.blt t 49 then some ⟨q4R, 19, [.tmp 6], [4]⟩ else some ⟨q51, 35, [.tmp 4], [3]⟩) else (bif Nat.blt t 51 then some ⟨qai, 14, [.cell 2 53], [53]⟩ else (bif Nat.blt t 52 then some ⟨qaM, 22, [.tmp 4], [45]⟩ else some ⟨qas, 5, [.tmp 2], [3]⟩))))) else (bif Nat.blt t 62 then (bif Nat.blt t 57 then (bif Nat.blt t 55 then (bif Nat.blt t 54 then some ⟨qb4, 57, [.tmp 8, .tmp 9], [3, 41]⟩ else some ⟨qbA, 5, [.tmp 2], [3]⟩) else (bif Nat.blt t 56 then some ⟨qaF, 10, [.tmp 4], [4]⟩ else some ⟨qbd, 44, [.tmp 2, .tmp 3], [45, 4]⟩)) else (bif Nat.blt t 59 then (bif Nat.blt t 58 then some ⟨qaU, 22, [.tmp 4], [22]⟩ else some ⟨qae, 5, [.tmp 2], [45]⟩) else (bif Nat.blt t 60 then some ⟨qb8, 11, [], []⟩ else (bif Nat.blt t 61 then some ⟨qb1, 6, [.tmp 2], [3]⟩ else some ⟨qau, 8, [.tmp 2], [45]⟩)))) else (bif Nat.blt t 66 then (bif Nat.blt t 64 then (bif Nat.blt t 63 then some ⟨qaI, 64, [.tmp 8, .tmp 9], [3, 41]⟩ else some ⟨qaJ, 10, [.tmp 4], [4]⟩) else (bif Nat.blt t 65 then some ⟨qaQ, 28, [.tmp 2], [3]⟩ else some ⟨qbx, 75, [.tmp 2], [45]⟩)) else (bif Nat.blt t 68 then (bif Nat.blt t 67 then some ⟨qaY, 26, [.tmp 4], [4]⟩ else some ⟨qaq, 26, [.tmp 4], [4]⟩) else (bif Nat.blt t 69 then some ⟨qby, 28, [.tmp 4], [4]⟩ else (bif Nat.blt t 70 then some ⟨qak, 8, [.tmp 4], [3]⟩ else some ⟨qb7, 38, [.tmp 2], [37]⟩))))))) else (bif Nat.blt t 107 then (bif Nat.blt t 89 then (bif Nat.blt t 80 then (bif Nat.blt t 75 then (bif Nat.blt t 73 then (bif Nat.blt t 72 then some ⟨qbz, 20, [.tmp 4], [3]⟩ else some ⟨qaS, 20, [.tmp 2], [37]⟩) else (bif Nat.blt t 74 then some ⟨qbI, 83, [.tmp 4], [4]⟩ else some ⟨q29, 33, [.tmp 2], [25]⟩)) else (bif Nat.blt t 77 then (bif Nat.blt t 76 then some ⟨q50, 39, [.cell 6 28], [28]⟩ else some ⟨qaH, 19, [.tmp 4], [3]⟩) else (bif Nat.blt t 78 then some ⟨qaD, 9, [.tmp 3], [4]⟩ else (bif Nat.blt t 79 then some ⟨qbe, 95, [.tmp 6], [37]⟩ else some ⟨q4C, 17, [.tmp 2], [4]⟩)))) else (bif Nat.blt t 84 then (bif Nat.blt t 82 then (bif Nat.blt t 81 then some ⟨q4T, 8, [.tmp 4], [3]⟩ else some ⟨q3t, 19, [.tmp 4], [3]⟩) else (bif Nat.blt t 83 then some ⟨q34, 19, [.tmp 4], [3]⟩ else some ⟨q4w, 16, [.tmp 6], [3]⟩)) else (bif Nat.blt t 86 then (bif Nat.blt t 85 then some ⟨q3s, 46, [.tmp 2], [4]⟩ else some ⟨q4H, 14, [.tmp 4], [4]⟩) else (bif Nat.blt t 87 then some ⟨qbg, 37, [.tmp 2], [41]⟩ else (bif Nat.blt t 88 then some ⟨qaL, 51, [.cell 4 125, .tmp 5], [125, 41]⟩ else some ⟨qaC, 32, [.tmp 6], [3]⟩))))) else (bif Nat.blt t 98 then (bif Nat.blt t 93 then (bif Nat.blt t 91 then (bif Nat.blt t 90 then some ⟨qbk, 26, [.tmp 6], [4]⟩ else some ⟨qaN, 9, [.tmp 2], [129]⟩) else (bif Nat.blt t 92 then some ⟨qaA, 134, [], []⟩ else some ⟨qb5, 8, [.tmp 2], [3]⟩)) else (bif Nat.blt t 95 then (bif Nat.blt t 94 then some ⟨qaz, 25, [.tmp 2], [3]⟩ else some ⟨qax, 5, [.tmp 2], [3]⟩) else (bif Nat.blt t 96 then some ⟨qaB, 40, [.tmp 2], [41]⟩ else (bif Nat.blt t 97 then some ⟨qaf, 73, [.cell 4 125, .tmp 5], [125, 41]⟩ else some ⟨qbj, 57, [.tmp 6], [3]⟩)))) else (bif Nat.blt t 102 then (bif Nat.blt t 100 then (bif Nat.blt t 99 then some ⟨qbt, 22, [.tmp 6], [4]⟩ else some ⟨qaj, 9, [.tmp 4], [4]⟩) else (bif Nat.blt t 101 then some ⟨q7d, 8, [.tmp 3], [4]⟩ else some ⟨q7p, 8, [.tmp 2], [25]⟩)) else (bif Nat.blt t 104 then (bif Nat.blt t 103 then some ⟨q7t, 8, [.tmp 2], [26]⟩ else some ⟨q7Z, 26, [.tmp 4], [4]⟩) else (bif Nat.blt t 105 then some ⟨q1C, 39, [.tmp 4], [25]⟩ else (bif Nat.blt t 106 then none else some ⟨q8w, 10, [], []⟩)))))) else (bif Nat.blt t 125 then (bif Nat.blt t 116 then (bif Nat.blt t 111 then (bif Nat.blt t 109 then (bif Nat.blt t 108 then some ⟨q17, 21, [.tmp 6], [3]⟩ else some ⟨q71, 25, [.tmp 6], [4]⟩) else (bif Nat.blt t 110 then some ⟨q7k, 49, [.cell 4 125, .tmp 5], [125, 41]⟩ else some ⟨q6r, 6, [.cell 0 145], [145]⟩)) else (bif Nat.blt t 113 then (bif Nat.blt t 112 then some ⟨q7B, 18, [.tmp 4], [4]⟩ else none) else (bif Nat.blt t 114 then some ⟨q64, 49, [], []⟩ else (bif Nat.blt t 115 then some ⟨q73, 56, [], []⟩ else some ⟨q7V, 65, [], []⟩)))) else (bif Nat.blt t 120 then (bif Nat.blt t 118 then (bif Nat.blt t 117 then some ⟨q8o, 57, [.tmp 6, .tmp 7], [3, 149]⟩ else some ⟨q62, 32, [], []⟩) else (bif Nat.blt t 119 then some ⟨q7R, 133, [.tmp 6], [4]⟩ else some ⟨q7T, 17, [.tmp 4], [4]⟩)) else (bif Nat.blt t 122 then (bif Nat.blt t 121 then some ⟨q6n, 84, [.tmp 8], [3]⟩ else some ⟨q7x, 168, [.tmp 8, .tmp 9], [3, 4]⟩) else (bif Nat.blt t 123 then none else (bif Nat.blt t 124 then none else some ⟨q6G, 48, [.cell 4 125, .tmp 5], [125, 41]⟩))))) else (bif Nat.blt t 134 then (bif Nat.blt t 129 then (bif Nat.blt t 127 then (bif Nat.blt t 126 then some ⟨q8p, 26, [.tmp 4], [4]⟩ else some ⟨q77, 14, [], []⟩) else (bif Nat.blt t 128 then some ⟨q72, 20, [.tmp 2], [159]⟩ else some ⟨q8d, 10, [.tmp 2], [159]⟩)) else (bif Nat.blt t 131 then (bif Nat.blt t 130 then some ⟨q89, 7, [.tmp 6], [4]⟩ else some ⟨q6X, 9, [.tmp 6], [4]⟩) else (bif Nat.blt t 132 then some ⟨q7u, 11, [.tmp 6], [4]⟩ else (bif Nat.blt t 133 then some ⟨q6H, 22, [.tmp 6], [4]⟩ else some ⟨q6I, 76, [], []⟩)))) else (bif Nat.blt t 138 then (bif Nat.blt t 136 then (bif Nat.blt t 135 then some ⟨q6u, 7, [.tmp 2], [133]⟩ else some ⟨q7h, 33, [.tmp 2], [159]⟩) else (bif Nat.blt t 137 then some ⟨q7X, 15, [.tmp 6], [3]⟩ else some ⟨q83, 36, [.tmp 10], [3]⟩)) else (bif Nat.blt t 140 then (bif Nat.blt t 139 then some ⟨q7U, 6, [.tmp 2], [4]⟩ else some ⟨q7z, 12, [.tmp 4], [159]⟩) else (bif Nat.blt t 141 then some ⟨q6D, 10, [.tmp 2], [159]⟩ else (bif Nat.blt t 142 then some ⟨q6P, 28, [], []⟩ else some ⟨q7G, 28, [.tmp 8, .tmp 9], [3, 3]⟩)))))))) else none
theorem qgO : ∀ (f : Nat) (bd : Bd), bdt f = some bd → qf Tryz.prog pol f = some bd
  | 0, bd, h => by cases h
  | 1, bd, h => by cases h
  | 2, bd, h => bd2.trans h
  | 3, bd, h => bd3.trans h
  | 4, bd, h => bd4.trans h
  | 5, bd, h => bd5.trans h
  | 6, bd, h => bd6.trans h
  | 7, bd, h => bd7.trans h
  | 8, bd, h => bd8.trans h
  | 9, bd, h => bd9.trans h
  | 10, bd, h => qe6.trans h
  | 11, bd, h => qe3.trans h
  | 12, bd, h => qhz.trans h
  | 13, bd, h => qhw.trans h
  | 14, bd, h => qms.trans h
  | 15, bd, h => qho.trans h
  | 16, bd, h => qni.trans h
  | 17, bd, h => qlY.trans h
  | 18, bd, h => qlw.trans h
  | 19, bd, h => qkZ.trans h
  | 20, bd, h => qlq.trans h
  | 21, bd, h => qno.trans h
  | 22, bd, h => ql4.trans h
  | 23, bd, h => qmQ.trans h
  | 24, bd, h => qlM.trans h
  | 25, bd, h => qm9.trans h
  | 26, bd, h => qes.trans h
  | 27, bd, h => qkU.trans h
  | 28, bd, h => qmj.trans h
  | 29, bd, h => qlJ.trans h
  | 30, bd, h => qmp.trans h
  | 31, bd, h => qhm.trans h
  | 32, bd, h => qhp.trans h
  | 33, bd, h => qhE.trans h
  | 34, bd, h => qhK.trans h
  | 35, bd, h => qeE.trans h
  | 36, bd, h => qhl.trans h
  | 37, bd, h => qgN.trans h
  | 38, bd, h => qha.trans h
  | 39, bd, h => qhL.trans h
  | 40, bd, h => qhi.trans h
  | 41, bd, h => qhB.trans h
  | 42, bd, h => qht.trans h
  | 43, bd, h => qfC.trans h
  | 44, bd, h => qgm.trans h
  | 45, bd, h => qea.trans h
  | 46, bd, h => qhd.trans h
  | 47, bd, h => qhc.trans h
  | 48, bd, h => qhg.trans h
  | 49, bd, h => qh8.trans h
  | 50, bd, h => qlU.trans h
  | 51, bd, h => qlm.trans h
  | 52, bd, h => qlD.trans h
  | 53, bd, h => qlB.trans h
  | 54, bd, h => qmC.trans h
  | 55, bd, h => qmG.trans h
  | 56, bd, h => qlt.trans h
  | 57, bd, h => qlO.trans h
  | 58, bd, h => qkY.trans h
  | 59, bd, h => ql3.trans h
  | 60, bd, h => qlh.trans h
  | 61, bd, h => qm8.trans h
  | 62, bd, h => qlR.trans h
  | 63, bd, h => qlc.trans h
  | 64, bd, h => qnb.trans h
  | 65, bd, h => qlN.trans h
  | 66, bd, h => qm7.trans h
  | 67, bd, h => qmf.trans h
  | 68, bd, h => qlg.trans h
  | 69, bd, h => qnd.trans h
  | 70, bd, h => qmE.trans h
  | 71, bd, h => qly.trans h
  | 72, bd, h => qlG.trans h
  | 73, bd, h => qn7.trans h
  | 74, bd, h => qe2.trans h
  | 75, bd, h => qhH.trans h
  | 76, bd, h => qlA.trans h
  | 77, bd, h => qls.trans h
  | 78, bd, h => qmX.trans h
  | 79, bd, h => qh9.trans h
  | 80, bd, h => qhs.trans h
  | 81, bd, h => qe7.trans h
  | 82, bd, h => qgT.trans h
  | 83, bd, h => qhv.trans h
  | 84, bd, h => qec.trans h
  | 85, bd, h => qhD.trans h
  | 86, bd, h => ql6.trans h
  | 87, bd, h => qln.trans h
  | 88, bd, h => qn2.trans h
  | 89, bd, h => ql1.trans h
  | 90, bd, h => qmZ.trans h
  | 91, bd, h => qmw.trans h
  | 92, bd, h => qkT.trans h
  | 93, bd, h => ql5.trans h
  | 94, bd, h => qm0.trans h
  | 95, bd, h => qmz.trans h
  | 96, bd, h => qkS.trans h
  | 97, bd, h => qmB.trans h
  | 98, bd, h => qla.trans h
  | 99, bd, h => qmi.trans h
  | 100, bd, h => qhY.trans h
  | 101, bd, h => qjo.trans h
  | 102, bd, h => qiR.trans h
  | 103, bd, h => qiU.trans h
  | 104, bd, h => q6E.trans h
  | 105, bd, h => by cases h
  | 106, bd, h => qir.trans h
  | 107, bd, h => q8f.trans h
  | 108, bd, h => qj2.trans h
  | 109, bd, h => qi3.trans h
  | 110, bd, h => qhS.trans h
  | 111, bd, h => qih.trans h
  | 112, bd, h => by cases h
  | 113, bd, h => qiZ.trans h
  | 114, bd, h => qjd.trans h
  | 115, bd, h => qiq.trans h
  | 116, bd, h => qik.trans h
  | 117, bd, h => qjC.trans h
  | 118, bd, h => qig.trans h
  | 119, bd, h => qiF.trans h
  | 120, bd, h => qjy.trans h
  | 121, bd, h => qjr.trans h
  | 122, bd, h => by cases h
  | 123, bd, h => by cases h
  | 124, bd, h => qj6.trans h
  | 125, bd, h => qiY.trans h
  | 126, bd, h => qie.trans h
  | 127, bd, h => qjz.trans h
  | 128, bd, h => qio.trans h
  | 129, bd, h => qj1.trans h
  | 130, bd, h => qiA.trans h
  | 131, bd, h => qic.trans h
  | 132, bd, h => qi5.trans h
  | 133, bd, h => qi4.trans h
  | 134, bd, h => qhX.trans h
  | 135, bd, h => qix.trans h
  | 136, bd, h => qiL.trans h
  | 137, bd, h => qjb.trans h
  | 138, bd, h => qi1.trans h
  | 139, bd, h => qiO.trans h
  | 140, bd, h => qjf.trans h
  | 141, bd, h => qj8.trans h
  | 142, bd, h => qjI.trans h
  | n + 143, bd, h => by
    have hb : Nat.blt (n + 143) 143 = false := by
      cases h' : Nat.blt (n + 143) 143 with
      | false => rfl
      | true => exact absurd (Nat.le_of_ble_eq_true h') (by omega)
    unfold bdt at h
    rw [hb] at h
    cases h
theorem qhW : qif Tryz.prog pol := by
  intro f g k args G r G' hf hg
  unfold pol ppr at hf
  simp only at hf
  split at hf
  · injection hf with hf; subst hf; refine q8e (fun _ _ _ hg => ?_) hg; exact q0h qfU (fn := Tryz.f61) (t := 45) (e := 3) (bt := 4) (by kernel_rfl) (by kernel_rfl) (by kernel_rfl) (by kernel_rfl) (by kernel_rfl) k45 (by rw [k3]; simp) (by rw [z3]; decide) (by kernel_rfl) hg
  · injection hf with hf; subst hf; refine q8e (fun _ _ _ hg => ?_) hg; exact q0h qfU (fn := Tryz.f101) (t := 25) (e := 9) (bt := 4) (by kernel_rfl) (by kernel_rfl) (by kernel_rfl) (by kernel_rfl) (by kernel_rfl) k25 (by rw [k9]; simp) (by rw [z9]; decide) (by kernel_rfl) hg
  · injection hf with hf; subst hf; refine q8e (fun _ _ _ hg => ?_) hg; exact q0h qfU (fn := Tryz.f102) (t := 26) (e := 79) (bt := 4) (by kernel_rfl) (by kernel_rfl) (by kernel_rfl) (by kernel_rfl) (by kernel_rfl) k26 (by rw [k79]; simp) (by rw [z79]; decide) (by kernel_rfl) hg
  · injection hf with hf; subst hf; exact q2X (fn := Tryz.f90) (by kernel_rfl) (by kernel_rfl) (by kernel_rfl) (AnyW.maps_Clone qfc) (AnyW.maps_Clone_nil qfc) hg
  · cases hf
end Go.Proofs.YtplfjlcnffcenaaGreat.Vc
namespace Go.Proofs.YtplfjlcnffcenaaGreat.Vc
open Go.RowKit
theorem Qc {α β : Type} {c : Prop} [Decidable c] (a b : Option α) (f : α → Option β) : (if c then a else b).bind f = if c then a.bind f else b.bind f := by split <;> rfl
theorem mixed : (Tryz.prog).follows .mixedOrders = true := by kernel_rfl
noncomputable def evo : Orc := EE Tryz.prog T pol (D1 Tryz.prog T pol)
noncomputable def ev (f : FuncId) : Nat → List R → List (Nat × B) → Option (R × List (Nat × B)) := evo (.fn f)
theorem qjs {f k : Nat} {args : List R} {G G' : List (Nat × B)} {r : R} (h : ev f k args G = some (r, G')) : AC Tryz.prog f args G k fun r' hp' => r' = r ∧ hp' = G' := (qgd qfU (qhM qfU mixed) qhW).fn f k args G r G' h
noncomputable def bkk (id : Nat) (r : XS) : XS := r.bind (bkD id)
def rgn (o : Option S) : XS := o.bind fun s' => some (.normal, s')
noncomputable def fnn (f k : Nat) (res : List ResultVar) (rt : List TypeId) (r : XS) : Option (R × List (Nat × B)) := r.bind (qe9 T pol f k ⟨.skip, 0, res, rt⟩)
section
variable {f k : Nat} {s : S} {b : Code} {c : Prop} [Decidable c] {x y : XS} {α : Type} {o : Option α} {g : α → XS}
theorem q5r (i : Nat) : bkk i (some (.normal, s)) = some (.normal, s) := rfl
theorem qbO (i : Nat) : bkk i (some (.ret, s)) = some (.ret, s) := rfl
theorem qa6 (i j : Nat) : bkk i (some (.exit j, s)) = if j = i then some (.normal, s) else some (.exit j, s) := rfl
theorem q9U (i : Nat) : bkk i none = none := rfl
theorem qdc (i : Nat) : bkk i (if c then x else y) = if c then bkk i x else bkk i y := Qc _ _ _
theorem q9o (i : Nat) : bkk i (o.bind g) = o.bind fun a => bkk i (g a) := by cases o <;> rfl
theorem qa1 : rgn (some s) = some (.normal, s) := rfl
theorem q8Z : rgn none = none := rfl
theorem qdp (x y : Option S) : rgn (if c then x else y) = if c then rgn x else rgn y := Qc _ _ _
theorem q9D (g : α → Option S) : rgn (o.bind g) = o.bind fun a => rgn (g a) := by cases o <;> rfl
theorem q94 (res : List ResultVar) (rt : List TypeId) (p : Exit × S) : fnn f k res rt (some p) = qe9 T pol f k ⟨.skip, 0, res, rt⟩ p := rfl
theorem q9i (res : List ResultVar) (rt : List TypeId) : fnn f k res rt none = none := rfl
theorem qcb (res : List ResultVar) (rt : List TypeId) : fnn f k res rt (if c then x else y) = if c then fnn f k res rt x else fnn f k res rt y := Qc _ _ _
theorem qa0 (res : List ResultVar) (rt : List TypeId) : fnn f k res rt (o.bind g) = o.bind fun a => fnn f k res rt (g a) := by cases o <;> rfl
end
theorem qiT (f k : Nat) (args : List R) (G : List (Nat × B)) : ev f k args G = match pol.pr f with
  | some g => prx g k args G
  | none => (qf Tryz.prog pol f).bind fun bd => JR Tryz.prog T pol (D1 Tryz.prog T pol) evo Lim f k args G bd := qgH q06 q3U f k args G
section
variable {f k n : Nat} {s : S} {asg bd : Code} {c : Prop} [Decidable c] {x y : XS} {α : Type} {o : Option α} {g : α → XS}
end
def wst (q : RS) (d : Option Nat) : Option S := q.bind fun q => if q2F q.2 d = true then some (q.2.put d q.1) else none
def wsF (q : RS) (s : S) (o : Oper) : Option (S × Tx) := q.bind fun q => if q2F q.2 o.dst = true then (q8B pol s q.2 q.1 o.op).bind fun fp => some ((q.2.kill fp.ks).put o.dst q.1, (q.1, fp.wb.map fun x => (x, q.2.blk x)), fp) else none
def cll (q : Option (R × List (Nat × B))) (s : S) (bl rw ln : List Nat) : RS := q.bind fun q => if qdS ln q.1 q.2 = true then some (q.1.rn (ren (bl ++ rw) s.nx), s.aft (bl ++ rw) bl.length q.2) else none
section
variable {s : S} {o : Oper} {c : Prop} [Decidable c] {α : Type} {v : Option α} {ops l : List Oper} {A : List (List Nat)} {s0 : S} {m : Nat} {acc : List Tx}
theorem q8R (r : R) (d : Option Nat) : wst (some (r, s)) d = if q2F s d = true then some (s.put d r) else none := rfl
theorem q9F (d : Option Nat) : wst none d = none := rfl
theorem qdO (x y : RS) (d : Option Nat) : wst (if c then x else y) d = if c then wst x d else wst y d := Qc _ _ _
theorem q9R (g : α → RS) (d : Option Nat) : wst (v.bind g) d = v.bind fun a => wst (g a) d := by cases v <;> rfl
theorem q9a (r : R) (s' : S) : wsF (some (r, s')) s o = if q2F s' o.dst = true then (q8B pol s s' r o.op).bind fun fp => some ((s'.kill fp.ks).put o.dst r, (r, fp.wb.map fun x => (x, s'.blk x)), fp) else none := rfl
theorem q9T : wsF none s o = none := rfl
theorem qdj (x y : RS) : wsF (if c then x else y) s o = if c then wsF x s o else wsF y s o := Qc _ _ _
theorem q9G (g : α → RS) : wsF (v.bind g) s o = v.bind fun a => wsF (g a) s o := by cases v <;> rfl
theorem q8X (r : R) (hp : List (Nat × B)) (bl rw ln : List Nat) : cll (some (r, hp)) s bl rw ln = if qdS ln r hp = true then some (r.rn (ren (bl ++ rw) s.nx), s.aft (bl ++ rw) bl.length hp) else none := rfl
theorem q9s (g : α → Option (R × List (Nat × B))) (bl rw ln : List Nat) : cll (v.bind g) s bl rw ln = v.bind fun a => cll (g a) s bl rw ln := by cases v <;> rfl
end
def ldx (T : Ty) (cs : List C) (off : Nat) (t : TypeId) : Option R :=
  match T.k t with
  | .st _ | .arr _ _ => if off + T.sz t ≤ cs.length then some (.agg ((cs.drop off).take (T.sz t))) else none
  | .other => none
  | _ => (cs[off]?).map .c
theorem qdP (c : C) (cs : List C) (off : Nat) (t : TypeId) : ld T (c :: cs) off t = ldx T (c :: cs) off t := rfl
section
variable {α : Type} {enc : α → List D} {sz : Nat}
theorem Jm (hsz : ∀ x, (enc x).length = sz) : ∀ l : List α, (l.flatMap enc).length = l.length * sz
  | [] => by simp
  | x :: l => by rw [List.flatMap_cons, List.length_append, hsz, Jm hsz l, List.length_cons, Nat.add_mul]; omega
theorem q3d (hsz : ∀ x, (enc x).length = sz) : ∀ (l : List α) (k : Nat) (x : α), l[k]? = some x → ∃ post, (l.flatMap enc).drop (k * sz) = enc x ++ post
  | [], k, x, h => by simp at h
  | y :: l, 0, x, h => by
    simp only [List.getElem?_cons_zero, Option.some.injEq] at h
    subst h
    exact ⟨l.flatMap enc, by simp⟩
  | y :: l, k + 1, x, h => by
    obtain ⟨post, hp⟩ := q3d hsz l k x (by simpa using h)
    refine ⟨post, ?_⟩
    rw [List.flatMap_cons, show (k + 1) * sz = (enc y).length + k * sz by rw [hsz, Nat.add_mul]; omega, List.drop_length_add_append]
    exact hp
theorem q3S (hsz : ∀ x, (enc x).length = sz) (l : List α) (k fo : Nat) (t : TypeId) (h0 : 0 < T.sz t) (hf : fo + T.sz t ≤ sz) : ld T ((l.flatMap enc).map C.d) (k * sz + fo) t = (l[k]?).bind fun x => ld T ((enc x).map C.d) fo t := by
  have hl := Jm hsz l
  cases hk : l[k]? with
  | none =>
    have hle : l.length ≤ k := by simpa using hk
    have hle2 : l.length * sz ≤ k * sz := Nat.mul_le_mul_right _ hle
    show ld T _ _ t = none
    unfold ld
    split
    · rw [if_neg (by rw [List.length_map, hl]; omega)]
    · rw [if_neg (by rw [List.length_map, hl]; omega)]
    · rfl
    · rw [List.getElem?_eq_none (by rw [List.length_map, hl]; omega)]; rfl
  | some x =>
    obtain ⟨post, hp⟩ := q3d hsz l k x hk
    have hx := hsz x
    have hlen : k * sz + sz ≤ l.length * sz := by
      have : k < l.length := (List.getElem?_eq_some_iff.1 hk).1
      have := Nat.mul_le_mul_right sz (show k + 1 ≤ l.length from this)
      rw [Nat.add_mul] at this; omega
    have hd : ∀ n, n + fo ≤ sz → (((l.flatMap enc).map C.d).drop (k * sz + fo)).take n = (((enc x).map C.d).drop fo).take n := fun n hn => by
      rw [← List.drop_drop, ← List.map_drop, hp, List.map_append, List.drop_append_of_le_length (by simp [hx]; omega), List.take_append_of_le_length (by simp [hx]; omega)]
    show _ = ld T _ fo t
    unfold ld
    split
    · rw [if_pos (by rw [List.length_map, hl]; omega), if_pos (by rw [List.length_map, hx]; omega), hd _ (by omega)]
    · rw [if_pos (by rw [List.length_map, hl]; omega), if_pos (by rw [List.length_map, hx]; omega), hd _ (by omega)]
    · rfl
    · have h1 : (((l.flatMap enc).map C.d).drop (k * sz))[fo]? = ((enc x).map C.d)[fo]? := by
        rw [← List.map_drop, hp, List.map_append, List.getElem?_append_left (by simp [hx]; omega)]
      rw [List.getElem?_drop] at h1
      rw [h1]
theorem q0O (hsz : ∀ x, (enc x).length = 1) (l : List α) (k : Nat) (t : TypeId) (h : T.sz t = 1) : ld T ((l.flatMap enc).map C.d) k t = (l[k]?).bind fun x => ld T ((enc x).map C.d) 0 t := by
  have := q3S hsz l k 0 t (by omega) (by omega)
  rwa [Nat.add_zero, Nat.mul_one] at this
theorem q2C (hsz : ∀ x, (enc x).length = sz) (l : List α) (k : Nat) (t : TypeId) (h0 : 0 < T.sz t) (hf : T.sz t ≤ sz) : ld T ((l.flatMap enc).map C.d) (k * sz) t = (l[k]?).bind fun x => ld T ((enc x).map C.d) 0 t := by
  have := q3S hsz l k 0 t h0 (by omega)
  rwa [Nat.add_zero] at this
end
theorem qd5 (i : Nat) (ds : List D) : (ds.map C.d).all (C.far i) = true := by rw [List.all_map]; exact List.all_eq_true.2 fun _ _ => rfl
theorem q6b (ds : List D) : (ds.map C.d).all C.known = true := by rw [List.all_map]; exact List.all_eq_true.2 fun _ _ => rfl
theorem q9b (X : List Nat) (ds : List D) : (ds.map C.d).all (C.farF X) = true := by rw [List.all_map]; exact List.all_eq_true.2 fun _ _ => rfl
theorem q8S (ds : List D) : (ds.map C.d).flatMap C.rows = [] := by rw [List.flatMap_map]; exact List.flatMap_eq_nil_iff.2 fun _ _ => rfl
theorem qg7 (b : Builtin) (args : Array Operand) (ts : Array TypeId) : (Call.operands { callee := .builtin b, args := args, argTypes := ts }).toList = args.toList := by simp [Call.operands]
theorem qga (f : Operand) (args : Array Operand) (ts : Array TypeId) : (Call.operands { callee := .value f, args := args, argTypes := ts }).toList = f :: args.toList := by simp [Call.operands]
theorem qet (i : Nat) (ds : List D) : (ds.map C.d).map (C.fg i) = ds.map C.d := by rw [List.map_map]; rfl
end Go.Proofs.YtplfjlcnffcenaaGreat.Vc
namespace Go.Proofs.YtplfjlcnffcenaaGreat.Vc
open Go.RowKit
def ρ0 : Pl := ⟨fun _ => none, fun _ => False⟩
def L0 : Nat → Prop := (Q3 [] 0).live
theorem qmd (b : Nat) : ¬ Occ L0 ρ0 b := fun h => by
  rcases h with h | ⟨i, c, h1, h2⟩
  · exact h
  · cases h2
theorem rd0 {W : World} {v : Value} {d : D} (h : RD W (fun _ => False) v d) : RD W (Occ L0 ρ0) v d := h.occ fun b hb => qmd b hb
theorem qeH {W : World} {v : Value} {d : D} (h : PV W [v] [d]) : RR W L0 ρ0 v (.c (.d d)) := .c _ _ (.d _ _ (rd0 (h.2 0 v d rfl rfl)))
theorem qbG {W : World} {cs : Array Value} {ds : List D} (h : PV W cs.toList ds) : RR W L0 ρ0 (.agg cs) (.agg (ds.map C.d)) := by
  refine .agg _ _ (by simpa using h.1) (fun j c hj => ?_)
  rw [List.getElem?_map] at hj
  obtain ⟨d, h1, h2⟩ := Option.map_eq_some_iff.1 hj
  subst h2
  have hj' : j < cs.size := by have := (List.getElem?_eq_some_iff.1 h1).1; rw [← h.1] at this; simpa using this
  have h3 : cs.toList[j]? = some (cs.getD j undef) := by simp [Array.getD_eq_getD_getElem?, hj']
  exact .d _ _ (rd0 (h.2 j _ d h3 h1))
theorem q9v {f : FuncId} {rs : List R} {b : Bool} (h : ev f 0 rs [] = some (.c (.d (.bool b)), [])) {W : World} {vs : Array Value} (hr : RRs W L0 ρ0 vs rs) :
    Calls Tryz.prog f vs W fun e W' => e = .returned (.bool b) ∧ Below W.heap.size W W' := by
  have hac := qjs h
  have hnl : ∀ i, ¬ (Q3 [] 0).live i := fun i h => by cases h
  have hs : Sim ⟨fun _ => False, W, ρ0, 0, none⟩ ρ0 (Q3 [] 0) q1Y W :=
    ⟨Hd.none, rfl, fun i => .any _, fun i b c h => absurd h (hnl i), fun i h => absurd h (hnl i), fun i b c h => absurd h (hnl i), fun i j b c c' h => absurd h (hnl i), fun i h => absurd h (hnl i), qaW.refl _ _, fun b hb => hb.elim, fun i hi => absurd hi (Nat.not_lt_zero _), rfl, fun b hb => hb.elim⟩
  refine (hac.call ⟨fun _ => False, W, ρ0, 0, none⟩ ρ0 W vs rfl rfl rfl rfl hs hr).mono ?_
  rintro e W' ⟨v, r, hp', nx', ρ', rfl, ⟨rfl, rfl⟩, h3, h4⟩
  rw [h4.inv_bool]
  exact ⟨rfl, h3.kept.os, h3.kept.tape, h3.kept.output, h3.kept.size, fun k hk => h3.kept.block k hk (fun h => h)⟩
end Go.Proofs.YtplfjlcnffcenaaGreat.Vc
namespace Go.Proofs.YtplfjlcnffcenaaGreat.Vc
open Go.RowKit
set_option linter.unusedVariables false
set_option maxRecDepth 100000
abbrev w64 (n : Int) : Int := IntKind.i64.wrap n
def zT : Code → List Code
  | .loop c => c :: zT c
  | .seq a b => zT a ++ zT b
  | .cond _ a b => zT a ++ zT b
  | .block _ c => zT c
  | .rangeFunc _ _ a b => zT a ++ zT b
  | _ => []
def zG : Code → List (Code × Code)
  | .rangeFunc _ _ a b => (a, b) :: (zG a ++ zG b)
  | .loop c => zG c
  | .seq a b => zG a ++ zG b
  | .cond _ a b => zG a ++ zG b
  | .block _ c => zG c
  | _ => []
theorem q1E : ∀ (c b : Code), b ∈ zT c → (∀ b' ∈ zT b, b' ∈ zT c) ∧ ∀ q ∈ zG b, q ∈ zG c := by
  intro c
  induction c with
  | loop c ih =>
    intro b hb
    rcases List.mem_cons.1 hb with rfl | hb
    · exact ⟨fun b' h => List.mem_cons_of_mem _ h, fun q h => h⟩
    · exact ⟨fun b' h => List.mem_cons_of_mem _ ((ih b hb).1 b' h), fun q h => (ih b hb).2 q h⟩
  | seq a c iha ihc =>
    intro b hb
    rcases List.mem_append.1 hb with hb | hb
    · exact ⟨fun b' h => List.mem_append_left _ ((iha b hb).1 b' h), fun q h => List.mem_append_left _ ((iha b hb).2 q h)⟩
    · exact ⟨fun b' h => List.mem_append_right _ ((ihc b hb).1 b' h), fun q h => List.mem_append_right _ ((ihc b hb).2 q h)⟩
  | cond x a c iha ihc =>
    intro b hb
    rcases List.mem_append.1 hb with hb | hb
    · exact ⟨fun b' h => List.mem_append_left _ ((iha b hb).1 b' h), fun q h => List.mem_append_left _ ((iha b hb).2 q h)⟩
    · exact ⟨fun b' h => List.mem_append_right _ ((ihc b hb).1 b' h), fun q h => List.mem_append_right _ ((ihc b hb).2 q h)⟩
  | rangeFunc g ps a c iha ihc =>
    intro b hb
    rcases List.mem_append.1 hb with hb | hb
    · exact ⟨fun b' h => List.mem_append_left _ ((iha b hb).1 b' h), fun q h => List.mem_cons_of_mem _ (List.mem_append_left _ ((iha b hb).2 q h))⟩
    · exact ⟨fun b' h => List.mem_append_right _ ((ihc b hb).1 b' h), fun q h => List.mem_cons_of_mem _ (List.mem_append_right _ ((ihc b hb).2 q h))⟩
  | block id c ih => intro b hb; exact ih b hb
  | _ => intro b hb; cases hb
noncomputable def q1i (f : Nat) : Code := ((qf Tryz.prog pol f).map Bd.code).getD .skip
noncomputable def lbO (f key : Nat) : Code := (zb key (q1i f)).getD .skip
noncomputable def raO (f key : Nat) : Code := ((QK key (q1i f)).getD (.skip, .skip)).1
noncomputable def rbO (f key : Nat) : Code := ((QK key (q1i f)).getD (.skip, .skip)).2
structure okL (f : Nat) (c : Code) : Prop where
  lo : ∀ b ∈ zT c, lbO f (qC b) = b
  ro : ∀ q ∈ zG c, raO f (qC q.2) = q.1 ∧ rbO f (qC q.2) = q.2
theorem qT {f : Nat} {c : Code} (hc : q1i f = c) (h : (zT c).map (fun b => (zb (qC b) c).getD .skip) = zT c) (h' : (zG c).map (fun q => (QK (qC q.2) c).getD (.skip, .skip)) = zG c) : okL f c := by
  refine ⟨fun b hb => ?_, fun q hq => ?_⟩
  · unfold lbO
    rw [hc]
    obtain ⟨i, hi, rfl⟩ := List.mem_iff_getElem.1 hb
    have h1 : ((zT c).map (fun b => (zb (qC b) c).getD .skip))[i]? = (zT c)[i]? := by rw [h]
    rw [List.getElem?_map, List.getElem?_eq_getElem hi] at h1
    simpa using h1
  · unfold raO rbO
    rw [hc]
    obtain ⟨i, hi, rfl⟩ := List.mem_iff_getElem.1 hq
    have h1 : ((zG c).map (fun q => (QK (qC q.2) c).getD (.skip, .skip)))[i]? = (zG c)[i]? := by rw [h']
    rw [List.getElem?_map, List.getElem?_eq_getElem hi] at h1
    simp only [Option.map_some, Option.some.injEq] at h1
    rw [h1]
    exact ⟨rfl, rfl⟩
noncomputable def XEo (E : Orc) (f k : Nat) : Code → S → XS := XD Tryz.prog T pol E (D1 Tryz.prog T pol E f k) Lim f k
noncomputable def XL2 (E : Orc) (f k key : Nat) (s : S) : XS := Lim (fun s => (XEo E f k (lbO f key) s).bind (lpx pol f key k)) s
def cnd (r : R) (x y : XS) : XS :=
  match r with
  | .c (.d (.bool b)) => if b = true then x else y
  | _ => none
noncomputable def XE2 (E : Orc) (f k : Nat) : Code → S → XS
  | .skip, s => some (.normal, s)
  | .label _, s => some (.normal, s)
  | .ret, s => some (.ret, s)
  | .exit id, s => some (.exit id, s)
  | .seq a b, s => (XE2 E f k a s).bind (sqD fun s' => XE2 E f k b s')
  | .block id c, s => (XE2 E f k c s).bind (bkD id)
  | .cond c x y, s => cnd (s.ev c) (XE2 E f k x (s.ly c tt)) (XE2 E f k y (s.ly c ff))
  | .loop c, s => (nrm pol f (qC c) k s).bind fun s0 => XL2 E f k (qC c) s0
  | .rangeFunc g ps _ b, s => xRF pol E f g ps.toList (raO f (qC b)) (rbO f (qC b)) ((s.dzr pol.q).frz (JF (s.dzr pol.q) (pol.rk f (qC b))))
  | c, s => XEo E f k c s
section
variable {E : Orc} {f k : Nat} {s : S}
theorem qin (a b : Code) : XEo E f k (.seq a b) s = (XEo E f k a s).bind (sqD fun s' => XEo E f k b s') := rfl
theorem qcX (i : Nat) (b : Code) : XEo E f k (.block i b) s = (XEo E f k b s).bind (bkD i) := rfl
theorem qgv (p : Operand) (a b : Code) : XEo E f k (.cond p a b) s = cnd (s.ev p) (XEo E f k a (s.ly p tt)) (XEo E f k b (s.ly p ff)) := rfl
theorem qfr (b : Code) : XEo E f k (.loop b) s = (nrm pol f (qC b) k s).bind fun s0 => Lim (fun s => (XEo E f k b s).bind (lpx pol f (qC b) k)) s0 := rfl
theorem qfP : XEo E f k .skip s = some (.normal, s) := rfl
theorem qdg (l : Nat) : XEo E f k (.label l) s = some (.normal, s) := rfl
theorem qiJ : XEo E f k .ret s = some (.ret, s) := rfl
theorem qgA (i : Nat) : XEo E f k (.exit i) s = some (.exit i, s) := rfl
theorem qe1 (g : Operand) (ps : Array Tmp) (asg bd : Code) : XEo E f k (.rangeFunc g ps asg bd) s = xRF pol E f g ps.toList asg bd ((s.dzr pol.q).frz (JF (s.dzr pol.q) (pol.rk f (qC bd)))) := rfl
theorem qiG (a b : Code) : XE2 E f k (.seq a b) s = (XE2 E f k a s).bind (sqD fun s' => XE2 E f k b s') := rfl
theorem qcv (i : Nat) (b : Code) : XE2 E f k (.block i b) s = (XE2 E f k b s).bind (bkD i) := rfl
theorem qgr (p : Operand) (a b : Code) : XE2 E f k (.cond p a b) s = cnd (s.ev p) (XE2 E f k a (s.ly p tt)) (XE2 E f k b (s.ly p ff)) := rfl
theorem qcB (g : Operand) (ps : Array Tmp) (asg bd : Code) : XE2 E f k (.rangeFunc g ps asg bd) s = xRF pol E f g ps.toList (raO f (qC bd)) (rbO f (qC bd)) ((s.dzr pol.q).frz (JF (s.dzr pol.q) (pol.rk f (qC bd)))) := rfl
theorem qeI (b : Code) : XE2 E f k (.loop b) s = (nrm pol f (qC b) k s).bind fun s0 => XL2 E f k (qC b) s0 := rfl
end
theorem q82 {E : Orc} {f k : Nat} : ∀ (c : Code), okL f c → ∀ s, XEo E f k c s = XE2 E f k c s := by
  intro c
  induction c with
  | seq a b iha ihb =>
    intro h s
    have h1 := iha ⟨fun x hx => h.lo x (List.mem_append_left _ hx), fun x hx => h.ro x (List.mem_append_left _ hx)⟩
    have h2 := ihb ⟨fun x hx => h.lo x (List.mem_append_right _ hx), fun x hx => h.ro x (List.mem_append_right _ hx)⟩
    rw [qin, qiG, h1, funext h2]
  | block id c ih => intro h s; rw [qcX, qcv, ih ⟨h.lo, h.ro⟩ s]
  | cond x a b iha ihb =>
    intro h s
    have h1 := iha ⟨fun x hx => h.lo x (List.mem_append_left _ hx), fun x hx => h.ro x (List.mem_append_left _ hx)⟩
    have h2 := ihb ⟨fun x hx => h.lo x (List.mem_append_right _ hx), fun x hx => h.ro x (List.mem_append_right _ hx)⟩
    rw [qgv, qgr, h1, h2]
  | loop c ih =>
    intro h s
    rw [qfr, qeI]
    unfold XL2
    rw [h.lo c List.mem_cons_self]
  | rangeFunc g ps a b _ _ =>
    intro h s
    obtain ⟨h1, h2⟩ := h.ro (a, b) List.mem_cons_self
    rw [qe1, qcB]
    rw [h1, h2]
  | skip => intro _ s; rw [qfP]; rfl
  | label => intro _ s; rw [qdg]; rfl
  | ret => intro _ s; rw [qiJ]; rfl
  | exit => intro _ s; rw [qgA]; rfl
  | _ => intro _ s; unfold XE2; rfl
noncomputable def th2 (E : Orc) (f k : Nat) (r : XS) (b : Code) : XS := r.bind (sqD fun s' => XE2 E f k b s')
noncomputable def lp2 (E : Orc) (f k key : Nat) (o : Option S) : XS := o.bind fun s => XL2 E f k key s
def lz2 (f k key : Nat) (r : XS) : XS := r.bind (lpx pol f key k)
def ly2 (e : Exit) (o : Option S) : XS := o.bind fun s => some (e, s)
noncomputable def rs2 (E : Orc) (ops : List Oper) (o : Option S) (l : List Oper) : Option S := o.bind fun s => xr Tryz.prog T pol E ops l s
noncomputable def qbq (E : Orc) (ops : List Oper) (A : List (List Nat)) (s0 : S) (m : Nat) (o : Option (S × Tx)) (l : List Oper) (acc : List Tx) : Option S := o.bind fun q => xdp Tryz.prog T pol E ops A s0 m l q.1 (acc ++ [q.2])
section
variable {E : Orc} {f k key : Nat} {s : S} {b : Code} {c : Prop} [Decidable c] {x y : XS} {α β : Type} {o : Option α} {g : α → XS} {h : β → XS} {e : α ⊕ β}
theorem qd7 : XE2 E f k .skip s = some (.normal, s) := rfl
theorem qeT : XE2 E f k .ret s = some (.ret, s) := rfl
theorem qe0 (i : Nat) : XE2 E f k (.exit i) s = some (.exit i, s) := rfl
theorem qfh (a : Code) : XE2 E f k (.seq a b) s = th2 E f k (XE2 E f k a s) b := rfl
theorem q8O (i : Nat) : XE2 E f k (.block i b) s = bkk i (XE2 E f k b s) := rfl
theorem qcY (p : Operand) (a b : Code) : XE2 E f k (.cond p a b) s = match s.ev p with | .c (.d (.bool t)) => if t = true then XE2 E f k a (s.ly p tt) else XE2 E f k b (s.ly p ff) | _ => none := rfl
theorem q7Y (i : Nat) (ops : Array Oper) : XE2 E f k (.region i ops false) s = rgn (xr Tryz.prog T pol E ops.toList ops.toList s) := rfl
theorem qcr (i : Nat) (ops : Array Oper) : XE2 E f k (.region i ops true) s = rgn (D1 Tryz.prog T pol E f k i ops.toList ((s.dzr pol.q).frz (JF (s.dzr pol.q) (pol.rk f i)))) := rfl
theorem qcC : XE2 E f k (.loop b) s = lp2 E f k (qC b) (nrm pol f (qC b) k s) := rfl
theorem q5E : th2 E f k (some (.normal, s)) b = XE2 E f k b s := rfl
theorem qdh : th2 E f k (some (.ret, s)) b = some (.ret, s) := rfl
theorem q9E (i : Nat) : th2 E f k (some (.exit i, s)) b = some (.exit i, s) := rfl
theorem q9q : th2 E f k none b = none := rfl
theorem qc2 : th2 E f k (if c then x else y) b = if c then th2 E f k x b else th2 E f k y b := Qc _ _ _
theorem q9n : th2 E f k (o.bind g) b = o.bind fun a => th2 E f k (g a) b := by cases o <;> rfl
theorem qc3 : th2 E f k (Sum.elim g h e) b = Sum.elim (fun a => th2 E f k (g a) b) (fun a => th2 E f k (h a) b) e := by cases e <;> rfl
theorem q9c : lp2 E f k key (some s) = XL2 E f k key s := rfl
theorem q5O : lz2 f k key (some (.normal, s)) = ly2 .normal (nrm pol f key k s) := rfl
theorem qc1 : lz2 f k key (some (.ret, s)) = ly2 .ret (qcu k (pol.kx f key) (s.fin pol.q)) := rfl
theorem q9C (i : Nat) : lz2 f k key (some (.exit i, s)) = ly2 (.exit i) (qcu k (pol.kx f key) (s.fin pol.q)) := rfl
theorem q9J : lz2 f k key none = none := rfl
theorem qd3 : lz2 f k key (if c then x else y) = if c then lz2 f k key x else lz2 f k key y := Qc _ _ _
theorem q9r : lz2 f k key (o.bind g) = o.bind fun a => lz2 f k key (g a) := by cases o <;> rfl
theorem qbS : lz2 f k key (Sum.elim g h e) = Sum.elim (fun a => lz2 f k key (g a)) (fun a => lz2 f k key (h a)) e := by cases e <;> rfl
theorem q9e (x : Exit) : ly2 x (some s) = some (x, s) := rfl
theorem qbU (i : Nat) : bkk i (Sum.elim g h e) = Sum.elim (fun a => bkk i (g a)) (fun a => bkk i (h a)) e := by cases e <;> rfl
theorem qcA (res : List ResultVar) (rt : List TypeId) : fnn f k res rt (Sum.elim g h e) = Sum.elim (fun a => fnn f k res rt (g a)) (fun a => fnn f k res rt (h a)) e := by cases e <;> rfl
end
section
variable {E : Orc} {α β γ : Type} {e : α ⊕ β}
theorem q92 {δ : Type} (g : α → Option γ) (h : β → Option γ) (F : γ → Option δ) : (Sum.elim g h e).bind F = Sum.elim (fun a => (g a).bind F) (fun a => (h a).bind F) e := by cases e <;> rfl
end
section
variable {E : Orc} {s : S} {o : Oper} {c : Prop} [Decidable c] {α β : Type} {v : Option α} {e : α ⊕ β} {ops l : List Oper} {A : List (List Nat)} {s0 : S} {m : Nat} {acc : List Tx}
theorem qn8 : xst Tryz.prog T pol E o true s = wst (xo Tryz.prog T pol E (pre pol s o.op) o.op) o.dst := rfl
theorem qmn : xst Tryz.prog T pol E o false s = if q2F s o.dst = true then some (s.put o.dst (.tup [])) else none := rfl
theorem qiw : xsF Tryz.prog T pol E o true s = alX E s o (alC pol s o.op) (wsF (xo Tryz.prog T pol E s o.op) s o) := rfl
theorem qi0 : xsF Tryz.prog T pol E o false s = if q2F s o.dst = true then some (s.put o.dst (.tup []), (.tup [], []), ⟨[], [], [], [], []⟩) else none := rfl
theorem qiX : xr Tryz.prog T pol E ops [] s = some s := rfl
theorem qfG : xr Tryz.prog T pol E ops (o :: l) s = rs2 E ops (xgd Tryz.prog T pol E ops o s) l := rfl
theorem qfe : rs2 E ops (some s) l = xr Tryz.prog T pol E ops l s := rfl
theorem qgi : rs2 E ops none l = none := rfl
theorem qhU (x y : Option S) : rs2 E ops (if c then x else y) l = if c then rs2 E ops x l else rs2 E ops y l := Qc _ _ _
theorem qeu (g : α → Option S) : rs2 E ops (v.bind g) l = v.bind fun a => rs2 E ops (g a) l := by cases v <;> rfl
theorem qgg : xdp Tryz.prog T pol E ops A s0 0 l s acc = if okP A 0 [] acc = true ∧ okX ops A s0 acc 0 acc = true ∧ okK ops A acc = true ∧ okN acc 0 acc = true then xr Tryz.prog T pol E ops l s else none := by cases l <;> rfl
theorem qfO : xdp Tryz.prog T pol E ops A s0 (m + 1) (o :: l) s acc = qbq E ops A s0 m (xgF Tryz.prog T pol E ops o s) l acc := rfl
theorem qdw (x : Tx) : qbq E ops A s0 m (some (s, x)) l acc = xdp Tryz.prog T pol E ops A s0 m l s (acc ++ [x]) := rfl
theorem qcL : qbq E ops A s0 m none l acc = none := rfl
theorem qfv (x y : Option (S × Tx)) : qbq E ops A s0 m (if c then x else y) l acc = if c then qbq E ops A s0 m x l acc else qbq E ops A s0 m y l acc := Qc _ _ _
theorem qd0 (g : α → Option (S × Tx)) : qbq E ops A s0 m (v.bind g) l acc = v.bind fun a => qbq E ops A s0 m (g a) l acc := by cases v <;> rfl
theorem qg2 (g : FuncId) (zs : List (List Nat)) (rs : List R) (bl rw ln : List Nat) : Qh E s g zs rs bl rw ln = (q5Z s (bl ++ rw) ln zs rs).bind fun rs' => (cvG s (bl ++ rw) (bl ++ rw) 0).bind fun G =>
    if (bl ++ rw).all (fun i => (s.blk i).live) = true ∧ (bl ++ rw).Nodup ∧ ln.all (fun i => (s.blk i).live && !(bl ++ rw).contains i) = true ∧ bl.length ≤ G.length ∧ (List.range G.length).all (fun j => (lk G j .dead).isBlk == decide (j < bl.length)) = true then cll (E (.fn g) bl.length rs' G) s bl rw ln else none := rfl
end
theorem qgM (g k : Nat) (a : List R) (G : List (Nat × B)) : evo (.fn g) k a G = ev g k a G := rfl
noncomputable def qci (E : Orc) (f k : Nat) (args : List R) (G : List (Nat × B)) : Option (R × List (Nat × B)) := (qf Tryz.prog pol f).bind fun bd => JR Tryz.prog T pol (D1 Tryz.prog T pol) E Lim f k args G bd
theorem qg {f n : Nat} {c : Code} {res : List ResultVar} {rt : List TypeId} (hb : qf Tryz.prog pol f = some ⟨c, n, res, rt⟩) : q1i f = c := by unfold q1i; rw [hb]; rfl
theorem q91 {E : Orc} {f n : Nat} {c : Code} {res : List ResultVar} {rt : List TypeId} (hb : qf Tryz.prog pol f = some ⟨c, n, res, rt⟩) (hl : okL f c) (k : Nat) (args : List R) (G : List (Nat × B)) :
    qci E f k args G = if args.length ≤ n then fnn f k res rt (XE2 E f k c ⟨Zh args 0, G, G.length, n⟩) else none := by
  unfold qci
  rw [hb, Option.bind_some]
  unfold JR
  split
  · show Option.bind (XEo E f k c _) _ = _
    rw [q82 c hl]
    rfl
  · rfl
theorem qcZ {f k : Nat} (hp : pol.pr f = none) (args : List R) (G : List (Nat × B)) : ev f k args G = qci evo f k args G := by rw [qiT, hp]; rfl
theorem qQ {f n : Nat} {c : Code} {res : List ResultVar} {rt : List TypeId} (hb : qf Tryz.prog pol f = some ⟨c, n, res, rt⟩) (hp : pol.pr f = none) (hl : okL f c) (k : Nat) (args : List R) (G : List (Nat × B)) :
    ev f k args G = if args.length ≤ n then fnn f k res rt (XE2 evo f k c ⟨Zh args 0, G, G.length, n⟩) else none := by
  rw [qcZ hp, q91 hb hl]
section
variable {σ ε : Type}
def itT (step : σ → Option (σ ⊕ ε)) : Nat → σ → Option ε
  | 0, _ => none
  | n + 1, x => (step x).bind (Sum.elim (itT step n) some)
theorem q2D {step : σ → Option (σ ⊕ ε)} : ∀ {n m : Nat}, n ≤ m → ∀ x r, itT step n x = some r → itT step m x = some r
  | 0, _, _, x, r, h => by cases h
  | n + 1, 0, h, _, _, _ => by omega
  | n + 1, m + 1, h, x, r, hx => by
    unfold itT at hx ⊢
    obtain ⟨a, h1, h2⟩ := Option.bind_eq_some_iff.1 hx
    rw [h1, Option.bind_some]
    cases a with
    | inl y => exact q2D (by omega) y r h2
    | inr e => exact h2
noncomputable def qS (step : σ → Option (σ ⊕ ε)) (x : σ) : Option ε := open Classical in if h : ∃ r n, itT step n x = some r then some (Classical.choose h) else none
theorem q1F {step : σ → Option (σ ⊕ ε)} {n : Nat} {x : σ} {r : ε} (h : itT step n x = some r) : qS step x = some r := by
  have hex : ∃ r n, itT step n x = some r := ⟨r, n, h⟩
  unfold qS
  rw [dif_pos hex]
  obtain ⟨m, hm⟩ := Classical.choose_spec hex
  have h1 := q2D (Nat.le_max_left n m) _ _ h
  have h2 := q2D (Nat.le_max_right n m) _ _ hm
  rw [h1] at h2
  injection h2 with h2
  rw [← h2]
theorem q1k {step : σ → Option (σ ⊕ ε)} {x : σ} {r : ε} (h : qS step x = some r) : ∃ n, itT step n x = some r := by
  unfold qS at h
  split at h
  · rename_i hex
    injection h with h
    obtain ⟨m, hm⟩ := Classical.choose_spec hex
    exact ⟨m, h ▸ hm⟩
  · cases h
theorem q8c (step : σ → Option (σ ⊕ ε)) (x : σ) : qS step x = (step x).bind (Sum.elim (qS step) some) := by
  refine q1D (fun r h => ?_) (fun r h => ?_)
  · obtain ⟨n, hn⟩ := q1k h
    cases n with
    | zero => cases hn
    | succ n =>
      unfold itT at hn
      obtain ⟨a, h1, h2⟩ := Option.bind_eq_some_iff.1 hn
      rw [h1, Option.bind_some]
      cases a with
      | inl y => exact q1F h2
      | inr e => exact h2
  · obtain ⟨a, h1, h2⟩ := Option.bind_eq_some_iff.1 h
    cases a with
    | inl y =>
      obtain ⟨n, hn⟩ := q1k h2
      refine q1F (n := n + 1) ?_
      unfold itT
      rw [h1]; exact hn
    | inr e =>
      refine q1F (n := 1) ?_
      unfold itT
      rw [h1]; exact h2
end
theorem qd1 {F : S → XS} {σ ε : Type} {st : σ → S} {ex : ε → Exit × S} {step : σ → Option (σ ⊕ ε)} (hne : ∀ e, (ex e).1 ≠ .normal)
    (h : ∀ x, F (st x) = (step x).bind (Sum.elim (fun y => some (.normal, st y)) (fun e => some (ex e)))) (x : σ) : Lim F (st x) = (qS step x).bind fun e => some (ex e) := by
  have hit : ∀ (n : Nat) (x : σ), iter n F (st x) = (itT step n x).bind fun e => some (ex e) := by
    intro n
    induction n with
    | zero => intro x; rfl
    | succ n ih =>
      intro x
      unfold iter itT
      rw [h x]
      cases step x with
      | none => rfl
      | some a =>
        cases a with
        | inl y => exact ih y
        | inr e =>
          show sqD (iter n F) (ex e) = some (ex e)
          have := hne e
          generalize ex e = q at this
          obtain ⟨z, t⟩ := q
          cases z <;> first | exact absurd rfl this | rfl
  refine q1D (fun r hr => ?_) (fun r hr => ?_)
  · obtain ⟨n, hn⟩ := q0Q hr
    rw [hit n x] at hn
    obtain ⟨e, h1, h2⟩ := Option.bind_eq_some_iff.1 hn
    rw [q1F h1]; exact h2
  · obtain ⟨e, h1, h2⟩ := Option.bind_eq_some_iff.1 hr
    obtain ⟨n, hn⟩ := q1k h1
    refine q3C (n := n) ?_
    rw [hit n x, hn]; exact h2
theorem q4t {E : Orc} {f k key : Nat} {c : Code} {σ ε : Type} {st : σ → S} {ex : ε → Exit × S} {step : σ → Option (σ ⊕ ε)} (hc : lbO f key = c) (hl : okL f c) (hne : ∀ e, (ex e).1 ≠ .normal)
    (h : ∀ x, lz2 f k key (XE2 E f k c (st x)) = (step x).bind (Sum.elim (fun y => some (.normal, st y)) (fun e => some (ex e)))) (x : σ) : XL2 E f k key (st x) = (qS step x).bind fun e => some (ex e) := by
  refine qd1 hne (fun x => ?_) x
  rw [hc, q82 c hl]
  exact h x
noncomputable def xk (E : Orc) (f k key : Nat) (r : XS) : XS := r.bind fun p => match p.1 with | .normal => XL2 E f k key p.2 | e => some (e, p.2)
section
variable {E : Orc} {f k key : Nat} {s : S} {c : Prop} [Decidable c] {α β : Type} {o : Option α} {g : α → XS} {h : β → XS} {e : α ⊕ β}
theorem q6c : xk E f k key (some (.normal, s)) = XL2 E f k key s := rfl
theorem qcl (i : Nat) : xk E f k key (some (.exit i, s)) = some (.exit i, s) := rfl
theorem qej : xk E f k key (some (.ret, s)) = some (.ret, s) := rfl
theorem qdG : xk E f k key none = none := rfl
theorem qgb (x y : XS) : xk E f k key (if c then x else y) = if c then xk E f k key x else xk E f k key y := Qc _ _ _
theorem qcx : xk E f k key (o.bind g) = o.bind fun a => xk E f k key (g a) := by cases o <;> rfl
theorem qft : xk E f k key (Sum.elim g h e) = Sum.elim (fun a => xk E f k key (g a)) (fun a => xk E f k key (h a)) e := by cases e <;> rfl
end
theorem qd4 {E : Orc} {f k key : Nat} {c : Code} {s : S} (hc : lbO f key = c) (hl : okL f c) : XL2 E f k key s = xk E f k key (lz2 f k key (XE2 E f k c s)) := by
  unfold XL2
  rw [qgj, hc, q82 c hl]
  show (lz2 f k key (XE2 E f k c s)).bind _ = _
  unfold xk
  congr 1
  funext p
  obtain ⟨e, t⟩ := p
  cases e <;> first | rfl | (show Lim _ t = Lim _ t; rw [hc])
theorem zJ {α : Type} {c : Prop} [Decidable c] (x y : α) : (if c then some x else some y) = some (if c then x else y) := by split <;> rfl
theorem Q4 {f key : Nat} {c b : Code} (hc : q1i f = c) (h : (zb key c).getD .skip = b) : lbO f key = b := by unfold lbO; rw [hc]; exact h
theorem zx {f : Nat} {c b : Code} (hl : okL f c) (hb : b ∈ zT c) : okL f b := ⟨fun x hx => hl.lo x ((q1E c b hb).1 x hx), fun q hq => hl.ro q ((q1E c b hb).2 q hq)⟩
section
variable {f k key : Nat} {s : S} {c : Prop} [Decidable c] {α β : Type} {o : Option α} {g : α → XS} {h : β → XS} {e : α ⊕ β}
end
section
variable {σ ε : Type} (f k : Nat) (enc : σ → List R × List (Nat × B)) (ex : ε → R × List (Nat × B))
variable {f k enc ex}
end
end Go.Proofs.YtplfjlcnffcenaaGreat.Vc
namespace Go.Proofs.YtplfjlcnffcenaaGreat.Vc
open Go.RowKit
set_option linter.unusedVariables false
set_option linter.unusedSectionVars false
section
variable {α : Type} {E : α → List D} {n : Nat}
theorem q6s (h : ∀ x, (E x).length = n) : ∀ (v : List α) (a : Nat), (v.flatMap E).drop (a * n) = (v.drop a).flatMap E
  | [], a => by simp
  | x :: v, 0 => by simp
  | x :: v, a + 1 => by
    rw [List.flatMap_cons, show (a + 1) * n = (E x).length + a * n by rw [h, Nat.add_mul]; omega, List.drop_length_add_append]
    exact q6s h v a
theorem q2E (h : ∀ x, (E x).length = n) : ∀ (v : List α) (a : Nat), (v.flatMap E).take (a * n) = (v.take a).flatMap E
  | [], a => by simp
  | x :: v, 0 => by simp
  | x :: v, a + 1 => by
    rw [List.flatMap_cons, show (a + 1) * n = (E x).length + a * n by rw [h, Nat.add_mul]; omega, List.take_length_add_append, List.take_succ_cons, List.flatMap_cons, q2E h v a]
theorem qgz (v w : List α) : v.flatMap E ++ w.flatMap E = (v ++ w).flatMap E := List.flatMap_append.symm
theorem qdM (v w : List α) : (v.flatMap E).map C.d ++ (w.flatMap E).map C.d = ((v ++ w).flatMap E).map C.d := by rw [← List.map_append, qgz]
theorem q43 (v : List α) (x : α) : (v.flatMap E).map C.d ++ (E x).map C.d = ((v ++ [x]).flatMap E).map C.d := by simp
theorem q8n {β : Type} : ∀ (ys p q : List β) (o : Nat), o + ys.length ≤ p.length → spl (p ++ q) o ys = spl p o ys ++ q
  | [], p, q, o, _ => rfl
  | y :: ys, p, q, o, h => by
    rw [List.length_cons] at h
    rw [spl, spl, List.set_append_left _ _ (by omega), q8n ys _ q (o + 1) (by rw [List.length_set]; omega)]
theorem q4z {β : Type} : ∀ (ys p q : List β) (o : Nat), spl (p ++ q) (p.length + o) ys = p ++ spl q o ys
  | [], p, q, o => rfl
  | y :: ys, p, q, o => by
    rw [spl, spl, List.set_append_right _ _ (by omega), show p.length + o - p.length = o by omega, show p.length + o + 1 = p.length + (o + 1) by omega, q4z ys]
theorem q4X {β : Type} : ∀ (ys p pre : List β), p.length = ys.length → spl (pre ++ p) pre.length ys = pre ++ ys
  | [], p, pre, h => by rw [List.eq_nil_of_length_eq_zero h]; rfl
  | y :: ys, [], pre, h => by cases h
  | y :: ys, x :: p, pre, h => by
    have e : (pre ++ x :: p).set pre.length y = (pre ++ [y]) ++ p := by rw [List.set_append_right _ _ (Nat.le_refl _), Nat.sub_self]; simp
    rw [spl, e, show pre.length + 1 = (pre ++ [y]).length by simp, q4X ys p _ (by simpa using h)]
    simp
theorem q7N {β : Type} : ∀ (ys : List β) (o : Nat), spl [] o ys = []
  | [], o => rfl
  | y :: ys, o => by rw [spl, List.set_nil, q7N ys]
theorem qam (h : ∀ x, (E x).length = n) : ∀ (v : List α) (i : Nat) (x : α), spl (v.flatMap E) (i * n) (E x) = (v.set i x).flatMap E
  | [], i, x => by rw [List.flatMap_nil, q7N]; rfl
  | y :: v, 0, x => by
    rw [List.flatMap_cons, Nat.zero_mul, q8n _ _ _ _ (by rw [h, h]; omega)]
    have := q4X (E x) (E y) [] (by rw [h, h])
    simp only [List.nil_append, List.length_nil] at this
    rw [this]; rfl
  | y :: v, i + 1, x => by
    rw [List.flatMap_cons, show (i + 1) * n = (E y).length + i * n by rw [h, Nat.add_mul]; omega, q4z, qam h v i x]
    rfl
theorem q4f {β γ : Type} (f : β → γ) : ∀ (ys cs : List β) (o : Nat), spl (cs.map f) o (ys.map f) = (spl cs o ys).map f
  | [], cs, o => rfl
  | y :: ys, cs, o => by rw [List.map_cons, spl, spl, ← List.map_set, q4f f ys]
theorem qc4 (h : ∀ x, (E x).length = n) (v : List α) (i : Nat) (x : α) : spl ((v.flatMap E).map C.d) (i * n) ((E x).map C.d) = ((v.set i x).flatMap E).map C.d := by rw [q4f, qam h]
theorem qbi (h : ∀ x, (E x).length = n) {fo : Nat} {d : D} (g : α → α) (hf : fo < n) (hg : ∀ x, E (g x) = (E x).set fo d) : ∀ (v : List α) (i : Nat), (v.flatMap E).set (i * n + fo) d = (v.modify i g).flatMap E
  | [], i => by simp
  | y :: v, 0 => by
    rw [List.flatMap_cons, Nat.zero_mul, Nat.zero_add, List.set_append_left _ _ (by rw [h]; exact hf), ← hg]
    simp
  | y :: v, i + 1 => by
    rw [List.flatMap_cons, show (i + 1) * n + fo = (E y).length + (i * n + fo) by rw [h, Nat.add_mul]; omega, List.set_append_right _ _ (by omega), show (E y).length + (i * n + fo) - (E y).length = i * n + fo by omega, qbi h g hf hg v i]
    simp
end
def eI (x : Int) : List D := [.int .i64 x]
def eS (x : ByteArray) : List D := [.str x]
def eL {α : Type} (n : Nat) (E : α → List D) (v : List α) : List D := [.sl n v.length (v.flatMap E)]
theorem q86 {α β γ : Type} (f : β → γ) (o : Option α) (g : α → Option β) : (o.bind g).map f = o.bind fun x => (g x).map f := by cases o <;> rfl
theorem qjF (P : Program) (T : Ty) (d : Nat) (t : TypeId) (x y : R) : eqR P T (d + 1) t x y =
    match T.k t, x, y with
    | .int _, .c (.d (.int k a)), .c (.d (.int k' b)) => if k = k' then some (a == b) else none
    | .bool, .c (.d (.bool a)), .c (.d (.bool b)) => some (a == b)
    | .str, .c (.d (.str a)), .c (.d (.str b)) => some (a.toList == b.toList)
    | .st fs, .agg xs, .agg ys => if q5d P t = true then qeY T (eqR P T d) xs ys fs else none
    | _, _, _ => none := by
  generalize hk : T.k t = kd
  unfold eqR
  rw [hk]
  cases kd <;> first
    | rfl
    | (rcases x with (c | _ | _ | _) <;> first
        | rfl
        | (rcases y with (c' | _ | _ | _) <;> first
            | rfl
            | (cases c <;> first
                | rfl
                | (cases c' <;> first
                    | rfl
                    | (rename_i d1 d2; cases d1 <;> first
                        | rfl
                        | (cases d2 <;> rfl))))))
section
variable {α β : Type} {c : Prop} [Decidable c] (a b : List α)
theorem qbP (f : α → Bool) : (if c then a else b).any f = if c then a.any f else b.any f := by split <;> rfl
theorem qdy (f : α → β) : (if c then a else b).map f = if c then a.map f else b.map f := by split <;> rfl
theorem q4e : (if c then a else b).isEmpty = if c then a.isEmpty else b.isEmpty := by split <;> rfl
theorem q3l [BEq α] (x : α) : (if c then a else b).contains x = if c then a.contains x else b.contains x := by split <;> rfl
end
def qhF (op : UnOp) (r : R) (s : S) : RS :=
  match op, r with
  | .not, .c (.d (.bool b)) => some (.c (.d (.bool (!b))), s)
  | .neg, .c (.d (.int k n)) => some (.c (.d (.int k (k.wrap (0 - n)))), s)
  | _, _ => none
theorem qeS (s : S) (op : UnOp) (x : Operand) : xUn s op x = qhF op (s.ev x) s := by
  unfold xUn qhF
  generalize s.ev x = r
  cases op <;> first
    | rfl
    | (cases r with
       | c c => cases c with
         | d d => cases d <;> rfl
         | _ => rfl
       | _ => rfl)
def lkq (ok : Bool) (z : R) : Option (Nat × R × Nat) → Option R
  | some q => some (tt2 q.2.1 ok true)
  | none => some (tt2 z ok false)
theorem qe8 (T : Ty) (s : S) (t : TypeId) (x y : Operand) (ok : Bool) : Zz T s t x y ok =
    match T.k t, q0F s x, (s.ev y).key with
    | .mp k e, some es, some kv => if plK (T.k k) kv = true ∧ es.all (fun q => plK (T.k k) q.1) = true then (zR T e).bind fun z => lkq ok z (fnd kv es 0) else none
    | _, _, _ => none := by
  unfold Zz
  generalize T.k t = kd
  generalize q0F s x = m
  generalize (s.ev y).key = v
  cases kd <;> first
    | rfl
    | (cases m <;> first
        | rfl
        | (cases v <;> first
            | rfl
            | (simp only
               split
               · congr 1
                 funext z
                 cases fnd _ _ _ <;> rfl
               · rfl)))
def Qi {α : Type} (a b : Option α) : Prop := ∀ r, a = some r → b = some r
theorem Qi.refl {α : Type} (a : Option α) : Qi a a := fun _ h => h
theorem Qi.none {α : Type} (a : Option α) : Qi Option.none a := fun _ h => by cases h
theorem Qi.bind {α β : Type} {a b : Option α} {f g : α → Option β} (h : Qi a b) (hf : ∀ x, Qi (f x) (g x)) : Qi (a.bind f) (b.bind g) := fun r hr => by
  obtain ⟨x, h1, h2⟩ := Option.bind_eq_some_iff.1 hr
  rw [h x h1]
  exact hf x r h2
theorem Qi.ite {α : Type} {c : Prop} [Decidable c] {a b a' b' : Option α} (h : Qi a a') (h' : Qi b b') : Qi (if c then a else b) (if c then a' else b') := by
  split
  · exact h
  · exact h'
theorem Qi.sum {α β γ : Type} {f f' : α → Option γ} {g g' : β → Option γ} {e : α ⊕ β} (h : ∀ x, Qi (f x) (f' x)) (h' : ∀ x, Qi (g x) (g' x)) : Qi (Sum.elim f g e) (Sum.elim f' g' e) := by
  cases e with
  | inl x => exact h x
  | inr x => exact h' x
theorem Qi.lim {σ ε : Type} {f g : σ → Option (σ ⊕ ε)} {n : Nat} {x : σ} (h : ∀ x, Qi (f x) (g x)) : Qi (itT f n x) (qS g x) := by
  have key : ∀ (n : Nat) (x : σ), Qi (itT f n x) (itT g n x) := by
    intro n
    induction n with
    | zero => intro x r hr; cases hr
    | succ n ih =>
      intro x
      unfold itT
      refine Qi.bind (h x) (fun y => ?_)
      cases y with
      | inl y => exact ih y
      | inr e => exact Qi.refl _
  exact fun r hr => q1F (key n x r hr)
def itR {σ ε : Type} (step : (σ → Option ε) → σ → Option ε) : Nat → σ → Option ε
  | 0, _ => none
  | n + 1, x => step (itR step n) x
theorem Qi.rec {σ ε : Type} {c s : (σ → Option ε) → σ → Option ε} {f : σ → Option ε} (hs : ∀ x, f x = s f x) (h : ∀ F F', (∀ y, Qi (F y) (F' y)) → ∀ x, Qi (c F x) (s F' x)) : ∀ (n : Nat) (x : σ), Qi (itR c n x) (f x) := by
  intro n
  induction n with
  | zero => intro x r hr; cases hr
  | succ n ih =>
    intro x
    rw [hs x]
    exact h _ _ ih x
def spr (cs : List C) (o : Nat) (ys : List C) : List C := spl cs o ys
theorem q88 (t : TypeId) (cs ys : List C) (o : Nat) : (B.blk t cs).set o ys = .blk t (spl cs o ys) := rfl
theorem q6W (e : TypeId) (sz : Nat) (cs ys : List C) (o : Nat) : (B.row e sz cs).set o ys = .row e sz (spr cs o ys) := rfl
def xsl (T : Ty) (s : S) (t : TypeId) (x : R) (lo hi : Option Operand) : RS :=
  match x, T.k t with
  | .c (.d (.str b)), .str =>
    match s.bd lo 0, s.bd hi b.size with
    | some l, some h => if 0 ≤ l ∧ l ≤ h ∧ h ≤ b.size then some (.c (.d (.str (b.extract l.toNat h.toNat))), s) else none
    | _, _ => none
  | .c (.d (.sl sz n cs)), .sl e =>
    if T.k e ≠ .other ∧ T.sz e = sz then
      match s.bd lo 0, s.bd hi n with
      | some l, some h => if 0 ≤ l ∧ l ≤ h ∧ h ≤ n then some (.c (.d (.sl sz (h.toNat - l.toNat) ((cs.drop (l.toNat * sz)).take ((h.toNat - l.toNat) * sz)))), s) else none
      | _, _ => none
    else none
  | .c (.own id sz off n), .sl e =>
    if T.k e ≠ .other ∧ T.sz e = sz then
      match s.bd lo 0, s.bd hi n with
      | some l, some h => if 0 ≤ l ∧ l ≤ h ∧ h ≤ n then (if l = 0 ∨ l < n then some (.c (.own id sz (off + l.toNat) (h.toNat - l.toNat)), s) else some (.c (.d (.sl sz 0 [])), s)) else none
      | _, _ => none
    else none
  | .c .nils, .sl e =>
    if T.k e ≠ .other then
      match s.bd lo 0, s.bd hi 0 with
      | some l, some h => if l = 0 ∧ h = 0 then some (.c .nils, s) else none
      | _, _ => none
    else none
  | _, _ => none
theorem q8g (T : Ty) (s : S) (t : TypeId) (x : Operand) (lo hi : Option Operand) : q3n T s t x lo hi none = xsl T s t (s.ev x) lo hi := by
  unfold q3n xsl
  generalize s.ev x = r
  generalize T.k t = kd
  cases r with
  | c c =>
    cases c with
    | d d => cases d <;> cases kd <;> rfl
    | _ => cases kd <;> rfl
  | _ => rfl
section
variable {T : Ty} {s : S} {t : TypeId} {lo hi : Option Operand}
theorem qcR {b : ByteArray} (hk : T.k t = .str) : xsl T s t (.c (.d (.str b))) lo hi =
    match s.bd lo 0, s.bd hi b.size with
    | some l, some h => if 0 ≤ l ∧ l ≤ h ∧ h ≤ b.size then some (.c (.d (.str (b.extract l.toNat h.toNat))), s) else none
    | _, _ => none := by unfold xsl; rw [hk]
theorem qcN {id sz off n : Nat} : xsl T s t (.c (.own id sz off n)) lo hi =
    match T.k t with
    | .sl e => if T.k e ≠ .other ∧ T.sz e = sz then
      match s.bd lo 0, s.bd hi n with
      | some l, some h => if 0 ≤ l ∧ l ≤ h ∧ h ≤ n then (if l = 0 then some (.c (.own id sz off (min h.toNat n)), s) else if l < n then some (.c (.own id sz (off + l.toNat) (h.toNat - l.toNat)), s) else some (.c (.d (.sl sz 0 [])), s)) else none
      | _, _ => none
      else none
    | _ => none := by
  unfold xsl
  cases T.k t <;> try rfl
  dsimp only
  split
  · split
    · split
      · rename_i l h _ _ hc
        by_cases h0 : l = 0
        · subst h0
          rw [if_pos (.inl rfl), if_pos rfl, show min h.toNat n = h.toNat by omega]
          rfl
        · rw [if_neg h0]
          by_cases h1 : l < n
          · rw [if_pos (.inr h1), if_pos h1]
          · rw [if_neg (by rintro (q | q); exact h0 q; exact h1 q), if_neg h1]
      · rfl
    · rfl
  · rfl
end
def qhC {α : Type} (s : S) (E : α → List D) (n : Nat) (v : List α) (l h : Option Int) : RS :=
  match l, h with
  | some l, some h => if 0 ≤ l ∧ l ≤ h ∧ h ≤ v.length then some (.c (.d (.sl n ((v.drop l.toNat).take (h.toNat - l.toNat)).length (((v.drop l.toNat).take (h.toNat - l.toNat)).flatMap E))), s) else none
  | _, _ => none
theorem qfz {α : Type} {E : α → List D} {n : Nat} (h : ∀ x, (E x).length = n) {T : Ty} {s : S} {t e : TypeId} (v : List α) (lo hi : Option Operand) (hk : T.k t = .sl e) (hz : T.sz e = n) (ho : T.k e ≠ .other) :
    xsl T s t (.c (.d (.sl n v.length (v.flatMap E)))) lo hi = qhC s E n v (s.bd lo 0) (s.bd hi v.length) := by
  unfold xsl
  simp only [hk]
  rw [if_pos ⟨ho, hz⟩]
  unfold qhC
  cases s.bd lo 0 with
  | none => rfl
  | some l =>
    cases s.bd hi v.length with
    | none => rfl
    | some h' =>
      simp only
      split
      · rename_i hc
        rw [q6s h, q2E h, List.length_take, List.length_drop, Nat.min_eq_left (by omega)]
      · rfl
abbrev dI (n : Int) : C := C.d (D.int .i64 n)
abbrev dS (s : ByteArray) : C := C.d (D.str s)
abbrev dL {α : Type} (n : Nat) (E : α → List D) (v : List α) : C := C.d (D.sl n v.length (v.flatMap E))
abbrev dO (i sz n : Nat) : C := C.own i sz 0 n
abbrev dP (i : Nat) : C := C.ptr i 0
abbrev rI (n : Int) : R := R.c (C.d (D.int .i64 n))
abbrev rS (s : ByteArray) : R := R.c (C.d (D.str s))
abbrev rB (b : Bool) : R := R.c (C.d (D.bool b))
abbrev rL {α : Type} (n : Nat) (E : α → List D) (v : List α) : R := R.c (C.d (D.sl n v.length (v.flatMap E)))
abbrev rO (i sz n : Nat) : R := R.c (C.own i sz 0 n)
abbrev rP (i : Nat) : R := R.c (C.ptr i 0)
abbrev bR {α : Type} (e sz : Nat) (E : α → List D) (v : List α) : B := B.row e sz ((v.flatMap E).map C.d)
theorem XLs {E : Orc} {f k key : Nat} {c : Code} {σ ε : Type} {st : σ → S} {ex : ε → XS} {step : σ → Option (σ ⊕ ε)} (hc : lbO f key = c) (hl : okL f c) (hne : ∀ e, ∃ p, ex e = some p ∧ p.1 ≠ .normal)
    (h : ∀ x, lz2 f k key (XE2 E f k c (st x)) = (step x).bind (Sum.elim (fun y => some (.normal, st y)) ex)) (x : σ) : XL2 E f k key (st x) = (qS step x).bind ex := by
  obtain ⟨g, hg⟩ : ∃ g : ε → Exit × S, ∀ e, ex e = some (g e) ∧ (g e).1 ≠ .normal := ⟨fun e => Classical.choose (hne e), fun e => Classical.choose_spec (hne e)⟩
  obtain rfl : ex = fun e => some (g e) := funext fun e => (hg e).1
  exact q4t (ex := g) hc hl (fun e => (hg e).2) h x
theorem q3F {E : Orc} {f k key : Nat} {c : Code} {A1 ε : Type} {st : A1 → S} {ex : ε → XS} {step : A1 → Option ((A1) ⊕ ε)} (hc : lbO f key = c) (hl : okL f c) (hne : ∀ e, ∃ p, ex e = some p ∧ p.1 ≠ .normal)
    (h : ∀ a1, lz2 f k key (XE2 E f k c (st a1)) = (step a1).bind (Sum.elim (fun y => some (.normal, st y)) ex)) (a1 : A1) : XL2 E f k key (st a1) = (qS step a1).bind ex :=
  XLs (st := fun y => st y) hc hl hne (fun a1 => h a1) a1
theorem qgo {E : Orc} {f k key : Nat} {c : Code} {A1 A2 ε : Type} {st : A1 → A2 → S} {ex : ε → XS} {step : (A1 × A2) → Option ((A1 × A2) ⊕ ε)} (hc : lbO f key = c) (hl : okL f c) (hne : ∀ e, ∃ p, ex e = some p ∧ p.1 ≠ .normal)
    (h : ∀ a1 a2, lz2 f k key (XE2 E f k c (st a1 a2)) = (step (a1, a2)).bind (Sum.elim (fun y => some (.normal, st y.1 y.2)) ex)) (a1 : A1) (a2 : A2) : XL2 E f k key (st a1 a2) = (qS step (a1, a2)).bind ex :=
  XLs (st := fun y => st y.1 y.2) hc hl hne (fun ⟨a1, a2⟩ => h a1 a2) (a1, a2)
def dzU (Q : TypeId → List Nat) : B → B
  | .row e sz cs => .row e sz (dzc (Q e) [] cs)
  | b => b
theorem qf2 (z : Nat) {c : C} (h : c.isNils = false) : dz z c = c := by
  cases c <;> first | rfl | cases h
theorem q3v (zs0 : List Nat) : ∀ {cs : List C} (zs : List Nat), cs.any C.isNils = false → dzc zs0 zs cs = cs
  | [], zs, _ => by cases zs <;> rfl
  | c :: cs, zs, h => by
    rw [List.any_cons, Bool.or_eq_false_iff] at h
    cases zs with
    | nil => rw [dzc, qf2 _ h.1, q3v zs0 _ h.2]
    | cons z zs => rw [dzc, qf2 _ h.1, q3v zs0 _ h.2]
theorem qjt (Q : TypeId → List Nat) (b : B) : dzB Q b = dzU Q b := by
  cases b with
  | row e sz cs =>
    unfold dzB dzU
    simp only
    split
    · rfl
    · rename_i h
      rw [q3v _ _ (by simpa using h)]
  | _ => rfl
theorem qh3 (Q : TypeId → List Nat) (b : B) (h : b.nilr = false) : dzU Q b = b := by
  cases b with
  | row e sz cs => unfold dzU; simp only; rw [q3v _ _ h]
  | _ => rfl
theorem qf1 (tm : List (Nat × R)) (hp : List (Nat × B)) (nx n : Nat) (Q : TypeId → List Nat) : S.dzr (S.mk tm hp nx n) Q = S.mk tm (hp.map fun x => (x.1, dzU Q x.2)) nx n := by
  unfold S.dzr
  split
  · simp only [qjt]
  · rename_i h
    congr 1
    have h2 : ∀ x ∈ hp, x.2.nilr = false := fun x hx => by
      cases hb : x.2.nilr with
      | false => rfl
      | true => exact absurd (List.any_eq_true.2 ⟨x, hx, hb⟩) h
    refine (List.map_id' hp).symm.trans (List.map_congr_left fun x hx => ?_)
    rw [qh3 Q x.2 (h2 x hx)]
theorem qbZ (Q : TypeId → List Nat) (e sz : Nat) (cs : List C) : dzU Q (.row e sz cs) = .row e sz (dzc (Q e) [] cs) := rfl
theorem qdT (Q : TypeId → List Nat) (t : Nat) (cs : List C) : dzU Q (.blk t cs) = .blk t cs := rfl
theorem qgF (Q : TypeId → List Nat) (o : AO) : dzU Q (.ob o) = .ob o := rfl
theorem q99 (Q : TypeId → List Nat) : dzU Q .dead = .dead := rfl
theorem qdb {α : Type} (x : α) : Option.toArray (some x) = [x].toArray := rfl
theorem qce {α : Type} : Option.toArray (none : Option α) = ([] : List α).toArray := rfl
theorem qeP {α : Type} (l m : List α) : l.toArray ++ m.toArray = (l ++ m).toArray := by simp
theorem qdo {α : Type} (l : List α) : Array.toList l.toArray = l := rfl
end Go.Proofs.YtplfjlcnffcenaaGreat.Vc
namespace Go.Proofs.YtplfjlcnffcenaaGreat.Vc
open Go.RowKit
set_option linter.unusedVariables false
set_option linter.unusedSimpArgs false
section
variable {κ ν : Type} [DecidableEq κ]
end
section
variable {κ ν : Type} {kE : κ → Value} {vE : ν → R}
variable [DecidableEq κ] (hk : ∀ a b, kq (kE a) (kE b) = decide (a = b))
include hk
end
section
variable {κ ν : Type} {kE : κ → Value} {vE : ν → R} [DecidableEq κ]
end
section
variable {κ ν : Type} {kE : κ → Value} {vE : ν → R} [DecidableEq κ] (hk : ∀ a b, kq (kE a) (kE b) = decide (a = b)) {kt : Kd} (hp : ∀ a, plK kt (kE a) = true)
include hk hp
end
end Go.Proofs.YtplfjlcnffcenaaGreat.Vc
namespace Go.Proofs.YtplfjlcnffcenaaGreat.Vc
open Go.RowKit
set_option linter.unusedSectionVars false
end Go.Proofs.YtplfjlcnffcenaaGreat.Vc
namespace Go.Proofs.YtplfjlcnffcenaaGreat.Vc
open Go.RowKit
set_option linter.defProp false
set_option linter.unusedVariables false
def bx0 := JA_ @qhh.eq_1 (JA_ @q6e.eq_1 (JA_ @S.ly.eq_1 (JA_ @alC.eq_1 (JA_ @alC.eq_2 (JA_ @alX.eq_1 (JA_ @alX.eq_2 (JA_ @qkC.eq_1 (JA_ @qeB.eq_1 (JA_ @qhr.eq_1 (JA_ @ipX.eq_1 (JA_ @qhx.eq_1 (JA_ @qhx.eq_2 (JA_ @q57.eq_1 (JA_ @qaw.eq_2 (JA_ @zmk.eq_1 (JA_ @zmk.eq_2 (JA_ @S.fin.eq_1 (JA_ @S.fn1.eq_1 (JA_ @S.inr.eq_1 (JA_ @List.isEmpty_nil.{0} (JA_ @List.isEmpty_cons.{0} (JA_ @wbC.eq_1 (JA_ @B.beq.eq_1 (JA_ @C.beqL.eq_1 (@C.beqL.eq_2)))))))))))))))))))))))))
def bx1 := JA_ @C.beq0.eq_1 (JA_ @D.beq.eq_1 (JA_ @D.beq.eq_4 (JA_ @qhQ.eq_1 (JA_ @C.isNils.eq_2 (JA_ @q98 (JA_ @q0p.eq_1 (JA_ @q0p.eq_2 (JA_ @qa3.eq_1 (JA_ @fpA.eq_1 (JA_ @q5z.eq_1 (JA_ @S.kill.eq_1 (JA_ @qdQ.eq_1 (@qdQ.eq_2)))))))))))))
def bx2 := JA_ @q8s.eq_1 (JA_ @qfL.eq_1 (JA_ @okX.eq_1 (JA_ @okX.eq_2 (JA_ @okK.eq_1 (JA_ @okN.eq_1 (JA_ @okN.eq_2 (JA_ @q02.eq_1 (JA_ @qcK.eq_1 (JA_ @qcK.eq_2 (JA_ @qe5.eq_1 (JA_ @qe5.eq_2 (JA_ @Jj.eq_1 (JA_ @q6p.eq_1 (JA_ @Zi.eq_1 (JA_ @q6L.eq_1 (JA_ @Js.eq_1 (@JF.eq_1)))))))))))))))))
def bx3 := JA_ @q1w.eq_1 (@q7P.eq_1)
def bx4 := JA_ @B.isOb.eq_2 (JA_ @AO.mapR.eq_3 (JA_ @AO.Rs.eq_3 (JA_ @xgd.eq_1 (JA_ @xgF.eq_1 (JA_ @xo.eq_1 (JA_ @xo.eq_2 (JA_ @xo.eq_3 (JA_ @xo.eq_4 (JA_ @xo.eq_5 (JA_ @xo.eq_6 (JA_ @xo.eq_7 (JA_ @xo.eq_8 (JA_ @xo.eq_9 (JA_ @xo.eq_10 (JA_ @xo.eq_11 (JA_ @xo.eq_12 (JA_ @xo.eq_14 (JA_ @xo.eq_16 (JA_ @xo.eq_17 (JA_ @xo.eq_19 (JA_ @xo.eq_20 (JA_ @xo.eq_21 (@xo.eq_22)))))))))))))))))))))))
def bx5 := JA_ @xo.eq_29 (JA_ @xo.eq_30 (JA_ @xCl.eq_1 (JA_ @pre.eq_1 (JA_ @pre.eq_2 (JA_ @pre.eq_3 (JA_ @q1K.eq_1 (JA_ @QP.eq_1 (JA_ @q20.eq_1 (JA_ @q52.eq_1 (JA_ @q3G.eq_1 (JA_ @ZB.eq_1 (JA_ @Zg.eq_2 (JA_ @Zg.eq_3 (JA_ @qhV.eq_1 (JA_ @q5Z.eq_1 (JA_ @q5Z.eq_2 (JA_ @cvR.eq_1 (JA_ @cvR.eq_2 (JA_ @cvL.eq_1 (JA_ @cvL.eq_2 (JA_ @q8A.eq_1 (JA_ @q8A.eq_2 (JA_ @cv.eq_1 (JA_ @cv.eq_2 (JA_ @cv0.eq_1 (@cv0.eq_5))))))))))))))))))))))))))
def bx6 := JA_ @cv0.eq_8 (JA_ @cvG.eq_1 (JA_ @cvG.eq_2 (JA_ @cvB.eq_1 (JA_ @vis.eq_1 (JA_ @q2K.eq_1 (JA_ @q2K.eq_2 (JA_ @Zr (JA_ @qdS.eq_1 (JA_ @pos.eq_2 (JA_ @q9z.eq_1 (JA_ @qa4.eq_1 (JA_ @q5m.eq_1 (JA_ @qhj.eq_1 (JA_ @J0.eq_1 (JA_ @ZH.eq_1 (JA_ @ZD.eq_1 (JA_ @q0L.eq_1 (JA_ @Jl.eq_1 (JA_ @q5s.eq_1 (JA_ @q5s.eq_2 (JA_ @q5s.eq_3 (JA_ @q5s.eq_5 (@q5s.eq_10)))))))))))))))))))))))
def bx7 := JA_ @q5s.eq_11 (JA_ @q5s.eq_12 (JA_ @q5s.eq_13 (JA_ @q5s.eq_14 (JA_ @q5s.eq_15 (JA_ @qdC.eq_2 (JA_ @qdC.eq_3 (JA_ @qdC.eq_6 (JA_ @qdC.eq_7 (JA_ @qgU.eq_1 (JA_ @qgU.eq_2 (JA_ @qhu.eq_1 (JA_ @qhe.eq_1 (JA_ @qhq.eq_1 (JA_ @qhG.eq_1 (JA_ @q4L.eq_1 (JA_ @q4Z.eq_1 (JA_ @Qn.eq_1 (JA_ @JG.eq_1 (@Jd.eq_1)))))))))))))))))))
def bx8 := JA_ @Kd.isSl.eq_1 (JA_ @nrm.eq_1 (JA_ @qcu.eq_1 (JA_ @qiV.eq_1 (JA_ @rng.eq_1 (JA_ @rng.eq_2 (JA_ @rwAll.eq_1 (JA_ @rwAll.eq_2 (JA_ @rw1.eq_1 (JA_ @rw1.eq_2 (JA_ @cn.eq_1 (JA_ @cn.eq_2 (JA_ @cn0.eq_1 (JA_ @cn0.eq_2 (JA_ @cn0.eq_3 (JA_ @cn0.eq_5 (JA_ @cnR.eq_2 (JA_ @q8z.eq_1 (JA_ @q8z.eq_2 (JA_ @q8z.eq_3 (JA_ @cnB.eq_1 (JA_ @cnB.eq_2 (JA_ @cnB.eq_3 (JA_ @cnH.eq_1 (JA_ @cnH.eq_2 (JA_ @qgI (JA_ @qC.eq_1 (JA_ @qC.eq_2 (JA_ @qe9.eq_1 (JA_ @q5q.eq_1 (@q1Q.eq_1))))))))))))))))))))))))))))))
def bx9 := JA_ @q5B.eq_1 (JA_ @q1O.eq_1 (JA_ @q42.eq_1 (JA_ @q1N.eq_1 (JA_ @q1N.eq_2 (JA_ @S.frz.eq_1 (JA_ @S.frz.eq_2 (JA_ @S.frz1.eq_1 (JA_ @fz.eq_2 (JA_ @fz0.eq_1 (JA_ @fz0.eq_2 (JA_ @fz0.eq_5 (JA_ @fzR.eq_2 (JA_ @q8F.eq_1 (JA_ @q8F.eq_2 (JA_ @q8F.eq_3 (JA_ @fzB.eq_1 (JA_ @fzB.eq_2 (JA_ @fzB.eq_4 (JA_ @qey (JA_ @dz.eq_1 (JA_ @dz.eq_2 (JA_ @dzL.eq_1 (JA_ @dzL.eq_2 (JA_ @dzR.eq_1 (JA_ @dzR.eq_2 (JA_ @q5N.eq_1 (JA_ @q5N.eq_2 (JA_ @one.eq_1 (JA_ @rvs.eq_1 (JA_ @rvs.eq_2 (JA_ @qay.eq_1 (@qay.eq_2))))))))))))))))))))))))))))))))
def qm6 := JA_ @tt.eq_1 (JA_ @ff.eq_1 (JA_ @q2F.eq_1 (JA_ @q2F.eq_2 (JA_ @C.ref0.eq_1 (JA_ @C.ref0.eq_2 (JA_ @C.ref0.eq_3 (JA_ @C.ref0.eq_4 (JA_ @C.refs.eq_1 (JA_ @C.refs.eq_2 (JA_ @B.refs.eq_1 (JA_ @B.refs.eq_2 (JA_ @B.refs.eq_3 (JA_ @B.refs.eq_4 (JA_ @R.refs.eq_1 (JA_ @R.refs.eq_2 (JA_ @R.refs.eq_4 (JA_ @C.rows0.eq_1 (JA_ @C.rows0.eq_2 (JA_ @C.rows.eq_1 (JA_ @C.rows.eq_2 (JA_ @R.rows.eq_1 (JA_ @R.rows.eq_2 (JA_ @C.ptrs0.eq_1 (JA_ @C.ptrs0.eq_3 (JA_ @C.ptrs.eq_1 (JA_ @C.ptrs.eq_2 (JA_ @R.ptrs.eq_1 (JA_ @R.ptrs.eq_2 (JA_ @B.isBlk.eq_1 (JA_ @B.isBlk.eq_3 (JA_ @R.scl.eq_2 (JA_ @R.scl0.eq_1 (@R.scl0.eq_2)))))))))))))))))))))))))))))))))
def qma := JA_ @C.scl.eq_2 (JA_ @C.scl0.eq_1 (JA_ @C.scl0.eq_4 (JA_ @B.scl.eq_1 (JA_ @B.scl.eq_2 (JA_ @C.dat.eq_2 (JA_ @C.dat0.eq_1 (JA_ @C.dat0.eq_8 (JA_ @ren.eq_1 (JA_ @R.rn.eq_2 (JA_ @R.rn0.eq_1 (JA_ @R.rn0.eq_2 (JA_ @C.rn.eq_2 (JA_ @C.rn0.eq_3 (JA_ @C.rn0.eq_5 (JA_ @B.rn.eq_1 (JA_ @B.rn.eq_2 (JA_ @qfo (@S.aft.eq_1))))))))))))))))))
def qmY := JA_ @S.fgL.eq_1 (JA_ @C.farL.eq_1 (JA_ @C.farL.eq_3 (JA_ @C.farL.eq_5 (JA_ @R.farL.eq_1 (JA_ @R.farL.eq_2 (JA_ @B.farL.eq_1 (JA_ @B.farL.eq_2 (JA_ @qhn.eq_3 (JA_ @S.ev.eq_1 (JA_ @S.ev.eq_2 (JA_ @S.ev.eq_3 (JA_ @S.get.eq_1 (JA_ @S.blk.eq_1 (@S.put.eq_1))))))))))))))
def qlX := JA_ @S.put.eq_2 (JA_ @S.up.eq_1 (JA_ @S.bd.eq_1 (JA_ @S.bd.eq_2 (JA_ @S.seq.eq_1 (JA_ @S.cell1.eq_1 (JA_ @lk.eq_1 (JA_ @lk.eq_2 (JA_ @J9.eq_1 (JA_ @J9.eq_2 (JA_ @J9.eq_3 (JA_ @J9.eq_6 (JA_ @Zh.eq_1 (JA_ @Zh.eq_2 (JA_ @qdP (JA_ @ldx.eq_1 (JA_ @bld.eq_1 (JA_ @bld.eq_2 (JA_ @spl.eq_1 (JA_ @spl.eq_2 (JA_ @Qk.eq_1 (JA_ @Ty.foff.eq_1 (JA_ @R.cells.eq_1 (JA_ @R.cells.eq_2 (JA_ @R.parts.eq_1 (JA_ @R.parts.eq_2 (JA_ @B.cells.eq_1 (JA_ @B.cells.eq_2 (JA_ @B.live.eq_1 (JA_ @B.live.eq_2 (@C.known.eq_2))))))))))))))))))))))))))))))
def qnj := JA_ @C.far.eq_5 (JA_ @S.fg.eq_1 (JA_ @R.fg.eq_1 (JA_ @R.fg.eq_2 (JA_ @R.fg.eq_3 (JA_ @R.fg.eq_4 (JA_ @B.fg.eq_1 (JA_ @B.fg.eq_2 (JA_ @B.fg.eq_4 (JA_ @C.fg.eq_1 (JA_ @C.fg.eq_3 (JA_ @C.fg.eq_5 (JA_ @D1.eq_1 (JA_ @ZN.eq_1 (JA_ @ZN.eq_3 (JA_ @ZN.eq_4 (JA_ @ZN.eq_6 (JA_ @ZN.eq_7 (JA_ @ZN.eq_8 (JA_ @ZN.eq_9 (JA_ @ZN.eq_10 (JA_ @ZN.eq_14 (JA_ @ZN.eq_15 (@ZN.eq_17)))))))))))))))))))))))
def qn3 := JA_ @ZN.eq_23 (JA_ @q8C.eq_1 (JA_ @q8C.eq_4 (JA_ @q8C.eq_5 (JA_ @q1b.eq_3 (JA_ @q1b.eq_5 (JA_ @q1b.eq_6 (JA_ @q8B.eq_3 (JA_ @q8B.eq_4 (JA_ @q8B.eq_5 (JA_ @fpC.eq_1 (JA_ @qge.eq_1 (JA_ @qgW.eq_1 (JA_ @qhI.eq_1 (JA_ @C.lt0.eq_3 (JA_ @C.lt0.eq_4 (JA_ @C.ltn.eq_2 (JA_ @R.lt0.eq_1 (JA_ @R.lt0.eq_2 (JA_ @R.ltn.eq_2 (JA_ @B.ltn.eq_1 (@Zu.eq_1)))))))))))))))))))))
def qng := JA_ @Fp.none?.eq_1 (JA_ @okP.eq_1 (JA_ @okP.eq_2 (JA_ @q8R (JA_ @q9F (JA_ @qdO (JA_ @q9R (JA_ @q9a (JA_ @q9T (JA_ @qdj (JA_ @q9G (JA_ @q8X (JA_ @q9s (JA_ @q5r (JA_ @qbO (JA_ @qa6 (JA_ @q9U (JA_ @qdc (JA_ @q9o (JA_ @qa1 (JA_ @q8Z (JA_ @qdp (JA_ @q9D (JA_ @q94 (JA_ @q9i (JA_ @qcb (JA_ @qa0 (JA_ @qd5 (JA_ @q6b (JA_ @qdE (JA_ @q9b (JA_ @q8S (@qet))))))))))))))))))))))))))))))))
def qlr := JA_ @C.farF.eq_2 (JA_ @Go.Op.operands.eq_1 (JA_ @Go.Op.operands.eq_4 (JA_ @Go.Op.operands.eq_7 (JA_ @Go.Op.operands.eq_8 (JA_ @Go.Op.operands.eq_14 (JA_ @Go.Op.operands.eq_23 (JA_ @Go.Op.operands.eq_24 (JA_ @Go.Op.operands.eq_25 (JA_ @Go.Op.operands.eq_27 (JA_ @Go.Op.operands.eq_29 (@Go.Op.operands.eq_36)))))))))))
def qmM := JA_ @Go.Op.operands.eq_40 (JA_ @qg7 (JA_ @qga (JA_ @qef.eq_1 (JA_ @qef.eq_2 (JA_ @Option.toList_some.{0} (JA_ @List.getElem?_nil.{0} (JA_ @List.drop_zero.{0} (JA_ @Int.cast_ofNat_Int (JA_ @Int.le_refl (JA_ @Nat.le_refl (JA_ @Option.bind_assoc.{0,0,0} (JA_ @List.any_nil.{0} (JA_ @List.any_cons.{0} (JA_ @List.getD_cons_zero.{0} (JA_ @List.getD_cons_succ.{0} (JA_ @true_and (JA_ @and_true (JA_ @and_false (JA_ @Option.some.injEq.{0} (JA_ @Prod.mk.injEq.{0,0} (JA_ @Option.bind_some.{0,0} (JA_ @Option.bind_none.{0,0} (JA_ @Option.map_some.{0,0} (JA_ @Option.map_none.{0,0} (JA_ @Option.getD_some.{0} (JA_ @Option.getD_none.{0} (JA_ @ne_eq.{1} (@not_false_eq_true))))))))))))))))))))))))))))
def qmc := JA_ @or_false (JA_ @Bool.false_eq_true (JA_ @List.map_cons.{0,0} (JA_ @List.map_nil.{0,0} (JA_ @List.all_cons.{0} (JA_ @List.all_nil.{0} (JA_ @Bool.and_true (JA_ @Bool.true_and (JA_ @Bool.and_false (JA_ @Bool.false_and (JA_ @Bool.or_true (JA_ @Bool.true_or (JA_ @Bool.or_false (JA_ @Bool.false_or (JA_ @List.length_cons.{0} (JA_ @List.length_nil.{0} (JA_ @List.length_map.{0,0} (JA_ @List.getElem?_cons_zero.{0} (JA_ @List.getElem?_cons_succ.{0} (JA_ @List.foldl_cons.{0,0} (JA_ @List.foldl_nil.{0,0} (JA_ @List.cons_append.{0} (JA_ @List.nil_append.{0} (JA_ @List.append_nil.{0} (JA_ @Nat.max_def (JA_ @decide_true (JA_ @decide_false (JA_ @decide_not (JA_ @decide_eq_true_eq (JA_ @Nat.zero_le (JA_ @Nat.zero_mul (JA_ @Nat.mul_one (JA_ @Nat.one_mul (JA_ @Nat.add_zero (@Nat.zero_add))))))))))))))))))))))))))))))))))
def qlF := JA_ @Int.toNat_natCast (JA_ @List.mapM_cons.{0,0,0} (JA_ @List.mapM_nil.{0,0,0} (JA_ @List.drop_succ_cons.{0} (JA_ @List.drop_nil.{0} (JA_ @List.take_succ_cons.{0} (JA_ @List.take_zero.{0} (JA_ @List.replicate_succ.{0} (JA_ @List.replicate_zero.{0} (JA_ @List.set_cons_zero.{0} (JA_ @List.set_cons_succ.{0} (JA_ @and_self (JA_ @Bool.not_true (JA_ @Bool.not_false (JA_ @List.contains_cons.{0} (JA_ @List.contains_nil.{0} (JA_ @List.flatMap_cons.{0,0} (JA_ @List.flatMap_nil.{0,0} (JA_ @List.filter_cons.{0} (JA_ @List.filter_nil.{0} (JA_ @List.eraseDups_cons.{0} (JA_ @List.eraseDups_nil.{0} (JA_ @List.nodup_cons.{0} (JA_ @List.nodup_nil.{0} (JA_ @List.mem_cons.{0} (JA_ @List.not_mem_nil.{0} (JA_ @List.headD_cons.{0} (JA_ @List.headD_nil.{0} (JA_ @List.tail_cons.{0} (JA_ @List.tail_nil.{0} (JA_ @beq_self_eq_true.{0} (JA_ @Qc (JA_ @List.range_succ (JA_ @List.range_zero (JA_ @ite_self.{1} (@R.dat.eq_1)))))))))))))))))))))))))))))))))))
def qlv := JA_ @R.dat.eq_2 (JA_ @qdb (JA_ @qce (JA_ @qeP (JA_ @qdo (JA_ @qf1 (JA_ @qbZ (JA_ @qdT (JA_ @qgF (JA_ @q99 (JA_ @q3v (@qd7)))))))))))
def qlz := JA_ @qeT (JA_ @qe0 (JA_ @qfh (JA_ @q8O (JA_ @qcY (JA_ @q7Y (JA_ @qcr (JA_ @qcC (JA_ @q5E (JA_ @qdh (JA_ @q9E (JA_ @q9q (JA_ @qc2 (JA_ @q9n (JA_ @qc3 (JA_ @q9c (JA_ @q5O (JA_ @qc1 (JA_ @q9C (JA_ @q9J (JA_ @qd3 (JA_ @q9r (JA_ @qbS (JA_ @q9e (JA_ @qbU (JA_ @qcA (JA_ @q92 (JA_ @qn8 (JA_ @qmn (@qiw)))))))))))))))))))))))))))))
def qne := JA_ @qi0 (JA_ @qiX (JA_ @qfG (JA_ @qfe (JA_ @qgi (JA_ @qhU (JA_ @qeu (JA_ @qgg (JA_ @qfO (JA_ @qdw (JA_ @qcL (JA_ @qfv (JA_ @qd0 (JA_ @qg2 (JA_ @qgM (JA_ @Sum.elim_inl.{0,1,0} (JA_ @Sum.elim_inr.{0,1,0} (JA_ @qdM (JA_ @q88 (JA_ @q6W (@qhC.eq_1))))))))))))))))))))
def qmy := JA_ @q8g (JA_ @qcR (JA_ @qcN (JA_ @qbP (JA_ @qdy (JA_ @q4e (JA_ @q3l (JA_ @qeS (JA_ @qhF.eq_1 (JA_ @qhF.eq_2 (JA_ @List.length_append.{0} (JA_ @List.length_set.{0} (JA_ @List.length_modify.{0} (JA_ @q86 (@List.take_nil.{0}))))))))))))))
theorem qn0 (a0 a1 a2 a3 : Int) (i : Nat) : ([C.d (D.int .i64 a0), C.d (D.int .i64 a1), C.d (D.int .i64 a2), C.d (D.int .i64 a3)] : List C)[i]? = ([a0, a1, a2, a3][i]?).bind fun x => some (C.d (D.int .i64 x)) := by rw [show ([C.d (D.int .i64 a0), C.d (D.int .i64 a1), C.d (D.int .i64 a2), C.d (D.int .i64 a3)] : List C) = [a0, a1, a2, a3].map (fun x => C.d (D.int .i64 x)) from rfl, List.getElem?_map]; cases ([a0, a1, a2, a3] : List Int)[i]? <;> rfl
theorem qm5 (a0 a1 a2 a3 a4 : Int) (i : Nat) : ([C.d (D.int .i64 a0), C.d (D.int .i64 a1), C.d (D.int .i64 a2), C.d (D.int .i64 a3), C.d (D.int .i64 a4)] : List C)[i]? = ([a0, a1, a2, a3, a4][i]?).bind fun x => some (C.d (D.int .i64 x)) := by rw [show ([C.d (D.int .i64 a0), C.d (D.int .i64 a1), C.d (D.int .i64 a2), C.d (D.int .i64 a3), C.d (D.int .i64 a4)] : List C) = [a0, a1, a2, a3, a4].map (fun x => C.d (D.int .i64 x)) from rfl, List.getElem?_map]; cases ([a0, a1, a2, a3, a4] : List Int)[i]? <;> rfl
theorem ql2 (a0 a1 a2 a3 a4 a5 : Int) (i : Nat) : ([C.d (D.int .i64 a0), C.d (D.int .i64 a1), C.d (D.int .i64 a2), C.d (D.int .i64 a3), C.d (D.int .i64 a4), C.d (D.int .i64 a5)] : List C)[i]? = ([a0, a1, a2, a3, a4, a5][i]?).bind fun x => some (C.d (D.int .i64 x)) := by rw [show ([C.d (D.int .i64 a0), C.d (D.int .i64 a1), C.d (D.int .i64 a2), C.d (D.int .i64 a3), C.d (D.int .i64 a4), C.d (D.int .i64 a5)] : List C) = [a0, a1, a2, a3, a4, a5].map (fun x => C.d (D.int .i64 x)) from rfl, List.getElem?_map]; cases ([a0, a1, a2, a3, a4, a5] : List Int)[i]? <;> rfl
theorem qmh (a0 a1 a2 a3 a4 : ByteArray) (i : Nat) : ([C.d (D.str a0), C.d (D.str a1), C.d (D.str a2), C.d (D.str a3), C.d (D.str a4)] : List C)[i]? = ([a0, a1, a2, a3, a4][i]?).bind fun x => some (C.d (D.str x)) := by rw [show ([C.d (D.str a0), C.d (D.str a1), C.d (D.str a2), C.d (D.str a3), C.d (D.str a4)] : List C) = [a0, a1, a2, a3, a4].map (fun x => C.d (D.str x)) from rfl, List.getElem?_map]; cases ([a0, a1, a2, a3, a4] : List ByteArray)[i]? <;> rfl
theorem qj7 {α : Type} (l : List α) (k : Nat) : (l.length = min k l.length) = (l.length ≤ k) := by apply propext; omega
theorem qit {α : Type} (l : List α) (k : Nat) : (min k l.length ≤ l.length) = True := eq_true (Nat.min_le_right ..)
theorem qhZ {α : Type} (e : α → List D) (l : List α) (k : Nat) : (if l.length ≤ k then some (l.flatMap e) else some ((l.take (min k l.length)).flatMap e)) = some ((l.take k).flatMap e) := by
  split
  · rename_i h; rw [List.take_of_length_le h]
  · rename_i h; rw [show min k l.length = k by omega]
theorem qiP {α : Type} (e : α → List D) (sz : Nat) (l : List α) (k : Nat) : D.sl sz (min k l.length) ((l.take k).flatMap e) = D.sl sz (l.take k).length ((l.take k).flatMap e) := by rw [List.length_take]
theorem qgq {α : Type} (l : List α) (k : Nat) : (l.length * 2 = min k l.length * 2) = (l.length ≤ k) := by apply propext; omega
theorem qel {α : Type} (l : List α) (k : Nat) : (min k l.length * 2 ≤ l.length * 2) = True := eq_true (by omega)
def bz0 := JA_ @qn0 (JA_ @qm5 (JA_ @ql2 (@qmh)))
def bz1 := JA_ @qj7 (JA_ @qit (JA_ @qhZ (JA_ @qiP (JA_ @qgq (@qel)))))
end Go.Proofs.YtplfjlcnffcenaaGreat.Vc
namespace Go.Proofs.YtplfjlcnffcenaaGreat.Vc
open Go.RowKit
set_option linter.unusedVariables false
set_option linter.unusedSimpArgs false
structure Z3 (α : Type) where
  a0 : α
  a1 : α
structure qd where
  Code : ByteArray
  Credits : Int
def qc (x : qd) : List D := [D.str x.Code, D.int .i64 x.Credits]
theorem zt (x : qd) : qc x = [D.str x.Code, D.int .i64 x.Credits] := rfl
theorem q1V (x : qd) : (qc x).length = 2 := rfl
theorem q1S (x : qd) : qd.mk x.Code x.Credits = x := rfl
structure qb where
  Num : Int
  Add : Int
  Den : Int
  Round : Int
theorem q1R (x : qb) : qb.mk x.Num x.Add x.Den x.Round = x := rfl
structure qa where
  Id : Int
  From : Int
  To : Int
  Begin : Int
  End : Int
  In : List ByteArray
  Out : List qd
  Conv : qb
def qp (x : qa) : List D := [D.int .i64 x.Id, D.int .i64 x.From, D.int .i64 x.To, D.int .i64 x.Begin, D.int .i64 x.End, D.sl 1 x.In.length (x.In.flatMap eS), D.sl 2 x.Out.length (x.Out.flatMap qc), D.int .i64 x.Conv.Num, D.int .i64 x.Conv.Add, D.int .i64 x.Conv.Den, D.int .i64 x.Conv.Round]
theorem QT (x : qa) : qp x = [D.int .i64 x.Id, D.int .i64 x.From, D.int .i64 x.To, D.int .i64 x.Begin, D.int .i64 x.End, D.sl 1 x.In.length (x.In.flatMap eS), D.sl 2 x.Out.length (x.Out.flatMap qc), D.int .i64 x.Conv.Num, D.int .i64 x.Conv.Add, D.int .i64 x.Conv.Den, D.int .i64 x.Conv.Round] := rfl
theorem Jg (x : qa) : (qp x).length = 11 := rfl
theorem J5 (x : qa) : qa.mk x.Id x.From x.To x.Begin x.End x.In x.Out x.Conv = x := rfl
structure qM where
  Worst : Int
  Best : Int
  Pass : Int
structure JK where
  School : Int
  Code : ByteArray
structure qP where
  Course : JK
  Credits : Int
  Grade : Int
  Day : Int
  Sources : List Int
  Bundle : Int
  Path : List Int
def qq (x : qP) : List D := [D.int .i64 x.Course.School, D.str x.Course.Code, D.int .i64 x.Credits, D.int .i64 x.Grade, D.int .i64 x.Day, D.sl 1 x.Sources.length (x.Sources.flatMap eI), D.int .i64 x.Bundle, D.sl 1 x.Path.length (x.Path.flatMap eI)]
theorem ZJ (x : qP) : qq x = [D.int .i64 x.Course.School, D.str x.Course.Code, D.int .i64 x.Credits, D.int .i64 x.Grade, D.int .i64 x.Day, D.sl 1 x.Sources.length (x.Sources.flatMap eI), D.int .i64 x.Bundle, D.sl 1 x.Path.length (x.Path.flatMap eI)] := rfl
structure qz where
  Agreement : qa
  Day : Int
  Scale : qM
  L : List qP
structure qe where
  L : List Int
  At : Int
theorem q0w (x : qe) : qe.mk x.L x.At = x := rfl
theorem qds : ∀ x : (List Int), ((eL 1 eI) x).length = 1 := fun _ => rfl
theorem q5H (v : List (List Int)) (i : Nat) : ld T ((v.flatMap (eL 1 eI)).map C.d) (i) 45 = (v[i]?).bind fun x => some (.c (.d (D.sl 1 x.length (x.flatMap eI)))) := by rw [q0O qds v i _ (by decide)]; cases v[i]? with | none => rfl | some x => rfl
theorem q3b : ∀ x : ByteArray, (eS x).length = 1 := fun _ => rfl
theorem qiy (v : List ByteArray) : (v.flatMap eS).length = v.length := by rw [Jm q3b, Nat.mul_one]
theorem q9x (v : List ByteArray) (i : Nat) : ld T ((v.flatMap eS).map C.d) (i) 9 = (v[i]?).bind fun x => some (.c (.d (D.str x))) := by rw [q0O q3b v i _ (by decide)]; cases v[i]? with | none => rfl | some x => rfl
theorem qj0 (v : List ByteArray) (a : ByteArray) : (v.flatMap eS).map C.d ++ [C.d (D.str a)] = ((v ++ [a]).flatMap eS).map C.d := by have h := q43 (E := eS) v a; exact h
theorem qeK (v : List ByteArray) (i : Nat) (a : ByteArray) : spr ((v.flatMap eS).map C.d) (i) [C.d (D.str a)] = ((v.set i a).flatMap eS).map C.d := by have h := qc4 q3b v i a; rw [Nat.mul_one] at h; exact h
theorem qjl (v : List ByteArray) (a : Nat) : (v.flatMap eS).take (a) = (v.take a).flatMap eS := by have h := q2E q3b v a; rwa [Nat.mul_one] at h
theorem qg4 (v : List ByteArray) (a : Nat) : ((v.flatMap eS).map C.d).take (a) = ((v.take a).flatMap eS).map C.d := by rw [← List.map_take, qjl]
theorem qbL (s : S) (v : List ByteArray) (lo hi : Option Operand) : xsl T s 25 (.c (.d (.sl 1 v.length (v.flatMap eS)))) lo hi = qhC s eS 1 v (s.bd lo 0) (s.bd hi v.length) := qfz q3b v lo hi (by rfl) (by rfl) (by decide)
theorem q0e : ∀ x : qd, (qc x).length = 2 := q1V
theorem qh6 (v : List qd) : (v.flatMap qc).length = v.length * 2 := by rw [Jm q0e]
theorem q5V (v : List qd) (i : Nat) : ld T ((v.flatMap qc).map C.d) (i * 2) 79 = (v[i]?).bind fun x => some (.agg [.d (D.str x.Code), .d (D.int .i64 x.Credits)]) := by rw [q2C q0e v i _ (by decide) (by decide)]; cases v[i]? with | none => rfl | some x => rw [Option.bind_some, Option.bind_some, zt]; rfl
theorem q7n (v : List qd) (i : Nat) : ld T ((v.flatMap qc).map C.d) (i * 2) 9 = (v[i]?).bind fun x => some (.c (.d (D.str x.Code))) := by rw [q2C q0e v i _ (by decide) (by decide)]; cases v[i]? with | none => rfl | some x => rw [Option.bind_some, Option.bind_some, zt]; rfl
theorem q8l (v : List qd) (i : Nat) : ld T ((v.flatMap qc).map C.d) (i * 2 + 1) 3 = (v[i]?).bind fun x => some (.c (.d (D.int .i64 x.Credits))) := by rw [q3S q0e v i 1 _ (by decide) (by decide)]; cases v[i]? with | none => rfl | some x => rw [Option.bind_some, Option.bind_some, zt]; rfl
theorem qeJ (v : List qd) (a_Code : ByteArray) (a_Credits : Int) : (v.flatMap qc).map C.d ++ [C.d (D.str a_Code), C.d (D.int .i64 a_Credits)] = ((v ++ [(qd.mk a_Code a_Credits)]).flatMap qc).map C.d := by have h := q43 (E := qc) v (qd.mk a_Code a_Credits); rw [zt] at h; exact h
theorem q9A (v : List qd) (i : Nat) (b : Int) : spr ((v.flatMap qc).map C.d) (i * 2 + 1) [C.d (D.int .i64 b)] = ((v.modify i fun x => { x with Credits := b }).flatMap qc).map C.d := by have h := qbi q0e (fo := 1) (d := D.int .i64 b) (fun x => { x with Credits := b }) (by decide) (fun x => by rw [zt, zt]; rfl) v i; rw [← h]; exact (q4f C.d [D.int .i64 b] _ _)
theorem qgc (v : List qd) (a : Nat) : (v.flatMap qc).take (a * 2) = (v.take a).flatMap qc := by have h := q2E q0e v a; exact h
theorem qdJ (v : List qd) (a : Nat) : ((v.flatMap qc).map C.d).take (a * 2) = ((v.take a).flatMap qc).map C.d := by rw [← List.map_take, qgc]
theorem q7L : ∀ x : qa, (qp x).length = 11 := Jg
theorem qeM (v : List qa) : (v.flatMap qp).length = v.length * 11 := by rw [Jm q7L]
theorem q5P (v : List qa) (i : Nat) : ld T ((v.flatMap qp).map C.d) (i * 11) 30 = (v[i]?).bind fun x => some (.agg [.d (D.int .i64 x.Id), .d (D.int .i64 x.From), .d (D.int .i64 x.To), .d (D.int .i64 x.Begin), .d (D.int .i64 x.End), .d (D.sl 1 x.In.length (x.In.flatMap eS)), .d (D.sl 2 x.Out.length (x.Out.flatMap qc)), .d (D.int .i64 x.Conv.Num), .d (D.int .i64 x.Conv.Add), .d (D.int .i64 x.Conv.Den), .d (D.int .i64 x.Conv.Round)]) := by rw [q2C q7L v i _ (by decide) (by decide)]; cases v[i]? with | none => rfl | some x => rw [Option.bind_some, Option.bind_some, QT]; rfl
theorem qfx (v : List qa) (a_Id : Int) (a_From : Int) (a_To : Int) (a_Begin : Int) (a_End : Int) (a_In : List ByteArray) (a_Out : List qd) (a_Conv_Num : Int) (a_Conv_Add : Int) (a_Conv_Den : Int) (a_Conv_Round : Int) : (v.flatMap qp).map C.d ++ [C.d (D.int .i64 a_Id), C.d (D.int .i64 a_From), C.d (D.int .i64 a_To), C.d (D.int .i64 a_Begin), C.d (D.int .i64 a_End), C.d (D.sl 1 a_In.length (a_In.flatMap eS)), C.d (D.sl 2 a_Out.length (a_Out.flatMap qc)), C.d (D.int .i64 a_Conv_Num), C.d (D.int .i64 a_Conv_Add), C.d (D.int .i64 a_Conv_Den), C.d (D.int .i64 a_Conv_Round)] = ((v ++ [(qa.mk a_Id a_From a_To a_Begin a_End a_In a_Out (qb.mk a_Conv_Num a_Conv_Add a_Conv_Den a_Conv_Round))]).flatMap qp).map C.d := by have h := q43 (E := qp) v (qa.mk a_Id a_From a_To a_Begin a_End a_In a_Out (qb.mk a_Conv_Num a_Conv_Add a_Conv_Den a_Conv_Round)); rw [QT] at h; exact h
theorem qfb : ∀ x : Int, (eI x).length = 1 := fun _ => rfl
theorem q8K (v : List Int) (i : Nat) : ld T ((v.flatMap eI).map C.d) (i) 3 = (v[i]?).bind fun x => some (.c (.d (D.int .i64 x))) := by rw [q0O qfb v i _ (by decide)]; cases v[i]? with | none => rfl | some x => rfl
theorem qcn : ∀ x : (List ByteArray), ((eL 1 eS) x).length = 1 := fun _ => rfl
theorem q5w (v : List (List ByteArray)) (i : Nat) : ld T ((v.flatMap (eL 1 eS)).map C.d) (i) 25 = (v[i]?).bind fun x => some (.c (.d (D.sl 1 x.length (x.flatMap eS)))) := by rw [q0O qcn v i _ (by decide)]; cases v[i]? with | none => rfl | some x => rfl
end Go.Proofs.YtplfjlcnffcenaaGreat.Vc
namespace Go.Proofs.YtplfjlcnffcenaaGreat.Vc
open Go.RowKit
set_option linter.defProp false
set_option linter.unusedVariables false
def by0 := JA_ @k3 (JA_ @z3 (JA_ @q3 (JA_ @k4 (@q4))))
def by1 := JA_ @k9 (JA_ @z9 (JA_ @b9 (JA_ @o9 (@q9))))
def by2 := JA_ @q21 (JA_ @k22 (JA_ @q22 (JA_ @k23 (JA_ @z23 (JA_ @q23 (JA_ @k24 (JA_ @k25 (@z25))))))))
def by3 := JA_ @q25 (JA_ @k26 (JA_ @z26 (JA_ @q26 (JA_ @k28 (JA_ @z28 (JA_ @o28 (JA_ @q28 (JA_ @k30 (JA_ @z30 (JA_ @b30 (JA_ @o30 (@q30))))))))))))
def by4 := JA_ @k35 (JA_ @k37 (@q37))
def by5 := JA_ @q41 (JA_ @k45 (@z45))
def by8 := JA_ @q68 (JA_ @k70 (@o70))
def by9 := JA_ @k79 (JA_ @z79 (JA_ @b79 (JA_ @o79 (@q79))))
def qlj := JA_ @k84 (@q87)
def qm4 := @qli
def qme := @pw3
def qlZ := JA_ @pw6 (JA_ @pw7 (JA_ @pw8 (JA_ @pw9 (JA_ @qkE (JA_ @qkg (JA_ @qkJ (JA_ @qkj (JA_ @qkh (JA_ @qjS (JA_ @qk7 (JA_ @qkf (JA_ @qky (JA_ @qjU (JA_ @qkL (JA_ @qkB (JA_ @qhR (JA_ @qk8 (JA_ @qjK (JA_ @qk4 (JA_ @qk1 (JA_ @qkF (JA_ @qkd (@qkM)))))))))))))))))))))))
def ql8 := JA_ @qkz (JA_ @qkw (JA_ @qku (JA_ @qkr (JA_ @qkK (JA_ @qjN (JA_ @qkA (JA_ @qko (JA_ @qjQ (JA_ @qjG (JA_ @qke (JA_ @qkx (@qkH))))))))))))
def qlP := JA_ @qkO (JA_ @qfI (@qep))
def qlW := JA_ @qis (JA_ @qiS (JA_ @qiI (JA_ @qjn (JA_ @qi7 (JA_ @qi9 (JA_ @qid (JA_ @qiz (@qiD))))))))
def qlu := JA_ @qjh (JA_ @qiK (@qjH))
def qmo := JA_ @qjc (@qja)
def qn6 := JA_ @qjj (JA_ @qj5 (JA_ @qij (JA_ @qcE (JA_ @qdk (JA_ @qdN (JA_ @qdr (JA_ @qen (JA_ @qfA (JA_ @qeG (JA_ @qff (@qfq)))))))))))
def qn4 := JA_ @qfa (JA_ @qgB (JA_ @qfl (JA_ @qeR (JA_ @qf4 (JA_ @qd6 (@qdx))))))
def qlb := JA_ @qiE (JA_ @qiW (JA_ @qiv (JA_ @qjw (JA_ @qgh (JA_ @qh4 (JA_ @qgK (JA_ @qgG (JA_ @qgE (JA_ @qeV (JA_ @qgQ (JA_ @qcd (@qd2))))))))))))
def qmT := JA_ @qgk (JA_ @qew (JA_ @qg0 (JA_ @qfM (JA_ @qdY (JA_ @qeq (JA_ @qfp (JA_ @qh1 (JA_ @qer (@qbQ)))))))))
def qmq := JA_ @qjB (JA_ @qjp (@qib))
def qn5 := JA_ @qju (JA_ @qeh (JA_ @qgn (JA_ @qfu (JA_ @qf7 (JA_ @qgu (JA_ @qfZ (JA_ @qem (JA_ @qdl (JA_ @qdz (JA_ @qf5 (JA_ @qg9 (JA_ @qeQ (JA_ @qg1 (JA_ @qbY (JA_ @qh0 (JA_ @qgL (JA_ @qgD (@qex))))))))))))))))))
def qlK := @qcI
def bt0 := JA_ @q5H (JA_ @qiy (JA_ @q9x (JA_ @qj0 (JA_ @qeK (JA_ @qg4 (JA_ @qbL (JA_ @qh6 (@q5V))))))))
def bt1 := JA_ @q7n (JA_ @q8l (JA_ @qeJ (JA_ @q9A (@qdJ))))
def bt2 := JA_ @qeM (@q5P)
def bt3 := @qfx
def bt4 := @q8K
def bt6 := @q5w
def bt7 := JA_ @q1R (JA_ @J5 (JA_ @q0w (@q1S)))
def bA := JA_ @bx0 (JA_ @bx1 (JA_ @bx2 (JA_ @bx3 (JA_ @bx4 (JA_ @bx5 (JA_ @bx6 (JA_ @bx7 (JA_ @bx8 (JA_ @bx9 (JA_ @qm6 (JA_ @qma (JA_ @qmY (JA_ @qlX (JA_ @qnj (JA_ @qn3 (JA_ @qng (JA_ @qlr (JA_ @qmM (JA_ @qmc (JA_ @qlF (JA_ @qlv (JA_ @qlz (JA_ @qne (JA_ @qmy (JA_ @bz0 (JA_ @bz1 (JA_ @by0 (JA_ @by1 (JA_ @by2 (JA_ @by3 (JA_ @by4 (JA_ @by5 (JA_ @by8 (JA_ @by9 (JA_ @qlj (JA_ @qm4 (JA_ @qme (JA_ @qlZ (JA_ @ql8 (JA_ @qlP (JA_ @qlW (JA_ @qlu (JA_ @qmo (JA_ @qn6 (JA_ @qn4 (JA_ @qlb (JA_ @qmT (JA_ @qmq (JA_ @qn5 (JA_ @qlK (JA_ @bt0 (JA_ @bt1 (JA_ @bt2 (JA_ @bt3 (JA_ @bt4 (JA_ @bt6 (@bt7)))))))))))))))))))))))))))))))))))))))))))))))))))))))))
def bZ := JA_ @List.length_append.{0} (JA_ @List.length_set.{0} (JA_ @List.length_modify.{0} (JA_ @List.length_cons.{0} (JA_ @List.length_nil.{0} (JA_ @Nat.zero_add (JA_ @List.flatMap_cons.{0,0} (JA_ @List.flatMap_nil.{0,0} (JA_ @List.map_cons.{0,0} (JA_ @List.map_nil.{0,0} (JA_ @eS.eq_1 (JA_ @List.cons_append.{0} (JA_ @List.nil_append.{0} (JA_ @List.append_nil.{0} (JA_ @List.flatMap_append.{0,0} (@zt)))))))))))))))
theorem gA {P : Prop} (h : P := by simp -implicitDefEqProofs (maxSteps := 10000000) only [bA, Int.reduceToNat, Int.reduceLT, Int.reduceLE, Int.reduceAdd, Int.reduceSub, Int.reduceMul, Int.reduceNeg, Int.reduceEq, Int.reduceNe, Int.reduceBEq, Int.reduceBNe, Nat.reduceLT, Nat.reduceAdd, Nat.reduceMul, Nat.reduceSub, Nat.reduceEqDiff, Nat.reduceLeDiff, Nat.reduceBEq, Nat.reduceBNe, ↓reduceIte, reduceCtorEq, pure, bind, w64, zb, QK, Option.or_some, Option.or_none, Option.none_or, Option.some_or, *] <;> simp only [rL, dL, bR, bZ, Nat.reduceAdd]) : P := h
end Go.Proofs.YtplfjlcnffcenaaGreat.Vc
namespace Go.Proofs.YtplfjlcnffcenaaGreat.Vc
open Go.RowKit
set_option linter.unusedVariables false
section
variable {β : Type}
def frN (n : Nat) (k : Nat → β) : β := match n with | 0 => k 0 | m + 1 => k (m + 1)
theorem Qu (n : Nat) (k : Nat → β) : frN n k = k n := by cases n <;> rfl
def frI (i : Int) (k : Int → β) : β := match i with | .ofNat n => frN n fun n => k (.ofNat n) | .negSucc n => frN n fun n => k (.negSucc n)
theorem qbD (i : Int) (k : Int → β) : frI i k = k i := by cases i <;> simp only [frI, Qu]
def frB (b : Bool) (k : Bool → β) : β := match b with | true => k true | false => k false
theorem qb9 (b : Bool) (k : Bool → β) : frB b k = k b := by cases b <;> rfl
noncomputable def frD (d : D) : (D → β) → β :=
  D.rec (motive_1 := fun _ => (D → β) → β) (motive_2 := fun _ => (List D → β) → β)
    (fun k n K => frI n fun n => K (.int k n)) (fun b K => frB b fun b => K (.bool b)) (fun s K => K (.str s)) (fun sz n _ ih K => frN sz fun sz => frN n fun n => ih fun cs => K (.sl sz n cs))
    (fun K => K []) (fun _ _ ih1 ih2 K => ih1 fun x => ih2 fun l => K (x :: l)) d
noncomputable def qfX (d : List D) : (List D → β) → β :=
  D.rec_1 (motive_1 := fun _ => (D → β) → β) (motive_2 := fun _ => (List D → β) → β)
    (fun k n K => frI n fun n => K (.int k n)) (fun b K => frB b fun b => K (.bool b)) (fun s K => K (.str s)) (fun sz n _ ih K => frN sz fun sz => frN n fun n => ih fun cs => K (.sl sz n cs))
    (fun K => K []) (fun _ _ ih1 ih2 K => ih1 fun x => ih2 fun l => K (x :: l)) d
mutual
theorem qaP : ∀ (d : D) (K : D → β), frD d K = K d
  | .int k n, K => by show frI n (fun n => K (.int k n)) = _; rw [qbD]
  | .bool b, K => by show frB b (fun b => K (.bool b)) = _; rw [qb9]
  | .str s, K => rfl
  | .sl sz n cs, K => by show frN sz (fun sz => frN n fun n => qfX cs fun cs => K (.sl sz n cs)) = _; rw [Qu, Qu, q4u cs]
theorem q4u : ∀ (d : List D) (K : List D → β), qfX d K = K d
  | [], K => rfl
  | x :: l, K => (qaP x _).trans (q4u l _)
end
noncomputable def frC (c : C) : (C → β) → β :=
  C.rec (motive_1 := fun _ => (C → β) → β) (motive_2 := fun _ => (List C → β) → β)
    (fun x K => frD x fun x => K (.d x)) (fun i o K => frN i fun i => frN o fun o => K (.ptr i o)) (fun h i K => frN i fun i => K (.hd h i)) (fun K => K .nilm) (fun K => K .nilp) (fun K => K .nilf) (fun K => K .nils)
    (fun cs o K => qfX cs fun cs => frN o fun o => K (.eptr cs o)) (fun i sz o n K => frN i fun i => frN sz fun sz => frN o fun o => frN n fun n => K (.own i sz o n))
    (fun f _ _ ih1 ih2 K => ih1 fun fs => ih2 fun caps => K (.fn f fs caps)) (fun K => K .any)
    (fun K => K []) (fun _ _ ih1 ih2 K => ih1 fun x => ih2 fun l => K (x :: l)) c
noncomputable def qfy (c : List C) : (List C → β) → β :=
  C.rec_1 (motive_1 := fun _ => (C → β) → β) (motive_2 := fun _ => (List C → β) → β)
    (fun x K => frD x fun x => K (.d x)) (fun i o K => frN i fun i => frN o fun o => K (.ptr i o)) (fun h i K => frN i fun i => K (.hd h i)) (fun K => K .nilm) (fun K => K .nilp) (fun K => K .nilf) (fun K => K .nils)
    (fun cs o K => qfX cs fun cs => frN o fun o => K (.eptr cs o)) (fun i sz o n K => frN i fun i => frN sz fun sz => frN o fun o => frN n fun n => K (.own i sz o n))
    (fun f _ _ ih1 ih2 K => ih1 fun fs => ih2 fun caps => K (.fn f fs caps)) (fun K => K .any)
    (fun K => K []) (fun _ _ ih1 ih2 K => ih1 fun x => ih2 fun l => K (x :: l)) c
mutual
theorem qba : ∀ (c : C) (K : C → β), frC c K = K c
  | .d x, K => by show frD x (fun x => K (.d x)) = _; rw [qaP]
  | .ptr i o, K => by show frN i (fun i => frN o fun o => K (.ptr i o)) = _; rw [Qu, Qu]
  | .hd h i, K => by show frN i (fun i => K (.hd h i)) = _; rw [Qu]
  | .nilm, K => rfl
  | .nilp, K => rfl
  | .nilf, K => rfl
  | .nils, K => rfl
  | .eptr cs o, K => by show qfX cs (fun cs => frN o fun o => K (.eptr cs o)) = _; rw [q4u, Qu]
  | .own i sz o n, K => by show frN i (fun i => frN sz fun sz => frN o fun o => frN n fun n => K (.own i sz o n)) = _; rw [Qu, Qu, Qu, Qu]
  | .fn f fs caps, K => (JL fs _).trans (JL caps _)
  | .any, K => rfl
theorem JL : ∀ (c : List C) (K : List C → β), qfy c K = K c
  | [], K => rfl
  | x :: l, K => (qba x _).trans (JL l _)
end
noncomputable def frR (r : R) : (R → β) → β :=
  R.rec (motive_1 := fun _ => (R → β) → β) (motive_2 := fun _ => (List R → β) → β)
    (fun x K => frC x fun x => K (.c x)) (fun xs K => qfy xs fun xs => K (.agg xs)) (fun _ ih K => ih fun xs => K (.tup xs)) (fun K => K .any)
    (fun K => K []) (fun _ _ ih1 ih2 K => ih1 fun x => ih2 fun l => K (x :: l)) r
noncomputable def qeA (r : List R) : (List R → β) → β :=
  R.rec_1 (motive_1 := fun _ => (R → β) → β) (motive_2 := fun _ => (List R → β) → β)
    (fun x K => frC x fun x => K (.c x)) (fun xs K => qfy xs fun xs => K (.agg xs)) (fun _ ih K => ih fun xs => K (.tup xs)) (fun K => K .any)
    (fun K => K []) (fun _ _ ih1 ih2 K => ih1 fun x => ih2 fun l => K (x :: l)) r
mutual
theorem q3o : ∀ (r : R) (K : R → β), frR r K = K r
  | .c x, K => qba x _
  | .agg xs, K => JL xs _
  | .tup xs, K => q16 xs _
  | .any, K => rfl
theorem q16 : ∀ (r : List R) (K : List R → β), qeA r K = K r
  | [], K => rfl
  | x :: l, K => (q3o x _).trans (q16 l _)
end
def frV (v : Value) (K : Value → β) : β := match v with | .int k n => frI n fun n => K (.int k n) | .bool b => frB b fun b => K (.bool b) | v => K v
theorem qeO (v : Value) (K : Value → β) : frV v K = K v := by cases v <;> simp only [frV, qbD, qb9]
noncomputable def frM (l : List (Value × R × Nat)) : (List (Value × R × Nat) → β) → β :=
  List.rec (motive := fun _ => (List (Value × R × Nat) → β) → β) (fun K => K []) (fun x _ ih K => match x with | (v, r, b) => frV v fun v => frR r fun r => frN b fun b => ih fun l => K ((v, r, b) :: l)) l
theorem q95 (v : Value) (r : R) (b : Nat) (l : List (Value × R × Nat)) (K : List (Value × R × Nat) → β) : frM ((v, r, b) :: l) K = frV v fun v => frR r fun r => frN b fun b => frM l fun l => K ((v, r, b) :: l) := rfl
theorem qbn : ∀ (l : List (Value × R × Nat)) (K : List (Value × R × Nat) → β), frM l K = K l
  | [], K => rfl
  | (v, r, b) :: l, K => by rw [q95, qeO, q3o, Qu, qbn l]
def frP (p : Option Code) (K : Option Code → β) : β := match p with | none => K none | some c => K (some c)
theorem qgf (p : Option Code) (K : Option Code → β) : frP p K = K p := by cases p <;> rfl
noncomputable def qi8 (b : B) (K : B → β) : β := match b with
  | .blk t cs => qfy cs fun cs => K (.blk t cs)
  | .row e sz cs => qfy cs fun cs => K (.row e sz cs)
  | .ob (.mp es ck) => frM es fun es => frN ck fun ck => K (.ob (.mp es ck))
  | .ob (.si s p) => frN p fun p => K (.ob (.si s p))
  | .ob (.lp f tm ps a c st pd) => qeA tm fun tm => frP pd fun pd => K (.ob (.lp f tm ps a c st pd))
  | .ob .df => K (.ob .df)
  | .dead => K .dead
theorem qbR (b : B) (K : B → β) : qi8 b K = K b := by
  cases b with
  | blk t cs => exact JL cs _
  | row e sz cs => exact JL cs _
  | ob o =>
    cases o with
    | mp es ck => show frM es (fun es => frN ck fun ck => K (.ob (.mp es ck))) = _; rw [qbn, Qu]
    | si s p => show frN p (fun p => K (.ob (.si s p))) = _; rw [Qu]
    | lp f tm ps a c st pd => show qeA tm (fun tm => frP pd fun pd => K (.ob (.lp f tm ps a c st pd))) = _; rw [q16, qgf]
    | df => rfl
  | dead => rfl
noncomputable def frT (l : List (Nat × R)) : (List (Nat × R) → β) → β :=
  List.rec (motive := fun _ => (List (Nat × R) → β) → β) (fun K => K []) (fun x _ ih K => match x with | (i, r) => frR r fun r => ih fun l => K ((i, r) :: l)) l
theorem qbu : ∀ (l : List (Nat × R)) (K : List (Nat × R) → β), frT l K = K l
  | [], K => rfl
  | (i, r) :: l, K => (q3o r _).trans (qbu l _)
noncomputable def frH (l : List (Nat × B)) : (List (Nat × B) → β) → β :=
  List.rec (motive := fun _ => (List (Nat × B) → β) → β) (fun K => K []) (fun x _ ih K => match x with | (i, r) => frN i fun i => qi8 r fun r => ih fun l => K ((i, r) :: l)) l
theorem q97 (i : Nat) (r : B) (l : List (Nat × B)) (K : List (Nat × B) → β) : frH ((i, r) :: l) K = frN i fun i => qi8 r fun r => frH l fun l => K ((i, r) :: l) := rfl
theorem q2f : ∀ (l : List (Nat × B)) (K : List (Nat × B) → β), frH l K = K l
  | [], K => rfl
  | (i, r) :: l, K => by rw [q97, Qu, qbR, q2f l]
noncomputable def frS (s : S) (K : S → β) : β := match s with | ⟨tm, hp, nx, n⟩ => frT tm fun tm => frH hp fun hp => frN nx fun nx => K ⟨tm, hp, nx, n⟩
theorem q18 (s : S) (K : S → β) : frS s K = K s := by
  obtain ⟨tm, hp, nx, n⟩ := s
  show frT tm (fun tm => frH hp fun hp => frN nx fun nx => K ⟨tm, hp, nx, n⟩) = _
  rw [qbu, q2f, Qu]
end
section
variable (P : Program) (T : Ty) (po : Pol) (E : Orc)
noncomputable def kxr (ops : List Oper) : List Oper → S → Option S
  | [], s => some s
  | o :: l, s => (xgd P T po E ops o s).bind fun s' => frS s' fun s' => kxr ops l s'
noncomputable def q60 {β : Type} (l : List Nat) : (List Nat → β) → β :=
  List.rec (motive := fun _ => (List Nat → β) → β) (fun K => K []) (fun x _ ih K => frN x fun x => ih fun l => K (x :: l)) l
theorem q0a {β : Type} : ∀ (l : List Nat) (K : List Nat → β), q60 l K = K l
  | [], K => rfl
  | x :: l, K => by show frN x (fun x => q60 l fun l => K (x :: l)) = _; rw [Qu, q0a l]
noncomputable def frX {β : Type} (x : Tx) (K : Tx → β) : β := match x with | ((r, us), ⟨rb, wb, X, ks, nw⟩) => frR r fun r => frH us fun us => q60 rb fun rb => q60 wb fun wb => q60 X fun X => q60 ks fun ks => q60 nw fun nw => K ((r, us), ⟨rb, wb, X, ks, nw⟩)
theorem qfk {β : Type} (x : Tx) (K : Tx → β) : frX x K = K x := by
  obtain ⟨⟨r, us⟩, ⟨rb, wb, X, ks, nw⟩⟩ := x
  show (frR r fun r => frH us fun us => q60 rb fun rb => q60 wb fun wb => q60 X fun X => q60 ks fun ks => q60 nw fun nw => K ((r, us), ⟨rb, wb, X, ks, nw⟩)) = _
  rw [q3o, q2f, q0a, q0a, q0a, q0a, q0a]
noncomputable def qgY (ops : List Oper) (A : List (List Nat)) (s0 : S) : Nat → List Oper → S → List Tx → Option S
  | 0, l, s, acc => if okP A 0 [] acc = true ∧ okX ops A s0 acc 0 acc = true ∧ okK ops A acc = true ∧ okN acc 0 acc = true then kxr P T po E ops l s else none
  | m + 1, o :: l, s, acc => (xgF P T po E ops o s).bind fun q => frS q.1 fun s1 => frX q.2 fun x => qgY ops A s0 m l s1 (acc ++ [x])
  | _ + 1, [], _, _ => none
theorem q7A (ops : List Oper) : ∀ (l : List Oper) (s : S), kxr P T po E ops l s = xr P T po E ops l s
  | [], s => rfl
  | o :: l, s => by
    unfold kxr xr
    congr 1
    funext s'
    rw [q18, q7A ops l]
theorem q7v (ops : List Oper) (A : List (List Nat)) (s0 : S) : ∀ (m : Nat) (l : List Oper) (s : S) (acc : List Tx), qgY P T po E ops A s0 m l s acc = xdp P T po E ops A s0 m l s acc
  | 0, l, s, acc => by unfold qgY xdp; rw [q7A]
  | m + 1, o :: l, s, acc => by
    unfold qgY xdp
    congr 1
    funext q
    rw [q18, qfk, q7v ops A s0 m l]
  | _ + 1, [], _, _ => rfl
noncomputable def qhP (x : XS) : XS := x.bind fun p => frS p.2 fun s => some (p.1, s)
theorem q6F (x : XS) : qhP x = x := by
  cases x with
  | none => rfl
  | some p => show frS p.2 (fun s => some (p.1, s)) = _; rw [q18]
noncomputable def kXD (LO : (S → XS) → S → XS) (f k : Nat) : Code → S → XS
  | .skip, s => some (.normal, s)
  | .label _, s => some (.normal, s)
  | .ret, s => some (.ret, s)
  | .exit id, s => some (.exit id, s)
  | .seq a b, s => (kXD LO f k a s).bind (sqD fun s' => kXD LO f k b s')
  | .block id c, s => (kXD LO f k c s).bind (bkD id)
  | .cond c x y, s => match s.ev c with
    | .c (.d (.bool b)) => if b = true then kXD LO f k x (s.ly c tt) else kXD LO f k y (s.ly c ff)
    | _ => none
  | .region id ops draw, s => if draw = true then frS ((s.dzr po.q).frz (JF (s.dzr po.q) (po.rk f id))) fun s => (qgY P T po E ops.toList (po.an f id) s (po.dm f id) ops.toList s []).bind fun s' => some (.normal, s') else (kxr P T po E ops.toList ops.toList s).bind fun s' => some (.normal, s')
  | .rangeFunc g ps a b, s => qhP (frS ((s.dzr po.q).frz (JF (s.dzr po.q) (po.rk f (qC b)))) fun s => xRF po E f g ps.toList a b s)
  | .loop c, s => (nrm po f (qC c) k s).bind fun s0 => frS s0 fun s0 => LO (fun s => qhP ((kXD LO f k c s).bind (lpx po f (qC c) k))) s0
  | _, _ => none
theorem q6x (LO : (S → XS) → S → XS) (f k : Nat) : ∀ (c : Code) (s : S), kXD P T po E LO f k c s = XD P T po E (D1 P T po E f k) LO f k c s := by
  intro c
  induction c with
  | seq a b iha ihb => intro s; unfold kXD XD; rw [iha]; congr 1; funext p; unfold sqD; split <;> first | exact ihb _ | rfl
  | block id c ih => intro s; unfold kXD XD; rw [ih]
  | cond c x y ihx ihy =>
    intro s
    unfold kXD XD
    rw [ihx, ihy]
    generalize s.ev c = r
    cases r with
    | c x =>
      cases x with
      | d d => cases d <;> rfl
      | _ => rfl
    | _ => rfl
  | region id ops draw =>
    intro s
    unfold kXD XD
    rw [q18, q7v, q7A]
    rfl
  | rangeFunc g ps a b _ _ => intro s; unfold kXD XD; rw [q6F, q18]
  | loop c ih =>
    intro s
    unfold kXD XD
    congr 1
    funext s0
    rw [q18]
    congr 1
    funext s
    rw [q6F, ih]
  | _ => intro s; rfl
noncomputable def frF (x : Option (R × List (Nat × B))) : Option (R × List (Nat × B)) := x.bind fun q => frR q.1 fun r => frH q.2 fun hp => some (r, hp)
theorem q7c (x : Option (R × List (Nat × B))) : frF x = x := by
  cases x with
  | none => rfl
  | some q => show frR q.1 (fun r => frH q.2 fun hp => some (r, hp)) = _; rw [q3o, q2f]
noncomputable def qbW (LO : (S → XS) → S → XS) (f k : Nat) (args : List R) (G : List (Nat × B)) (bd : Bd) : Option (R × List (Nat × B)) :=
  if args.length ≤ bd.n then qeA args fun args => frH G fun G => frF ((kXD P T po E LO f k bd.code ⟨Zh args 0, G, G.length, bd.n⟩).bind (qe9 T po f k bd)) else none
noncomputable def q85 (LO : (S → XS) → S → XS) (f k : Nat) (a b : Code) (tm : List R) (G : List (Nat × B)) : Option (R × List (Nat × B)) :=
  if 0 < k ∧ q1W (drq po f) false a = true ∧ q1W (drq po f) false b = true then qeA tm fun tm => frH G fun G => frF ((kXD P T po E LO f k a ⟨Zh tm 0, G, G.length, tm.length⟩).bind fun p =>
    match p.1 with
    | .normal => (rdB (p.2.blk (k - 1))).bind fun x => frS (p.2.up [(k - 1, x)]) fun s => (kXD P T po E LO f k b s).bind (q4q k)
    | _ => none) else none
theorem qa5 (LO : (S → XS) → S → XS) (f k : Nat) (args : List R) (G : List (Nat × B)) (bd : Bd) : qbW P T po E LO f k args G bd = JR P T po (D1 P T po) E LO f k args G bd := by
  unfold qbW JR
  rw [q16, q2f, q7c, q6x]
theorem q6y (LO : (S → XS) → S → XS) (f k : Nat) (a b : Code) (tm : List R) (G : List (Nat × B)) : q85 P T po E LO f k a b tm G = Zj P T po (D1 P T po) E LO f k a b tm G := by
  unfold q85 Zj
  rw [q16, q2f, q7c, q6x]
  congr 1
  congr 1
  funext p
  obtain ⟨e, t⟩ := p
  unfold q1r
  cases e with
  | normal =>
    simp only
    congr 1
    funext x
    rw [q18, q6x]
  | _ => rfl
end
noncomputable def kf (P : Program) (T : Ty) (po : Pol) (bt : Nat → Option Bd) (tab : Orc) : Nat → Orc
  | 0 => fun _ _ _ _ => none
  | n + 1 => fun g k args G => match tab g k args G with
    | some x => some x
    | none => match g with
      | .fn f => (match po.pr f with | some g => frF (prx g k args G) | none => (bt f).bind fun bd => qbW P T po (kf P T po bt tab n) (iter n) f k args G bd)
      | .rd f a b => q85 P T po (kf P T po bt tab n) (iter n) f k a b args G
theorem qgV {P : Program} {T : Ty} {po : Pol} {bt : Nat → Option Bd} {tab : Orc} (hb : ∀ f bd, bt f = some bd → qf P po f = some bd) (ht : OLe tab (EE P T po (D1 P T po))) : ∀ n, OLe (kf P T po bt tab n) (EE P T po (D1 P T po))
  | 0 => fun _ _ _ _ _ h => by cases h
  | n + 1 => fun g k args G x h => by
    have ih := qgV hb ht n
    unfold kf at h
    split at h
    · rename_i y hy
      injection h with h
      subst h
      exact ht _ _ _ _ _ hy
    · cases g with
      | fn f =>
        simp only at h
        rw [qgH q06 q3U]
        unfold fnx
        cases hg : po.pr f with
        | some g =>
          rw [hg] at h
          simp only [q7c] at h
          exact h
        | none =>
          rw [hg] at h
          obtain ⟨bd, h1, h2⟩ := Option.bind_eq_some_iff.1 h
          rw [qa5] at h2
          simp only [hb f bd h1, Option.bind_some]
          exact q2j q06 ih (q2v n) h2
      | rd f a b =>
        simp only at h
        rw [qiu q06 q3U]
        rw [q6y] at h
        exact Ja q06 ih (q2v n) h
def qkn : Orc := fun _ _ _ _ => none
theorem qdd {E : Orc} : OLe qkn E := fun _ _ _ _ _ h => by cases h
end Go.Proofs.YtplfjlcnffcenaaGreat.Vc
