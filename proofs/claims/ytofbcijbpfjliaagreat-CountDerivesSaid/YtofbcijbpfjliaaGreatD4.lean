/- Part 4 of a proof. -/
import Derived.Test.YtofbcijbpfjliaaGreatD3
import Derived.TacticsInMore
import Derived.Below
import Derived.Shelf.SlIter.Sorted
set_option linter.unusedVariables false
set_option linter.unusedSimpArgs false
set_option linter.defProp false
set_option linter.unusedSectionVars false
set_option linter.unnecessarySimpa false
namespace Go.Proofs.YtofbcijbpfjliaaGreat.Vc
noncomputable section
open Go.RowKit
def pq (t:TypeId):List Nat:=bif Nat.blt t 164 then(br t 82 (br t 41 (br t 20 [] (br t 30 (br t 25 (br t 22 [] (br t 23 [1] [])) (br t 27 (br t 26 [1] []) (br t 28 [1,0,0,0,0,0,0,1,0] (br t 29 [1,0,0,0,0,0,0,1,0] [])))) (br t 35 (br t 32 (br t 31 [8] [2]) (br t 33 [5] [0,0,0,2,5])) (br t 38 (br t 36 [4] [0,0,0,0,0,0,0,0,2,5,0,0,0,4]) [])))) (br t 61 (br t 51 (br t 46 [] (br t 48 [1,1] [])) (br t 56 (br t 53 [] (br t 54 [0,0,0,0,0,1,0,1] (br t 55 [0,0,0,0,0,1,0,1] []))) [])) (br t 71 [] (br t 76 (br t 73 (br t 72 [1] []) []) [])))) (br t 123 (br t 102 (br t 92 (br t 87 [] (br t 89 (br t 88 [2] []) [])) (br t 97 (br t 94 [1,0] (br t 95 [1] [])) (br t 99 (br t 98 [] [1,0]) []))) (br t 112 [] (br t 117 (br t 114 (br t 113 [] [1]) []) []))) (br t 143 [] (br t 153 (br t 148 [] (br t 150 [] (br t 151 [1] []))) (br t 158 [] (br t 161 [] (br t 162 [] (br t 163 [] [1])))))))) else[]
def pow (t:FuncId):List Nat:=bif Nat.blt t 72 then(br t 36 (br t 18 (br t 9 (br t 4 [] (br t 6 [] (br t 7 [0] []))) []) (br t 27 (br t 22 (br t 20 [] (br t 21 [0] [])) []) [])) (br t 54 [] (br t 63 [] (br t 67 [] (br t 69 [] (br t 70 [] (br t 71 [] [0]))))))) else[]
def pfz (f:FuncId):Bool:=([5,8,9,11,12,13,15,16,18,22,23,24,25,27,28,29,33,35,39,42,52,61,63,64,68,80,81,82,83,85,106,108]:List Nat).contains f
def pro (f:FuncId):Bool:=([13,35,41,144]:List Nat).contains f
def pkp (t:FuncId) (k:Nat):List Nat:=bif Nat.blt t 159 then(br t 79 (br t 39 (br t 19 (br t 9 (br t 4 [] (br t 6 (br t 5 [] (br k 4 (br k 2 [] (br k 3 [] [1,3,5,13,14])) [])) (br t 7 (br k 10 (br k 5 (br k 2 [] (br k 3 [] (br k 4 [3,5,6,10,14,15,16] []))) (br k 7 [] (br k 8 [] (br k 9 [] [6,10,13])))) []) (br t 8 [] (br k 7 (br k 3 [] (br k 5 [] (br k 6 [] [2,4,5,7,8,9,11,28,29,30]))) []))))) (br t 14 (br t 11 [] (br t 12 (br k 5 (br k 2 [] (br k 3 [] (br k 4 [] [0,1,5]))) []) (br t 13 (br k 33 (br k 16 (br k 8 (br k 4 [] (br k 6 (br k 5 [0,3,4,19,20] []) [])) (br k 12 (br k 10 (br k 9 [0,3,4,5,19,20,27,28] []) []) (br k 14 [] (br k 15 [] [0,3,4,50,51])))) (br k 24 (br k 20 (br k 18 (br k 17 [] [0,3,4,50,51,53,54,55]) []) []) (br k 28 (br k 26 (br k 25 [] [4,10,83,84]) []) (br k 30 [] (br k 31 [] (br k 32 [] [10,12,98,99,100])))))) []) (br k 4 (br k 2 [] (br k 3 [] [0,3,4])) [])))) [])) (br t 29 (br t 24 (br t 21 (br t 20 (br k 4 (br k 2 [] (br k 3 [] [3,4,5,7,13,14,15])) []) []) (br t 22 [] (br t 23 (br k 3 (br k 1 [] (br k 2 [] [0,4,7,8,9])) []) []))) (br t 26 (br t 25 [] (br k 3 (br k 1 [] (br k 2 [] [0,2,3])) [])) (br t 27 (br k 9 (br k 4 (br k 2 [] (br k 3 [] [1,2,3,7,12,13,14])) (br k 6 [] (br k 7 [] (br k 8 [] [1,2,3,7,9,12,13,14,25,26,27])))) []) (br t 28 (br k 10 (br k 5 (br k 2 [] (br k 3 [2,3,4,5,6,10,11,12] [])) (br k 7 [] (br k 8 [] (br k 9 [] [2,3,4,5,6,10,11,12,13,15,46,47,48])))) []) (br k 3 (br k 1 [] (br k 2 [] [0,4,7,8,9])) []))))) (br t 34 (br t 31 (br t 30 [] (br k 4 (br k 2 [] (br k 3 [] [3,6,7,8])) [])) (br t 32 (br k 5 (br k 2 [] (br k 3 [] (br k 4 [] [0,1,5]))) []) [])) []))) (br t 59 (br t 49 (br t 44 (br t 41 (br t 40 (br k 10 (br k 5 [] (br k 7 [] (br k 8 [] (br k 9 [] [0,1,2,6,7,8,9,10])))) []) []) (br t 42 [] (br t 43 (br k 9 (br k 4 (br k 2 [] (br k 3 [] [3,10,11,12])) (br k 6 [] (br k 7 [] (br k 8 [] [3,10,11,12,22,23,24])))) []) []))) (br t 46 [] (br t 47 [] (br t 48 (br k 14 (br k 7 [] (br k 10 [] (br k 12 [] (br k 13 [] [1,62,63,64])))) []) (br k 3 (br k 1 [] (br k 2 [] [1,9,10,11])) []))))) (br t 54 (br t 51 (br t 50 (br k 7 (br k 3 [] (br k 5 [] (br k 6 [] [6,37,38,39]))) []) []) (br t 52 [] (br t 53 [] (br k 9 (br k 4 (br k 2 [] (br k 3 [0,3,8,9] [])) (br k 6 [] (br k 7 [] (br k 8 [] [0,19,20,21])))) [])))) (br t 56 [] (br t 57 (br k 4 (br k 2 [] (br k 3 [] [3,6,7,8])) []) [])))) (br t 69 (br t 64 (br t 61 (br t 60 (br k 3 (br k 1 [] (br k 2 [] [0,1,9,10,11])) []) []) (br t 62 (br k 15 (br k 7 [] (br k 11 (br k 9 [] (br k 10 [2,3,4,5,12,13,14,15,49,50] [])) (br k 13 [] (br k 14 [] [2,3,4,5,12,13,14,15,16,49,50])))) []) (br t 63 [] (br k 5 (br k 2 [] (br k 3 [] (br k 4 [] [0,3,4,8]))) [])))) (br t 66 (br t 65 [] (br k 3 (br k 1 [] (br k 2 [] [0,6,7,8])) [])) (br t 67 (br k 5 (br k 2 [] (br k 3 [] (br k 4 [] [0,1,12,13]))) []) (br t 68 [] (br k 9 (br k 4 [] (br k 6 (br k 5 [0,3,4,5] []) (br k 7 [] (br k 8 [] [0,3,4,5,6,7])))) []))))) (br t 74 (br t 71 [] (br t 72 (br k 10 (br k 5 (br k 2 [] (br k 3 [] (br k 4 [] [0,3]))) (br k 7 [] (br k 8 [] (br k 9 [] [0,3,4,5])))) []) (br t 73 [] (br k 3 (br k 1 [] (br k 2 [] [0,1,7,8])) [])))) (br t 76 (br t 75 (br k 3 (br k 1 [] (br k 2 [] [0,1,7,8])) []) []) (br t 77 (br k 3 (br k 1 [] (br k 2 [] [0,6,7,8])) []) [])))))) (br t 119 (br t 99 (br t 89 (br t 84 (br t 81 [] (br t 82 (br k 4 (br k 2 [] (br k 3 [] [2,14,15,16])) []) (br t 83 [] (br k 39 (br k 19 (br k 9 (br k 4 [] (br k 6 (br k 5 [] [1,2,3,4,7,9,10,11]) [])) (br k 14 [] (br k 16 (br k 15 [3,5,6,7,9,12,13] []) (br k 17 [] (br k 18 [] [3,5,6,7,9,12,72,73,74]))))) (br k 29 (br k 24 [] (br k 26 (br k 25 [] [3,5,6,7,9,12,17,18,19,72,73,74,96,97]) [])) (br k 34 [] (br k 36 [] (br k 37 [] (br k 38 [] [9,12,21,22])))))) [])))) (br t 86 [] (br t 87 (br k 4 (br k 2 [] (br k 3 [] [3,4,5,8,9,13,14,15])) []) (br t 88 [] (br k 2 (br k 1 [] [1,2,6]) []))))) (br t 94 (br t 91 (br t 90 [] (br k 3 (br k 1 [] (br k 2 [] [0,1,2,3,4,10,11])) [])) []) (br t 96 (br t 95 [] (br k 3 (br k 1 [] (br k 2 [] [0,3,7,8])) [])) (br t 97 (br k 3 (br k 1 [] (br k 2 [] [0,1,8,9,10])) []) [])))) (br t 109 (br t 104 (br t 101 [] (br t 102 [] (br t 103 (br k 3 (br k 1 [] (br k 2 [] [0,1,2,3,8,9])) []) []))) (br t 106 [] (br t 107 [] (br t 108 [] (br k 4 (br k 2 [] (br k 3 [] [1,2,14,15,16])) []))))) (br t 114 (br t 111 [] (br t 112 (br k 8 (br k 4 [] (br k 6 [] (br k 7 [] [1,22,23,24]))) []) [])) (br t 116 [] (br t 117 [] (br t 118 [] (br k 5 (br k 2 (br k 1 [] [0,1,2,3,8]) (br k 3 [] (br k 4 [] [0,1,2,3,8,9]))) []))))))) (br t 139 (br t 129 (br t 124 (br t 121 (br t 120 (br k 9 (br k 4 [] (br k 6 (br k 5 [0,3,8,9,10,11] []) (br k 7 [] (br k 8 [] [0,3,8,9,12])))) []) (br k 6 (br k 3 [] (br k 4 [] (br k 5 [] [0,1,8,9,10,11]))) [])) (br t 122 [] (br t 123 (br k 3 (br k 1 [] (br k 2 [] [0,8,9])) []) (br k 21 (br k 10 (br k 5 (br k 2 [] (br k 3 [] (br k 4 [0,1,2,3,9,10] []))) (br k 7 (br k 6 [0,1,2,3,9,10] []) [])) (br k 15 (br k 12 [] (br k 13 [] (br k 14 [] [0,1,2,3,9,10,11]))) (br k 18 [] (br k 19 [] (br k 20 [] [0,1,2,3,9,10,12]))))) [])))) (br t 126 (br t 125 (br k 6 (br k 3 [] (br k 4 [0,1,4,11,12] (br k 5 [] [0,1,4,11,12]))) []) (br k 16 (br k 8 (br k 4 (br k 2 [] (br k 3 [] [0,1,4,12,13])) (br k 6 (br k 5 [] [0,1,4,12,13]) [])) (br k 12 [] (br k 14 (br k 13 [] [0,1,4,12,13]) (br k 15 [] [0,1,4,12,13])))) [])) (br t 127 [] (br t 128 [] (br k 3 (br k 1 [] (br k 2 [] [0,1,7,8])) []))))) (br t 134 (br t 131 (br t 130 (br k 5 (br k 2 (br k 1 [] [0,1,2,6]) (br k 3 [] (br k 4 [] [0,1,2,6,7]))) []) (br k 9 (br k 4 [] (br k 6 (br k 5 [0,6,7,8,9] []) (br k 7 [] (br k 8 [] [0,6,7,10])))) [])) (br t 132 (br k 6 (br k 3 [] (br k 4 [] (br k 5 [] [0,1,6,7,8,9]))) []) (br t 133 [] (br k 3 (br k 1 [] (br k 2 [] [0,6,7])) [])))) (br t 136 (br t 135 (br k 21 (br k 10 (br k 5 (br k 2 [] (br k 3 [] (br k 4 [0,1,2,7,8] []))) (br k 7 (br k 6 [0,1,2,7,8] []) [])) (br k 15 (br k 12 [] (br k 13 [] (br k 14 [] [0,1,2,7,8,9]))) (br k 18 [] (br k 19 [] (br k 20 [] [0,1,2,7,8,10]))))) []) []) (br t 137 (br k 6 (br k 3 [] (br k 4 [0,1,9,10] (br k 5 [] [0,1,9,10]))) []) (br t 138 (br k 16 (br k 8 (br k 4 (br k 2 [] (br k 3 [] [0,1,10,11])) (br k 6 (br k 5 [] [0,1,10,11]) [])) (br k 12 [] (br k 14 (br k 13 [] [0,1,10,11]) (br k 15 [] [0,1,10,11])))) []) []))))) (br t 149 (br t 144 (br t 141 [] (br t 142 [] (br t 143 (br k 5 (br k 2 [] (br k 3 [] (br k 4 [] [1,2,15,16,17]))) []) []))) (br t 146 [] (br t 147 [] (br t 148 [] (br k 2 (br k 1 [] [0,2,3,4,10]) []))))) (br t 154 (br t 151 [] (br t 152 [] (br t 153 [] (br k 2 (br k 1 [] [0,2,3,8]) [])))) (br t 156 [] (br t 157 (br k 3 (br k 1 [] (br k 2 [] [1,2,10])) []) (br t 158 (br k 3 (br k 1 [] (br k 2 [] [0,1,7,8])) []) (br k 3 (br k 1 [] (br k 2 [] [0,3,7,8])) []))))))))) else[]
def pkx (t:FuncId) (k:Nat):List Nat:=bif Nat.blt t 159 then(br t 79 (br t 39 (br t 19 (br t 9 (br t 4 [] (br t 6 (br t 5 [] (br k 4 (br k 2 [] (br k 3 [] [1,3,5])) [])) (br t 7 (br k 10 (br k 5 (br k 2 [] (br k 3 [] (br k 4 [6,10] []))) (br k 7 [] (br k 8 [] (br k 9 [] [10])))) []) (br t 8 [] (br k 7 (br k 3 [] (br k 5 [] (br k 6 [] [2,4,5,7,8,9,11]))) []))))) (br t 14 (br t 11 [] (br t 12 (br k 5 (br k 2 [] (br k 3 [] (br k 4 [] [4]))) []) (br t 13 (br k 33 (br k 16 (br k 8 (br k 4 [] (br k 6 (br k 5 [0,3,4] []) [])) (br k 12 (br k 10 (br k 9 [0,3,4,19,20] []) []) (br k 14 [] (br k 15 [] [0,4])))) (br k 24 (br k 20 (br k 18 (br k 17 [] [0,3,4,50,51]) []) []) (br k 28 (br k 26 (br k 25 [] [4,10]) []) (br k 30 [] (br k 31 [] (br k 32 [] [10])))))) []) (br k 4 (br k 2 [] (br k 3 [] [3])) [])))) [])) (br t 29 (br t 24 (br t 21 (br t 20 (br k 4 (br k 2 [] (br k 3 [] [6])) []) []) (br t 22 [] (br t 23 (br k 3 (br k 1 [] (br k 2 [] [4])) []) []))) (br t 26 (br t 25 [] (br k 3 (br k 1 [] (br k 2 [] [2])) [])) (br t 27 (br k 9 (br k 4 (br k 2 [] (br k 3 [] [1,3,6,7])) (br k 6 [] (br k 7 [] (br k 8 [] [1,2,3,6,7,9,12,13,14])))) []) (br t 28 (br k 10 (br k 5 (br k 2 [] (br k 3 [10,11] [])) (br k 7 [] (br k 8 [] (br k 9 [] [2,3,4,5,6,10,11,12,15])))) []) (br k 3 (br k 1 [] (br k 2 [] [4])) []))))) (br t 34 (br t 31 (br t 30 [] (br k 4 (br k 2 [] (br k 3 [] [3])) [])) (br t 32 (br k 5 (br k 2 [] (br k 3 [] (br k 4 [] [4]))) []) [])) []))) (br t 59 (br t 49 (br t 44 (br t 41 (br t 40 (br k 10 (br k 5 [] (br k 7 [] (br k 8 [] (br k 9 [] [0,6,7,8,9])))) []) []) (br t 42 [] (br t 43 (br k 9 (br k 4 (br k 2 [] (br k 3 [] [3])) (br k 6 [] (br k 7 [] (br k 8 [] [3,10,11,12])))) []) []))) (br t 46 [] (br t 47 [] (br t 48 (br k 14 (br k 7 [] (br k 10 [] (br k 12 [] (br k 13 [] [2])))) []) (br k 3 (br k 1 [] (br k 2 [] [1,2])) []))))) (br t 54 (br t 51 (br t 50 (br k 7 (br k 3 [] (br k 5 [] (br k 6 [] [2]))) []) []) (br t 52 [] (br t 53 [] (br k 9 (br k 4 (br k 2 [] (br k 3 [0,3] [])) []) [])))) (br t 56 [] (br t 57 (br k 4 (br k 2 [] (br k 3 [] [2,3])) []) [])))) (br t 69 (br t 64 (br t 61 (br t 60 (br k 3 (br k 1 [] (br k 2 [] [0,1,4])) []) []) (br t 62 (br k 15 (br k 7 [] (br k 11 (br k 9 [] (br k 10 [15] [])) (br k 13 [] (br k 14 [] [2,3,4,5,12,13,14,15,16,49,50])))) []) (br t 63 [] (br k 5 (br k 2 [] (br k 3 [] (br k 4 [] [7]))) [])))) (br t 66 (br t 65 [] (br k 3 (br k 1 [] (br k 2 [] [2])) [])) (br t 67 (br k 5 (br k 2 [] (br k 3 [] (br k 4 [] [4]))) []) (br t 68 [] (br k 9 (br k 4 [] (br k 6 (br k 5 [4] []) (br k 7 [] (br k 8 [] [0,3,4,5,6,7])))) []))))) (br t 74 (br t 71 [] (br t 72 (br k 10 (br k 5 (br k 2 [] (br k 3 [] (br k 4 [] [0,2]))) (br k 7 [] (br k 8 [] (br k 9 [] [0,3])))) []) (br t 73 [] (br k 3 (br k 1 [] (br k 2 [] [4])) [])))) (br t 76 (br t 75 (br k 3 (br k 1 [] (br k 2 [] [4])) []) []) (br t 77 (br k 3 (br k 1 [] (br k 2 [] [0,2])) []) [])))))) (br t 119 (br t 99 (br t 89 (br t 84 (br t 81 [] (br t 82 (br k 4 (br k 2 [] (br k 3 [] [2])) []) (br t 83 [] (br k 39 (br k 19 (br k 9 (br k 4 [] (br k 6 (br k 5 [] [3,9]) [])) (br k 14 [] (br k 16 (br k 15 [3,5,6,7,9,12] []) (br k 17 [] (br k 18 [] [7,9,12]))))) (br k 29 (br k 24 [] (br k 26 (br k 25 [] [3,5,6,7,9,12,19,72,73,74]) [])) (br k 34 [] (br k 36 [] (br k 37 [] (br k 38 [] [9])))))) [])))) (br t 86 [] (br t 87 (br k 4 (br k 2 [] (br k 3 [] [8,9])) []) (br t 88 [] (br k 2 [] []))))) (br t 94 (br t 91 (br t 90 [] (br k 3 [] [])) []) (br t 96 (br t 95 [] (br k 3 (br k 1 [] (br k 2 [] [4])) [])) (br t 97 (br k 3 (br k 1 [] (br k 2 [] [5])) []) [])))) (br t 109 (br t 104 (br t 101 [] (br t 102 [] (br t 103 (br k 3 [] []) []))) (br t 106 [] (br t 107 [] (br t 108 [] (br k 4 (br k 2 [] (br k 3 [] [1,2])) []))))) (br t 114 (br t 111 [] (br t 112 (br k 8 (br k 4 [] (br k 6 [] (br k 7 [] [2]))) []) [])) (br t 116 [] (br t 117 [] (br t 118 [] (br k 5 (br k 2 [] (br k 3 [] (br k 4 [] [0,1,2,3,8]))) []))))))) (br t 139 (br t 129 (br t 124 (br t 121 (br t 120 (br k 9 (br k 4 [] (br k 6 (br k 5 [0,3,8,9,10] []) [])) []) (br k 6 [] [])) (br t 122 [] (br t 123 (br k 3 [] []) (br k 21 (br k 10 (br k 5 (br k 2 [] (br k 3 [] (br k 4 [8] []))) (br k 7 (br k 6 [0,1,2,3,9,10] []) [])) (br k 15 (br k 12 [] (br k 13 [] (br k 14 [] [0,1,2,3,9,10]))) (br k 18 [] (br k 19 [] (br k 20 [] [0,1,2,3,9,10]))))) [])))) (br t 126 (br t 125 (br k 6 (br k 3 [] (br k 4 [11] (br k 5 [] [0,1,4,11,12]))) []) (br k 16 (br k 8 (br k 4 (br k 2 [] (br k 3 [] [0,1,4,12,13])) (br k 6 (br k 5 [] [0,1,4,12,13]) [])) (br k 12 [] (br k 14 (br k 13 [] [0,1,13]) (br k 15 [] [0,1,4,12,13])))) [])) (br t 127 [] (br t 128 [] (br k 3 (br k 1 [] (br k 2 [] [4])) []))))) (br t 134 (br t 131 (br t 130 (br k 5 (br k 2 [] (br k 3 [] (br k 4 [] [0,1,2,6]))) []) (br k 9 (br k 4 [] (br k 6 (br k 5 [0,6,7,8] []) [])) [])) (br t 132 (br k 6 [] []) (br t 133 [] (br k 3 [] [])))) (br t 136 (br t 135 (br k 21 (br k 10 (br k 5 (br k 2 [] (br k 3 [] (br k 4 [6] []))) (br k 7 (br k 6 [0,1,2,7,8] []) [])) (br k 15 (br k 12 [] (br k 13 [] (br k 14 [] [0,1,2,7,8]))) (br k 18 [] (br k 19 [] (br k 20 [] [0,1,2,7,8]))))) []) []) (br t 137 (br k 6 (br k 3 [] (br k 4 [9] (br k 5 [] [0,1,9,10]))) []) (br t 138 (br k 16 (br k 8 (br k 4 (br k 2 [] (br k 3 [] [0,1,10,11])) (br k 6 (br k 5 [] [0,1,10,11]) [])) (br k 12 [] (br k 14 (br k 13 [] [0,1,11]) (br k 15 [] [0,1,10,11])))) []) []))))) (br t 149 (br t 144 (br t 141 [] (br t 142 [] (br t 143 (br k 5 (br k 2 [] (br k 3 [] (br k 4 [] [6]))) []) []))) (br t 146 [] (br t 147 [] (br t 148 [] (br k 2 [] []))))) (br t 154 (br t 151 [] (br t 152 [] (br t 153 [] (br k 2 [] [])))) (br t 156 [] (br t 157 (br k 3 (br k 1 [] (br k 2 [] [6])) []) (br k 3 (br k 1 [] (br k 2 [] [4])) [])))))))) else[]
def prw (t:FuncId) (k:Nat):List Rw:=bif Nat.blt t 82 then(br t 41 (br t 20 (br t 10 (br t 5 [] (br t 7 (br t 6 [] (br k 4 (br k 2 [] (br k 3 [] [.slot 10 54 8])) [])) (br t 8 [] (br t 9 (br k 7 (br k 3 [] (br k 5 [] (br k 6 [] [.cell 11 0 3 1]))) []) [])))) (br t 15 (br t 12 [] (br t 13 (br k 26 (br k 13 (br k 6 (br k 3 [] (br k 4 [] (br k 5 [.slot 3 89 2] []))) (br k 9 (br k 7 [] (br k 8 [] [.slot 3 89 2])) [])) (br k 19 [] (br k 22 [] (br k 24 [] (br k 25 [] [.slot 10 25 1]))))) []) (br t 14 (br k 4 (br k 2 [] (br k 3 [] [.slot 3 54 8])) []) []))) [])) (br t 30 (br t 25 (br t 22 [] (br t 23 (br k 3 (br k 1 [] (br k 2 [] [.slot 4 54 8])) []) [])) (br t 27 (br t 26 (br k 3 (br k 1 [] (br k 2 [] [.slot 2 3 1])) []) []) (br t 28 (br k 10 (br k 5 (br k 2 [] (br k 3 [.slot 10 3 1] [])) (br k 7 [] (br k 8 [] (br k 9 [] [.slot 15 3 1])))) []) (br t 29 (br k 3 (br k 1 [] (br k 2 [] [.slot 4 3 1])) []) [])))) (br t 35 [] (br t 38 [] (br t 39 [] (br t 40 (br k 10 (br k 5 [] (br k 7 [] (br k 8 [] (br k 9 [] [.cell 9 4 34 5])))) []) [])))))) (br t 61 (br t 51 [] (br t 56 (br t 53 [] (br t 54 (br k 3 (br k 1 [] (br k 2 [] [.slot 3 3 1])) []) [])) [])) (br t 71 (br t 66 (br t 63 (br t 62 (br k 10 (br k 5 [] (br k 7 [] (br k 8 [] (br k 9 [] [.cell 12 0 3 1,.slot 15 3 1])))) []) []) []) (br t 68 [] (br t 69 (br k 5 (br k 2 [] (br k 3 [] (br k 4 [] [.slot 4 52 2]))) []) []))) (br t 76 [] (br t 79 [] (br t 80 [] (br t 81 [] (br k 4 (br k 2 [] (br k 3 [] [.slot 2 34 5])) [])))))))) else[]
def pdm (t:FuncId) (k:Nat):Nat:=bif Nat.blt t 161 then(br t 80 (br t 40 (br t 20 (br t 10 (br t 5 (br t 2 0 (br t 3 0 (br t 4 (br k 8 (br k 4 (br k 2 0 (br k 3 0 9)) (br k 6 0 10)) 0) 0))) (br t 7 (br t 6 (br k 10 (br k 5 0 (br k 7 0 (br k 8 12 (br k 9 0 10)))) 0) 0) (br t 8 0 (br t 9 (br k 21 (br k 10 0 (br k 15 0 (br k 18 0 (br k 19 0 (br k 20 0 5))))) 0) 0)))) (br t 15 (br t 12 (br t 11 (br k 7 (br k 3 0 (br k 5 0 (br k 6 0 3))) 0) (br k 7 (br k 3 0 (br k 5 0 (br k 6 0 8))) 0)) (br t 13 (br k 37 (br k 18 (br k 9 0 (br k 13 (br k 11 (br k 10 0 8) 0) 0)) (br k 27 (br k 22 (br k 20 (br k 19 0 10) (br k 21 10 0)) 0) (br k 32 0 (br k 34 0 (br k 35 0 (br k 36 0 13)))))) 0) 0)) (br t 17 (br t 16 0 (br k 3 (br k 1 0 (br k 2 0 28)) 0)) (br t 18 (br k 2 (br k 1 0 12) 0) (br t 19 (br k 2 (br k 1 0 7) 0) (br k 6 (br k 3 0 (br k 4 0 (br k 5 0 10))) 0)))))) (br t 30 (br t 25 (br t 22 (br t 21 (br k 6 (br k 3 0 (br k 4 0 (br k 5 0 6))) 0) 0) 0) (br t 27 (br t 26 0 (br k 17 (br k 8 0 (br k 12 0 (br k 14 0 (br k 15 0 (br k 16 0 9))))) 0)) (br t 28 (br k 14 (br k 7 0 (br k 10 0 (br k 12 0 (br k 13 0 9)))) 0) 0))) (br t 35 (br t 32 (br t 31 0 (br k 7 (br k 3 0 (br k 5 0 (br k 6 0 8))) 0)) (br t 33 0 (br t 34 0 (br k 5 (br k 2 (br k 1 0 9) (br k 3 0 (br k 4 0 12))) 0)))) (br t 37 (br t 36 0 (br k 4 (br k 2 (br k 1 0 9) (br k 3 0 15)) 0)) (br t 38 0 (br t 39 0 (br k 12 (br k 6 (br k 3 0 (br k 4 0 (br k 5 10 7))) (br k 9 0 (br k 10 0 (br k 11 0 10)))) 0))))))) (br t 60 (br t 50 (br t 45 0 (br t 47 0 (br t 48 (br k 20 (br k 10 0 (br k 15 0 (br k 17 0 (br k 18 0 (br k 19 0 5))))) 0) (br t 49 (br k 8 (br k 4 0 (br k 6 0 (br k 7 0 15))) 0) 0)))) 0) (br t 70 (br t 65 (br t 62 0 (br t 63 0 (br t 64 (br k 7 (br k 3 0 (br k 5 0 (br k 6 0 7))) 0) 0))) (br t 67 (br t 66 0 (br k 7 (br k 3 0 (br k 5 0 (br k 6 0 8))) 0)) (br t 68 0 (br t 69 (br k 13 (br k 6 0 (br k 9 (br k 7 0 (br k 8 0 10)) (br k 11 (br k 10 0 10) (br k 12 0 7)))) 0) 0)))) (br t 75 (br t 72 (br t 71 0 (br k 12 (br k 6 0 (br k 9 (br k 7 9 0) (br k 10 0 (br k 11 0 9)))) 0)) 0) (br t 77 0 (br t 78 0 (br t 79 (br k 2 (br k 1 0 9) 0) 0))))))) (br t 120 (br t 100 (br t 90 (br t 85 (br t 82 (br t 81 (br k 8 (br k 4 0 (br k 6 0 (br k 7 8 3))) 0) 0) (br t 83 0 (br t 84 (br k 30 (br k 15 (br k 7 0 (br k 11 (br k 9 (br k 8 16 0) 0) 0)) (br k 22 0 (br k 26 0 (br k 28 0 (br k 29 0 6))))) 0) 0))) (br t 87 0 (br t 88 0 (br t 89 0 (br k 2 (br k 1 0 12) 0))))) (br t 95 (br t 92 (br t 91 (br k 18 (br k 9 0 (br k 13 0 (br k 15 0 (br k 16 0 (br k 17 0 13))))) 0) 0) 0) (br t 97 (br t 96 (br k 5 (br k 2 0 (br k 3 0 (br k 4 0 5))) 0) 0) 0))) (br t 110 (br t 105 (br t 102 0 (br t 103 (br k 18 (br k 9 0 (br k 13 0 (br k 15 0 (br k 16 0 (br k 17 0 12))))) 0) 0)) (br t 107 0 (br t 108 0 (br t 109 (br k 6 (br k 3 (br k 1 0 (br k 2 7 0)) (br k 4 0 (br k 5 0 5))) 0) 0)))) (br t 115 (br t 112 (br t 111 0 (br k 10 (br k 5 0 (br k 7 0 (br k 8 0 (br k 9 0 10)))) 0)) 0) (br t 117 0 (br t 118 0 (br t 119 (br k 7 (br k 3 0 (br k 5 (br k 4 0 14) (br k 6 0 16))) 0) (br k 11 (br k 5 0 (br k 8 0 (br k 9 0 (br k 10 0 18)))) 0))))))) (br t 140 (br t 130 (br t 125 (br t 122 (br t 121 (br k 11 (br k 5 0 (br k 8 0 (br k 9 0 (br k 10 0 18)))) 0) 0) (br t 123 (br k 4 (br k 2 0 (br k 3 0 14)) 0) (br t 124 (br k 24 (br k 12 (br k 6 (br k 3 0 (br k 4 0 (br k 5 0 14))) (br k 9 0 (br k 10 0 (br k 11 0 16)))) (br k 18 (br k 15 0 (br k 16 0 (br k 17 10 16))) (br k 21 0 (br k 22 0 (br k 23 10 16))))) 0) (br k 9 (br k 4 (br k 2 (br k 1 0 14) (br k 3 0 13)) (br k 6 (br k 5 0 13) (br k 7 0 (br k 8 0 14)))) 0)))) (br t 127 (br t 126 (br k 22 (br k 11 (br k 5 (br k 2 (br k 1 0 14) (br k 3 0 (br k 4 13 0))) (br k 8 (br k 6 13 0) (br k 9 14 (br k 10 0 14)))) (br k 16 (br k 13 0 (br k 14 13 (br k 15 0 13))) (br k 19 (br k 17 0 (br k 18 0 14)) (br k 20 0 (br k 21 0 14))))) 0) 0) (br t 128 0 (br t 129 0 (br k 7 (br k 3 0 (br k 5 (br k 4 0 13) (br k 6 0 16))) 0))))) (br t 135 (br t 132 (br k 11 (br k 5 0 (br k 8 0 (br k 9 0 (br k 10 0 18)))) 0) (br t 133 0 (br t 134 (br k 4 (br k 2 0 (br k 3 0 14)) 0) (br k 24 (br k 12 (br k 6 (br k 3 0 (br k 4 0 (br k 5 0 13))) (br k 9 0 (br k 10 0 (br k 11 0 16)))) (br k 18 (br k 15 0 (br k 16 0 (br k 17 9 16))) (br k 21 0 (br k 22 0 (br k 23 9 16))))) 0)))) (br t 137 (br t 136 0 (br k 9 (br k 4 (br k 2 (br k 1 0 14) (br k 3 0 12)) (br k 6 (br k 5 0 12) (br k 7 0 (br k 8 0 14)))) 0)) (br t 138 (br k 22 (br k 11 (br k 5 (br k 2 (br k 1 0 14) (br k 3 0 (br k 4 12 0))) (br k 8 (br k 6 12 0) (br k 9 14 (br k 10 0 14)))) (br k 16 (br k 13 0 (br k 14 12 (br k 15 0 12))) (br k 19 (br k 17 0 (br k 18 0 14)) (br k 20 0 (br k 21 0 14))))) 0) 0)))) (br t 150 (br t 145 0 (br t 147 0 (br t 148 0 (br t 149 (br k 7 (br k 3 0 (br k 5 (br k 4 19 0) (br k 6 13 22))) 0) 0)))) (br t 155 (br t 152 (br t 151 (br k 4 (br k 2 (br k 1 0 7) 7) 0) 0) (br t 153 0 (br t 154 (br k 7 (br k 3 0 (br k 5 (br k 4 18 0) (br k 6 12 22))) 0) 0))) (br t 158 0 (br t 159 (br k 5 (br k 2 0 (br k 3 0 (br k 4 0 5))) 0) (br t 160 (br k 2 (br k 1 0 9) 0) (br k 2 (br k 1 0 8) 0))))))))) else 0
def pan (t:FuncId) (k:Nat):List (List Nat):=bif Nat.blt t 161 then(br t 80 (br t 40 (br t 20 (br t 10 (br t 5 (br t 2 [] (br t 3 [] (br t 4 (br k 8 (br k 4 (br k 2 [] (br k 3 [] [[],[],[],[],[1,2],[1,2,4],[1,2,4],[1,2,4],[1,2,4]])) (br k 6 [] [[],[],[],[],[0,1],[],[],[],[],[0,1,4,8]])) []) []))) (br t 7 (br t 6 (br k 10 (br k 5 [] (br k 7 [] (br k 8 [[],[],[],[],[],[],[],[],[],[],[],[5,7,9]] (br k 9 [] [[],[],[],[2],[],[],[5],[],[],[2,3]])))) []) []) (br t 8 [] (br t 9 (br k 21 (br k 10 [] (br k 15 [] (br k 18 [] (br k 19 [] (br k 20 [] [[],[],[],[1],[]]))))) []) [])))) (br t 15 (br t 12 (br t 11 (br k 7 (br k 3 [] (br k 5 [] (br k 6 [] [[],[],[]]))) []) (br k 7 (br k 3 [] (br k 5 [] (br k 6 [] [[],[],[],[],[],[],[],[]]))) [])) (br t 13 (br k 37 (br k 18 (br k 9 [] (br k 13 (br k 11 (br k 10 [] [[],[],[],[],[],[],[],[]]) []) [])) (br k 27 (br k 22 (br k 20 (br k 19 [] [[],[],[],[],[2],[],[],[],[],[7]]) (br k 21 [[],[],[],[],[],[],[],[],[],[2]] [])) []) (br k 32 [] (br k 34 [] (br k 35 [] (br k 36 [] [[],[],[],[],[],[],[],[],[],[],[],[],[4,5,6,7,8,9,10,11]])))))) []) [])) (br t 17 (br t 16 [] (br k 3 (br k 1 [] (br k 2 [] [[],[],[],[],[1],[],[],[1,4],[],[],[],[1,4,7],[],[1,4,7,9,11],[],[1,4,7,11],[],[1,4,7,11,15],[],[1,4,7,11,15,17],[],[],[],[1,4,7,11,15,17,19],[],[1,4,7,11,15,17,19,21,23],[],[]])) [])) (br t 18 (br k 2 (br k 1 [] [[],[],[],[],[],[1],[],[1],[1,5,7],[],[],[1]]) []) (br t 19 (br k 2 (br k 1 [] [[],[],[1],[],[],[1,2,4],[]]) []) (br k 6 (br k 3 [] (br k 4 [] (br k 5 [] [[],[],[],[],[1],[1],[1],[1],[],[1,6,7]]))) [])))))) (br t 30 (br t 25 (br t 22 (br t 21 (br k 6 (br k 3 [] (br k 4 [] (br k 5 [] [[],[],[],[],[],[]]))) []) []) []) (br t 27 (br t 26 [] (br k 17 (br k 8 [] (br k 12 [] (br k 14 [] (br k 15 [] (br k 16 [] [[],[],[],[],[],[],[],[],[1,3]]))))) [])) (br t 28 (br k 14 (br k 7 [] (br k 10 [] (br k 12 [] (br k 13 [] [[],[],[],[],[3],[0,1,2,3,4],[],[],[3,4,5]])))) []) []))) (br t 35 (br t 32 (br t 31 [] (br k 7 (br k 3 [] (br k 5 [] (br k 6 [] [[],[],[],[],[],[],[],[]]))) [])) (br t 33 [] (br t 34 [] (br k 5 (br k 2 (br k 1 [] [[],[],[],[],[],[],[],[],[]]) (br k 3 [] (br k 4 [] [[],[],[],[],[],[],[],[],[],[],[3,7],[]]))) [])))) (br t 37 (br t 36 [] (br k 4 (br k 2 (br k 1 [] [[],[],[],[],[],[],[],[],[]]) (br k 3 [] [[],[],[],[],[],[],[],[],[],[3,7],[],[],[],[],[]])) [])) (br t 38 [] (br t 39 [] (br k 12 (br k 6 (br k 3 [] (br k 4 [] (br k 5 [[],[],[],[],[],[1],[],[1,3,5],[],[1,5]] [[],[],[],[],[0,2],[],[2]]))) (br k 9 [] (br k 10 [] (br k 11 [] [[],[],[],[],[],[],[],[],[],[8]])))) []))))))) (br t 60 (br t 50 (br t 45 [] (br t 47 [] (br t 48 (br k 20 (br k 10 [] (br k 15 [] (br k 17 [] (br k 18 [] (br k 19 [] [[],[],[],[],[]]))))) []) (br t 49 (br k 8 (br k 4 [] (br k 6 [] (br k 7 [] [[],[],[],[],[],[],[],[1,3],[],[1,3],[],[1,3],[1,3,7,9,11],[],[1,3]]))) []) [])))) []) (br t 70 (br t 65 (br t 62 [] (br t 63 [] (br t 64 (br k 7 (br k 3 [] (br k 5 [] (br k 6 [] [[],[],[],[],[],[2],[2,5]]))) []) []))) (br t 67 (br t 66 [] (br k 7 (br k 3 [] (br k 5 [] (br k 6 [] [[],[],[],[],[],[],[],[]]))) [])) (br t 68 [] (br t 69 (br k 13 (br k 6 [] (br k 9 (br k 7 [] (br k 8 [] [[],[],[],[],[],[],[],[],[],[]])) (br k 11 (br k 10 [] [[],[],[],[],[],[],[],[],[],[]]) (br k 12 [] [[],[],[],[],[],[],[]])))) []) [])))) (br t 75 (br t 72 (br t 71 [] (br k 12 (br k 6 [] (br k 9 (br k 7 [[],[],[],[],[],[],[],[],[]] []) (br k 10 [] (br k 11 [] [[],[],[],[],[],[],[],[],[]])))) [])) []) (br t 77 [] (br t 78 [] (br t 79 (br k 2 (br k 1 [] [[],[],[],[],[1,3],[],[],[],[]]) []) []))))))) (br t 120 (br t 100 (br t 90 (br t 85 (br t 82 (br t 81 (br k 8 (br k 4 [] (br k 6 [] (br k 7 [[],[],[1],[0,1,2],[],[],[],[0,1,2,3]] [[],[],[0]]))) []) []) (br t 83 [] (br t 84 (br k 30 (br k 15 (br k 7 [] (br k 11 (br k 9 (br k 8 [[],[],[],[],[],[2,3,4],[],[],[2,3,4,5],[2,3,4,5],[2,3,4,5],[],[2,3,4,5,8,9,10],[2,3,4,5],[2,3,4,5,8,9,10,12,13],[]] []) []) [])) (br k 22 [] (br k 26 [] (br k 28 [] (br k 29 [] [[],[],[],[],[],[2,3]]))))) []) []))) (br t 87 [] (br t 88 [] (br t 89 [] (br k 2 (br k 1 [] [[],[],[],[],[],[2,3],[],[],[],[6],[],[]]) []))))) (br t 95 (br t 92 (br t 91 (br k 18 (br k 9 [] (br k 13 [] (br k 15 [] (br k 16 [] (br k 17 [] [[],[],[],[],[],[],[],[],[],[],[],[],[]]))))) []) []) []) (br t 97 (br t 96 (br k 5 (br k 2 [] (br k 3 [] (br k 4 [] [[],[],[],[],[]]))) []) []) []))) (br t 110 (br t 105 (br t 102 [] (br t 103 (br k 18 (br k 9 [] (br k 13 [] (br k 15 [] (br k 16 [] (br k 17 [] [[],[],[],[],[],[],[],[],[],[],[],[]]))))) []) [])) (br t 107 [] (br t 108 [] (br t 109 (br k 6 (br k 3 (br k 1 [] (br k 2 [[],[],[1],[],[],[1,2,4],[]] [])) (br k 4 [] (br k 5 [] [[],[],[],[],[3]]))) []) [])))) (br t 115 (br t 112 (br t 111 [] (br k 10 (br k 5 [] (br k 7 [] (br k 8 [] (br k 9 [] [[],[],[],[],[],[],[],[],[4],[]])))) [])) []) (br t 117 [] (br t 118 [] (br t 119 (br k 7 (br k 3 [] (br k 5 (br k 4 [] [[],[],[],[],[],[],[],[],[],[],[],[],[],[]]) (br k 6 [] [[],[],[],[],[],[],[],[],[],[],[],[],[],[],[],[9,13]]))) []) (br k 11 (br k 5 [] (br k 8 [] (br k 9 [] (br k 10 [] [[],[],[],[],[],[],[],[],[],[],[],[],[],[],[],[],[],[11,15]])))) []))))))) (br t 140 (br t 130 (br t 125 (br t 122 (br t 121 (br k 11 (br k 5 [] (br k 8 [] (br k 9 [] (br k 10 [] [[],[],[],[],[],[],[],[],[],[],[],[],[],[],[],[],[],[11,15]])))) []) []) (br t 123 (br k 4 (br k 2 [] (br k 3 [] [[],[],[],[],[],[],[],[],[],[],[],[],[],[7,11]])) []) (br t 124 (br k 24 (br k 12 (br k 6 (br k 3 [] (br k 4 [] (br k 5 [] [[],[],[],[],[],[],[],[],[],[],[],[],[],[]]))) (br k 9 [] (br k 10 [] (br k 11 [] [[],[],[],[],[],[],[],[],[],[],[],[],[],[],[],[9,13]])))) (br k 18 (br k 15 [] (br k 16 [] (br k 17 [[],[],[],[],[],[],[],[],[],[]] [[],[],[],[],[],[],[],[],[],[],[],[],[],[],[],[9,13]]))) (br k 21 [] (br k 22 [] (br k 23 [[],[],[],[],[],[],[],[],[],[]] [[],[],[],[],[],[],[],[],[],[],[],[],[],[],[],[9,13]]))))) []) (br k 9 (br k 4 (br k 2 (br k 1 [] [[],[],[],[],[],[],[],[],[],[],[],[],[],[7,11]]) (br k 3 [] [[],[],[],[],[],[],[],[],[],[],[],[],[]])) (br k 6 (br k 5 [] [[],[],[],[],[],[],[],[],[],[],[],[],[]]) (br k 7 [] (br k 8 [] [[],[],[],[],[],[],[],[],[],[],[],[],[],[7,11]])))) [])))) (br t 127 (br t 126 (br k 22 (br k 11 (br k 5 (br k 2 (br k 1 [] [[],[],[],[],[],[],[],[],[],[],[],[],[],[7,11]]) (br k 3 [] (br k 4 [[],[],[],[],[],[],[],[],[],[],[],[],[]] []))) (br k 8 (br k 6 [[],[],[],[],[],[],[],[],[],[],[],[],[]] []) (br k 9 [[],[],[],[],[],[],[],[],[],[],[],[],[],[7,11]] (br k 10 [] [[],[],[],[],[],[],[],[],[],[],[],[],[],[7,11]])))) (br k 16 (br k 13 [] (br k 14 [[],[],[],[],[],[],[],[],[],[],[],[],[]] (br k 15 [] [[],[],[],[],[],[],[],[],[],[],[],[],[]]))) (br k 19 (br k 17 [] (br k 18 [] [[],[],[],[],[],[],[],[],[],[],[],[],[],[7,11]])) (br k 20 [] (br k 21 [] [[],[],[],[],[],[],[],[],[],[],[],[],[],[7,11]]))))) []) []) (br t 128 [] (br t 129 [] (br k 7 (br k 3 [] (br k 5 (br k 4 [] [[],[],[],[],[],[],[],[],[],[],[],[],[]]) (br k 6 [] [[],[],[],[],[],[],[],[],[],[],[],[],[],[],[],[9,13]]))) []))))) (br t 135 (br t 132 (br k 11 (br k 5 [] (br k 8 [] (br k 9 [] (br k 10 [] [[],[],[],[],[],[],[],[],[],[],[],[],[],[],[],[],[],[11,15]])))) []) (br t 133 [] (br t 134 (br k 4 (br k 2 [] (br k 3 [] [[],[],[],[],[],[],[],[],[],[],[],[],[],[7,11]])) []) (br k 24 (br k 12 (br k 6 (br k 3 [] (br k 4 [] (br k 5 [] [[],[],[],[],[],[],[],[],[],[],[],[],[]]))) (br k 9 [] (br k 10 [] (br k 11 [] [[],[],[],[],[],[],[],[],[],[],[],[],[],[],[],[9,13]])))) (br k 18 (br k 15 [] (br k 16 [] (br k 17 [[],[],[],[],[],[],[],[],[]] [[],[],[],[],[],[],[],[],[],[],[],[],[],[],[],[9,13]]))) (br k 21 [] (br k 22 [] (br k 23 [[],[],[],[],[],[],[],[],[]] [[],[],[],[],[],[],[],[],[],[],[],[],[],[],[],[9,13]]))))) [])))) (br t 137 (br t 136 [] (br k 9 (br k 4 (br k 2 (br k 1 [] [[],[],[],[],[],[],[],[],[],[],[],[],[],[7,11]]) (br k 3 [] [[],[],[],[],[],[],[],[],[],[],[],[]])) (br k 6 (br k 5 [] [[],[],[],[],[],[],[],[],[],[],[],[]]) (br k 7 [] (br k 8 [] [[],[],[],[],[],[],[],[],[],[],[],[],[],[7,11]])))) [])) (br t 138 (br k 22 (br k 11 (br k 5 (br k 2 (br k 1 [] [[],[],[],[],[],[],[],[],[],[],[],[],[],[7,11]]) (br k 3 [] (br k 4 [[],[],[],[],[],[],[],[],[],[],[],[]] []))) (br k 8 (br k 6 [[],[],[],[],[],[],[],[],[],[],[],[]] []) (br k 9 [[],[],[],[],[],[],[],[],[],[],[],[],[],[7,11]] (br k 10 [] [[],[],[],[],[],[],[],[],[],[],[],[],[],[7,11]])))) (br k 16 (br k 13 [] (br k 14 [[],[],[],[],[],[],[],[],[],[],[],[]] (br k 15 [] [[],[],[],[],[],[],[],[],[],[],[],[]]))) (br k 19 (br k 17 [] (br k 18 [] [[],[],[],[],[],[],[],[],[],[],[],[],[],[7,11]])) (br k 20 [] (br k 21 [] [[],[],[],[],[],[],[],[],[],[],[],[],[],[7,11]]))))) []) [])))) (br t 150 (br t 145 [] (br t 147 [] (br t 148 [] (br t 149 (br k 7 (br k 3 [] (br k 5 (br k 4 [[],[],[],[],[],[],[],[],[],[],[],[],[],[],[],[],[],[],[]] []) (br k 6 [[],[],[],[],[],[],[],[],[],[],[],[],[]] [[],[],[],[],[],[],[],[],[],[],[],[],[],[],[],[],[],[],[],[],[],[13,19]]))) []) [])))) (br t 155 (br t 152 (br t 151 (br k 4 (br k 2 (br k 1 [] [[],[],[],[],[],[],[]]) [[],[],[],[],[],[],[]]) []) []) (br t 153 [] (br t 154 (br k 7 (br k 3 [] (br k 5 (br k 4 [[],[],[],[],[],[],[],[],[],[],[],[],[],[],[],[],[],[]] []) (br k 6 [[],[],[],[],[],[],[],[],[],[],[],[]] [[],[],[],[],[],[],[],[],[],[],[],[],[],[],[],[],[],[],[],[],[],[13,19]]))) []) []))) (br t 158 [] (br t 159 (br k 5 (br k 2 [] (br k 3 [] (br k 4 [] [[],[],[],[],[]]))) []) (br t 160 (br k 2 (br k 1 [] [[],[],[],[],[],[],[],[],[]]) []) (br k 2 (br k 1 [] [[],[],[],[],[],[],[],[]]) []))))))))) else[]
def prk (t:FuncId) (k:Nat):List Nat:=bif Nat.blt t 81 then(br t 40 (br t 20 (br t 10 (br t 5 [] (br t 7 [] (br t 8 [] (br t 9 (br k 20 (br k 10 [] (br k 15 [] (br k 17 [] (br k 18 [] (br k 19 [] [4,5,7,8,9,11,14,15]))))) []) [])))) (br t 15 (br t 12 (br t 11 (br k 7 (br k 3 [] (br k 5 [] (br k 6 [] [4]))) []) []) []) [])) []) (br t 60 [] (br t 70 [] (br t 75 [] (br t 78 [] (br t 79 [] (br t 80 [] (br k 5 (br k 2 [] (br k 3 [] (br k 4 [] [2,3,4]))) [])))))))) else[]
def ppr:FuncId→Option APr
 | 41=>some (.of (pr0 (q4T T 3 true)))
 | 143=>some (.of (pr0 (q4T T 52 false)))
 | 144=>some (.of (pr0 (q4T T 34 true)))
 | 20=>some (.of (qku 54 8))
 | 71=>some (.of (qDP 3))
 | _=>none
def pab (f:FuncId):Bool:=([12]:List Nat).contains f
def pqo (t:TypeId):List (Option (Nat×Nat)):=bif Nat.blt t 26 then(br t 13 [] (br t 19 [] (br t 22 [] (br t 24 [] (br t 25 [] [some (3,1)]))))) else[]
def ptk (t:TypeId):Option Bool:=bif Nat.blt t 26 then(br t 13 none (br t 19 none (br t 22 none (br t 24 (br t 23 (some false) none) (br t 25 none (some true)))))) else none
def pol:Pol:=⟨pq,pow,pfz,pkp,pkx,prw,pro,pdm,pan,prk,ppr,pab,pqo,ptk⟩
abbrev Pw (f:Nat) (a:List Nat) (b c:Bool) (d:Option APr):Prop:=pol.ow f=a∧pol.fz f=b∧pol.ro f=c∧pol.pr f=d
abbrev Dr (f k a:Nat) (b:List (List Nat)):Prop:=pol.dm f k=a∧pol.an f k=b
abbrev Kp (f k:Nat) (a:List Nat) (b:List Rw) (c:List Nat):Prop:=pol.kp f k=a∧pol.rw f k=b∧pol.kx f k=c
theorem qOg:T.ipk=true:=rfl
theorem qDi (f:FuncId):pol.ab f=([12]:List Nat).contains f:=rfl
theorem qN1:pol.tk 3=none:=rfl
theorem qOn:pol.tk 4=none:=rfl
theorem qOo:pol.tk 5=none:=rfl
theorem qMT:pol.tk 9=none:=rfl
theorem qH2:pol.tk 21=none:=rfl
theorem qHE:pol.tk 22=some false:=rfl
theorem qFJ:pol.tk 23=none:=rfl
theorem qGP:pol.tk 24=none:=rfl
theorem qHm:pol.tk 25=some true:=rfl
theorem qH5:pol.tk 26=none:=rfl
theorem qJu:pol.tk 28=none:=rfl
theorem qFF:pol.tk 30=none:=rfl
theorem qGS:pol.tk 31=none:=rfl
theorem qJ9:pol.tk 32=none:=rfl
theorem qFL:pol.tk 34=none:=rfl
theorem qHv:pol.tk 35=none:=rfl
theorem qHt:pol.tk 37=none:=rfl
theorem qIm:pol.tk 40=none:=rfl
theorem qGH:pol.tk 44=none:=rfl
theorem qIT:pol.tk 47=none:=rfl
theorem qI1:pol.tk 52=none:=rfl
theorem qIC:pol.tk 54=none:=rfl
theorem qIz:pol.tk 61=none:=rfl
theorem qHk:pol.tk 63=none:=rfl
theorem qG6:pol.tk 71=none:=rfl
theorem qIh:pol.tk 90=none:=rfl
theorem qHN:pol.tk 91=none:=rfl
theorem qIH:pol.tk 94=none:=rfl
theorem qHT:pol.tk 97=none:=rfl
theorem qzK:pol.tk 101=none:=rfl
theorem qE6:pol.tk 107=none:=rfl
theorem qBR:pol.tk 111=none:=rfl
theorem qDj:pol.tk 112=none:=rfl
theorem qDI:pol.tk 113=none:=rfl
theorem qyR:pol.tk 118=none:=rfl
theorem qCT:pol.tk 132=none:=rfl
theorem qCx:pol.tk 141=none:=rfl
theorem qDE:pol.tk 143=none:=rfl
theorem qBp:pol.tk 144=none:=rfl
theorem qEr:pol.tk 148=none:=rfl
theorem qA5:pol.tk 150=none:=rfl
theorem qAc:pol.tk 152=none:=rfl
theorem qyD:pol.tk 157=none:=rfl
theorem qEc:pol.tk 184=none:=rfl
theorem qDk:pol.tk 186=none:=rfl
theorem qNt:T.ip 5=none:=rfl
theorem qJA:T.ip 13=none:=rfl
theorem qGv:T.sf 14=none:=rfl
theorem qI7:T.ip 18=none:=rfl
theorem qIj:T.sf 21=none:=rfl
theorem qFM:T.sf 22=none:=rfl
theorem qJz:T.ip 24=none:=rfl
theorem qIL:T.ip 25=none:=rfl
theorem qH9:T.sf 28=none:=rfl
theorem qJl:T.sf 32=none:=rfl
theorem qHR:T.sf 34=none:=rfl
theorem qHY:T.ip 35=none:=rfl
theorem qFU:T.sf 36=none:=rfl
theorem qIw:T.ip 37=none:=rfl
theorem qG2:T.sf 38=none:=rfl
theorem qGa:T.ip 41=none:=rfl
theorem qGd:T.ip 42=none:=rfl
theorem qID:T.sf 45=none:=rfl
theorem qJs:T.sf 46=none:=rfl
theorem qIl:T.ip 47=none:=rfl
theorem qIY:T.ip 48=none:=rfl
theorem qGI:T.ip 49=none:=rfl
theorem qG0:T.sf 54=some 3:=rfl
theorem qIu:T.ip 56=none:=rfl
theorem qI8:T.sf 57=none:=rfl
theorem qGw:T.ip 58=none:=rfl
theorem qIs:T.sf 59=none:=rfl
theorem qHM:T.sf 60=none:=rfl
theorem qH3:T.sf 69=none:=rfl
theorem qGJ:T.ip 70=some q2W:=rfl
theorem qIo:T.ip 71=none:=rfl
theorem qHP:T.sf 73=none:=rfl
theorem qGs:T.sf 74=none:=rfl
theorem qGp:T.ip 76=none:=rfl
theorem qGu:T.ip 77=none:=rfl
theorem qJy:T.sf 78=none:=rfl
theorem qHg:T.ip 80=none:=rfl
theorem qHC:T.ip 84=none:=rfl
theorem qGN:T.ip 85=none:=rfl
theorem qHO:T.ip 92=none:=rfl
theorem qIn:T.ip 94=none:=rfl
theorem qI3:T.sf 95=none:=rfl
theorem qBy:T.sf 103=none:=rfl
theorem qAb:T.sf 105=none:=rfl
theorem qC8:T.ip 106=none:=rfl
theorem qBB:T.ip 107=none:=rfl
theorem qD6:T.ip 108=none:=rfl
theorem qBd:T.ip 109=none:=rfl
theorem qza:T.ip 110=none:=rfl
theorem qBY:T.ip 111=none:=rfl
theorem qAJ:T.ip 112=none:=rfl
theorem qDh:T.ip 138=none:=rfl
theorem qBc:T.ip 140=none:=rfl
theorem qEa:T.sf 145=none:=rfl
theorem qBH:T.ip 146=none:=rfl
theorem qyS:T.sf 157=none:=rfl
theorem qzs:T.sf 158=none:=rfl
theorem qIN:pol.rk 3 3=[]:=rfl
theorem qFO:pol.rk 3 6=[]:=rfl
theorem qG3:pol.rk 3 7=[]:=rfl
theorem qJ6:pol.rk 5 7=[]:=rfl
theorem qHD:pol.rk 5 9=[]:=rfl
theorem qDu:pol.rk 8 20=[]:=rfl
theorem qyV:pol.rk 16 2=[]:=rfl
theorem qCO:pol.rk 17 1=[]:=rfl
theorem qBW:pol.rk 18 1=[]:=rfl
theorem qDw:pol.rk 19 5=[]:=rfl
theorem quL:pol.rk 26 16=[]:=rfl
theorem qxW:pol.rk 27 13=[]:=rfl
theorem qCV:pol.rk 34 1=[]:=rfl
theorem qyX:pol.rk 34 4=[]:=rfl
theorem qCu:pol.rk 36 1=[]:=rfl
theorem qyq:pol.rk 36 3=[]:=rfl
theorem qE7:pol.rk 39 4=[]:=rfl
theorem qDo:pol.rk 39 5=[]:=rfl
theorem qvy:pol.rk 39 11=[]:=rfl
theorem qvv:pol.rk 47 19=[]:=rfl
theorem qC6:pol.rk 48 7=[]:=rfl
theorem qzJ:pol.rk 66 6=[]:=rfl
theorem qzz:pol.rk 68 8=[]:=rfl
theorem qvN:pol.rk 68 10=[]:=rfl
theorem qxL:pol.rk 68 12=[]:=rfl
theorem qEl:pol.rk 78 1=[]:=rfl
theorem qAu:pol.rk 80 6=[]:=rfl
theorem qyT:pol.rk 80 7=[]:=rfl
theorem qCd:pol.rk 83 7=[]:=rfl
theorem qxb:pol.rk 83 29=[]:=rfl
theorem qDT:pol.rk 89 1=[]:=rfl
theorem qDm:pol.rk 95 4=[]:=rfl
theorem quW:pol.rk 108 1=[]:=rfl
theorem qwV:pol.rk 108 5=[]:=rfl
theorem quG:pol.rk 111 9=[]:=rfl
theorem qvX:pol.rk 158 4=[]:=rfl
theorem qBv:pol.rk 8 19=[4,5,7,8,9,11,14,15]:=rfl
theorem qAW:pol.rk 80 4=[2,3,4]:=rfl
theorem qGL:Dr 3 3 9 [[],[],[],[],[1,2],[1,2,4],[1,2,4],[1,2,4],[1,2,4]]:=⟨rfl,rfl⟩
theorem qHU:Dr 3 6 10 [[],[],[],[],[0,1],[],[],[],[],[0,1,4,8]]:=⟨rfl,rfl⟩
theorem qFI:Dr 3 7 10 [[],[],[],[],[0,1],[],[],[],[],[0,1,4,8]]:=⟨rfl,rfl⟩
theorem qIk:Dr 5 7 12 [[],[],[],[],[],[],[],[],[],[],[],[5,7,9]]:=⟨rfl,rfl⟩
theorem qFT:Dr 5 9 10 [[],[],[],[2],[],[],[5],[],[],[2,3]]:=⟨rfl,rfl⟩
theorem qAY:Dr 8 20 5 [[],[],[],[1],[]]:=⟨rfl,rfl⟩
theorem qyY:Dr 16 2 28 [[],[],[],[],[1],[],[],[1,4],[],[],[],[1,4,7],[],[1,4,7,9,11],[],[1,4,7,11],[],[1,4,7,11,15],[],[1,4,7,11,15,17],[],[],[],[1,4,7,11,15,17,19],[],[1,4,7,11,15,17,19,21,23],[],[]]:=⟨rfl,rfl⟩
theorem qyw:Dr 17 1 12 [[],[],[],[],[],[1],[],[1],[1,5,7],[],[],[1]]:=⟨rfl,rfl⟩
theorem qCm:Dr 18 1 7 [[],[],[1],[],[],[1,2,4],[]]:=⟨rfl,rfl⟩
theorem qDY:Dr 19 5 10 [[],[],[],[],[1],[1],[1],[1],[],[1,6,7]]:=⟨rfl,rfl⟩
theorem qxV:Dr 26 16 9 [[],[],[],[],[],[],[],[],[1,3]]:=⟨rfl,rfl⟩
theorem qvs:Dr 27 13 9 [[],[],[],[],[3],[0,1,2,3,4],[],[],[3,4,5]]:=⟨rfl,rfl⟩
theorem qA3:Dr 34 1 9 [[],[],[],[],[],[],[],[],[]]:=⟨rfl,rfl⟩
theorem qBe:Dr 34 4 12 [[],[],[],[],[],[],[],[],[],[],[3,7],[]]:=⟨rfl,rfl⟩
theorem qEe:Dr 36 1 9 [[],[],[],[],[],[],[],[],[]]:=⟨rfl,rfl⟩
theorem qyi:Dr 36 3 15 [[],[],[],[],[],[],[],[],[],[3,7],[],[],[],[],[]]:=⟨rfl,rfl⟩
theorem qBT:Dr 39 4 10 [[],[],[],[],[],[1],[],[1,3,5],[],[1,5]]:=⟨rfl,rfl⟩
theorem qCp:Dr 39 5 7 [[],[],[],[],[0,2],[],[2]]:=⟨rfl,rfl⟩
theorem qvT:Dr 39 11 10 [[],[],[],[],[],[],[],[],[],[8]]:=⟨rfl,rfl⟩
theorem qvq:Dr 47 19 5 [[],[],[],[],[]]:=⟨rfl,rfl⟩
theorem qC7:Dr 48 7 15 [[],[],[],[],[],[],[],[1,3],[],[1,3],[],[1,3],[1,3,7,9,11],[],[1,3]]:=⟨rfl,rfl⟩
theorem qz6:Dr 66 6 8 [[],[],[],[],[],[],[],[]]:=⟨rfl,rfl⟩
theorem qCL:Dr 68 8 10 [[],[],[],[],[],[],[],[],[],[]]:=⟨rfl,rfl⟩
theorem qvw:Dr 68 10 10 [[],[],[],[],[],[],[],[],[],[]]:=⟨rfl,rfl⟩
theorem qux:Dr 68 12 7 [[],[],[],[],[],[],[]]:=⟨rfl,rfl⟩
theorem qBi:Dr 78 1 9 [[],[],[],[],[1,3],[],[],[],[]]:=⟨rfl,rfl⟩
theorem qCE:Dr 80 6 8 [[],[],[1],[0,1,2],[],[],[],[0,1,2,3]]:=⟨rfl,rfl⟩
theorem qDr:Dr 80 7 3 [[],[],[0]]:=⟨rfl,rfl⟩
theorem qzc:Dr 83 7 16 [[],[],[],[],[],[2,3,4],[],[],[2,3,4,5],[2,3,4,5],[2,3,4,5],[],[2,3,4,5,8,9,10],[2,3,4,5],[2,3,4,5,8,9,10,12,13],[]]:=⟨rfl,rfl⟩
theorem qw0:Dr 83 29 6 [[],[],[],[],[],[2,3]]:=⟨rfl,rfl⟩
theorem qz9:Dr 89 1 12 [[],[],[],[],[],[2,3],[],[],[],[6],[],[]]:=⟨rfl,rfl⟩
theorem qAk:Dr 95 4 5 [[],[],[],[],[]]:=⟨rfl,rfl⟩
theorem qxU:Dr 108 1 7 [[],[],[1],[],[],[1,2,4],[]]:=⟨rfl,rfl⟩
theorem qvG:Dr 108 5 5 [[],[],[],[],[3]]:=⟨rfl,rfl⟩
theorem quh:Dr 111 9 10 [[],[],[],[],[],[],[],[],[4],[]]:=⟨rfl,rfl⟩
theorem quV:Dr 158 4 5 [[],[],[],[],[]]:=⟨rfl,rfl⟩
theorem q22:pol.q 22=[1]:=rfl
theorem q25:pol.q 25=[1]:=rfl
theorem q28:pol.q 28=[1,0,0,0,0,0,0,1,0]:=rfl
theorem q30:pol.q 30=[8]:=rfl
theorem q31:pol.q 31=[2]:=rfl
theorem q32:pol.q 32=[5]:=rfl
theorem q34:pol.q 34=[0,0,0,2,5]:=rfl
theorem q35:pol.q 35=[4]:=rfl
theorem q37:pol.q 37=[0,0,0,0,0,0,0,0,2,5,0,0,0,4]:=rfl
theorem q47:pol.q 47=[1,1]:=rfl
theorem q54:pol.q 54=[0,0,0,0,0,1,0,1]:=rfl
theorem q71:pol.q 71=[1]:=rfl
theorem q94:pol.q 94=[1]:=rfl
theorem qO4:pol.q 113=[1]:=rfl
theorem qP1:pol.q 150=[1]:=rfl
theorem q3:pol.q 3=[]:=rfl
theorem q4:pol.q 4=[]:=rfl
theorem q9:pol.q 9=[]:=rfl
theorem q10:pol.q 10=[]:=rfl
theorem q11:pol.q 11=[]:=rfl
theorem q21:pol.q 21=[]:=rfl
theorem q40:pol.q 40=[]:=rfl
theorem q44:pol.q 44=[]:=rfl
theorem q52:pol.q 52=[]:=rfl
theorem q61:pol.q 61=[]:=rfl
theorem q63:pol.q 63=[]:=rfl
theorem q75:pol.q 75=[]:=rfl
theorem q90:pol.q 90=[]:=rfl
theorem q91:pol.q 91=[]:=rfl
theorem q97:pol.q 97=[]:=rfl
theorem qOe:pol.q 101=[]:=rfl
theorem qOj:pol.q 107=[]:=rfl
theorem qOS:pol.q 112=[]:=rfl
theorem qPX:pol.q 118=[]:=rfl
theorem qPe:pol.q 132=[]:=rfl
theorem qPf:pol.q 138=[]:=rfl
theorem qN0:pol.q 145=[]:=rfl
theorem qPY:pol.q 148=[]:=rfl
theorem qMG:pol.q 152=[]:=rfl
theorem qPN:pol.q 157=[]:=rfl
theorem qNS:pol.q 166=[]:=rfl
theorem qNi:pol.q 184=[]:=rfl
theorem qNM:pol.q 186=[]:=rfl
def qAT:Code:=(Tryz.f2.body).getD .skip
theorem bd2:qu Tryz.prog pol 2=some ⟨qAT,1,[],[]⟩:=by kernel_rfl
def qqM:Code:=(Tryz.f3.body).getD .skip
theorem bd3:qu Tryz.prog pol 3=some ⟨qqM,52,[.tmp 2],[4]⟩:=by kernel_rfl
theorem pw3:Pw 3 [] false false none:=⟨rfl,rfl,rfl,rfl⟩
def qzY:Code:=(Tryz.f4.body).getD .skip
theorem bd4:qu Tryz.prog pol 4=some ⟨qzY,99,[.tmp 0],[4]⟩:=by kernel_rfl
theorem pw4:Pw 4 [] false false none:=⟨rfl,rfl,rfl,rfl⟩
def qp8:Code:=(Tryz.f5.body).getD .skip
theorem bd5:qu Tryz.prog pol 5=some ⟨qp8,52,[.tmp 2,.cell 3 37,.tmp 4],[30,37,3]⟩:=by kernel_rfl
theorem pw5:Pw 5 [] true false none:=⟨rfl,rfl,rfl,rfl⟩
def qkt:Code:=(Tryz.f6.body).getD .skip
theorem bd6:qu Tryz.prog pol 6=some ⟨qkt,53,[.tmp 8,.tmp 9],[30,40]⟩:=by kernel_rfl
theorem pw6:Pw 6 [0] false false none:=⟨rfl,rfl,rfl,rfl⟩
def qrs:Code:=(Tryz.f7.body).getD .skip
theorem bd7:qu Tryz.prog pol 7=some ⟨qrs,2,[.cell 0 44],[44]⟩:=by kernel_rfl
theorem pw7:Pw 7 [] false false none:=⟨rfl,rfl,rfl,rfl⟩
def qgC:Code:=(Tryz.f8.body).getD .skip
theorem bd8:qu Tryz.prog pol 8=some ⟨qgC,93,[.cell 8 47,.cell 9 40],[47,40]⟩:=by kernel_rfl
theorem pw8:Pw 8 [] true false none:=⟨rfl,rfl,rfl,rfl⟩
def qCA:Code:=(Tryz.f9.body).getD .skip
theorem bd9:qu Tryz.prog pol 9=some ⟨qCA,16,[.cell 8 54],[54]⟩:=by kernel_rfl
def qtz:Code:=(Tryz.f10.body).getD .skip
theorem qNm:qu Tryz.prog pol 10=some ⟨qtz,17,[.tmp 2,.tmp 3],[3,40]⟩:=by kernel_rfl
def qtZ:Code:=(Tryz.f11.body).getD .skip
theorem qMW:qu Tryz.prog pol 11=some ⟨qtZ,29,[.tmp 4],[4]⟩:=by kernel_rfl
def qtt:Code:=(Tryz.f12.body).getD .skip
theorem qOm:qu Tryz.prog pol 12=some ⟨qtt,128,[.tmp 2],[22]⟩:=by kernel_rfl
def qfZ:Code:=(Tryz.f13.body).getD .skip
theorem qyu:qu Tryz.prog pol 13=some ⟨qfZ,89,[.tmp 2],[30]⟩:=by kernel_rfl
theorem qKY:Pw 13 [] true true none:=⟨rfl,rfl,rfl,rfl⟩
def qio:Code:=(Tryz.f14.body).getD .skip
theorem qEF:qu Tryz.prog pol 14=some ⟨qio,12,[.tmp 4],[3]⟩:=by kernel_rfl
theorem qL9:Pw 14 [] false false none:=⟨rfl,rfl,rfl,rfl⟩
def qk0:Code:=(Tryz.f15.body).getD .skip
theorem qEK:qu Tryz.prog pol 15=some ⟨qk0,70,[.cell 4 54],[54]⟩:=by kernel_rfl
theorem qLg:Pw 15 [] true false none:=⟨rfl,rfl,rfl,rfl⟩
def qiZ:Code:=(Tryz.f16.body).getD .skip
theorem qEJ:qu Tryz.prog pol 16=some ⟨qiZ,56,[.cell 2 37],[37]⟩:=by kernel_rfl
theorem qLv:Pw 16 [] true false none:=⟨rfl,rfl,rfl,rfl⟩
def qk8:Code:=(Tryz.f17.body).getD .skip
theorem qEO:qu Tryz.prog pol 17=some ⟨qk8,21,[.tmp 6],[4]⟩:=by kernel_rfl
theorem qKE:Pw 17 [] false false none:=⟨rfl,rfl,rfl,rfl⟩
def qie:Code:=(Tryz.f18.body).getD .skip
theorem qEN:qu Tryz.prog pol 18=some ⟨qie,12,[.cell 2 54],[54]⟩:=by kernel_rfl
theorem qKs:Pw 18 [] true false none:=⟨rfl,rfl,rfl,rfl⟩
def qeW:Code:=(Tryz.f19.body).getD .skip
theorem qDL:qu Tryz.prog pol 19=some ⟨qeW,40,[.tmp 6],[4]⟩:=by kernel_rfl
theorem qKC:Pw 19 [] false false none:=⟨rfl,rfl,rfl,rfl⟩
def qu5:Code:=(Tryz.f20.body).getD .skip
theorem qML:qu Tryz.prog pol 20=some ⟨qu5,33,[.tmp 6],[30]⟩:=by kernel_rfl
theorem qKn:Pw 20 [0] false false (some (.of (qku 54 8))):=⟨rfl,rfl,rfl,rfl⟩
def qjw:Code:=(Tryz.f21.body).getD .skip
theorem qEH:qu Tryz.prog pol 21=some ⟨qjw,13,[.tmp 4],[40]⟩:=by kernel_rfl
theorem qKX:Pw 21 [] false false none:=⟨rfl,rfl,rfl,rfl⟩
def qfs:Code:=(Tryz.f22.body).getD .skip
theorem qBC:qu Tryz.prog pol 22=some ⟨qfs,22,[.tmp 4],[30]⟩:=by kernel_rfl
theorem qLG:Pw 22 [] true false none:=⟨rfl,rfl,rfl,rfl⟩
def qjY:Code:=(Tryz.f23.body).getD .skip
theorem qFg:qu Tryz.prog pol 23=some ⟨qjY,25,[.tmp 6,.tmp 7],[71,40]⟩:=by kernel_rfl
theorem qLa:Pw 23 [] true false none:=⟨rfl,rfl,rfl,rfl⟩
def qiL:Code:=(Tryz.f24.body).getD .skip
theorem qEW:qu Tryz.prog pol 24=some ⟨qiL,4,[.tmp 2],[75]⟩:=by kernel_rfl
theorem qKc:Pw 24 [] true false none:=⟨rfl,rfl,rfl,rfl⟩
def qfd:Code:=(Tryz.f25.body).getD .skip
theorem qEn:qu Tryz.prog pol 25=some ⟨qfd,20,[.tmp 2],[25]⟩:=by kernel_rfl
theorem qKo:Pw 25 [] true false none:=⟨rfl,rfl,rfl,rfl⟩
def qdf:Code:=(Tryz.f26.body).getD .skip
theorem qy6:qu Tryz.prog pol 26=some ⟨qdf,83,[.tmp 6],[4]⟩:=by kernel_rfl
theorem qK1:Pw 26 [] false false none:=⟨rfl,rfl,rfl,rfl⟩
def qcJ:Code:=(Tryz.f27.body).getD .skip
theorem qy2:qu Tryz.prog pol 27=some ⟨qcJ,80,[.tmp 10,.tmp 11],[25,4]⟩:=by kernel_rfl
theorem qLS:Pw 27 [] true false none:=⟨rfl,rfl,rfl,rfl⟩
def qgc:Code:=(Tryz.f28.body).getD .skip
theorem qyO:qu Tryz.prog pol 28=some ⟨qgc,22,[.tmp 4],[25]⟩:=by kernel_rfl
theorem qL2:Pw 28 [] true false none:=⟨rfl,rfl,rfl,rfl⟩
def qtB:Code:=(Tryz.f29.body).getD .skip
theorem qN7:qu Tryz.prog pol 29=some ⟨qtB,4,[.tmp 2],[83]⟩:=by kernel_rfl
def qfw:Code:=(Tryz.f30.body).getD .skip
theorem qBV:qu Tryz.prog pol 30=some ⟨qfw,18,[.tmp 2],[3]⟩:=by kernel_rfl
theorem qLE:Pw 30 [] false false none:=⟨rfl,rfl,rfl,rfl⟩
def qtf:Code:=(Tryz.f31.body).getD .skip
theorem qNl:qu Tryz.prog pol 31=some ⟨qtf,26,[.tmp 4],[4]⟩:=by kernel_rfl
def qjv:Code:=(Tryz.f32.body).getD .skip
theorem qEU:qu Tryz.prog pol 32=some ⟨qjv,37,[.tmp 4],[4]⟩:=by kernel_rfl
theorem qKQ:Pw 32 [] false false none:=⟨rfl,rfl,rfl,rfl⟩
def qik:Code:=(Tryz.f33.body).getD .skip
theorem qFB:qu Tryz.prog pol 33=some ⟨qik,2,[.tmp 0],[94]⟩:=by kernel_rfl
theorem qJV:Pw 33 [] true false none:=⟨rfl,rfl,rfl,rfl⟩
def qjq:Code:=(Tryz.f34.body).getD .skip
theorem qEE:qu Tryz.prog pol 34=some ⟨qjq,35,[.tmp 4],[3]⟩:=by kernel_rfl
theorem qLx:Pw 34 [] false false none:=⟨rfl,rfl,rfl,rfl⟩
def qjI:Code:=(Tryz.f35.body).getD .skip
theorem qFz:qu Tryz.prog pol 35=some ⟨qjI,14,[.cell 2 54],[54]⟩:=by kernel_rfl
theorem qLB:Pw 35 [] true true none:=⟨rfl,rfl,rfl,rfl⟩
def qjA:Code:=(Tryz.f36.body).getD .skip
theorem qFy:qu Tryz.prog pol 36=some ⟨qjA,40,[.tmp 4],[3]⟩:=by kernel_rfl
theorem qJZ:Pw 36 [] false false none:=⟨rfl,rfl,rfl,rfl⟩
def qj8:Code:=(Tryz.f37.body).getD .skip
theorem qFr:qu Tryz.prog pol 37=some ⟨qj8,20,[.cell 2 52],[52]⟩:=by kernel_rfl
theorem qLL:Pw 37 [] false false none:=⟨rfl,rfl,rfl,rfl⟩
def qjF:Code:=(Tryz.f38.body).getD .skip
theorem qEG:qu Tryz.prog pol 38=some ⟨qjF,24,[.tmp 4],[4]⟩:=by kernel_rfl
theorem qKi:Pw 38 [] false false none:=⟨rfl,rfl,rfl,rfl⟩
def qfm:Code:=(Tryz.f39.body).getD .skip
theorem qzl:qu Tryz.prog pol 39=some ⟨qfm,77,[.cell 6 34],[34]⟩:=by kernel_rfl
theorem qJj:Pw 39 [] true false none:=⟨rfl,rfl,rfl,rfl⟩
def qjP:Code:=(Tryz.f40.body).getD .skip
theorem qF5:qu Tryz.prog pol 40=some ⟨qjP,11,[.tmp 2],[3]⟩:=by kernel_rfl
theorem qL4:Pw 40 [] false false none:=⟨rfl,rfl,rfl,rfl⟩
def qtk:Code:=(Tryz.f41.body).getD .skip
theorem qNg:qu Tryz.prog pol 41=some ⟨qtk,8,[.tmp 2],[25]⟩:=by kernel_rfl
theorem qLw:Pw 41 [] false true (some (.of (pr0 (q4T T 3 true)))):=⟨rfl,rfl,rfl,rfl⟩
def qd1:Code:=(Tryz.f42.body).getD .skip
theorem qye:qu Tryz.prog pol 42=some ⟨qd1,35,[.tmp 2],[90]⟩:=by kernel_rfl
theorem qLp:Pw 42 [] true false none:=⟨rfl,rfl,rfl,rfl⟩
def qjR:Code:=(Tryz.f43.body).getD .skip
theorem qEZ:qu Tryz.prog pol 43=some ⟨qjR,50,[.tmp 6],[4]⟩:=by kernel_rfl
theorem qL6:Pw 43 [] false false none:=⟨rfl,rfl,rfl,rfl⟩
def qk6:Code:=(Tryz.f44.body).getD .skip
theorem qEC:qu Tryz.prog pol 44=some ⟨qk6,20,[.tmp 5],[4]⟩:=by kernel_rfl
theorem qKV:Pw 44 [] false false none:=⟨rfl,rfl,rfl,rfl⟩
def qjf:Code:=(Tryz.f45.body).getD .skip
theorem qFf:qu Tryz.prog pol 45=some ⟨qjf,9,[.tmp 4],[4]⟩:=by kernel_rfl
theorem qLF:Pw 45 [] false false none:=⟨rfl,rfl,rfl,rfl⟩
def qk7:Code:=(Tryz.f46.body).getD .skip
theorem qy9:qu Tryz.prog pol 46=some ⟨qk7,9,[.tmp 4],[4]⟩:=by kernel_rfl
theorem qFc:Pw 46 [] false false none:=⟨rfl,rfl,rfl,rfl⟩
def qgd:Code:=(Tryz.f47.body).getD .skip
theorem qyn:qu Tryz.prog pol 47=some ⟨qgd,95,[.tmp 2],[40]⟩:=by kernel_rfl
theorem qKx:Pw 47 [] false false none:=⟨rfl,rfl,rfl,rfl⟩
def qga:Code:=(Tryz.f48.body).getD .skip
theorem qCv:qu Tryz.prog pol 48=some ⟨qga,37,[.tmp 2],[40]⟩:=by kernel_rfl
theorem qLN:Pw 48 [] false false none:=⟨rfl,rfl,rfl,rfl⟩
def qfp:Code:=(Tryz.f49.body).getD .skip
theorem qC2:qu Tryz.prog pol 49=some ⟨qfp,60,[.tmp 2],[40]⟩:=by kernel_rfl
theorem qKk:Pw 49 [] false false none:=⟨rfl,rfl,rfl,rfl⟩
def qjo:Code:=(Tryz.f50.body).getD .skip
theorem qFs:qu Tryz.prog pol 50=some ⟨qjo,5,[.tmp 4],[4]⟩:=by kernel_rfl
theorem qKh:Pw 50 [] false false none:=⟨rfl,rfl,rfl,rfl⟩
def qjm:Code:=(Tryz.f51.body).getD .skip
theorem qFj:qu Tryz.prog pol 51=some ⟨qjm,5,[.tmp 4],[4]⟩:=by kernel_rfl
theorem qLl:Pw 51 [] false false none:=⟨rfl,rfl,rfl,rfl⟩
def qiq:Code:=(Tryz.f52.body).getD .skip
theorem qBN:qu Tryz.prog pol 52=some ⟨qiq,17,[.tmp 10],[113]⟩:=by kernel_rfl
theorem qHb:Pw 52 [] true false none:=⟨rfl,rfl,rfl,rfl⟩
def qcP:Code:=(Tryz.f53.body).getD .skip
theorem qyg:qu Tryz.prog pol 53=some ⟨qcP,30,[],[]⟩:=by kernel_rfl
theorem qKI:Pw 53 [] false false none:=⟨rfl,rfl,rfl,rfl⟩
def qtq:Code:=(Tryz.f54.body).getD .skip
theorem qPS:qu Tryz.prog pol 54=some ⟨qtq,14,[],[]⟩:=by kernel_rfl
theorem qMN:Pw 54 [] false false none:=⟨rfl,rfl,rfl,rfl⟩
def qk5:Code:=(Tryz.f55.body).getD .skip
theorem qFo:qu Tryz.prog pol 55=some ⟨qk5,19,[.tmp 4],[3]⟩:=by kernel_rfl
theorem qL1:Pw 55 [] false false none:=⟨rfl,rfl,rfl,rfl⟩
def qf3:Code:=(Tryz.f56.body).getD .skip
theorem qD2:qu Tryz.prog pol 56=some ⟨qf3,18,[.tmp 2],[3]⟩:=by kernel_rfl
theorem qJX:Pw 56 [] false false none:=⟨rfl,rfl,rfl,rfl⟩
def qjb:Code:=(Tryz.f57.body).getD .skip
theorem qEY:qu Tryz.prog pol 57=some ⟨qjb,20,[.tmp 4],[3]⟩:=by kernel_rfl
theorem qLH:Pw 57 [] false false none:=⟨rfl,rfl,rfl,rfl⟩
def qiP:Code:=(Tryz.f58.body).getD .skip
theorem qET:qu Tryz.prog pol 58=some ⟨qiP,8,[.tmp 2],[3]⟩:=by kernel_rfl
theorem qL5:Pw 58 [] false false none:=⟨rfl,rfl,rfl,rfl⟩
def qfg:Code:=(Tryz.f59.body).getD .skip
theorem qCI:qu Tryz.prog pol 59=some ⟨qfg,36,[.tmp 4],[3]⟩:=by kernel_rfl
theorem qKe:Pw 59 [] false false none:=⟨rfl,rfl,rfl,rfl⟩
def qjG:Code:=(Tryz.f60.body).getD .skip
theorem qEV:qu Tryz.prog pol 60=some ⟨qjG,9,[.tmp 4],[4]⟩:=by kernel_rfl
theorem qK5:Pw 60 [] false false none:=⟨rfl,rfl,rfl,rfl⟩
def qcV:Code:=(Tryz.f61.body).getD .skip
theorem qy7:qu Tryz.prog pol 61=some ⟨qcV,89,[.tmp 8,.tmp 9],[25,4]⟩:=by kernel_rfl
theorem qLJ:Pw 61 [] true false none:=⟨rfl,rfl,rfl,rfl⟩
def qtu:Code:=(Tryz.f62.body).getD .skip
theorem qOO:qu Tryz.prog pol 62=some ⟨qtu,7,[],[]⟩:=by kernel_rfl
def qtP:Code:=(Tryz.f63.body).getD .skip
theorem qPw:qu Tryz.prog pol 63=some ⟨qtP,39,[.tmp 7],[4]⟩:=by kernel_rfl
def qub:Code:=(Tryz.f64.body).getD .skip
theorem qNf:qu Tryz.prog pol 64=some ⟨qub,9,[.tmp 2],[30]⟩:=by kernel_rfl
def qtU:Code:=(Tryz.f65.body).getD .skip
theorem qMw:qu Tryz.prog pol 65=some ⟨qtU,21,[.tmp 2],[4]⟩:=by kernel_rfl
def qfn:Code:=(Tryz.f66.body).getD .skip
theorem qD4:qu Tryz.prog pol 66=some ⟨qfn,26,[.tmp 4],[4]⟩:=by kernel_rfl
theorem qKD:Pw 66 [] false false none:=⟨rfl,rfl,rfl,rfl⟩
def qjy:Code:=(Tryz.f67.body).getD .skip
theorem qER:qu Tryz.prog pol 67=some ⟨qjy,8,[.tmp 4],[4]⟩:=by kernel_rfl
theorem qLh:Pw 67 [] false false none:=⟨rfl,rfl,rfl,rfl⟩
def qdb:Code:=(Tryz.f68.body).getD .skip
theorem qy5:qu Tryz.prog pol 68=some ⟨qdb,61,[.tmp 2],[31]⟩:=by kernel_rfl
theorem qKM:Pw 68 [] true false none:=⟨rfl,rfl,rfl,rfl⟩
def qjS:Code:=(Tryz.f69.body).getD .skip
theorem qF0:qu Tryz.prog pol 69=some ⟨qjS,16,[.tmp 4],[3]⟩:=by kernel_rfl
theorem qLK:Pw 69 [] false false none:=⟨rfl,rfl,rfl,rfl⟩
def qu1:Code:=(Tryz.f70.body).getD .skip
theorem qMS:qu Tryz.prog pol 70=some ⟨qu1,11,[],[]⟩:=by kernel_rfl
theorem qNa:Pw 70 [] false false none:=⟨rfl,rfl,rfl,rfl⟩
def qu2:Code:=(Tryz.f71.body).getD .skip
theorem qNT:qu Tryz.prog pol 71=some ⟨qu2,61,[.tmp 2],[25]⟩:=by kernel_rfl
theorem qKN:Pw 71 [0] false false (some (.of (qDP 3))):=⟨rfl,rfl,rfl,rfl⟩
def qj3:Code:=(Tryz.f72.body).getD .skip
theorem qFd:qu Tryz.prog pol 72=some ⟨qj3,26,[.tmp 6],[4]⟩:=by kernel_rfl
theorem qJW:Pw 72 [] false false none:=⟨rfl,rfl,rfl,rfl⟩
def qfy:Code:=(Tryz.f73.body).getD .skip
theorem qzU:qu Tryz.prog pol 73=some ⟨qfy,19,[.tmp 4],[3]⟩:=by kernel_rfl
theorem qLn:Pw 73 [] false false none:=⟨rfl,rfl,rfl,rfl⟩
def qfx:Code:=(Tryz.f74.body).getD .skip
theorem qvD:qu Tryz.prog pol 74=some ⟨qfx,19,[.tmp 4],[3]⟩:=by kernel_rfl
theorem qFp:Pw 74 [] false false none:=⟨rfl,rfl,rfl,rfl⟩
def qjz:Code:=(Tryz.f75.body).getD .skip
theorem qFu:qu Tryz.prog pol 75=some ⟨qjz,15,[.tmp 6],[4]⟩:=by kernel_rfl
theorem qLT:Pw 75 [] false false none:=⟨rfl,rfl,rfl,rfl⟩
def qf2:Code:=(Tryz.f76.body).getD .skip
theorem qDU:qu Tryz.prog pol 76=some ⟨qf2,26,[.tmp 2],[4]⟩:=by kernel_rfl
theorem qLy:Pw 76 [] false false none:=⟨rfl,rfl,rfl,rfl⟩
def qkb:Code:=(Tryz.f77.body).getD .skip
theorem qFl:qu Tryz.prog pol 77=some ⟨qkb,11,[.tmp 2],[4]⟩:=by kernel_rfl
theorem qKm:Pw 77 [] false false none:=⟨rfl,rfl,rfl,rfl⟩
def qi9:Code:=(Tryz.f78.body).getD .skip
theorem qFq:qu Tryz.prog pol 78=some ⟨qi9,17,[.tmp 4],[3]⟩:=by kernel_rfl
theorem qKg:Pw 78 [] false false none:=⟨rfl,rfl,rfl,rfl⟩
def qiR:Code:=(Tryz.f79.body).getD .skip
theorem qEP:qu Tryz.prog pol 79=some ⟨qiR,16,[.tmp 6],[3]⟩:=by kernel_rfl
theorem qKO:Pw 79 [] false false none:=⟨rfl,rfl,rfl,rfl⟩
def qdj:Code:=(Tryz.f80.body).getD .skip
theorem qy8:qu Tryz.prog pol 80=some ⟨qdj,27,[.cell 2 32,.cell 3 3,.cell 4 4],[32,3,4]⟩:=by kernel_rfl
theorem qLI:Pw 80 [] true false none:=⟨rfl,rfl,rfl,rfl⟩
def qfA:Code:=(Tryz.f81.body).getD .skip
theorem qE1:qu Tryz.prog pol 81=some ⟨qfA,29,[.tmp 2],[32]⟩:=by kernel_rfl
theorem qL0:Pw 81 [] true false none:=⟨rfl,rfl,rfl,rfl⟩
def qjD:Code:=(Tryz.f82.body).getD .skip
theorem qFn:qu Tryz.prog pol 82=some ⟨qjD,10,[.tmp 0],[138]⟩:=by kernel_rfl
theorem qLQ:Pw 82 [] true false none:=⟨rfl,rfl,rfl,rfl⟩
def q8i:Code:=(Tryz.f83.body).getD .skip
theorem qq4:qu Tryz.prog pol 83=some ⟨q8i,142,[.tmp 8],[113]⟩:=by kernel_rfl
theorem qCc:Pw 83 [] true false none:=⟨rfl,rfl,rfl,rfl⟩
def qjH:Code:=(Tryz.f84.body).getD .skip
theorem qFa:qu Tryz.prog pol 84=some ⟨qjH,11,[.tmp 2],[4]⟩:=by kernel_rfl
theorem qLk:Pw 84 [] false false none:=⟨rfl,rfl,rfl,rfl⟩
def qiK:Code:=(Tryz.f85.body).getD .skip
theorem qFe:qu Tryz.prog pol 85=some ⟨qiK,5,[.tmp 2],[145]⟩:=by kernel_rfl
theorem qJP:Pw 85 [] true false none:=⟨rfl,rfl,rfl,rfl⟩
def qfS:Code:=(Tryz.f86.body).getD .skip
theorem qCw:qu Tryz.prog pol 86=some ⟨qfS,44,[.cell 8 148],[148]⟩:=by kernel_rfl
theorem qLM:Pw 86 [] false false none:=⟨rfl,rfl,rfl,rfl⟩
def qiO:Code:=(Tryz.f87.body).getD .skip
theorem qFt:qu Tryz.prog pol 87=some ⟨qiO,9,[.tmp 3],[4]⟩:=by kernel_rfl
theorem qKG:Pw 87 [] false false none:=⟨rfl,rfl,rfl,rfl⟩
def qfC:Code:=(Tryz.f88.body).getD .skip
theorem qCR:qu Tryz.prog pol 88=some ⟨qfC,20,[],[]⟩:=by kernel_rfl
theorem qLu:Pw 88 [] false false none:=⟨rfl,rfl,rfl,rfl⟩
def qiz:Code:=(Tryz.f89.body).getD .skip
theorem qF4:qu Tryz.prog pol 89=some ⟨qiz,32,[],[]⟩:=by kernel_rfl
theorem qLR:Pw 89 [] false false none:=⟨rfl,rfl,rfl,rfl⟩
def qtN:Code:=(Tryz.f90.body).getD .skip
theorem qLY:qu Tryz.prog pol 90=some ⟨qtN,148,[],[]⟩:=by kernel_rfl
def qta:Code:=(Tryz.f91.body).getD .skip
theorem qPA:qu Tryz.prog pol 91=some ⟨qta,8,[.tmp 2],[3]⟩:=by kernel_rfl
def qiN:Code:=(Tryz.f92.body).getD .skip
theorem qES:qu Tryz.prog pol 92=some ⟨qiN,6,[.tmp 2],[4]⟩:=by kernel_rfl
theorem qLb:Pw 92 [] false false none:=⟨rfl,rfl,rfl,rfl⟩
def qi8:Code:=(Tryz.f94.body).getD .skip
theorem qFw:qu Tryz.prog pol 94=some ⟨qi8,35,[.tmp 2],[3]⟩:=by kernel_rfl
theorem qKd:Pw 94 [] false false none:=⟨rfl,rfl,rfl,rfl⟩
def qfk:Code:=(Tryz.f95.body).getD .skip
theorem qC0:qu Tryz.prog pol 95=some ⟨qfk,19,[.tmp 4],[3]⟩:=by kernel_rfl
theorem qLq:Pw 95 [] false false none:=⟨rfl,rfl,rfl,rfl⟩
def qfM:Code:=(Tryz.f96.body).getD .skip
theorem qyh:qu Tryz.prog pol 96=some ⟨qfM,25,[.tmp 5],[4]⟩:=by kernel_rfl
theorem qLU:Pw 96 [] false false none:=⟨rfl,rfl,rfl,rfl⟩
def qii:Code:=(Tryz.f97.body).getD .skip
theorem qFD:qu Tryz.prog pol 97=some ⟨qii,9,[.tmp 5],[4]⟩:=by kernel_rfl
theorem qL8:Pw 97 [] false false none:=⟨rfl,rfl,rfl,rfl⟩
def qiW:Code:=(Tryz.f98.body).getD .skip
theorem qEM:qu Tryz.prog pol 98=some ⟨qiW,13,[.tmp 4],[4]⟩:=by kernel_rfl
theorem qKH:Pw 98 [] false false none:=⟨rfl,rfl,rfl,rfl⟩
def qu3:Code:=(Tryz.f99.body).getD .skip
theorem qN5:qu Tryz.prog pol 99=some ⟨qu3,8,[.tmp 3],[4]⟩:=by kernel_rfl
def qot:Code:=(Tryz.f100.body).getD .skip
theorem qHr:qu Tryz.prog pol 100=some ⟨qot,9,[.tmp 4],[4]⟩:=by kernel_rfl
def qeC:Code:=(Tryz.f101.body).getD .skip
theorem qs3:qu Tryz.prog pol 101=some ⟨qeC,7,[.tmp 3],[4]⟩:=by kernel_rfl
theorem qzM:Pw 101 [] false false none:=⟨rfl,rfl,rfl,rfl⟩
def qmM:Code:=(Tryz.f102.body).getD .skip
theorem qI5:qu Tryz.prog pol 102=some ⟨qmM,134,[],[]⟩:=by kernel_rfl
def qdu:Code:=(Tryz.f103.body).getD .skip
theorem qqd:qu Tryz.prog pol 103=some ⟨qdu,18,[.tmp 4],[4]⟩:=by kernel_rfl
theorem qAf:Pw 103 [] false false none:=⟨rfl,rfl,rfl,rfl⟩
def qeB:Code:=(Tryz.f104.body).getD .skip
theorem qr5:qu Tryz.prog pol 104=some ⟨qeB,17,[.tmp 2],[4]⟩:=by kernel_rfl
theorem qB2:Pw 104 [] false false none:=⟨rfl,rfl,rfl,rfl⟩
def qe3:Code:=(Tryz.f105.body).getD .skip
theorem qsZ:qu Tryz.prog pol 105=some ⟨qe3,20,[.tmp 4],[3]⟩:=by kernel_rfl
theorem qAA:Pw 105 [] false false none:=⟨rfl,rfl,rfl,rfl⟩
def qeN:Code:=(Tryz.f106.body).getD .skip
theorem qrK:qu Tryz.prog pol 106=some ⟨qeN,4,[.tmp 2],[166]⟩:=by kernel_rfl
theorem qE2:Pw 106 [] true false none:=⟨rfl,rfl,rfl,rfl⟩
def qdM:Code:=(Tryz.f107.body).getD .skip
theorem qra:qu Tryz.prog pol 107=some ⟨qdM,11,[.tmp 2],[4]⟩:=by kernel_rfl
theorem qBl:Pw 107 [] false false none:=⟨rfl,rfl,rfl,rfl⟩
def qaW:Code:=(Tryz.f108.body).getD .skip
theorem qmy:qu Tryz.prog pol 108=some ⟨qaW,29,[.cell 2 34],[34]⟩:=by kernel_rfl
theorem qvh:Pw 108 [] true false none:=⟨rfl,rfl,rfl,rfl⟩
def qen:Code:=(Tryz.f109.body).getD .skip
theorem qsm:qu Tryz.prog pol 109=some ⟨qen,18,[.tmp 2],[4]⟩:=by kernel_rfl
theorem qAG:Pw 109 [] false false none:=⟨rfl,rfl,rfl,rfl⟩
def qdx:Code:=(Tryz.f110.body).getD .skip
theorem qsq:qu Tryz.prog pol 110=some ⟨qdx,14,[.tmp 2],[40]⟩:=by kernel_rfl
theorem qCY:Pw 110 [] false false none:=⟨rfl,rfl,rfl,rfl⟩
def qbL:Code:=(Tryz.f111.body).getD .skip
theorem qpI:qu Tryz.prog pol 111=some ⟨qbL,43,[.tmp 2],[40]⟩:=by kernel_rfl
theorem qBk:Pw 111 [] false false none:=⟨rfl,rfl,rfl,rfl⟩
def qdZ:Code:=(Tryz.f112.body).getD .skip
theorem qrJ:qu Tryz.prog pol 112=some ⟨qdZ,13,[.tmp 2],[40]⟩:=by kernel_rfl
theorem qEf:Pw 112 [] false false none:=⟨rfl,rfl,rfl,rfl⟩
def qez:Code:=(Tryz.f113.body).getD .skip
theorem qqf:qu Tryz.prog pol 113=some ⟨qez,13,[.tmp 3],[40]⟩:=by kernel_rfl
theorem qDn:Pw 113 [] false false none:=⟨rfl,rfl,rfl,rfl⟩
def qdI:Code:=(Tryz.f114.body).getD .skip
theorem qrq:qu Tryz.prog pol 114=some ⟨qdI,15,[.tmp 3],[40]⟩:=by kernel_rfl
theorem qE9:Pw 114 [] false false none:=⟨rfl,rfl,rfl,rfl⟩
def qdv:Code:=(Tryz.f115.body).getD .skip
theorem qr1:qu Tryz.prog pol 115=some ⟨qdv,12,[.tmp 4],[4]⟩:=by kernel_rfl
theorem qAI:Pw 115 [] false false none:=⟨rfl,rfl,rfl,rfl⟩
def qe8:Code:=(Tryz.f116.body).getD .skip
theorem qsv:qu Tryz.prog pol 116=some ⟨qe8,19,[.tmp 4],[4]⟩:=by kernel_rfl
theorem qDW:Pw 116 [] false false none:=⟨rfl,rfl,rfl,rfl⟩
def qee:Code:=(Tryz.f117.body).getD .skip
theorem qqY:qu Tryz.prog pol 117=some ⟨qee,24,[.tmp 6],[4]⟩:=by kernel_rfl
theorem qA7:Pw 117 [] false false none:=⟨rfl,rfl,rfl,rfl⟩
def qn4:Code:=(Tryz.f118.body).getD .skip
theorem qGc:qu Tryz.prog pol 118=some ⟨qn4,53,[],[]⟩:=by kernel_rfl
def qma:Code:=(Tryz.f119.body).getD .skip
theorem qH0:qu Tryz.prog pol 119=some ⟨qma,60,[],[]⟩:=by kernel_rfl
def qlI:Code:=(Tryz.f120.body).getD .skip
theorem qJe:qu Tryz.prog pol 120=some ⟨qlI,67,[],[]⟩:=by kernel_rfl
def qlt:Code:=(Tryz.f121.body).getD .skip
theorem qHB:qu Tryz.prog pol 121=some ⟨qlt,63,[.tmp 8,.tmp 9],[3,171]⟩:=by kernel_rfl
def qnv:Code:=(Tryz.f122.body).getD .skip
theorem qIW:qu Tryz.prog pol 122=some ⟨qnv,34,[],[]⟩:=by kernel_rfl
def qo2:Code:=(Tryz.f123.body).getD .skip
theorem qGk:qu Tryz.prog pol 123=some ⟨qo2,141,[.tmp 8],[4]⟩:=by kernel_rfl
def qnw:Code:=(Tryz.f124.body).getD .skip
theorem qJd:qu Tryz.prog pol 124=some ⟨qnw,90,[.tmp 10],[3]⟩:=by kernel_rfl
def qnD:Code:=(Tryz.f125.body).getD .skip
theorem qIx:qu Tryz.prog pol 125=some ⟨qnD,178,[.tmp 10,.tmp 11],[3,4]⟩:=by kernel_rfl
def qlE:Code:=(Tryz.f128.body).getD .skip
theorem qIM:qu Tryz.prog pol 128=some ⟨qlE,19,[.tmp 4],[3]⟩:=by kernel_rfl
def qoi:Code:=(Tryz.f129.body).getD .skip
theorem qG8:qu Tryz.prog pol 129=some ⟨qoi,49,[],[]⟩:=by kernel_rfl
def qmw:Code:=(Tryz.f130.body).getD .skip
theorem qIP:qu Tryz.prog pol 130=some ⟨qmw,56,[],[]⟩:=by kernel_rfl
def qlo:Code:=(Tryz.f131.body).getD .skip
theorem qFQ:qu Tryz.prog pol 131=some ⟨qlo,65,[],[]⟩:=by kernel_rfl
def qov:Code:=(Tryz.f132.body).getD .skip
theorem qGm:qu Tryz.prog pol 132=some ⟨qov,57,[.tmp 6,.tmp 7],[3,171]⟩:=by kernel_rfl
def qn6:Code:=(Tryz.f133.body).getD .skip
theorem qFY:qu Tryz.prog pol 133=some ⟨qn6,32,[],[]⟩:=by kernel_rfl
def qlA:Code:=(Tryz.f134.body).getD .skip
theorem qIS:qu Tryz.prog pol 134=some ⟨qlA,133,[.tmp 6],[4]⟩:=by kernel_rfl
def qm7:Code:=(Tryz.f135.body).getD .skip
theorem qH7:qu Tryz.prog pol 135=some ⟨qm7,17,[.tmp 4],[4]⟩:=by kernel_rfl
def qmU:Code:=(Tryz.f136.body).getD .skip
theorem qJm:qu Tryz.prog pol 136=some ⟨qmU,84,[.tmp 8],[3]⟩:=by kernel_rfl
def qpM:Code:=(Tryz.f137.body).getD .skip
theorem qHp:qu Tryz.prog pol 137=some ⟨qpM,168,[.tmp 8,.tmp 9],[3,4]⟩:=by kernel_rfl
def qdQ:Code:=(Tryz.f138.body).getD .skip
theorem qsi:qu Tryz.prog pol 138=some ⟨qdQ,17,[.tmp 2],[4]⟩:=by kernel_rfl
theorem qzr:Pw 138 [] false false none:=⟨rfl,rfl,rfl,rfl⟩
def qdE:Code:=(Tryz.f139.body).getD .skip
theorem qrr:qu Tryz.prog pol 139=some ⟨qdE,8,[.tmp 4],[3]⟩:=by kernel_rfl
theorem qyE:Pw 139 [] false false none:=⟨rfl,rfl,rfl,rfl⟩
def qeu:Code:=(Tryz.f140.body).getD .skip
theorem qsw:qu Tryz.prog pol 140=some ⟨qeu,6,[.tmp 2],[4]⟩:=by kernel_rfl
theorem qBZ:Pw 140 [] false false none:=⟨rfl,rfl,rfl,rfl⟩
def qeq:Code:=(Tryz.f141.body).getD .skip
theorem qsA:qu Tryz.prog pol 141=some ⟨qeq,6,[],[]⟩:=by kernel_rfl
theorem qCX:Pw 141 [] false false none:=⟨rfl,rfl,rfl,rfl⟩
def qbr:Code:=(Tryz.f142.body).getD .skip
theorem ql3:qu Tryz.prog pol 142=some ⟨qbr,28,[.tmp 6],[4]⟩:=by kernel_rfl
theorem qs1:Pw 142 [] false false none:=⟨rfl,rfl,rfl,rfl⟩
def qlO:Code:=(Tryz.f143.body).getD .skip
theorem qHj:qu Tryz.prog pol 143=some ⟨qlO,8,[.tmp 2],[31]⟩:=by kernel_rfl
theorem qzR:Pw 143 [] false false (some (.of (pr0 (q4T T 52 false)))):=⟨rfl,rfl,rfl,rfl⟩
def qnt:Code:=(Tryz.f144.body).getD .skip
theorem qId:qu Tryz.prog pol 144=some ⟨qnt,8,[.tmp 2],[32]⟩:=by kernel_rfl
theorem qCf:Pw 144 [] false true (some (.of (pr0 (q4T T 34 true)))):=⟨rfl,rfl,rfl,rfl⟩
def qei:Code:=(Tryz.f145.body).getD .skip
theorem qrg:qu Tryz.prog pol 145=some ⟨qei,9,[.tmp 4],[4]⟩:=by kernel_rfl
theorem qAU:Pw 145 [] false false none:=⟨rfl,rfl,rfl,rfl⟩
def qeH:Code:=(Tryz.f146.body).getD .skip
theorem qrt:qu Tryz.prog pol 146=some ⟨qeH,6,[.tmp 2],[4]⟩:=by kernel_rfl
theorem qB1:Pw 146 [] false false none:=⟨rfl,rfl,rfl,rfl⟩
def qdA:Code:=(Tryz.f147.body).getD .skip
theorem qs9:qu Tryz.prog pol 147=some ⟨qdA,9,[.tmp 4],[4]⟩:=by kernel_rfl
theorem qBm:Pw 147 [] false false none:=⟨rfl,rfl,rfl,rfl⟩
def qlP:Code:=(Tryz.f148.body).getD .skip
theorem qJx:qu Tryz.prog pol 148=some ⟨qlP,82,[],[]⟩:=by kernel_rfl
def qp9:Code:=(Tryz.f149.body).getD .skip
theorem qJv:qu Tryz.prog pol 149=some ⟨qp9,7,[.tmp 2],[118]⟩:=by kernel_rfl
def qlL:Code:=(Tryz.f150.body).getD .skip
theorem qIe:qu Tryz.prog pol 150=some ⟨qlL,33,[.tmp 2],[157]⟩:=by kernel_rfl
def qpi:Code:=(Tryz.f151.body).getD .skip
theorem qI0:qu Tryz.prog pol 151=some ⟨qpi,18,[.tmp 8],[3]⟩:=by kernel_rfl
def qnP:Code:=(Tryz.f152.body).getD .skip
theorem qIO:qu Tryz.prog pol 152=some ⟨qnP,41,[.tmp 12],[3]⟩:=by kernel_rfl
def qmZ:Code:=(Tryz.f153.body).getD .skip
theorem qGT:qu Tryz.prog pol 153=some ⟨qmZ,76,[],[]⟩:=by kernel_rfl
def qlH:Code:=(Tryz.f154.body).getD .skip
theorem qIX:qu Tryz.prog pol 154=some ⟨qlH,15,[.tmp 6],[3]⟩:=by kernel_rfl
def qnQ:Code:=(Tryz.f155.body).getD .skip
theorem qHi:qu Tryz.prog pol 155=some ⟨qnQ,36,[.tmp 10],[3]⟩:=by kernel_rfl
def qaX:Code:=(Tryz.f156.body).getD .skip
theorem qoG:qu Tryz.prog pol 156=some ⟨qaX,21,[.tmp 6],[3]⟩:=by kernel_rfl
theorem qA9:Pw 156 [] false false none:=⟨rfl,rfl,rfl,rfl⟩
def qb4:Code:=(Tryz.f157.body).getD .skip
theorem qmS:qu Tryz.prog pol 157=some ⟨qb4,19,[.tmp 4],[3]⟩:=by kernel_rfl
theorem qBf:Pw 157 [] false false none:=⟨rfl,rfl,rfl,rfl⟩
def qc7:Code:=(Tryz.f158.body).getD .skip
theorem qor:qu Tryz.prog pol 158=some ⟨qc7,19,[.tmp 4],[3]⟩:=by kernel_rfl
theorem qAv:Pw 158 [] false false none:=⟨rfl,rfl,rfl,rfl⟩
def qml:Code:=(Tryz.f159.body).getD .skip
theorem qH1:qu Tryz.prog pol 159=some ⟨qml,32,[.tmp 10,.tmp 11],[3,3]⟩:=by kernel_rfl
def qmi:Code:=(Tryz.f160.body).getD .skip
theorem qHz:qu Tryz.prog pol 160=some ⟨qmi,28,[.tmp 8,.tmp 9],[3,3]⟩:=by kernel_rfl
theorem qIB:Kp 5 3 [1,3,5,13,14] [] [1,3,5]:=⟨rfl,rfl,rfl⟩
theorem qFS:Kp 6 9 [6,10,13] [] [10]:=⟨rfl,rfl,rfl⟩
theorem qHo:Kp 6 3 [3,5,6,10,14,15,16] [.slot 10 54 8] [6,10]:=⟨rfl,rfl,rfl⟩
theorem qGQ:Kp 8 6 [2,4,5,7,8,9,11,28,29,30] [.cell 11 0 3 1] [2,4,5,7,8,9,11]:=⟨rfl,rfl,rfl⟩
theorem qB6:Kp 13 3 [0,3,4] [.slot 3 54 8] [3]:=⟨rfl,rfl,rfl⟩
theorem qAe:Kp 19 3 [3,4,5,7,13,14,15] [] [6]:=⟨rfl,rfl,rfl⟩
theorem qzC:Kp 22 2 [0,4,7,8,9] [.slot 4 54 8] [4]:=⟨rfl,rfl,rfl⟩
theorem qA0:Kp 25 2 [0,2,3] [.slot 2 3 1] [2]:=⟨rfl,rfl,rfl⟩
theorem qDz:Kp 26 8 [1,2,3,7,9,12,13,14,25,26,27] [] [1,2,3,6,7,9,12,13,14]:=⟨rfl,rfl,rfl⟩
theorem qBX:Kp 26 3 [1,2,3,7,12,13,14] [] [1,3,6,7]:=⟨rfl,rfl,rfl⟩
theorem qAd:Kp 27 9 [2,3,4,5,6,10,11,12,13,15,46,47,48] [.slot 15 3 1] [2,3,4,5,6,10,11,12,15]:=⟨rfl,rfl,rfl⟩
theorem qEs:Kp 27 2 [2,3,4,5,6,10,11,12] [.slot 10 3 1] [10,11]:=⟨rfl,rfl,rfl⟩
theorem qB8:Kp 28 2 [0,4,7,8,9] [.slot 4 3 1] [4]:=⟨rfl,rfl,rfl⟩
theorem qEm:Kp 30 3 [3,6,7,8] [] [3]:=⟨rfl,rfl,rfl⟩
theorem qzy:Kp 39 9 [0,1,2,6,7,8,9,10] [.cell 9 4 34 5] [0,6,7,8,9]:=⟨rfl,rfl,rfl⟩
theorem qBw:Kp 42 8 [3,10,11,12,22,23,24] [] [3,10,11,12]:=⟨rfl,rfl,rfl⟩
theorem qAH:Kp 42 3 [3,10,11,12] [] [3]:=⟨rfl,rfl,rfl⟩
theorem qx6:Kp 47 13 [1,62,63,64] [] [2]:=⟨rfl,rfl,rfl⟩
theorem qCj:Kp 48 2 [1,9,10,11] [] [1,2]:=⟨rfl,rfl,rfl⟩
theorem qDy:Kp 49 6 [6,37,38,39] [] [2]:=⟨rfl,rfl,rfl⟩
theorem qzP:Kp 53 8 [0,19,20,21] [] []:=⟨rfl,rfl,rfl⟩
theorem qDQ:Kp 53 2 [0,3,8,9] [.slot 3 3 1] [0,3]:=⟨rfl,rfl,rfl⟩
theorem qCJ:Kp 56 3 [3,6,7,8] [] [2,3]:=⟨rfl,rfl,rfl⟩
theorem qDv:Kp 59 2 [0,1,9,10,11] [] [0,1,4]:=⟨rfl,rfl,rfl⟩
theorem quv:Kp 61 14 [2,3,4,5,12,13,14,15,16,49,50] [] [2,3,4,5,12,13,14,15,16,49,50]:=⟨rfl,rfl,rfl⟩
theorem qzB:Kp 61 9 [2,3,4,5,12,13,14,15,49,50] [.cell 12 0 3 1,.slot 15 3 1] [15]:=⟨rfl,rfl,rfl⟩
theorem qDl:Kp 66 4 [0,1,12,13] [] [4]:=⟨rfl,rfl,rfl⟩
theorem qAP:Kp 68 8 [0,3,4,5,6,7] [] [0,3,4,5,6,7]:=⟨rfl,rfl,rfl⟩
theorem qzq:Kp 68 4 [0,3,4,5] [.slot 4 52 2] [4]:=⟨rfl,rfl,rfl⟩
theorem qDS:Kp 73 2 [0,1,7,8] [] [4]:=⟨rfl,rfl,rfl⟩
theorem qC9:Kp 74 2 [0,1,7,8] [] [4]:=⟨rfl,rfl,rfl⟩
theorem qzX:Kp 76 2 [0,6,7,8] [] [0,2]:=⟨rfl,rfl,rfl⟩
theorem qCa:Kp 81 3 [2,14,15,16] [.slot 2 34 5] [2]:=⟨rfl,rfl,rfl⟩
theorem qv8:Kp 83 38 [9,12,21,22] [] [9]:=⟨rfl,rfl,rfl⟩
theorem qxw:Kp 83 25 [3,5,6,7,9,12,17,18,19,72,73,74,96,97] [] [3,5,6,7,9,12,19,72,73,74]:=⟨rfl,rfl,rfl⟩
theorem qx8:Kp 83 18 [3,5,6,7,9,12,72,73,74] [] [7,9,12]:=⟨rfl,rfl,rfl⟩
theorem qx9:Kp 83 14 [3,5,6,7,9,12,13] [] [3,5,6,7,9,12]:=⟨rfl,rfl,rfl⟩
theorem qyI:Kp 83 5 [1,2,3,4,7,9,10,11] [] [3,9]:=⟨rfl,rfl,rfl⟩
theorem qAm:Kp 86 3 [3,4,5,8,9,13,14,15] [] [8,9]:=⟨rfl,rfl,rfl⟩
theorem qE4:Kp 88 1 [1,2,6] [] []:=⟨rfl,rfl,rfl⟩
theorem qzv:Kp 95 2 [0,3,7,8] [] [4]:=⟨rfl,rfl,rfl⟩
theorem qBP:Kp 96 2 [0,1,8,9,10] [] [5]:=⟨rfl,rfl,rfl⟩
theorem qxu:Kp 108 3 [1,2,14,15,16] [] [1,2]:=⟨rfl,rfl,rfl⟩
theorem qvc:Kp 111 7 [1,22,23,24] [] [2]:=⟨rfl,rfl,rfl⟩
theorem qxi:Kp 142 4 [1,2,15,16,17] [] [6]:=⟨rfl,rfl,rfl⟩
theorem qxh:Kp 156 2 [1,2,10] [] [6]:=⟨rfl,rfl,rfl⟩
theorem qwu:Kp 157 2 [0,1,7,8] [] [4]:=⟨rfl,rfl,rfl⟩
theorem qwe:Kp 158 2 [0,3,7,8] [] [4]:=⟨rfl,rfl,rfl⟩
def quS:Code:=(zN 3 qp8).getD .skip
def qvI:Code:=(zN 9 qkt).getD .skip
def qvR:Code:=(zN 3 qkt).getD .skip
def qxR:Code:=(zN 6 qgC).getD .skip
def qo6:Code:=(zN 3 qfZ).getD .skip
def qp6:Code:=(zN 3 qeW).getD .skip
def qmJ:Code:=(zN 2 qfs).getD .skip
def qmR:Code:=(zN 2 qfd).getD .skip
def qlp:Code:=(zN 8 qdf).getD .skip
def qnU:Code:=(zN 3 qdf).getD .skip
def qnX:Code:=(zN 9 qcJ).getD .skip
def qpK:Code:=(zN 2 qcJ).getD .skip
def qnc:Code:=(zN 2 qgc).getD .skip
def qnL:Code:=(zN 3 qfw).getD .skip
def qnk:Code:=(zN 9 qfm).getD .skip
def qnS:Code:=(zN 8 qd1).getD .skip
def qmN:Code:=(zN 3 qd1).getD .skip
def qhq:Code:=(zN 13 qgd).getD .skip
def qoO:Code:=(zN 2 qga).getD .skip
def qmx:Code:=(zN 6 qfp).getD .skip
def qly:Code:=(zN 8 qcP).getD .skip
def qnM:Code:=(zN 2 qcP).getD .skip
def qmE:Code:=(zN 3 qf3).getD .skip
def qn9:Code:=(zN 2 qfg).getD .skip
def qhd:Code:=(zN 14 qcV).getD .skip
def qn2:Code:=(zN 9 qcV).getD .skip
def qpV:Code:=(zN 4 qfn).getD .skip
def qpg:Code:=(zN 8 qdb).getD .skip
def qmb:Code:=(zN 4 qdb).getD .skip
def qoW:Code:=(zN 2 qfy).getD .skip
def qgl:Code:=(zN 2 qfx).getD .skip
def qnI:Code:=(zN 2 qf2).getD .skip
def qoT:Code:=(zN 3 qfA).getD .skip
def qeE:Code:=(zN 38 q8i).getD .skip
def qe9:Code:=(zN 25 q8i).getD .skip
def qeg:Code:=(zN 18 q8i).getD .skip
def qdR:Code:=(zN 14 q8i).getD .skip
def qdh:Code:=(zN 5 q8i).getD .skip
def qlV:Code:=(zN 3 qfS).getD .skip
def qm5:Code:=(zN 1 qfC).getD .skip
def qlm:Code:=(zN 2 qfk).getD .skip
def qo0:Code:=(zN 2 qfM).getD .skip
def qgF:Code:=(zN 3 qaW).getD .skip
def qhJ:Code:=(zN 7 qbL).getD .skip
def qdo:Code:=(zN 4 qbr).getD .skip
def qhu:Code:=(zN 2 qaX).getD .skip
def qgQ:Code:=(zN 2 qb4).getD .skip
def qhP:Code:=(zN 2 qc7).getD .skip
def qdg:Code:=((roundOf 19 qgC).getD (.skip,.skip)).1
def qbz:Code:=((roundOf 19 qgC).getD (.skip,.skip)).2
theorem qzb:zt qbz=19:=by kernel_rfl
theorem qCW:q6A (drq pol 8) false qdg=true∧q6A (drq pol 8) false qbz=true:=⟨by kernel_rfl,by kernel_rfl⟩
def qbC:Code:=((roundOf 4 qdj).getD (.skip,.skip)).1
def q9Z:Code:=((roundOf 4 qdj).getD (.skip,.skip)).2
theorem qCb:zt q9Z=4:=by kernel_rfl
theorem qth:q6A (drq pol 80) false qbC=true∧q6A (drq pol 80) false q9Z=true:=⟨by kernel_rfl,by kernel_rfl⟩
def bdt (t:Nat):Option Bd:=bif Nat.blt t 161 then(br t 80 (br t 40 (br t 20 (br t 10 (br t 5 (br t 2 none (br t 3 (some ⟨qAT,1,[],[]⟩) (br t 4 (some ⟨qqM,52,[.tmp 2],[4]⟩) (some ⟨qzY,99,[.tmp 0],[4]⟩)))) (br t 7 (br t 6 (some ⟨qp8,52,[.tmp 2,.cell 3 37,.tmp 4],[30,37,3]⟩) (some ⟨qkt,53,[.tmp 8,.tmp 9],[30,40]⟩)) (br t 8 (some ⟨qrs,2,[.cell 0 44],[44]⟩) (br t 9 (some ⟨qgC,93,[.cell 8 47,.cell 9 40],[47,40]⟩) (some ⟨qCA,16,[.cell 8 54],[54]⟩))))) (br t 15 (br t 12 (br t 11 (some ⟨qtz,17,[.tmp 2,.tmp 3],[3,40]⟩) (some ⟨qtZ,29,[.tmp 4],[4]⟩)) (br t 13 (some ⟨qtt,128,[.tmp 2],[22]⟩) (br t 14 (some ⟨qfZ,89,[.tmp 2],[30]⟩) (some ⟨qio,12,[.tmp 4],[3]⟩)))) (br t 17 (br t 16 (some ⟨qk0,70,[.cell 4 54],[54]⟩) (some ⟨qiZ,56,[.cell 2 37],[37]⟩)) (br t 18 (some ⟨qk8,21,[.tmp 6],[4]⟩) (br t 19 (some ⟨qie,12,[.cell 2 54],[54]⟩) (some ⟨qeW,40,[.tmp 6],[4]⟩)))))) (br t 30 (br t 25 (br t 22 (br t 21 (some ⟨qu5,33,[.tmp 6],[30]⟩) (some ⟨qjw,13,[.tmp 4],[40]⟩)) (br t 23 (some ⟨qfs,22,[.tmp 4],[30]⟩) (br t 24 (some ⟨qjY,25,[.tmp 6,.tmp 7],[71,40]⟩) (some ⟨qiL,4,[.tmp 2],[75]⟩)))) (br t 27 (br t 26 (some ⟨qfd,20,[.tmp 2],[25]⟩) (some ⟨qdf,83,[.tmp 6],[4]⟩)) (br t 28 (some ⟨qcJ,80,[.tmp 10,.tmp 11],[25,4]⟩) (br t 29 (some ⟨qgc,22,[.tmp 4],[25]⟩) (some ⟨qtB,4,[.tmp 2],[83]⟩))))) (br t 35 (br t 32 (br t 31 (some ⟨qfw,18,[.tmp 2],[3]⟩) (some ⟨qtf,26,[.tmp 4],[4]⟩)) (br t 33 (some ⟨qjv,37,[.tmp 4],[4]⟩) (br t 34 (some ⟨qik,2,[.tmp 0],[94]⟩) (some ⟨qjq,35,[.tmp 4],[3]⟩)))) (br t 37 (br t 36 (some ⟨qjI,14,[.cell 2 54],[54]⟩) (some ⟨qjA,40,[.tmp 4],[3]⟩)) (br t 38 (some ⟨qj8,20,[.cell 2 52],[52]⟩) (br t 39 (some ⟨qjF,24,[.tmp 4],[4]⟩) (some ⟨qfm,77,[.cell 6 34],[34]⟩))))))) (br t 60 (br t 50 (br t 45 (br t 42 (br t 41 (some ⟨qjP,11,[.tmp 2],[3]⟩) (some ⟨qtk,8,[.tmp 2],[25]⟩)) (br t 43 (some ⟨qd1,35,[.tmp 2],[90]⟩) (br t 44 (some ⟨qjR,50,[.tmp 6],[4]⟩) (some ⟨qk6,20,[.tmp 5],[4]⟩)))) (br t 47 (br t 46 (some ⟨qjf,9,[.tmp 4],[4]⟩) (some ⟨qk7,9,[.tmp 4],[4]⟩)) (br t 48 (some ⟨qgd,95,[.tmp 2],[40]⟩) (br t 49 (some ⟨qga,37,[.tmp 2],[40]⟩) (some ⟨qfp,60,[.tmp 2],[40]⟩))))) (br t 55 (br t 52 (br t 51 (some ⟨qjo,5,[.tmp 4],[4]⟩) (some ⟨qjm,5,[.tmp 4],[4]⟩)) (br t 53 (some ⟨qiq,17,[.tmp 10],[113]⟩) (br t 54 (some ⟨qcP,30,[],[]⟩) (some ⟨qtq,14,[],[]⟩)))) (br t 57 (br t 56 (some ⟨qk5,19,[.tmp 4],[3]⟩) (some ⟨qf3,18,[.tmp 2],[3]⟩)) (br t 58 (some ⟨qjb,20,[.tmp 4],[3]⟩) (br t 59 (some ⟨qiP,8,[.tmp 2],[3]⟩) (some ⟨qfg,36,[.tmp 4],[3]⟩)))))) (br t 70 (br t 65 (br t 62 (br t 61 (some ⟨qjG,9,[.tmp 4],[4]⟩) (some ⟨qcV,89,[.tmp 8,.tmp 9],[25,4]⟩)) (br t 63 (some ⟨qtu,7,[],[]⟩) (br t 64 (some ⟨qtP,39,[.tmp 7],[4]⟩) (some ⟨qub,9,[.tmp 2],[30]⟩)))) (br t 67 (br t 66 (some ⟨qtU,21,[.tmp 2],[4]⟩) (some ⟨qfn,26,[.tmp 4],[4]⟩)) (br t 68 (some ⟨qjy,8,[.tmp 4],[4]⟩) (br t 69 (some ⟨qdb,61,[.tmp 2],[31]⟩) (some ⟨qjS,16,[.tmp 4],[3]⟩))))) (br t 75 (br t 72 (br t 71 (some ⟨qu1,11,[],[]⟩) (some ⟨qu2,61,[.tmp 2],[25]⟩)) (br t 73 (some ⟨qj3,26,[.tmp 6],[4]⟩) (br t 74 (some ⟨qfy,19,[.tmp 4],[3]⟩) (some ⟨qfx,19,[.tmp 4],[3]⟩)))) (br t 77 (br t 76 (some ⟨qjz,15,[.tmp 6],[4]⟩) (some ⟨qf2,26,[.tmp 2],[4]⟩)) (br t 78 (some ⟨qkb,11,[.tmp 2],[4]⟩) (br t 79 (some ⟨qi9,17,[.tmp 4],[3]⟩) (some ⟨qiR,16,[.tmp 6],[3]⟩)))))))) (br t 120 (br t 100 (br t 90 (br t 85 (br t 82 (br t 81 (some ⟨qdj,27,[.cell 2 32,.cell 3 3,.cell 4 4],[32,3,4]⟩) (some ⟨qfA,29,[.tmp 2],[32]⟩)) (br t 83 (some ⟨qjD,10,[.tmp 0],[138]⟩) (br t 84 (some ⟨q8i,142,[.tmp 8],[113]⟩) (some ⟨qjH,11,[.tmp 2],[4]⟩)))) (br t 87 (br t 86 (some ⟨qiK,5,[.tmp 2],[145]⟩) (some ⟨qfS,44,[.cell 8 148],[148]⟩)) (br t 88 (some ⟨qiO,9,[.tmp 3],[4]⟩) (br t 89 (some ⟨qfC,20,[],[]⟩) (some ⟨qiz,32,[],[]⟩))))) (br t 95 (br t 92 (br t 91 (some ⟨qtN,148,[],[]⟩) (some ⟨qta,8,[.tmp 2],[3]⟩)) (br t 93 (some ⟨qiN,6,[.tmp 2],[4]⟩) (br t 94 none (some ⟨qi8,35,[.tmp 2],[3]⟩)))) (br t 97 (br t 96 (some ⟨qfk,19,[.tmp 4],[3]⟩) (some ⟨qfM,25,[.tmp 5],[4]⟩)) (br t 98 (some ⟨qii,9,[.tmp 5],[4]⟩) (br t 99 (some ⟨qiW,13,[.tmp 4],[4]⟩) (some ⟨qu3,8,[.tmp 3],[4]⟩)))))) (br t 110 (br t 105 (br t 102 (br t 101 (some ⟨qot,9,[.tmp 4],[4]⟩) (some ⟨qeC,7,[.tmp 3],[4]⟩)) (br t 103 (some ⟨qmM,134,[],[]⟩) (br t 104 (some ⟨qdu,18,[.tmp 4],[4]⟩) (some ⟨qeB,17,[.tmp 2],[4]⟩)))) (br t 107 (br t 106 (some ⟨qe3,20,[.tmp 4],[3]⟩) (some ⟨qeN,4,[.tmp 2],[166]⟩)) (br t 108 (some ⟨qdM,11,[.tmp 2],[4]⟩) (br t 109 (some ⟨qaW,29,[.cell 2 34],[34]⟩) (some ⟨qen,18,[.tmp 2],[4]⟩))))) (br t 115 (br t 112 (br t 111 (some ⟨qdx,14,[.tmp 2],[40]⟩) (some ⟨qbL,43,[.tmp 2],[40]⟩)) (br t 113 (some ⟨qdZ,13,[.tmp 2],[40]⟩) (br t 114 (some ⟨qez,13,[.tmp 3],[40]⟩) (some ⟨qdI,15,[.tmp 3],[40]⟩)))) (br t 117 (br t 116 (some ⟨qdv,12,[.tmp 4],[4]⟩) (some ⟨qe8,19,[.tmp 4],[4]⟩)) (br t 118 (some ⟨qee,24,[.tmp 6],[4]⟩) (br t 119 (some ⟨qn4,53,[],[]⟩) (some ⟨qma,60,[],[]⟩))))))) (br t 140 (br t 130 (br t 125 (br t 122 (br t 121 (some ⟨qlI,67,[],[]⟩) (some ⟨qlt,63,[.tmp 8,.tmp 9],[3,171]⟩)) (br t 123 (some ⟨qnv,34,[],[]⟩) (br t 124 (some ⟨qo2,141,[.tmp 8],[4]⟩) (some ⟨qnw,90,[.tmp 10],[3]⟩)))) (br t 127 (br t 126 (some ⟨qnD,178,[.tmp 10,.tmp 11],[3,4]⟩) none) (br t 128 none (br t 129 (some ⟨qlE,19,[.tmp 4],[3]⟩) (some ⟨qoi,49,[],[]⟩))))) (br t 135 (br t 132 (br t 131 (some ⟨qmw,56,[],[]⟩) (some ⟨qlo,65,[],[]⟩)) (br t 133 (some ⟨qov,57,[.tmp 6,.tmp 7],[3,171]⟩) (br t 134 (some ⟨qn6,32,[],[]⟩) (some ⟨qlA,133,[.tmp 6],[4]⟩)))) (br t 137 (br t 136 (some ⟨qm7,17,[.tmp 4],[4]⟩) (some ⟨qmU,84,[.tmp 8],[3]⟩)) (br t 138 (some ⟨qpM,168,[.tmp 8,.tmp 9],[3,4]⟩) (br t 139 (some ⟨qdQ,17,[.tmp 2],[4]⟩) (some ⟨qdE,8,[.tmp 4],[3]⟩)))))) (br t 150 (br t 145 (br t 142 (br t 141 (some ⟨qeu,6,[.tmp 2],[4]⟩) (some ⟨qeq,6,[],[]⟩)) (br t 143 (some ⟨qbr,28,[.tmp 6],[4]⟩) (br t 144 (some ⟨qlO,8,[.tmp 2],[31]⟩) (some ⟨qnt,8,[.tmp 2],[32]⟩)))) (br t 147 (br t 146 (some ⟨qei,9,[.tmp 4],[4]⟩) (some ⟨qeH,6,[.tmp 2],[4]⟩)) (br t 148 (some ⟨qdA,9,[.tmp 4],[4]⟩) (br t 149 (some ⟨qlP,82,[],[]⟩) (some ⟨qp9,7,[.tmp 2],[118]⟩))))) (br t 155 (br t 152 (br t 151 (some ⟨qlL,33,[.tmp 2],[157]⟩) (some ⟨qpi,18,[.tmp 8],[3]⟩)) (br t 153 (some ⟨qnP,41,[.tmp 12],[3]⟩) (br t 154 (some ⟨qmZ,76,[],[]⟩) (some ⟨qlH,15,[.tmp 6],[3]⟩)))) (br t 158 (br t 156 (some ⟨qnQ,36,[.tmp 10],[3]⟩) (br t 157 (some ⟨qaX,21,[.tmp 6],[3]⟩) (some ⟨qb4,19,[.tmp 4],[3]⟩))) (br t 159 (some ⟨qc7,19,[.tmp 4],[3]⟩) (br t 160 (some ⟨qml,32,[.tmp 10,.tmp 11],[3,3]⟩) (some ⟨qmi,28,[.tmp 8,.tmp 9],[3,3]⟩))))))))) else none
theorem qBE:∀(f:Nat) (bd:Bd),bdt f=some bd→qu Tryz.prog pol f=some bd
 | 0,bd,h=>by cases h
 | 1,bd,h=>by cases h
 | 2,bd,h=>bd2.trans h
 | 3,bd,h=>bd3.trans h
 | 4,bd,h=>bd4.trans h
 | 5,bd,h=>bd5.trans h
 | 6,bd,h=>bd6.trans h
 | 7,bd,h=>bd7.trans h
 | 8,bd,h=>bd8.trans h
 | 9,bd,h=>bd9.trans h
 | 10,bd,h=>qNm.trans h
 | 11,bd,h=>qMW.trans h
 | 12,bd,h=>qOm.trans h
 | 13,bd,h=>qyu.trans h
 | 14,bd,h=>qEF.trans h
 | 15,bd,h=>qEK.trans h
 | 16,bd,h=>qEJ.trans h
 | 17,bd,h=>qEO.trans h
 | 18,bd,h=>qEN.trans h
 | 19,bd,h=>qDL.trans h
 | 20,bd,h=>qML.trans h
 | 21,bd,h=>qEH.trans h
 | 22,bd,h=>qBC.trans h
 | 23,bd,h=>qFg.trans h
 | 24,bd,h=>qEW.trans h
 | 25,bd,h=>qEn.trans h
 | 26,bd,h=>qy6.trans h
 | 27,bd,h=>qy2.trans h
 | 28,bd,h=>qyO.trans h
 | 29,bd,h=>qN7.trans h
 | 30,bd,h=>qBV.trans h
 | 31,bd,h=>qNl.trans h
 | 32,bd,h=>qEU.trans h
 | 33,bd,h=>qFB.trans h
 | 34,bd,h=>qEE.trans h
 | 35,bd,h=>qFz.trans h
 | 36,bd,h=>qFy.trans h
 | 37,bd,h=>qFr.trans h
 | 38,bd,h=>qEG.trans h
 | 39,bd,h=>qzl.trans h
 | 40,bd,h=>qF5.trans h
 | 41,bd,h=>qNg.trans h
 | 42,bd,h=>qye.trans h
 | 43,bd,h=>qEZ.trans h
 | 44,bd,h=>qEC.trans h
 | 45,bd,h=>qFf.trans h
 | 46,bd,h=>qy9.trans h
 | 47,bd,h=>qyn.trans h
 | 48,bd,h=>qCv.trans h
 | 49,bd,h=>qC2.trans h
 | 50,bd,h=>qFs.trans h
 | 51,bd,h=>qFj.trans h
 | 52,bd,h=>qBN.trans h
 | 53,bd,h=>qyg.trans h
 | 54,bd,h=>qPS.trans h
 | 55,bd,h=>qFo.trans h
 | 56,bd,h=>qD2.trans h
 | 57,bd,h=>qEY.trans h
 | 58,bd,h=>qET.trans h
 | 59,bd,h=>qCI.trans h
 | 60,bd,h=>qEV.trans h
 | 61,bd,h=>qy7.trans h
 | 62,bd,h=>qOO.trans h
 | 63,bd,h=>qPw.trans h
 | 64,bd,h=>qNf.trans h
 | 65,bd,h=>qMw.trans h
 | 66,bd,h=>qD4.trans h
 | 67,bd,h=>qER.trans h
 | 68,bd,h=>qy5.trans h
 | 69,bd,h=>qF0.trans h
 | 70,bd,h=>qMS.trans h
 | 71,bd,h=>qNT.trans h
 | 72,bd,h=>qFd.trans h
 | 73,bd,h=>qzU.trans h
 | 74,bd,h=>qvD.trans h
 | 75,bd,h=>qFu.trans h
 | 76,bd,h=>qDU.trans h
 | 77,bd,h=>qFl.trans h
 | 78,bd,h=>qFq.trans h
 | 79,bd,h=>qEP.trans h
 | 80,bd,h=>qy8.trans h
 | 81,bd,h=>qE1.trans h
 | 82,bd,h=>qFn.trans h
 | 83,bd,h=>qq4.trans h
 | 84,bd,h=>qFa.trans h
 | 85,bd,h=>qFe.trans h
 | 86,bd,h=>qCw.trans h
 | 87,bd,h=>qFt.trans h
 | 88,bd,h=>qCR.trans h
 | 89,bd,h=>qF4.trans h
 | 90,bd,h=>qLY.trans h
 | 91,bd,h=>qPA.trans h
 | 92,bd,h=>qES.trans h
 | 93,bd,h=>by cases h
 | 94,bd,h=>qFw.trans h
 | 95,bd,h=>qC0.trans h
 | 96,bd,h=>qyh.trans h
 | 97,bd,h=>qFD.trans h
 | 98,bd,h=>qEM.trans h
 | 99,bd,h=>qN5.trans h
 | 100,bd,h=>qHr.trans h
 | 101,bd,h=>qs3.trans h
 | 102,bd,h=>qI5.trans h
 | 103,bd,h=>qqd.trans h
 | 104,bd,h=>qr5.trans h
 | 105,bd,h=>qsZ.trans h
 | 106,bd,h=>qrK.trans h
 | 107,bd,h=>qra.trans h
 | 108,bd,h=>qmy.trans h
 | 109,bd,h=>qsm.trans h
 | 110,bd,h=>qsq.trans h
 | 111,bd,h=>qpI.trans h
 | 112,bd,h=>qrJ.trans h
 | 113,bd,h=>qqf.trans h
 | 114,bd,h=>qrq.trans h
 | 115,bd,h=>qr1.trans h
 | 116,bd,h=>qsv.trans h
 | 117,bd,h=>qqY.trans h
 | 118,bd,h=>qGc.trans h
 | 119,bd,h=>qH0.trans h
 | 120,bd,h=>qJe.trans h
 | 121,bd,h=>qHB.trans h
 | 122,bd,h=>qIW.trans h
 | 123,bd,h=>qGk.trans h
 | 124,bd,h=>qJd.trans h
 | 125,bd,h=>qIx.trans h
 | 126,bd,h=>by cases h
 | 127,bd,h=>by cases h
 | 128,bd,h=>qIM.trans h
 | 129,bd,h=>qG8.trans h
 | 130,bd,h=>qIP.trans h
 | 131,bd,h=>qFQ.trans h
 | 132,bd,h=>qGm.trans h
 | 133,bd,h=>qFY.trans h
 | 134,bd,h=>qIS.trans h
 | 135,bd,h=>qH7.trans h
 | 136,bd,h=>qJm.trans h
 | 137,bd,h=>qHp.trans h
 | 138,bd,h=>qsi.trans h
 | 139,bd,h=>qrr.trans h
 | 140,bd,h=>qsw.trans h
 | 141,bd,h=>qsA.trans h
 | 142,bd,h=>ql3.trans h
 | 143,bd,h=>qHj.trans h
 | 144,bd,h=>qId.trans h
 | 145,bd,h=>qrg.trans h
 | 146,bd,h=>qrt.trans h
 | 147,bd,h=>qs9.trans h
 | 148,bd,h=>qJx.trans h
 | 149,bd,h=>qJv.trans h
 | 150,bd,h=>qIe.trans h
 | 151,bd,h=>qI0.trans h
 | 152,bd,h=>qIO.trans h
 | 153,bd,h=>qGT.trans h
 | 154,bd,h=>qIX.trans h
 | 155,bd,h=>qHi.trans h
 | 156,bd,h=>qoG.trans h
 | 157,bd,h=>qmS.trans h
 | 158,bd,h=>qor.trans h
 | 159,bd,h=>qH1.trans h
 | 160,bd,h=>qHz.trans h
 | n+161,bd,h=>by
  have hb:Nat.blt (n+161) 161=false:=by
   cases h':Nat.blt (n+161) 161 with
   | false=>rfl
   | true=>exact absurd (Nat.le_of_ble_eq_true h') (by omega)
  unfold bdt at h
  rw[hb] at h
  cases h
theorem qIa:qFR Tryz.prog pol:=by
 intro E hE f g k args G r G' hf hg
 unfold pol ppr at hf
 simp only at hf
 split at hf
 ·injection hf with hf;subst hf;refine qoC (fun _ _ _ hg=>?_) hg;exact q9l qya (fn:=Tryz.f41) (t:=25) (e:=3) (bt:=4) (by kernel_rfl) (by kernel_rfl) (by kernel_rfl) (by kernel_rfl) (by kernel_rfl) k25 (by rw[k3];simp) (by rw[z3];decide) (by kernel_rfl) hg
 ·injection hf with hf;subst hf;refine qoC (fun _ _ _ hg=>?_) hg;exact q9l qya (fn:=Tryz.f143) (t:=31) (e:=52) (bt:=4) (by kernel_rfl) (by kernel_rfl) (by kernel_rfl) (by kernel_rfl) (by kernel_rfl) k31 (by rw[k52];simp) (by rw[z52];decide) (by kernel_rfl) hg
 ·injection hf with hf;subst hf;refine qoC (fun _ _ _ hg=>?_) hg;exact q9l qya (fn:=Tryz.f144) (t:=32) (e:=34) (bt:=4) (by kernel_rfl) (by kernel_rfl) (by kernel_rfl) (by kernel_rfl) (by kernel_rfl) k32 (by rw[k34];simp) (by rw[z34];decide) (by kernel_rfl) hg
 ·injection hf with hf;subst hf;exact qqz (fn:=Tryz.f20) (by kernel_rfl) (by kernel_rfl) (by kernel_rfl) qGM hg
 ·injection hf with hf;subst hf;exact qxE (fn:=Tryz.f71) (by kernel_rfl) (by kernel_rfl) (by kernel_rfl) (Any.slices_Compact_int qfh) (Any.slices_Compact_int_empty qfh) hg
 ·cases hf
end
noncomputable section
open Go.RowKit
theorem q0O {α β:Type} {c:Prop} [Decidable c] (a b:Option α) (f:α→Option β):(if c then a else b).bind f=if c then a.bind f else b.bind f:=by split<;>rfl
theorem mixed:(Tryz.prog).follows .mixedOrders=true:=by kernel_rfl
def evo:Orc:=EE Tryz.prog T pol (D1 Tryz.prog T pol)
def ev (f:FuncId):Nat→List R→List (Nat×B)→Option (R×List (Nat×B)):=evo (.fn f)
def evr (f:FuncId) (asg bd:Code):Nat→List R→List (Nat×B)→Option (R×List (Nat×B)):=evo (.rd f asg bd)
theorem qH8 {f k:Nat} {args:List R} {G G':List (Nat×B)} {r:R} (h:ev f k args G=some (r,G')):AC Tryz.prog f args G k fun r' hp'=>r'=r∧hp'=G':=(qzL qya (qGW qya mixed) qIa).fn f k args G r G' h
def XE (f k:Nat):Code→S→XS:=XD Tryz.prog T pol evo (D1 Tryz.prog T pol evo f k) Lim f k
def bkk (id:Nat) (r:XS):XS:=r.bind (bkD id)
def scc (r:XS):XS:=r.bind scD
def rgn (o:Option S):XS:=o.bind fun s'=>some (.normal,s')
def fnn (f k:Nat) (res:List ResultVar) (rt:List TypeId) (r:XS):Option (R×List (Nat×B)):=r.bind (qy3 T pol f k ⟨.skip,0,res,rt⟩)
section
variable {f k:Nat} {s:S} {b:Code} {c:Prop} [Decidable c] {x y:XS} {α:Type} {o:Option α} {g:α→XS}
theorem qx3:scc (some (.ret,s))=some (.ret,s):=rfl
theorem quq:scc (if c then x else y)=if c then scc x else scc y:=q0O _ _ _
theorem qrZ:scc (o.bind g)=o.bind fun a=>scc (g a):=by cases o<;>rfl
theorem qkk (i:Nat):bkk i (some (.normal,s))=some (.normal,s):=rfl
theorem qv5 (i:Nat):bkk i (some (.ret,s))=some (.ret,s):=rfl
theorem qqA (i j:Nat):bkk i (some (.exit j,s))=if j=i then some (.normal,s) else some (.exit j,s):=rfl
theorem qqm (i:Nat):bkk i none=none:=rfl
theorem qvm (i:Nat):bkk i (if c then x else y)=if c then bkk i x else bkk i y:=q0O _ _ _
theorem qsS (i:Nat):bkk i (o.bind g)=o.bind fun a=>bkk i (g a):=by cases o<;>rfl
theorem qrb:rgn (some s)=some (.normal,s):=rfl
theorem qsu:rgn none=none:=rfl
theorem qxP (x y:Option S):rgn (if c then x else y)=if c then rgn x else rgn y:=q0O _ _ _
theorem qsV (g:α→Option S):rgn (o.bind g)=o.bind fun a=>rgn (g a):=by cases o<;>rfl
theorem qrl (res:List ResultVar) (rt:List TypeId) (p:Exit×S):fnn f k res rt (some p)=qy3 T pol f k ⟨.skip,0,res,rt⟩ p:=rfl
theorem qqs (res:List ResultVar) (rt:List TypeId):fnn f k res rt none=none:=rfl
theorem qvH (res:List ResultVar) (rt:List TypeId):fnn f k res rt (if c then x else y)=if c then fnn f k res rt x else fnn f k res rt y:=q0O _ _ _
theorem qt5 (res:List ResultVar) (rt:List TypeId):fnn f k res rt (o.bind g)=o.bind fun a=>fnn f k res rt (g a):=by cases o<;>rfl
end
theorem ql5 (f k:Nat) (args:List R) (G:List (Nat×B)):ev f k args G=match pol.pr f with
 | some g=>prx (g.run evo) k args G
 | none=>(qu Tryz.prog pol f).bind fun bd=>q7r Tryz.prog T pol (D1 Tryz.prog T pol) evo Lim f k args G bd:=qD7 q4L qdS f k args G
def rfk (n:Nat) (q:RS):XS:=q.bind fun q=>qCP n q.2
def rd3 (k:Nat) (r:XS):Option (R×List (Nat×B)):=r.bind (q9B k)
def rd2 (f k:Nat) (bd:Code) (s:S) (o:Option B):Option (R×List (Nat×B)):=o.bind fun b=>rd3 k (XE f k bd (s.up [(k-1,b)]))
def rd1 (f k:Nat) (bd:Code) (r:XS):Option (R×List (Nat×B)):=r.bind (q9w Tryz.prog T pol (D1 Tryz.prog T pol) evo Lim f k bd)
section
variable {f k n:Nat} {s:S} {asg bd:Code} {c:Prop} [Decidable c] {x y:XS} {α:Type} {o:Option α} {g:α→XS}
theorem qst (r:R):rfk n (some (r,s))=qCP n s:=rfl
theorem qr0 (g:α→RS):rfk n (o.bind g)=o.bind fun a=>rfk n (g a):=by cases o<;>rfl
theorem qqe (p:Exit×S):rd3 k (some p)=q9B k p:=rfl
theorem qsI:rd3 k none=none:=rfl
theorem qwC:rd3 k (if c then x else y)=if c then rd3 k x else rd3 k y:=q0O _ _ _
theorem qr4:rd3 k (o.bind g)=o.bind fun a=>rd3 k (g a):=by cases o<;>rfl
theorem qyZ {asg' bd':Code} (ha:asg'=asg) (hb:bd'=bd) (hk:0<k) (hc:q6A (drq pol f) false asg=true∧q6A (drq pol f) false bd=true) (tm:List R) (G:List (Nat×B)) :
  evr f asg' bd' k tm G=rd1 f k bd (XE f k asg ⟨q43 tm 0,G,G.length,tm.length⟩):=by
 subst ha hb
 refine(qzI q4L qdS f asg' bd' k tm G).trans ?_
 unfold q4t
 rw[if_pos ⟨hk,hc⟩]
 rfl
end
def wst (q:RS) (d:Option Nat):Option S:=q.bind fun q=>if qaN q.2 d=true then some (q.2.put d q.1) else none
def wsF (q:RS) (s:S) (o:Oper):Option (S×Tx):=q.bind fun q=>if qaN q.2 o.dst=true then(qpS pol s q.2 q.1 o.op).bind fun fp=>some ((q.2.kill fp.ks).put o.dst q.1,(q.1,fp.wb.map fun x=>(x,q.2.blk x)),fp) else none
def cll (q:Option (R×List (Nat×B))) (s:S) (bl rw ln:List Nat):RS:=q.bind fun q=>if quX ln q.1 q.2=true then some (q.1.rn (ren (bl++rw) s.nx),s.aft (bl++rw) bl.length q.2) else none
section
variable {s:S} {o:Oper} {c:Prop} [Decidable c] {α:Type} {v:Option α} {ops l:List Oper} {A:List (List Nat)} {s0:S} {m:Nat} {acc:List Tx}
theorem qqc (r:R) (d:Option Nat):wst (some (r,s)) d=if qaN s d=true then some (s.put d r) else none:=rfl
theorem qqh (d:Option Nat):wst none d=none:=rfl
theorem quZ (x y:RS) (d:Option Nat):wst (if c then x else y) d=if c then wst x d else wst y d:=q0O _ _ _
theorem qqT (g:α→RS) (d:Option Nat):wst (v.bind g) d=v.bind fun a=>wst (g a) d:=by cases v<;>rfl
theorem qr3 (r:R) (s':S):wsF (some (r,s')) s o=if qaN s' o.dst=true then(qpS pol s s' r o.op).bind fun fp=>some ((s'.kill fp.ks).put o.dst r,(r,fp.wb.map fun x=>(x,s'.blk x)),fp) else none:=rfl
theorem qqk:wsF none s o=none:=rfl
theorem quP (x y:RS):wsF (if c then x else y) s o=if c then wsF x s o else wsF y s o:=q0O _ _ _
theorem qs7 (g:α→RS):wsF (v.bind g) s o=v.bind fun a=>wsF (g a) s o:=by cases v<;>rfl
theorem qsW (r:R) (hp:List (Nat×B)) (bl rw ln:List Nat):cll (some (r,hp)) s bl rw ln=if quX ln r hp=true then some (r.rn (ren (bl++rw) s.nx),s.aft (bl++rw) bl.length hp) else none:=rfl
theorem qt1 (g:α→Option (R×List (Nat×B))) (bl rw ln:List Nat):cll (v.bind g) s bl rw ln=v.bind fun a=>cll (g a) s bl rw ln:=by cases v<;>rfl
end
def ldx (T:Ty) (cs:List C) (off:Nat) (t:TypeId):Option R:=
 match T.k t with
 | .st _ | .arr _ _=>if off+T.sz t≤cs.length then some (.agg ((cs.drop off).take (T.sz t))) else none
 | .other=>none
 | _=>(cs[off]?).map .c
theorem qwE (c:C) (cs:List C) (off:Nat) (t:TypeId):ld T (c::cs) off t=ldx T (c::cs) off t:=rfl
section
variable {α:Type} {enc:α→List D} {sz:Nat}
theorem q4W (hsz:∀x,(enc x).length=sz):∀l:List α,(l.flatMap enc).length=l.length*sz
 | []=>by simp
 | x::l=>by rw[qRC,qQE,hsz,q4W hsz l,qQI,Nat.add_mul];omega
theorem qfb (hsz:∀x,(enc x).length=sz):∀(l:List α) (k:Nat) (x:α),l[k]?=some x→∃post,(l.flatMap enc).drop (k*sz)=enc x++post
 | [],k,x,h=>by simp at h
 | y::l,0,x,h=>by
  simp only[qQH,qRn] at h
  subst h
  exact⟨l.flatMap enc,by simp⟩
 | y::l,k+1,x,h=>by
  obtain⟨post,hp⟩:=qfb hsz l k x (by simpa using h)
  refine⟨post,?_⟩
  rw[qRC,show(k+1)*sz=(enc y).length+k*sz by rw[hsz,Nat.add_mul];omega,List.drop_length_add_append]
  exact hp
theorem qhr (hsz:∀x,(enc x).length=sz) (l:List α) (k fo:Nat) (t:TypeId) (h0:0<T.sz t) (hf:fo+T.sz t≤sz):ld T ((l.flatMap enc).map C.d) (k*sz+fo) t=(l[k]?).bind fun x=>ld T ((enc x).map C.d) fo t:=by
 have hl:=q4W hsz l
 cases hk:l[k]? with
 | none=>
  have hle:l.length≤k:=by simpa using hk
  have hle2:l.length*sz≤k*sz:=Nat.mul_le_mul_right _ hle
  show ld T _ _ t=none
  unfold ld
  split
  ·rw[if_neg (by rw[qRg,hl];omega)]
  ·rw[if_neg (by rw[qRg,hl];omega)]
  ·rfl
  ·rw[qR5 (by rw[qRg,hl];omega)];rfl
 | some x=>
  obtain⟨post,hp⟩:=qfb hsz l k x hk
  have hx:=hsz x
  have hlen:k*sz+sz≤l.length*sz:=by
   have:k<l.length:=(qQB.1 hk).1
   have:=Nat.mul_le_mul_right sz (show k+1≤l.length from this)
   rw[Nat.add_mul] at this;omega
  have hd:∀n,n+fo≤sz→(((l.flatMap enc).map C.d).drop (k*sz+fo)).take n=(((enc x).map C.d).drop fo).take n:=fun n hn=>by
   rw[←qRl,←List.map_drop,hp,List.map_append,List.drop_append_of_le_length (by simp[hx];omega),List.take_append_of_le_length (by simp[hx];omega)]
  show _=ld T _ fo t
  unfold ld
  split
  ·rw[if_pos (by rw[qRg,hl];omega),if_pos (by rw[qRg,hx];omega),hd _ (by omega)]
  ·rw[if_pos (by rw[qRg,hl];omega),if_pos (by rw[qRg,hx];omega),hd _ (by omega)]
  ·rfl
  ·have h1:(((l.flatMap enc).map C.d).drop (k*sz))[fo]?=((enc x).map C.d)[fo]?:=by
    rw[←List.map_drop,hp,List.map_append,qRb (by simp[hx];omega)]
   rw[List.getElem?_drop] at h1
   rw[h1]
theorem q8I (hsz:∀x,(enc x).length=1) (l:List α) (k:Nat) (t:TypeId) (h:T.sz t=1):ld T ((l.flatMap enc).map C.d) k t=(l[k]?).bind fun x=>ld T ((enc x).map C.d) 0 t:=by
 have:=qhr hsz l k 0 t (by omega) (by omega)
 rwa [Nat.add_zero,Nat.mul_one] at this
theorem qaK (hsz:∀x,(enc x).length=sz) (l:List α) (k:Nat) (t:TypeId) (h0:0<T.sz t) (hf:T.sz t≤sz):ld T ((l.flatMap enc).map C.d) (k*sz) t=(l[k]?).bind fun x=>ld T ((enc x).map C.d) 0 t:=by
 have:=qhr hsz l k 0 t h0 (by omega)
 rwa [Nat.add_zero] at this
end
theorem qvd (i:Nat) (ds:List D):(ds.map C.d).all (C.far i)=true:=by rw[List.all_map];exact qQO.2 fun _ _=>rfl
theorem qmG (ds:List D):(ds.map C.d).all C.known=true:=by rw[List.all_map];exact qQO.2 fun _ _=>rfl
theorem qsD (X:List Nat) (ds:List D):(ds.map C.d).all (C.farF X)=true:=by rw[List.all_map];exact qQO.2 fun _ _=>rfl
theorem quU (n:Nat) (ds:List D):(ds.map C.d).all (C.ltn n)=true:=by rw[List.all_map];exact qQO.2 fun _ _=>rfl
theorem qsE (ds:List D):(ds.map C.d).flatMap C.rows=[]:=by rw[List.flatMap_map];exact List.flatMap_eq_nil_iff.2 fun _ _=>rfl
theorem qAj (b:Builtin) (args:Array Operand) (ts:Array TypeId):(Call.operands { callee := .builtin b,args:=args,argTypes:=ts }).toList=args.toList:=by simp[Call.operands]
theorem qDp (f:Operand) (args:Array Operand) (ts:Array TypeId):(Call.operands { callee := .value f,args:=args,argTypes:=ts }).toList=f::args.toList:=by simp[Call.operands]
theorem qAy (i:Nat) (ds:List D):(ds.map C.d).map (C.fg i)=ds.map C.d:=by rw[List.map_map];rfl
theorem qvn (X:List Nat) (ds:List D):(ds.map C.d).map (C.fgL X)=ds.map C.d:=by rw[List.map_map];rfl
end
noncomputable section
open Go.RowKit
def ρ0:Pl:=⟨fun _=>none,fun _=>False⟩
def L0:Nat→Prop:=(q0x [] 0).live
theorem qP0 (b:Nat):¬ Occ L0 ρ0 b:=fun h=>by
 rcases h with h|⟨i,c,h1,h2⟩
 ·exact h
 ·cases h2
theorem rd0 {W:World} {v:Value} {d:D} (h:RD W (fun _=>False) v d):RD W (Occ L0 ρ0) v d:=h.occ fun b hb=>qP0 b hb
theorem qCD {W:World} {cs:Array Value} {ds:List D} (h:PV W cs.toList ds):RR W L0 ρ0 (.agg cs) (.agg (ds.map C.d)):=by
 refine .agg _ _ (by simpa using h.1) (fun j c hj=>?_)
 rw[qQL] at hj
 obtain⟨d,h1,h2⟩:=qQK.1 hj
 subst h2
 have hj':j<cs.size:=by have:=(qQB.1 h1).1;rw[←h.1] at this;simpa using this
 have h3:cs.toList[j]?=some (cs.getD j undef):=by simp[qQD,hj']
 exact .d _ _ (rd0 (h.2 j _ d h3 h1))
theorem qr9 {f:FuncId} {rs:List R} {b:Bool} (h:ev f 0 rs []=some (.c (.d (.bool b)),[])) {W:World} {vs:Array Value} (hr:RRs W L0 ρ0 vs rs) :
  Calls Tryz.prog f vs W fun e W'=>e = .returned (.bool b)∧Below W.heap.size W W':=by
 have hac:=qH8 h
 have hnl:∀i,¬ (q0x [] 0).live i:=fun i h=>by cases h
 have hs:Sim ⟨fun _=>False,W,ρ0,0,none⟩ ρ0 (q0x [] 0) qcH W:=
  ⟨Hd.none,rfl,fun i => .any _,fun i b c h=>absurd h (hnl i),fun i h=>absurd h (hnl i),fun i b c h=>absurd h (hnl i),fun i j b c c' h=>absurd h (hnl i),fun i h=>absurd h (hnl i),ql2.refl _ _,fun b hb=>hb.elim,fun i hi=>absurd hi (Nat.not_lt_zero _),fun i b c h=>absurd h (hnl i),⟨fun b hb=>hb.elim,fun i j _ _ d h=>absurd h.choose_spec.choose_spec.choose_spec.choose_spec.choose_spec.1 (hnl i),fun i j d h=>absurd h.choose_spec.choose_spec.choose_spec.choose_spec.choose_spec.1 (hnl i)⟩⟩
 refine(hac.call ⟨fun _=>False,W,ρ0,0,none⟩ ρ0 W vs rfl rfl rfl rfl hs hr).mono ?_
 rintro e W' ⟨v,r,hp',nx',ρ',rfl,⟨rfl,rfl⟩,h3,h4⟩
 rw[h4.inv_bool]
 exact⟨rfl,h3.kept.os,h3.kept.tape,h3.kept.output,h3.kept.size,fun k hk=>h3.kept.block k hk (fun h=>h)⟩
end
noncomputable section
open Go.RowKit
set_option maxRecDepth 100000
abbrev w64 (n:Int):Int:=IntKind.i64.wrap n
def Jz:Code→List Code
 | .loop c=>c::Jz c
 | .seq a b=>Jz a++Jz b
 | .cond _ a b=>Jz a++Jz b
 | .block _ c=>Jz c
 | .scope c=>Jz c
 | .rangeFunc _ _ a b=>Jz a++Jz b
 | _=>[]
def Zw:Code→List (Code×Code)
 | .rangeFunc _ _ a b=>(a,b)::(Zw a++Zw b)
 | .loop c=>Zw c
 | .seq a b=>Zw a++Zw b
 | .cond _ a b=>Zw a++Zw b
 | .block _ c=>Zw c
 | .scope c=>Zw c
 | _=>[]
theorem qc6:∀(c b:Code),b∈Jz c→(∀b'∈Jz b,b'∈Jz c)∧∀q∈Zw b,q∈Zw c:=by
 intro c
 induction c with
 | loop c ih=>
  intro b hb
  rcases qQT.1 hb with rfl|hb
  ·exact⟨fun b' h=>qQF _ h,fun q h=>h⟩
  ·exact⟨fun b' h=>qQF _ ((ih b hb).1 b' h),fun q h=>(ih b hb).2 q h⟩
 | seq a c iha ihc=>
  intro b hb
  rcases qR1.1 hb with hb|hb
  ·exact⟨fun b' h=>qQJ _ ((iha b hb).1 b' h),fun q h=>qQJ _ ((iha b hb).2 q h)⟩
  ·exact⟨fun b' h=>qQG _ ((ihc b hb).1 b' h),fun q h=>qQG _ ((ihc b hb).2 q h)⟩
 | cond x a c iha ihc=>
  intro b hb
  rcases qR1.1 hb with hb|hb
  ·exact⟨fun b' h=>qQJ _ ((iha b hb).1 b' h),fun q h=>qQJ _ ((iha b hb).2 q h)⟩
  ·exact⟨fun b' h=>qQG _ ((ihc b hb).1 b' h),fun q h=>qQG _ ((ihc b hb).2 q h)⟩
 | rangeFunc g ps a c iha ihc=>
  intro b hb
  rcases qR1.1 hb with hb|hb
  ·exact⟨fun b' h=>qQJ _ ((iha b hb).1 b' h),fun q h=>qQF _ (qQJ _ ((iha b hb).2 q h))⟩
  ·exact⟨fun b' h=>qQG _ ((ihc b hb).1 b' h),fun q h=>qQF _ (qQG _ ((ihc b hb).2 q h))⟩
 | block id c ih=>intro b hb;exact ih b hb
 | scope c ih=>intro b hb;exact ih b hb
 | _=>intro b hb;cases hb
theorem q3J:∀(c:Code) (q:Code×Code),q∈Zw c→(∀b'∈Jz q.1++Jz q.2,b'∈Jz c)∧∀q'∈Zw q.1++Zw q.2,q'∈Zw c:=by
 intro c
 induction c with
 | loop c ih=>intro q hq;exact⟨fun b' h=>qQF _ ((ih q hq).1 b' h),(ih q hq).2⟩
 | seq a c iha ihc=>
  intro q hq
  rcases qR1.1 hq with hq|hq
  ·exact⟨fun b' h=>qQJ _ ((iha q hq).1 b' h),fun q' h=>qQJ _ ((iha q hq).2 q' h)⟩
  ·exact⟨fun b' h=>qQG _ ((ihc q hq).1 b' h),fun q' h=>qQG _ ((ihc q hq).2 q' h)⟩
 | cond x a c iha ihc=>
  intro q hq
  rcases qR1.1 hq with hq|hq
  ·exact⟨fun b' h=>qQJ _ ((iha q hq).1 b' h),fun q' h=>qQJ _ ((iha q hq).2 q' h)⟩
  ·exact⟨fun b' h=>qQG _ ((ihc q hq).1 b' h),fun q' h=>qQG _ ((ihc q hq).2 q' h)⟩
 | rangeFunc g ps a c iha ihc=>
  intro q hq
  rcases qQT.1 hq with rfl|hq
  ·exact⟨fun b' h=>h,fun q' h=>qQF _ h⟩
  ·rcases qR1.1 hq with hq|hq
   ·exact⟨fun b' h=>qQJ _ ((iha q hq).1 b' h),fun q' h=>qQF _ (qQJ _ ((iha q hq).2 q' h))⟩
   ·exact⟨fun b' h=>qQG _ ((ihc q hq).1 b' h),fun q' h=>qQF _ (qQG _ ((ihc q hq).2 q' h))⟩
 | block id c ih=>intro q hq;exact ih q hq
 | scope c ih=>intro q hq;exact ih q hq
 | _=>intro q hq;cases hq
def q8d (f:Nat):Code:=((qu Tryz.prog pol f).map Bd.code).getD .skip
def lbO (f key:Nat):Code:=(zN key (q8d f)).getD .skip
def raO (f key:Nat):Code:=((roundOf key (q8d f)).getD (.skip,.skip)).1
def rbO (f key:Nat):Code:=((roundOf key (q8d f)).getD (.skip,.skip)).2
structure okL (f:Nat) (c:Code):Prop where
 lo:∀b∈Jz c,lbO f (zt b)=b
 ro:∀q∈Zw c,raO f (zt q.2)=q.1∧rbO f (zt q.2)=q.2
theorem qJ {f:Nat} {c:Code} (hc:q8d f=c) (h:(Jz c).map (fun b=>(zN (zt b) c).getD .skip)=Jz c) (h':(Zw c).map (fun q=>(roundOf (zt q.2) c).getD (.skip,.skip))=Zw c):okL f c:=by
 refine⟨fun b hb=>?_,fun q hq=>?_⟩
 ·unfold lbO
  rw[hc]
  obtain⟨i,hi,rfl⟩:=List.mem_iff_getElem.1 hb
  have h1:((Jz c).map (fun b=>(zN (zt b) c).getD .skip))[i]?=(Jz c)[i]?:=by rw[h]
  rw[qQL,qQz hi] at h1
  simpa using h1
 ·unfold raO rbO
  rw[hc]
  obtain⟨i,hi,rfl⟩:=List.mem_iff_getElem.1 hq
  have h1:((Zw c).map (fun q=>(roundOf (zt q.2) c).getD (.skip,.skip)))[i]?=(Zw c)[i]?:=by rw[h']
  rw[qQL,qQz hi] at h1
  simp only[Option.map_some,qRn] at h1
  rw[h1]
  exact⟨rfl,rfl⟩
def XEo (E:Orc) (f k:Nat):Code→S→XS:=XD Tryz.prog T pol E (D1 Tryz.prog T pol E f k) Lim f k
def XL2 (E:Orc) (f k key:Nat) (s:S):XS:=Lim (fun s=>(XEo E f k (lbO f key) s).bind (lpx pol f key k)) s
def XM2 (E:Orc) (f k key:Nat) (it:Operand) (s:S):XS:=mlp it (fun s=>(XEo E f k (lbO f key) s).bind (lpx pol f key k)) s
def lp3 (E:Orc) (f k key:Nat) (o:Option Operand) (r:Option S):XS:=r.bind fun s=>match o with
 | none=>XL2 E f k key s
 | some it=>XM2 E f k key it s
def cnd (r:R) (x y:XS):XS:=
 match r with
 | .c (.d (.bool b))=>if b=true then x else y
 | _=>none
def XE2 (E:Orc) (f k:Nat):Code→S→XS
 | .skip,s=>some (.normal,s)
 | .label _,s=>some (.normal,s)
 | .ret,s=>some (.ret,s)
 | .exit id,s=>some (.exit id,s)
 | .seq a b,s=>(XE2 E f k a s).bind (sqD fun s'=>XE2 E f k b s')
 | .block id c,s=>(XE2 E f k c s).bind (bkD id)
 | .scope c,s=>(XE2 E f k c s).bind scD
 | .cond c x y,s=>cnd (s.ev c) (XE2 E f k x (s.ly c tt)) (XE2 E f k y (s.ly c ff))
 | .loop c,s=>lp3 E f k (zt c) (q2I c) (nrm pol f (zt c) k s)
 | .rangeFunc g ps _ b,s=>xRF pol E f g ps.toList (raO f (zt b)) (rbO f (zt b)) ((s.dzr pol.q).frz (qa6 (s.dzr pol.q) (pol.rk f (zt b))))
 | c,s=>XEo E f k c s
section
variable {E:Orc} {f k:Nat} {s:S}
theorem qFX (a b:Code):XEo E f k (.seq a b) s=(XEo E f k a s).bind (sqD fun s'=>XEo E f k b s'):=rfl
theorem qv1 (i:Nat) (b:Code):XEo E f k (.block i b) s=(XEo E f k b s).bind (bkD i):=rfl
theorem qwS (b:Code):XEo E f k (.scope b) s=(XEo E f k b s).bind scD:=rfl
theorem qDV (p:Operand) (a b:Code):XEo E f k (.cond p a b) s=cnd (s.ev p) (XEo E f k a (s.ly p tt)) (XEo E f k b (s.ly p ff)):=rfl
theorem qAL (b:Code):XEo E f k (.loop b) s=(nrm pol f (zt b) k s).bind fun s0=>lpM Lim (q2I b) (fun s=>(XEo E f k b s).bind (lpx pol f (zt b) k)) s0:=rfl
theorem qCS:XEo E f k .skip s=some (.normal,s):=rfl
theorem qve (l:Nat):XEo E f k (.label l) s=some (.normal,s):=rfl
theorem qJ7:XEo E f k .ret s=some (.ret,s):=rfl
theorem qD0 (i:Nat):XEo E f k (.exit i) s=some (.exit i,s):=rfl
theorem qvB (g:Operand) (ps:Array Tmp) (asg bd:Code):XEo E f k (.rangeFunc g ps asg bd) s=xRF pol E f g ps.toList asg bd ((s.dzr pol.q).frz (qa6 (s.dzr pol.q) (pol.rk f (zt bd)))):=rfl
theorem qGo (a b:Code):XE2 E f k (.seq a b) s=(XE2 E f k a s).bind (sqD fun s'=>XE2 E f k b s'):=rfl
theorem qxd (i:Nat) (b:Code):XE2 E f k (.block i b) s=(XE2 E f k b s).bind (bkD i):=rfl
theorem qxC (b:Code):XE2 E f k (.scope b) s=(XE2 E f k b s).bind scD:=rfl
theorem qzD (p:Operand) (a b:Code):XE2 E f k (.cond p a b) s=cnd (s.ev p) (XE2 E f k a (s.ly p tt)) (XE2 E f k b (s.ly p ff)):=rfl
theorem qw6 (g:Operand) (ps:Array Tmp) (asg bd:Code):XE2 E f k (.rangeFunc g ps asg bd) s=xRF pol E f g ps.toList (raO f (zt bd)) (rbO f (zt bd)) ((s.dzr pol.q).frz (qa6 (s.dzr pol.q) (pol.rk f (zt bd)))):=rfl
theorem qDF (b:Code):XE2 E f k (.loop b) s=lp3 E f k (zt b) (q2I b) (nrm pol f (zt b) k s):=rfl
end
theorem qfQ {E:Orc} {f k:Nat}:∀(c:Code),okL f c→∀s,XEo E f k c s=XE2 E f k c s:=by
 intro c
 induction c with
 | seq a b iha ihb=>
  intro h s
  have h1:=iha ⟨fun x hx=>h.lo x (qQJ _ hx),fun x hx=>h.ro x (qQJ _ hx)⟩
  have h2:=ihb ⟨fun x hx=>h.lo x (qQG _ hx),fun x hx=>h.ro x (qQG _ hx)⟩
  rw[qFX,qGo,h1,funext h2]
 | block id c ih=>intro h s;rw[qv1,qxd,ih ⟨h.lo,h.ro⟩ s]
 | scope c ih=>intro h s;rw[qwS,qxC,ih ⟨h.lo,h.ro⟩ s]
 | cond x a b iha ihb=>
  intro h s
  have h1:=iha ⟨fun x hx=>h.lo x (qQJ _ hx),fun x hx=>h.ro x (qQJ _ hx)⟩
  have h2:=ihb ⟨fun x hx=>h.lo x (qQG _ hx),fun x hx=>h.ro x (qQG _ hx)⟩
  rw[qDV,qzD,h1,h2]
 | loop c ih=>
  intro h s
  rw[qAL,qDF]
  unfold lp3 lpM XL2 XM2
  rw[h.lo c qQM]
  cases q2I c<;>rfl
 | rangeFunc g ps a b _ _=>
  intro h s
  obtain⟨h1,h2⟩:=h.ro (a,b) qQM
  rw[qvB,qw6]
  rw[h1,h2]
 | skip=>intro _ s;rw[qCS];rfl
 | label=>intro _ s;rw[qve];rfl
 | ret=>intro _ s;rw[qJ7];rfl
 | exit=>intro _ s;rw[qD0];rfl
 | _=>intro _ s;unfold XE2;rfl
def th2 (E:Orc) (f k:Nat) (r:XS) (b:Code):XS:=r.bind (sqD fun s'=>XE2 E f k b s')
def lp2 (E:Orc) (f k key:Nat) (o:Option S):XS:=o.bind fun s=>XL2 E f k key s
def lz2 (f k key:Nat) (r:XS):XS:=r.bind (lpx pol f key k)
def ly2 (e:Exit) (o:Option S):XS:=o.bind fun s=>some (e,s)
def rs2 (E:Orc) (ops:List Oper) (o:Option S) (l:List Oper):Option S:=o.bind fun s=>xr Tryz.prog T pol E ops l s
def qtc (E:Orc) (ops:List Oper) (A:List (List Nat)) (s0:S) (m:Nat) (o:Option (S×Tx)) (l:List Oper) (acc:List Tx):Option S:=o.bind fun q=>xdp Tryz.prog T pol E ops A s0 m l q.1 (acc++[q.2])
section
variable {E:Orc} {f k key:Nat} {s:S} {b:Code} {c:Prop} [Decidable c] {x y:XS} {α β:Type} {o:Option α} {g:α→XS} {h:β→XS} {e:α⊕β}
theorem qvY:XE2 E f k .skip s=some (.normal,s):=rfl
theorem qqG (l:Nat):XE2 E f k (.label l) s=some (.normal,s):=rfl
theorem qCh:XE2 E f k .ret s=some (.ret,s):=rfl
theorem qxQ (i:Nat):XE2 E f k (.exit i) s=some (.exit i,s):=rfl
theorem qE5 (a:Code):XE2 E f k (.seq a b) s=th2 E f k (XE2 E f k a s) b:=rfl
theorem qrO (i:Nat):XE2 E f k (.block i b) s=bkk i (XE2 E f k b s):=rfl
theorem qrM:XE2 E f k (.scope b) s=scc (XE2 E f k b s):=rfl
theorem qw2 (p:Operand) (a b:Code):XE2 E f k (.cond p a b) s=match s.ev p with | .c (.d (.bool t))=>if t=true then XE2 E f k a (s.ly p tt) else XE2 E f k b (s.ly p ff)|_=>none:=rfl
theorem qlJ (i:Nat) (ops:Array Oper):XE2 E f k (.region i ops false) s=rgn (xr Tryz.prog T pol E ops.toList ops.toList s):=rfl
theorem qwi (i:Nat) (ops:Array Oper):XE2 E f k (.region i ops true) s=rgn (D1 Tryz.prog T pol E f k i ops.toList (((s.uwD pol ops.toList).dzr pol.q).frk (pol.rk f i))):=rfl
theorem qr2 (g:Operand) (ps:Array Tmp) (asg bd:Code):XE2 E f k (.rangeFunc g ps asg bd) s=xRF pol E f g ps.toList (raO f (zt bd)) (rbO f (zt bd)) ((s.dzr pol.q).frz (qa6 (s.dzr pol.q) (pol.rk f (zt bd)))):=rfl
theorem quH:XE2 E f k (.loop b) s=lp3 E f k (zt b) (q2I b) (nrm pol f (zt b) k s):=rfl
theorem qqD (r:Option S):lp3 E f k key none r=lp2 E f k key r:=rfl
theorem qkQ:th2 E f k (some (.normal,s)) b=XE2 E f k b s:=rfl
theorem qwr:th2 E f k (some (.ret,s)) b=some (.ret,s):=rfl
theorem qsU (i:Nat):th2 E f k (some (.exit i,s)) b=some (.exit i,s):=rfl
theorem qqJ:th2 E f k none b=none:=rfl
theorem qvt:th2 E f k (if c then x else y) b=if c then th2 E f k x b else th2 E f k y b:=q0O _ _ _
theorem qrh:th2 E f k (o.bind g) b=o.bind fun a=>th2 E f k (g a) b:=by cases o<;>rfl
theorem qwm:th2 E f k (Sum.elim g h e) b=Sum.elim (fun a=>th2 E f k (g a) b) (fun a=>th2 E f k (h a) b) e:=by cases e<;>rfl
theorem qs4:lp2 E f k key (some s)=XL2 E f k key s:=rfl
theorem qkh:lz2 f k key (some (.normal,s))=ly2 .normal (nrm pol f key k s):=rfl
theorem quM:lz2 f k key (some (.ret,s))=ly2 .ret (qu9 k (pol.kx f key) (s.fnB pol (pol.ab f))):=rfl
theorem qs5 (i:Nat):lz2 f k key (some (.exit i,s))=ly2 (.exit i) (qu9 k (pol.kx f key) (s.fnB pol (pol.ab f))):=rfl
theorem qsF:lz2 f k key none=none:=rfl
theorem qvp:lz2 f k key (if c then x else y)=if c then lz2 f k key x else lz2 f k key y:=q0O _ _ _
theorem qrE:lz2 f k key (o.bind g)=o.bind fun a=>lz2 f k key (g a):=by cases o<;>rfl
theorem qwx:lz2 f k key (Sum.elim g h e)=Sum.elim (fun a=>lz2 f k key (g a)) (fun a=>lz2 f k key (h a)) e:=by cases e<;>rfl
theorem qqx (x:Exit):ly2 x (some s)=some (x,s):=rfl
theorem qvW:scc (Sum.elim g h e)=Sum.elim (fun a=>scc (g a)) (fun a=>scc (h a)) e:=by cases e<;>rfl
theorem qwK (i:Nat):bkk i (Sum.elim g h e)=Sum.elim (fun a=>bkk i (g a)) (fun a=>bkk i (h a)) e:=by cases e<;>rfl
theorem qur (res:List ResultVar) (rt:List TypeId):fnn f k res rt (Sum.elim g h e)=Sum.elim (fun a=>fnn f k res rt (g a)) (fun a=>fnn f k res rt (h a)) e:=by cases e<;>rfl
end
section
variable {E:Orc} {α β γ:Type} {e:α⊕β}
theorem qrG {δ:Type} (g:α→Option γ) (h:β→Option γ) (F:γ→Option δ):(Sum.elim g h e).bind F=Sum.elim (fun a=>(g a).bind F) (fun a=>(h a).bind F) e:=by cases e<;>rfl
theorem qvS (g:α→RS) (h:β→RS) (d:Option Nat):wst (Sum.elim g h e) d=Sum.elim (fun a=>wst (g a) d) (fun a=>wst (h a) d) e:=by cases e<;>rfl
theorem qxH (g:α→Option S) (h:β→Option S):rgn (Sum.elim g h e)=Sum.elim (fun a=>rgn (g a)) (fun a=>rgn (h a)) e:=by cases e<;>rfl
theorem qwF {s:S} (g:α→Option (R×List (Nat×B))) (h:β→Option (R×List (Nat×B))) (bl rw ln:List Nat):cll (Sum.elim g h e) s bl rw ln=Sum.elim (fun a=>cll (g a) s bl rw ln) (fun a=>cll (h a) s bl rw ln) e:=by cases e<;>rfl
end
section
variable {E:Orc} {s:S} {o:Oper} {c:Prop} [Decidable c] {α β:Type} {v:Option α} {e:α⊕β} {ops l:List Oper} {A:List (List Nat)} {s0:S} {m:Nat} {acc:List Tx}
theorem qNo:xst Tryz.prog T pol E o true s=wst (xo Tryz.prog T pol E (pre pol s o.op) o.op) o.dst:=rfl
theorem qMX:xst Tryz.prog T pol E o false s=if qaN s o.dst=true then some (s.put o.dst (.tup [])) else none:=rfl
theorem qJ2:xsF Tryz.prog T pol E o true s=alX E s o (alC pol s o.op) (wsF (xo Tryz.prog T pol E s o.op) s o):=rfl
theorem qH4:xsF Tryz.prog T pol E o false s=if qaN s o.dst=true then some (s.put o.dst (.tup []),(.tup [],[]),⟨[],[],[],[],[]⟩) else none:=rfl
theorem qGR:xr Tryz.prog T pol E ops [] s=some s:=rfl
theorem qBb:xr Tryz.prog T pol E ops (o::l) s=rs2 E ops (xgd Tryz.prog T pol E ops o s) l:=rfl
theorem qEv:rs2 E ops (some s) l=xr Tryz.prog T pol E ops l s:=rfl
theorem qD9:rs2 E ops none l=none:=rfl
theorem qGl (x y:Option S):rs2 E ops (if c then x else y) l=if c then rs2 E ops x l else rs2 E ops y l:=q0O _ _ _
theorem qDx (g:α→Option S):rs2 E ops (v.bind g) l=v.bind fun a=>rs2 E ops (g a) l:=by cases v<;>rfl
theorem qHX (g:α→Option S) (h:β→Option S):rs2 E ops (Sum.elim g h e) l=Sum.elim (fun a=>rs2 E ops (g a) l) (fun a=>rs2 E ops (h a) l) e:=by cases e<;>rfl
theorem qys:xdp Tryz.prog T pol E ops A s0 0 l s acc=if okP A 0 [] acc=true∧okX ops A s0 acc 0 acc=true∧okK ops A acc=true∧okN acc 0 acc=true then xr Tryz.prog T pol E ops l s else none:=by cases l<;>rfl
theorem qAR:xdp Tryz.prog T pol E ops A s0 (m+1) (o::l) s acc=qtc E ops A s0 m (xgF Tryz.prog T pol E ops o s) l acc:=rfl
theorem qv4 (x:Tx):qtc E ops A s0 m (some (s,x)) l acc=xdp Tryz.prog T pol E ops A s0 m l s (acc++[x]):=rfl
theorem qwQ:qtc E ops A s0 m none l acc=none:=rfl
theorem qzi (x y:Option (S×Tx)):qtc E ops A s0 m (if c then x else y) l acc=if c then qtc E ops A s0 m x l acc else qtc E ops A s0 m y l acc:=q0O _ _ _
theorem qwU (g:α→Option (S×Tx)):qtc E ops A s0 m (v.bind g) l acc=v.bind fun a=>qtc E ops A s0 m (g a) l acc:=by cases v<;>rfl
theorem qDX (g:FuncId) (zs:List (List Nat)) (rs:List R) (bl rw ln:List Nat):q1T E s g zs rs bl rw ln=(qng s (bl++rw) ln zs rs).bind fun rs'=>(cvG s (bl++rw) (bl++rw) 0).bind fun G=>
  if(bl++rw).all (fun i=>(s.blk i).live)=true∧(bl++rw).Nodup∧ln.all (fun i=>(s.blk i).live && !(bl++rw).contains i)=true∧bl.length≤G.length∧(List.range G.length).all (fun j=>(lk G j .dead).isBlk==decide (j<bl.length))=true then cll (E (.fn g) bl.length rs' G) s bl rw ln else none:=rfl
theorem qwM (rid:Nat) (f:FuncId) (asg bd:Code) (rs:List R) (bl rw ln:List Nat):q7q E s rid f asg bd rs bl rw ln=(cvG s (bl++rw) (bl++rw) 0).bind fun G=>
  if(bl++rw).all (fun i=>(s.blk i).live)=true∧(bl++rw).Nodup∧ln.all (fun i=>(s.blk i).live && !(bl++rw).contains i)=true∧bl.length≤G.length∧(List.range G.length).all (fun j=>(lk G j .dead).isBlk==decide (j<bl.length))=true∧0<bl.length∧(bl++rw)[bl.length-1]?=some rid then
   cll (E (.rd f asg bd) bl.length (rs.map (cvT s (bl++rw) ln)) G) s bl rw ln else none:=rfl
theorem qM2 (f:Nat) (asg bd:Code) (g:Operand) (ps:List Nat):xRF pol E f g ps asg bd s=match s.ev g with
 | .c (.fn g' fs caps)=>rfk s.n (qb3 E (s.rf f (qh0 s (pol.rk f (zt bd))) ps asg bd) g' (pol.ow g') [] (fs.map R.c++[.c (.hd .yield s.nx)]++caps.map R.c))
 | _=>none:=rfl
end
theorem qzS (g k:Nat) (a:List R) (G:List (Nat×B)):evo (.fn g) k a G=ev g k a G:=rfl
theorem qCF (g:Nat) (asg bd:Code) (k:Nat) (a:List R) (G:List (Nat×B)):evo (.rd g asg bd) k a G=evr g asg bd k a G:=rfl
def qba (E:Orc) (f k:Nat) (args:List R) (G:List (Nat×B)):Option (R×List (Nat×B)):=(qu Tryz.prog pol f).bind fun bd=>q7r Tryz.prog T pol (D1 Tryz.prog T pol) E Lim f k args G bd
theorem qj {f n:Nat} {c:Code} {res:List ResultVar} {rt:List TypeId} (hb:qu Tryz.prog pol f=some ⟨c,n,res,rt⟩):q8d f=c:=by unfold q8d;rw[hb];rfl
theorem q6H {E:Orc} {f n:Nat} {c:Code} {res:List ResultVar} {rt:List TypeId} (hb:qu Tryz.prog pol f=some ⟨c,n,res,rt⟩) (hl:okL f c) (k:Nat) (args:List R) (G:List (Nat×B)) :
  qba E f k args G=if args.length≤n then fnn f k res rt (XE2 E f k c ⟨q43 args 0,G,G.length,n⟩) else none:=by
 unfold qba
 rw[hb,qQx]
 unfold q7r
 split
 ·show Option.bind (XEo E f k c _) _=_
  rw[qfQ c hl]
  rfl
 ·rfl
theorem qmO {f k:Nat} (hp:pol.pr f=none) (args:List R) (G:List (Nat×B)):ev f k args G=qba evo f k args G:=by rw[ql5,hp];rfl
theorem qF {f n:Nat} {c:Code} {res:List ResultVar} {rt:List TypeId} (hb:qu Tryz.prog pol f=some ⟨c,n,res,rt⟩) (hp:pol.pr f=none) (hl:okL f c) (k:Nat) (args:List R) (G:List (Nat×B)) :
  ev f k args G=if args.length≤n then fnn f k res rt (XE2 evo f k c ⟨q43 args 0,G,G.length,n⟩) else none:=by
 rw[qmO hp,q6H hb hl]
section
variable {σ ε:Type}
def itT (step:σ→Option (σ⊕ε)):Nat→σ→Option ε
 | 0,_=>none
 | n+1,x=>(step x).bind (Sum.elim (itT step n) some)
theorem qdw {step:σ→Option (σ⊕ε)}:∀{n m:Nat},n≤m→∀x r,itT step n x=some r→itT step m x=some r
 | 0,_,_,x,r,h=>by cases h
 | n+1,0,h,_,_,_=>by omega
 | n+1,m+1,h,x,r,hx=>by
  unfold itT at hx ⊢
  obtain⟨a,h1,h2⟩:=qQC.1 hx
  rw[h1,qQx]
  cases a with
  | inl y=>exact qdw (by omega) y r h2
  | inr e=>exact h2
def zn (step:σ→Option (σ⊕ε)) (x:σ):Option ε:=open Classical in if h:∃r n,itT step n x=some r then some (Classical.choose h) else none
theorem qdn {step:σ→Option (σ⊕ε)} {n:Nat} {x:σ} {r:ε} (h:itT step n x=some r):zn step x=some r:=by
 have hex:∃r n,itT step n x=some r:=⟨r,n,h⟩
 unfold zn
 rw[dif_pos hex]
 obtain⟨m,hm⟩:=Classical.choose_spec hex
 have h1:=qdw (Nat.le_max_left n m) _ _ h
 have h2:=qdw (Nat.le_max_right n m) _ _ hm
 rw[h1] at h2
 injection h2 with h2
 rw[←h2]
theorem qbw {step:σ→Option (σ⊕ε)} {x:σ} {r:ε} (h:zn step x=some r):∃n,itT step n x=some r:=by
 unfold zn at h
 split at h
 ·rename_i hex
  injection h with h
  obtain⟨m,hm⟩:=Classical.choose_spec hex
  exact⟨m,h ▸ hm⟩
 ·cases h
theorem qnW (step:σ→Option (σ⊕ε)) (x:σ):zn step x=(step x).bind (Sum.elim (zn step) some):=by
 refine qbY (fun r h=>?_) (fun r h=>?_)
 ·obtain⟨n,hn⟩:=qbw h
  cases n with
  | zero=>cases hn
  | succ n=>
   unfold itT at hn
   obtain⟨a,h1,h2⟩:=qQC.1 hn
   rw[h1,qQx]
   cases a with
   | inl y=>exact qdn h2
   | inr e=>exact h2
 ·obtain⟨a,h1,h2⟩:=qQC.1 h
  cases a with
  | inl y=>
   obtain⟨n,hn⟩:=qbw h2
   refine qdn (n:=n+1) ?_
   unfold itT
   rw[h1];exact hn
  | inr e=>
   refine qdn (n:=1) ?_
   unfold itT
   rw[h1];exact h2
end
theorem qxy {F:S→XS} {σ ε:Type} {st:σ→S} {ex:ε→Exit×S} {step:σ→Option (σ⊕ε)} (hne:∀e,(ex e).1 ≠ .normal)
  (h:∀x,F (st x)=(step x).bind (Sum.elim (fun y=>some (.normal,st y)) (fun e=>some (ex e)))) (x:σ):Lim F (st x)=(zn step x).bind fun e=>some (ex e):=by
 have hit:∀(n:Nat) (x:σ),iter n F (st x)=(itT step n x).bind fun e=>some (ex e):=by
  intro n
  induction n with
  | zero=>intro x;rfl
  | succ n ih=>
   intro x
   unfold iter itT
   rw[h x]
   cases step x with
   | none=>rfl
   | some a=>
    cases a with
    | inl y=>exact ih y
    | inr e=>
     show sqD (iter n F) (ex e)=some (ex e)
     have:=hne e
     generalize ex e=q at this
     obtain⟨z,t⟩:=q
     cases z<;>first|exact absurd rfl this|rfl
 refine qbY (fun r hr=>?_) (fun r hr=>?_)
 ·obtain⟨n,hn⟩:=qaM hr
  rw[hit n x] at hn
  obtain⟨e,h1,h2⟩:=qQC.1 hn
  rw[qdn h1];exact h2
 ·obtain⟨e,h1,h2⟩:=qQC.1 hr
  obtain⟨n,hn⟩:=qbw h1
  refine qg1 (n:=n) ?_
  rw[hit n x,hn];exact h2
theorem q9C {E:Orc} {f k key:Nat} {c:Code} {σ ε:Type} {st:σ→S} {ex:ε→Exit×S} {step:σ→Option (σ⊕ε)} (hc:lbO f key=c) (hl:okL f c) (hne:∀e,(ex e).1 ≠ .normal)
  (h:∀x,lz2 f k key (XE2 E f k c (st x))=(step x).bind (Sum.elim (fun y=>some (.normal,st y)) (fun e=>some (ex e)))) (x:σ):XL2 E f k key (st x)=(zn step x).bind fun e=>some (ex e):=by
 refine qxy hne (fun x=>?_) x
 rw[hc,qfQ c hl]
 exact h x
def xk (E:Orc) (f k key:Nat) (r:XS):XS:=r.bind fun p=>match p.1 with | .normal=>XL2 E f k key p.2|e=>some (e,p.2)
section
variable {E:Orc} {f k key:Nat} {s:S} {c:Prop} [Decidable c] {α β:Type} {o:Option α} {g:α→XS} {h:β→XS} {e:α⊕β}
theorem qmg:xk E f k key (some (.normal,s))=XL2 E f k key s:=rfl
theorem qwB (i:Nat):xk E f k key (some (.exit i,s))=some (.exit i,s):=rfl
theorem qCM:xk E f k key (some (.ret,s))=some (.ret,s):=rfl
theorem qwf:xk E f k key none=none:=rfl
theorem qBU (x y:XS):xk E f k key (if c then x else y)=if c then xk E f k key x else xk E f k key y:=q0O _ _ _
theorem qxA:xk E f k key (o.bind g)=o.bind fun a=>xk E f k key (g a):=by cases o<;>rfl
theorem qCq:xk E f k key (Sum.elim g h e)=Sum.elim (fun a=>xk E f k key (g a)) (fun a=>xk E f k key (h a)) e:=by cases e<;>rfl
end
theorem qxz {E:Orc} {f k key:Nat} {c:Code} {s:S} (hc:lbO f key=c) (hl:okL f c):XL2 E f k key s=xk E f k key (lz2 f k key (XE2 E f k c s)):=by
 unfold XL2
 rw[qCl,hc,qfQ c hl]
 show(lz2 f k key (XE2 E f k c s)).bind _=_
 unfold xk
 congr 1
 funext p
 obtain⟨e,t⟩:=p
 cases e<;>first|rfl|(show Lim _ t=Lim _ t;rw[hc])
theorem Zb {α:Type} {c:Prop} [Decidable c] (x y:α):(if c then some x else some y)=some (if c then x else y):=by split<;>rfl
theorem Qt {f key:Nat} {c b:Code} (hc:q8d f=c) (h:(zN key c).getD .skip=b):lbO f key=b:=by unfold lbO;rw[hc];exact h
theorem zI {f:Nat} {c b:Code} (hl:okL f c) (hb:b∈Jz c):okL f b:=⟨fun x hx=>hl.lo x ((qc6 c b hb).1 x hx),fun q hq=>hl.ro q ((qc6 c b hb).2 q hq)⟩
theorem qtM {f key:Nat} {c:Code} {q:Code×Code} (hl:okL f c) (hq:q∈Zw c):okL f q.1∧okL f q.2:=
 ⟨⟨fun x hx=>hl.lo x ((q3J c q hq).1 x (qQJ _ hx)),fun x hx=>hl.ro x ((q3J c q hq).2 x (qQJ _ hx))⟩,
   ⟨fun x hx=>hl.lo x ((q3J c q hq).1 x (qQG _ hx)),fun x hx=>hl.ro x ((q3J c q hq).2 x (qQG _ hx))⟩⟩
def rn2 (f k key:Nat) (o:Option B) (s:S):Option (R×List (Nat×B)):=o.bind fun b=>rd3 k (XE2 evo f k (rbO f key) (s.up [(k-1,b)]))
def rn1 (f k key:Nat) (r:XS):Option (R×List (Nat×B)):=r.bind fun p=>match p.1 with | .normal=>rn2 f k key (rdB (p.2.blk (k-1))) p.2|_=>none
section
variable {f k key:Nat} {s:S} {c:Prop} [Decidable c] {α β:Type} {o:Option α} {g:α→XS} {h:β→XS} {e:α⊕β}
theorem qks:rn1 f k key (some (.normal,s))=rn2 f k key (rdB (s.blk (k-1))) s:=rfl
theorem qsT (b:B):rn2 f k key (some b) s=rd3 k (XE2 evo f k (rbO f key) (s.up [(k-1,b)])):=rfl
theorem qxS {n:Nat} (g:α→RS) (h:β→RS):rfk n (Sum.elim g h e)=Sum.elim (fun a=>rfk n (g a)) (fun a=>rfk n (h a)) e:=by cases e<;>rfl
end
theorem qh2 {f key k:Nat} {asg bd:Code} (ha:raO f key=asg) (hb:rbO f key=bd) (hk:0<k) (hc:q6A (drq pol f) false asg=true∧q6A (drq pol f) false bd=true) (la:okL f asg) (lb:okL f bd) (tm:List R) (G:List (Nat×B)) :
  evr f (raO f key) (rbO f key) k tm G=rn1 f k key (XE2 evo f k (raO f key) ⟨q43 tm 0,G,G.length,tm.length⟩):=by
 rw[qyZ ha hb hk hc tm G,ha]
 have e1:∀s,XE f k asg s=XE2 evo f k asg s:=fun s=>qfQ asg la s
 have e2:∀s,XE f k bd s=XE2 evo f k bd s:=fun s=>qfQ bd lb s
 rw[e1]
 unfold rd1 rn1
 congr 1
 funext p
 obtain⟨x,t⟩:=p
 cases x<;>first
  | rfl
  | (show rd2 f k bd t (rdB (t.blk (k-1)))=rn2 f k key (rdB (t.blk (k-1))) t
     unfold rd2 rn2
     rw[hb]
     congr 1
     funext b
     rw[e2])
theorem qtO {f key:Nat} {c b:Code} (hc:q8d f=c) (h:((roundOf key c).getD (.skip,.skip)).1=b):raO f key=b:=by unfold raO;rw[hc];exact h
theorem qtl {f key:Nat} {c b:Code} (hc:q8d f=c) (h:((roundOf key c).getD (.skip,.skip)).2=b):rbO f key=b:=by unfold rbO;rw[hc];exact h
section
variable {σ ε:Type} (f k:Nat) (enc:σ→List R×List (Nat×B)) (ex:ε→R×List (Nat×B))
def ovr (F:σ→Option ε):Orc:=fun g k' args G=>open Classical in if h:(g = .fn f∧k'=k)∧∃y,enc y=(args,G) then(F (Classical.choose h.2)).bind fun e=>some (ex e) else evo g k' args G
def q9G (y:σ):Option ε:=open Classical in if h:∃e,ev f k (enc y).1 (enc y).2=some (ex e) then some (Classical.choose h) else none
variable {f k enc ex}
theorem qui (hi:∀y z,enc y=enc z→y=z) (F:σ→Option ε) (y:σ):ovr f k enc ex F (.fn f) k (enc y).1 (enc y).2=(F y).bind fun e=>some (ex e):=by
 have h:((Fx.fn f=Fx.fn f)∧k=k)∧∃z,enc z=((enc y).1,(enc y).2):=⟨⟨rfl,rfl⟩,y,rfl⟩
 unfold ovr
 rw[dif_pos h]
 rw[hi _ _ ((Classical.choose_spec h.2).trans rfl)]
theorem qrH (F:σ→Option ε) (g k':Nat) (a:List R) (G:List (Nat×B)) (h:g≠f):ovr f k enc ex F (.fn g) k' a G=ev g k' a G:=by
 unfold ovr
 rw[dif_neg (fun h'=>h (by injection h'.1.1))]
 rfl
theorem qzQ (F:σ→Option ε) (g:Nat) (asg bd:Code) (k':Nat) (a:List R) (G:List (Nat×B)):ovr f k enc ex F (.rd g asg bd) k' a G=evr g asg bd k' a G:=by
 unfold ovr
 rw[dif_neg (fun h'=>by cases h'.1.1)]
 rfl
def q9W (f k:Nat) (enc:σ→List R×List (Nat×B)) (ex:ε→R×List (Nat×B)) (step:(σ→Option ε)→σ→Option ε):Prop:=
 ∀(E:Orc) (F:σ→Option ε),(∀y,E (.fn f) k (enc y).1 (enc y).2=(F y).bind fun e=>some (ex e))→(∀g k' a G,g≠f→E (.fn g) k' a G=ev g k' a G)→(∀g asg bd k' a G,E (.rd g asg bd) k' a G=evr g asg bd k' a G)→
  ∀y,qba E f k (enc y).1 (enc y).2=(step F y).bind fun e=>some (ex e)
theorem qkA {E E':Orc} (h:OLe E E') (L:(S→XS)→S→XS) (hL:LLe L Lim) {f k:Nat} {args:List R} {G:List (Nat×B)} {bd:Bd} {x:R×List (Nat×B)} (hb:qu Tryz.prog pol f=some bd) (hx:q7r Tryz.prog T pol (D1 Tryz.prog T pol) E L f k args G bd=some x):qba E' f k args G=some x:=by
 unfold qba
 rw[hb,qQx]
 exact q8X q4L h hL hx
theorem qww (hp:pol.pr f=none) (hi:∀y z,enc y=enc z→y=z) {step:(σ→Option ε)→σ→Option ε} (hs:q9W f k enc ex step) :
  ∀(n:Nat) (y:σ) (z:R×List (Nat×B)),xf Tryz.prog T pol (D1 Tryz.prog T pol) n (.fn f) k (enc y).1 (enc y).2=some z→∃e,z=ex e:=by
 intro n
 induction n with
 | zero=>intro y z h;cases h
 | succ n ih=>
  intro y z h
  obtain⟨F,hF⟩:∃F:σ→Option ε,∀y z,xf Tryz.prog T pol (D1 Tryz.prog T pol) n (.fn f) k (enc y).1 (enc y).2=some z→(F y).bind (fun e=>some (ex e))=some z:=by
   refine⟨fun y=>open Classical in if h:∃e,xf Tryz.prog T pol (D1 Tryz.prog T pol) n (.fn f) k (enc y).1 (enc y).2=some (ex e) then some (Classical.choose h) else none,fun y z hz=>?_⟩
   obtain⟨e,rfl⟩:=ih y z hz
   have hex:∃e,xf Tryz.prog T pol (D1 Tryz.prog T pol) n (.fn f) k (enc y).1 (enc y).2=some (ex e):=⟨e,hz⟩
   simp only[dif_pos hex,qQx]
   rw[←Classical.choose_spec hex,hz]
  have hle:OLe (xf Tryz.prog T pol (D1 Tryz.prog T pol) n) (ovr f k enc ex F):=by
   intro g k' args G x hx
   unfold ovr
   split
   ·rename_i hh
    obtain⟨⟨rfl,rfl⟩,hy⟩:=hh
    have e1:=Classical.choose_spec hy
    refine hF _ _ ?_
    rw[e1];exact hx
   ·exact ql9 q4L _ _ _ _ _ hx
  have h2:∃bd,qu Tryz.prog pol f=some bd∧q7r Tryz.prog T pol (D1 Tryz.prog T pol) (xf Tryz.prog T pol (D1 Tryz.prog T pol) n) (iter n) f k (enc y).1 (enc y).2 bd=some z:=by
   have h3:fnx Tryz.prog T pol (D1 Tryz.prog T pol) (xf Tryz.prog T pol (D1 Tryz.prog T pol) n) (iter n) f k (enc y).1 (enc y).2=some z:=h
   unfold fnx at h3
   rw[hp] at h3
   exact qQC.1 h3
  obtain⟨bd,hb,hx⟩:=h2
  have h4:=qkA hle (iter n) (qbd n) hb hx
  rw[hs _ F (qui hi F) (qrH F) (qzQ F) y] at h4
  obtain⟨e,-,h5⟩:=qQC.1 h4
  injection h5 with h5
  exact⟨e,h5.symm⟩
theorem qbx (hp:pol.pr f=none) (hi:∀y z,enc y=enc z→y=z) {step:(σ→Option ε)→σ→Option ε} (hs:q9W f k enc ex step) (y:σ):ev f k (enc y).1 (enc y).2=(q9G f k enc ex y).bind fun e=>some (ex e):=by
 unfold q9G
 split
 ·rename_i h
  rw[qQx]
  exact Classical.choose_spec h
 ·rename_i h
  cases hv:ev f k (enc y).1 (enc y).2 with
  | none=>rfl
  | some z=>
   obtain⟨n,hn⟩:=q9x (show EE Tryz.prog T pol (D1 Tryz.prog T pol) (.fn f) k (enc y).1 (enc y).2=some z from hv)
   obtain⟨e,rfl⟩:=qww hp hi hs n y z hn
   exact absurd ⟨e,hv⟩ h
theorem qfj (hp:pol.pr f=none) (hi:∀y z,enc y=enc z→y=z) (hj:∀d e,ex d=ex e→d=e) {step:(σ→Option ε)→σ→Option ε} (hs:q9W f k enc ex step) (y:σ):q9G f k enc ex y=step (q9G f k enc ex) y:=by
 have h1:=hs evo (q9G f k enc ex) (qbx hp hi hs) (fun _ _ _ _ _=>rfl) (fun _ _ _ _ _ _=>rfl) y
 rw[←qmO hp,qbx hp hi hs y] at h1
 cases h2:q9G f k enc ex y with
 | none=>
  rw[h2] at h1
  cases h3:step (q9G f k enc ex) y with
  | none=>rfl
  | some e=>rw[h3] at h1;cases h1
 | some d=>
  rw[h2] at h1
  cases h3:step (q9G f k enc ex) y with
  | none=>rw[h3] at h1;cases h1
  | some e=>
   rw[h3] at h1
   injection h1 with h1
   rw[hj _ _ h1]
end
end
noncomputable section
open Go.RowKit
section
variable {α:Type} {E:α→List D} {n:Nat}
theorem qgz (h:∀x,(E x).length=n):∀(v:List α) (a:Nat),(v.flatMap E).drop (a*n)=(v.drop a).flatMap E
 | [],a=>by simp
 | x::v,0=>by simp
 | x::v,a+1=>by
  rw[qRC,show(a+1)*n=(E x).length+a*n by grind,List.drop_length_add_append]
  exact qgz h v a
theorem qdJ (h:∀x,(E x).length=n):∀(v:List α) (a:Nat),(v.flatMap E).take (a*n)=(v.take a).flatMap E
 | [],a=>by simp
 | x::v,0=>by simp
 | x::v,a+1=>by
  rw[qRC,show(a+1)*n=(E x).length+a*n by grind,List.take_length_add_append,List.take_succ_cons,qRC,qdJ h v a]
theorem qdC (v:List α) (x:α):(v.flatMap E).map C.d++(E x).map C.d=((v++[x]).flatMap E).map C.d:=by simp
theorem qmC {β:Type}:∀(ys p q:List β) (o:Nat),o+ys.length≤p.length→spl (p++q) o ys=spl p o ys++q
 | [],p,q,o,_=>rfl
 | y::ys,p,q,o,h=>by
  rw[qQI] at h
  rw[spl,spl,List.set_append_left _ _ (by omega),qmC ys _ q (o+1) (by grind)]
theorem qiT {β:Type}:∀(ys p q:List β) (o:Nat),spl (p++q) (p.length+o) ys=p++spl q o ys
 | [],p,q,o=>rfl
 | y::ys,p,q,o=>by
  rw[spl,spl,List.set_append_right _ _ (by omega),show p.length+o-p.length=o by omega,show p.length+o+1=p.length+(o+1) by omega,qiT ys]
theorem qjN {β:Type}:∀(ys p pre:List β),p.length=ys.length→spl (pre++p) pre.length ys=pre++ys
 | [],p,pre,h=>by rw[qQQ h];rfl
 | y::ys,[],pre,h=>by cases h
 | y::ys,x::p,pre,h=>by
  have e:(pre++x::p).set pre.length y=(pre++[y])++p:=by simp_all
  rw[spl,e,show pre.length+1=(pre++[y]).length by simp,qjN ys p _ (by simpa using h)]
  simp
theorem qmh {β:Type}:∀(ys:List β) (o:Nat),spl [] o ys=[]
 | [],o=>rfl
 | y::ys,o=>by rw[spl,List.set_nil,qmh ys]
theorem qnV (h:∀x,(E x).length=n):∀(v:List α) (i:Nat) (x:α),spl (v.flatMap E) (i*n) (E x)=(v.set i x).flatMap E
 | [],i,x=>by rw[List.flatMap_nil,qmh];rfl
 | y::v,0,x=>by
  rw[qRC,Nat.zero_mul,qmC _ _ _ _ (by simp_all)]
  have:=qjN (E x) (E y) [] (by rw[h,h])
  simp_all
 | y::v,i+1,x=>by
  rw[qRC,show(i+1)*n=(E y).length+i*n by grind,qiT,qnV h v i x]
  rfl
theorem qgX {β γ:Type} (f:β→γ):∀(ys cs:List β) (o:Nat),spl (cs.map f) o (ys.map f)=(spl cs o ys).map f
 | [],cs,o=>rfl
 | y::ys,cs,o=>by rw[qQU,spl,spl,←List.map_set,qgX f ys]
theorem qbt (h:∀x,(E x).length=n) (v:List α) (i:Nat) (x:α):spl ((v.flatMap E).map C.d) (i*n) ((E x).map C.d)=((v.set i x).flatMap E).map C.d:=by rw[qgX,qnV h]
theorem qoH {β:Type}:∀(ys zs cs:List β) (o:Nat),spl cs o (ys++zs)=spl (spl cs o ys) (o+ys.length) zs
 | [],zs,cs,o=>rfl
 | y::ys,zs,cs,o=>by rw[qRD,spl,spl,qoH ys,qQI,show o+1+ys.length=o+(ys.length+1) by omega]
theorem qoj (h:∀x,(E x).length=n):∀(w v:List α) (i:Nat),spl (v.flatMap E) (i*n) (w.flatMap E)=(spl v i w).flatMap E
 | [],v,i=>rfl
 | x::w,v,i=>by rw[qRC,qoH,qnV h,h,spl,show i*n+n=(i+1)*n by grind,qoj h w]
theorem qAa (m:Nat) (x:α):(List.replicate m (E x)).flatten=(List.replicate m x).flatMap E:=by
 rw[List.flatMap_def,List.map_replicate]
theorem qpv {cs:List C} (x:α) (hx:cs=(E x).map C.d) (m:Nat):(List.replicate m cs).flatten=((List.replicate m x).flatMap E).map C.d:=by
 subst hx
 rw[←qAa,List.map_flatten,List.map_replicate]
end
theorem q1k {α:Type} {E:α→List D} {n:Nat} (h:∀x,(E x).length=n) (hn:0<n) (hi:∀x y,E x=E y→x=y):∀(v w:List α),v.flatMap E=w.flatMap E→v=w
 | [],[],_=>rfl
 | [],y::w,e=>by
  have:=congrArg List.length e
  grind
 | x::v,[],e=>by
  have:=congrArg List.length e
  grind
 | x::v,y::w,e=>by
  rw[qRC,qRC] at e
  obtain⟨h1,h2⟩:=List.append_inj e (by rw[h,h])
  rw[hi x y h1,q1k h hn hi v w h2]
theorem q2m (a b:List D):(a.map C.d=b.map C.d)=(a=b):=by
 refine propext ⟨fun h=>?_,fun h=>by rw[h]⟩
 induction a generalizing b with
 | nil=>simp_all
 | cons x a ih=>
  cases b with
  | nil=>cases h
  | cons y b=>
   grind
def eI (x:Int):List D:=[.int .i64 x]
def eB (x:Bool):List D:=[.bool x]
def eS (x:ByteArray):List D:=[.str x]
def eU8 (x:Int):List D:=[.int .u8 x]
def eL {α:Type} (n:Nat) (E:α→List D) (v:List α):List D:=[.sl n v.length (v.flatMap E)]
theorem qkm (l:List UInt8):u8s l=(l.map fun b=>(b.toNat:Int)).flatMap eU8:=by
 induction l with
 | nil=>rfl
 | cons b l ih=>rw[qQU,qRC,←ih];rfl
def qgw (s:ByteArray):List Int:=s.data.toList.map fun b=>(b.toNat:Int)
theorem qFG (s:ByteArray):u8s s.data.toList=(qgw s).flatMap eU8:=qkm _
theorem qwh (s:ByteArray):D.sl 1 s.size ((qgw s).flatMap eU8)=D.sl 1 (qgw s).length ((qgw s).flatMap eU8):=by
 rw[show(qgw s).length=s.size by unfold qgw;simp_all]
theorem qoP {α β γ:Type} (f:β→γ) (o:Option α) (g:α→Option β):(o.bind g).map f=o.bind fun x=>(g x).map f:=by cases o<;>rfl
theorem qt0 {α β:Type} {c:Prop} [Decidable c] (f:α→β) (x y:Option α):(if c then x else y).map f=if c then x.map f else y.map f:=by split<;>rfl
theorem qwt (P:Program) (T:Ty) (d:Nat) (t:TypeId) (x y:R):eqR P T (d+1) t x y =
  match T.k t,x,y with
  | .int _,.c (.d (.int k a)),.c (.d (.int k' b))=>if k=k' then some (a==b) else none
  | .bool,.c (.d (.bool a)),.c (.d (.bool b))=>some (a==b)
  | .str,.c (.d (.str a)),.c (.d (.str b))=>some (a.toList==b.toList)
  | .st fs,.agg xs,.agg ys=>if qfK P t=true then qnm T (eqR P T d) xs ys fs else none
  | .arr n e,.agg xs,.agg ys=>if qsR P t=true∧T.k e ≠ .other then qnm T (eqR P T d) xs ys (qhh (T.sz e) e n 0) else none
  | _,_,_=>none:=by rfl
section
variable {α β:Type} {c:Prop} [Decidable c] (a b:List α)
theorem qxB (f:α→Bool):(if c then a else b).any f=if c then a.any f else b.any f:=by split<;>rfl
theorem qvU (f:α→β):(if c then a else b).map f=if c then a.map f else b.map f:=by split<;>rfl
theorem qhK:(if c then a else b).isEmpty=if c then a.isEmpty else b.isEmpty:=by split<;>rfl
theorem qft [BEq α] (x:α):(if c then a else b).contains x=if c then a.contains x else b.contains x:=by split<;>rfl
end
def qK8 (op:UnOp) (r:R) (s:S):RS:=
 match op,r with
 | .not,.c (.d (.bool b))=>some (.c (.d (.bool (!b))),s)
 | .neg,.c (.d (.int k n))=>some (.c (.d (.int k (k.wrap (0-n)))),s)
 | _,_=>none
theorem qDN (s:S) (op:UnOp) (x:Operand):xUn s op x=qK8 op (s.ev x) s:=by rfl
def lkq (ok:Bool) (z:R):Option (Nat×R×Nat)→Option R
 | some q=>some (tt2 q.2.1 ok true)
 | none=>some (tt2 z ok false)
theorem qv9 {c:Prop} [Decidable c] (ok:Bool) (z:R) (x y:Option (Nat×R×Nat)):lkq ok z (if c then x else y)=if c then lkq ok z x else lkq ok z y:=by split<;>rfl
theorem ql7 (T:Ty) (s:S) (t:TypeId) (x y:Operand) (ok:Bool):q5N T s t x y ok =
  match T.k t,qad s x,(s.ev y).key with
  | .mp k e,some es,some kv=>if plK (T.k k) kv=true∧es.all (fun q=>plK (T.k k) q.1)=true then(zR T e).bind fun z=>lkq ok z (fnd kv es 0) else none
  | _,_,_=>none:=by rfl
theorem qm4 (xs ys:List C):(xs++ys).flatMap C.rows=xs.flatMap C.rows++ys.flatMap C.rows:=List.flatMap_append
theorem qpR (zs0:List Nat):∀(zs:List Nat) (ds:List D) (ys:List C),zs.length=ds.length→dzc zs0 zs (ds.map C.d++ys)=ds.map C.d++dzc zs0 [] ys
 | [],[],ys,_=>rfl
 | [],d::ds,ys,h=>by cases h
 | z::zs,[],ys,h=>by cases h
 | z::zs,d::ds,ys,h=>by
  rw[qQU,qRD,dzc,qpR zs0 zs ds ys (by simpa using h)]
  rfl
theorem qu4 {α:Type} {E:α→List D} {n:Nat} (h:∀x,(E x).length=n+1) (zs0:List Nat) (h0:zs0.length=n+1):∀(v:List α) (ys:List C),dzc zs0 [] ((v.flatMap E).map C.d++ys)=(v.flatMap E).map C.d++dzc zs0 [] ys
 | [],ys=>rfl
 | x::v,ys=>by
  have hx:=h x
  rw[qRC,List.map_append,qRd,qRd,←qu4 h zs0 h0 v ys]
  cases hE:E x with
  | nil=>rfl
  | cons d ds=>
   rw[hE] at hx
   rw[qQU,qRD,dzc,qpR zs0 zs0.tail ds _ (by simp_all)]
   rfl
def qtX {α:Type} (a b:Option α):Prop:=∀r,a=some r→b=some r
theorem qtX.bind {α β:Type} {a b:Option α} {f g:α→Option β} (h:qtX a b) (hf:∀x,qtX (f x) (g x)):qtX (a.bind f) (b.bind g):=fun r hr=>by
 obtain⟨x,h1,h2⟩:=qQC.1 hr
 rw[h x h1]
 exact hf x r h2
def itR {σ ε:Type} (step:(σ→Option ε)→σ→Option ε):Nat→σ→Option ε
 | 0,_=>none
 | n+1,x=>step (itR step n) x
theorem qtX.rec {σ ε:Type} {c s:(σ→Option ε)→σ→Option ε} {f:σ→Option ε} (hs:∀x,f x=s f x) (h:∀F F',(∀y,qtX (F y) (F' y))→∀x,qtX (c F x) (s F' x)):∀(n:Nat) (x:σ),qtX (itR c n x) (f x):=by
 intro n
 induction n with
 | zero=>intro x r hr;cases hr
 | succ n ih=>
  intro x
  rw[hs x]
  exact h _ _ ih x
def spr (cs:List C) (o:Nat) (ys:List C):List C:=spl cs o ys
theorem qn8 (t:TypeId) (cs ys:List C) (o:Nat):(B.blk t cs).set o ys = .blk t (spl cs o ys):=rfl
theorem qme (e:TypeId) (sz:Nat) (cs ys:List C) (o:Nat):(B.row e sz cs).set o ys = .row e sz (spr cs o ys):=rfl
def xsl (T:Ty) (s:S) (t:TypeId) (x:R) (lo hi:Option Operand):RS:=
 match x,T.k t with
 | .c (.d (.str b)),.str=>
  match s.bd lo 0,s.bd hi b.size with
  | some l,some h=>if 0≤l∧l≤h∧h≤b.size then some (.c (.d (.str (b.extract l.toNat h.toNat))),s) else none
  | _,_=>none
 | .c (.d (.sl sz n cs)),.sl e=>
  if T.k e ≠ .other∧T.sz e=sz then
   match s.bd lo 0,s.bd hi n with
   | some l,some h=>if 0≤l∧l≤h∧h≤n then some (.c (.d (.sl sz (h.toNat-l.toNat) ((cs.drop (l.toNat*sz)).take ((h.toNat-l.toNat)*sz)))),s) else none
   | _,_=>none
  else none
 | .c (.own id sz off n),.sl e=>
  if T.k e ≠ .other∧T.sz e=sz then
   match s.bd lo 0,s.bd hi n with
   | some l,some h=>if 0≤l∧l≤h∧h≤n then(if l=0∨l<n then some (.c (.own id sz (off+l.toNat) (h.toNat-l.toNat)),s) else some (.c (.d (.sl sz 0 [])),s)) else none
   | _,_=>none
  else none
 | .c .nils,.sl e=>
  if T.k e ≠ .other then
   match s.bd lo 0,s.bd hi 0 with
   | some l,some h=>if l=0∧h=0 then some (.c .nils,s) else none
   | _,_=>none
  else none
 | _,_=>none
theorem qpo (T:Ty) (s:S) (t:TypeId) (x:Operand) (lo hi:Option Operand):qfX T s t x lo hi none=xsl T s t (s.ev x) lo hi:=by
 unfold qfX xsl
 grind
section
variable {T:Ty} {s:S} {t:TypeId} {lo hi:Option Operand}
theorem qIc {id sz off n:Nat}:xsl T s t (.c (.own id sz off n)) none hi =
  match T.k t with
  | .sl e=>if T.k e ≠ .other∧T.sz e=sz then
   match s.bd hi n with
   | some h=>if 0≤h∧h≤n then some (.c (.own id sz off (min h.toNat n)),s) else none
   | _=>none
   else none
  | _=>none:=by
 unfold xsl
 cases T.k t<;>try rfl
 dsimp only[S.bd]
 grind
theorem qw1 {id sz off n:Nat} {lo:Operand}:xsl T s t (.c (.own id sz off n)) (some lo) hi =
  match T.k t with
  | .sl e=>if T.k e ≠ .other∧T.sz e=sz then
   match s.bd (some lo) 0,s.bd hi n with
   | some l,some h=>if 0≤l∧l≤h∧h≤n then(if l=0∨l<n then some (.c (.own id sz (off+l.toNat) (h.toNat-l.toNat)),s) else some (.c (.d (.sl sz 0 [])),s)) else none
   | _,_=>none
   else none
  | _=>none:=by unfold xsl;grind
end
def qy1 {α:Type} (s:S) (E:α→List D) (n:Nat) (v:List α) (l h:Option Int):RS:=
 match l,h with
 | some l,some h=>if 0≤l∧l≤h∧h≤v.length then some (.c (.d (.sl n ((v.drop l.toNat).take (h.toNat-l.toNat)).length (((v.drop l.toNat).take (h.toNat-l.toNat)).flatMap E))),s) else none
 | _,_=>none
theorem qls {α:Type} {E:α→List D} {n:Nat} (h:∀x,(E x).length=n) {T:Ty} {s:S} {t e:TypeId} (v:List α) (lo hi:Option Operand) (hk:T.k t = .sl e) (hz:T.sz e=n) (ho:T.k e ≠ .other) :
  xsl T s t (.c (.d (.sl n v.length (v.flatMap E)))) lo hi=qy1 s E n v (s.bd lo 0) (s.bd hi v.length):=by
 unfold xsl
 simp only[hk]
 rw[if_pos ⟨ho,hz⟩]
 unfold qy1
 cases s.bd lo 0 with
 | none=>rfl
 | some l=>
  cases s.bd hi v.length with
  | none=>rfl
  | some h'=>
   simp only
   split
   ·rename_i hc
    rw[qgz h,qdJ h,qR0,qRk,Nat.min_eq_left (by omega)]
   ·rfl
abbrev dI (n:Int):C:=C.d (D.int .i64 n)
abbrev dS (s:ByteArray):C:=C.d (D.str s)
abbrev dB (b:Bool):C:=C.d (D.bool b)
abbrev dL {α:Type} (n:Nat) (E:α→List D) (v:List α):C:=C.d (D.sl n v.length (v.flatMap E))
abbrev dO (i sz n:Nat):C:=C.own i sz 0 n
abbrev dP (i:Nat):C:=C.ptr i 0
abbrev rI (n:Int):R:=R.c (C.d (D.int .i64 n))
abbrev rS (s:ByteArray):R:=R.c (C.d (D.str s))
abbrev rB (b:Bool):R:=R.c (C.d (D.bool b))
abbrev rL {α:Type} (n:Nat) (E:α→List D) (v:List α):R:=R.c (C.d (D.sl n v.length (v.flatMap E)))
abbrev rO (i sz n:Nat):R:=R.c (C.own i sz 0 n)
abbrev rP (i:Nat):R:=R.c (C.ptr i 0)
abbrev bR {α:Type} (e sz:Nat) (E:α→List D) (v:List α):B:=B.row e sz ((v.flatMap E).map C.d)
theorem XLs {E:Orc} {f k key:Nat} {c:Code} {σ ε:Type} {st:σ→S} {ex:ε→XS} {step:σ→Option (σ⊕ε)} (hc:lbO f key=c) (hl:okL f c) (hne:∀e,∃p,ex e=some p∧p.1 ≠ .normal)
  (h:∀x,lz2 f k key (XE2 E f k c (st x))=(step x).bind (Sum.elim (fun y=>some (.normal,st y)) ex)) (x:σ):XL2 E f k key (st x)=(zn step x).bind ex:=by
 obtain⟨g,hg⟩:∃g:ε→Exit×S,∀e,ex e=some (g e)∧(g e).1 ≠ .normal:=⟨fun e=>Classical.choose (hne e),fun e=>Classical.choose_spec (hne e)⟩
 obtain rfl:ex=fun e=>some (g e):=funext fun e=>(hg e).1
 exact q9C (ex:=g) hc hl (fun e=>(hg e).2) h x
theorem qcm {E:Orc} {f k key:Nat} {c:Code} {A1 ε:Type} {st:A1→S} {ex:ε→XS} {step:A1→Option ((A1)⊕ε)} (hc:lbO f key=c) (hl:okL f c) (hne:∀e,∃p,ex e=some p∧p.1 ≠ .normal)
  (h:∀a1,lz2 f k key (XE2 E f k c (st a1))=(step a1).bind (Sum.elim (fun y=>some (.normal,st y)) ex)) (a1:A1):XL2 E f k key (st a1)=(zn step a1).bind ex:=
 XLs (st:=fun y=>st y) hc hl hne (fun a1=>h a1) a1
theorem qab {E:Orc} {f k key:Nat} {c:Code} {A1 A2 ε:Type} {st:A1→A2→S} {ex:ε→XS} {step:(A1×A2)→Option ((A1×A2)⊕ε)} (hc:lbO f key=c) (hl:okL f c) (hne:∀e,∃p,ex e=some p∧p.1 ≠ .normal)
  (h:∀a1 a2,lz2 f k key (XE2 E f k c (st a1 a2))=(step (a1,a2)).bind (Sum.elim (fun y=>some (.normal,st y.1 y.2)) ex)) (a1:A1) (a2:A2):XL2 E f k key (st a1 a2)=(zn step (a1,a2)).bind ex:=
 XLs (st:=fun y=>st y.1 y.2) hc hl hne (fun⟨a1,a2⟩=>h a1 a2) (a1,a2)
theorem qJw {E:Orc} {f k key:Nat} {c:Code} {A1 A2 A3 ε:Type} {st:A1→A2→A3→S} {ex:ε→XS} {step:(A1×A2×A3)→Option ((A1×A2×A3)⊕ε)} (hc:lbO f key=c) (hl:okL f c) (hne:∀e,∃p,ex e=some p∧p.1 ≠ .normal)
  (h:∀a1 a2 a3,lz2 f k key (XE2 E f k c (st a1 a2 a3))=(step (a1,a2,a3)).bind (Sum.elim (fun y=>some (.normal,st y.1 y.2.1 y.2.2)) ex)) (a1:A1) (a2:A2) (a3:A3):XL2 E f k key (st a1 a2 a3)=(zn step (a1,a2,a3)).bind ex:=
 XLs (st:=fun y=>st y.1 y.2.1 y.2.2) hc hl hne (fun⟨a1,a2,a3⟩=>h a1 a2 a3) (a1,a2,a3)
theorem qJN {E:Orc} {f k key:Nat} {c:Code} {A1 A2 A3 A4 ε:Type} {st:A1→A2→A3→A4→S} {ex:ε→XS} {step:(A1×A2×A3×A4)→Option ((A1×A2×A3×A4)⊕ε)} (hc:lbO f key=c) (hl:okL f c) (hne:∀e,∃p,ex e=some p∧p.1 ≠ .normal)
  (h:∀a1 a2 a3 a4,lz2 f k key (XE2 E f k c (st a1 a2 a3 a4))=(step (a1,a2,a3,a4)).bind (Sum.elim (fun y=>some (.normal,st y.1 y.2.1 y.2.2.1 y.2.2.2)) ex)) (a1:A1) (a2:A2) (a3:A3) (a4:A4):XL2 E f k key (st a1 a2 a3 a4)=(zn step (a1,a2,a3,a4)).bind ex:=
 XLs (st:=fun y=>st y.1 y.2.1 y.2.2.1 y.2.2.2) hc hl hne (fun⟨a1,a2,a3,a4⟩=>h a1 a2 a3 a4) (a1,a2,a3,a4)
abbrev aY5:List R:=[R.any,R.any,R.any,R.any,R.any]
abbrev aY6:List R:=[R.any,R.any,R.any,R.any,R.any,R.any]
abbrev aY9:List R:=R.any::R.any::R.any::R.any::aY5
abbrev qMR:List R:=R.any::R.any::R.any::R.any::aY6
abbrev qPE:List R:=R.any::R.any::R.any::R.any::aY9
abbrev qMB:List R:=R.any::R.any::R.any::R.any::qMR
abbrev qOR:List R:=R.any::R.any::R.any::R.any::qPE
abbrev qPz:List R:=R.any::R.any::R.any::R.any::qMB
abbrev qOG:List R:=R.any::R.any::R.any::R.any::qOR
abbrev q7s:List R:=R.any::R.any::R.any::R.any::qPz
abbrev qKW:List R:=R.any::R.any::R.any::R.any::qOG
abbrev qMa:List R:=R.any::R.any::R.any::R.any::qKW
abbrev qMo:List R:=R.any::R.any::R.any::R.any::qMa
abbrev qNL:List R:=R.any::R.any::R.any::R.any::qMo
def dzU (Q:TypeId→List Nat):B→B
 | .row e sz cs => .row e sz (dzc (Q e) [] cs)
 | b=>b
theorem qBK (z:Nat) {c:C} (h:c.isNils=false):dz z c=c:=by
 cases c<;>first|rfl|cases h
theorem qfz (zs0:List Nat):∀{cs:List C} (zs:List Nat),cs.any C.isNils=false→dzc zs0 zs cs=cs
 | [],zs,_=>by rfl
 | c::cs,zs,h=>by
  rw[List.any_cons,Bool.or_eq_false_iff] at h
  cases zs with
  | nil=>rw[dzc,qBK _ h.1,qfz zs0 _ h.2]
  | cons z zs=>rw[dzc,qBK _ h.1,qfz zs0 _ h.2]
theorem qGC (Q:TypeId→List Nat) (b:B):dzB Q b=dzU Q b:=by
 cases b with
 | row e sz cs=>
  unfold dzB dzU
  simp only
  split
  ·rfl
  ·rename_i h
   rw[qfz _ _ (by simpa using h)]
 | _=>rfl
theorem qCk (Q:TypeId→List Nat) (b:B) (h:b.nilr=false):dzU Q b=b:=by
 cases b with
 | row e sz cs=>unfold dzU;simp only;rw[qfz _ _ h]
 | _=>rfl
theorem qEg (tm:List (Nat×R)) (hp:List (Nat×B)) (nx n:Nat) (Q:TypeId→List Nat):S.dzr (S.mk tm hp nx n) Q=S.mk tm (hp.map fun x=>(x.1,dzU Q x.2)) nx n:=by
 unfold S.dzr
 split
 ·simp only[qGC]
 ·rename_i h
  congr 1
  have h2:∀x∈hp,x.2.nilr=false:=fun x hx=>by grind
  refine(List.map_id' hp).symm.trans (List.map_congr_left fun x hx=>?_)
  rw[qCk Q x.2 (h2 x hx)]
theorem qum (Q:TypeId→List Nat) (e sz:Nat) (cs:List C):dzU Q (.row e sz cs) = .row e sz (dzc (Q e) [] cs):=rfl
theorem qwD (Q:TypeId→List Nat) (t:Nat) (cs:List C):dzU Q (.blk t cs) = .blk t cs:=rfl
theorem qDG (Q:TypeId→List Nat) (o:AO):dzU Q (.ob o) = .ob o:=rfl
theorem qsM (Q:TypeId→List Nat):dzU Q .dead = .dead:=rfl
theorem qxI {α:Type} (x:α):Option.toArray (some x)=[x].toArray:=rfl
theorem qw7 {α:Type}:Option.toArray (none:Option α)=([]:List α).toArray:=rfl
theorem qzp {α:Type} (l m:List α):l.toArray++m.toArray=(l++m).toArray:=by simp
theorem qx0 {α:Type} (l:List α):Array.toList l.toArray=l:=rfl
end
noncomputable section
open Go.RowKit
set_option maxRecDepth 20000
def mpE {κ ν:Type} (kE:κ→Value) (vE:ν→R):List (κ×ν)→Nat→List (Value×R×Nat)
 | [],_=>[]
 | p::M,i=>(kE p.1,vE p.2,i)::mpE kE vE M (i+1)
def mpB {κ ν:Type} (kE:κ→Value) (vE:ν→R) (M:List (κ×ν)):AO := .mp (mpE kE vE M 0) M.length
def q5D (k:IntKind) (n:Int):Value := .int k n
section
variable {κ ν:Type} [DecidableEq κ]
def qt9 (M:List (κ×ν)) (k:κ):Nat:=match M with
 | []=>0
 | p::M=>if k=p.1 then 0 else qt9 M k+1
def q4J (z:ν) (M:List (κ×ν)) (k:κ):ν:=match M with
 | []=>z
 | p::M=>if k=p.1 then p.2 else q4J z M k
def qlh (M:List (κ×ν)) (k:κ):Bool:=match M with
 | []=>false
 | p::M=>if k=p.1 then true else qlh M k
def qhL (M:List (κ×ν)) (k:κ) (v:ν):List (κ×ν):=match M with
 | []=>[(k,v)]
 | p::M=>if k=p.1 then(k,v)::M else p::qhL M k v
end
section
variable {κ ν:Type} {kE:κ→Value} {vE:ν→R}
theorem qvE:∀(M:List (κ×ν)) (i:Nat),(mpE kE vE M i).length=M.length
 | [],_=>rfl
 | p::M,i=>by rw[mpE,qQI,qvE M,qQI]
theorem qgR {f:Value×R×Nat→Bool} (hf:∀k r i,f (kE k,r,i)=true):∀(M:List (κ×ν)) (i:Nat),(mpE kE vE M i).all f=true
 | [],_=>rfl
 | p::M,i=>by rw[mpE,List.all_cons,hf,qgR hf M];rfl
theorem qed {f:R→R} (hf:∀v,f (vE v)=vE v) (M:List (κ×ν)):AO.mapR f (mpB kE vE M)=mpB kE vE M:=by
 have:∀(M:List (κ×ν)) (i:Nat),(mpE kE vE M i).map (fun e=>(e.1,f e.2.1,e.2.2))=mpE kE vE M i:=by
  intro M
  induction M with
  | nil=>intro i;rfl
  | cons p M ih=>intro i;rw[mpE,qQU,ih,hf]
 unfold mpB
 show AO.mp _ _=_
 rw[this]
theorem quK {f:R→Bool} (hf:∀v,f (vE v)=true) (M:List (κ×ν)):(mpB kE vE M).Rs.all f=true:=by
 have:∀(M:List (κ×ν)) (i:Nat),((mpE kE vE M i).map (·.2.1)).all f=true:=by
  intro M
  induction M with
  | nil=>intro i;rfl
  | cons p M ih=>intro i;rw[mpE,qQU,List.all_cons,ih,hf];rfl
 exact this M 0
theorem qrn {f:R→List Nat} (hf:∀v,f (vE v)=[]) (M:List (κ×ν)):(mpB kE vE M).Rs.flatMap f=[]:=by
 have:∀(M:List (κ×ν)) (i:Nat),((mpE kE vE M i).map (·.2.1)).flatMap f=[]:=by
  intro M
  induction M with
  | nil=>intro i;rfl
  | cons p M ih=>intro i;rw[mpE,qQU,qRC,ih,hf];rfl
 exact this M 0
variable [DecidableEq κ] (hk:∀a b,kq (kE a) (kE b)=decide (a=b))
include hk
theorem qm0 (k:κ):∀(M:List (κ×ν)) (i:Nat) (z:ν),fnd (kE k) (mpE kE vE M i) i=if qlh M k=true then some (i+qt9 M k,vE (q4J z M k),i+qt9 M k) else none
 | [],i,z=>rfl
 | p::M,i,z=>by
  rw[mpE,fnd]
  simp only[hk,qlh,qt9,q4J,qRx]
  by_cases h:k=p.1
  ·simp[h]
  ·simp only[if_neg h]
   rw[qm0 k M (i+1) z]
   grind
theorem qFK (z:ν) (ok:Bool) (k:κ) (M:List (κ×ν)):lkq ok (vE z) (fnd (kE k) (mpE kE vE M 0) 0)=some (tt2 (vE (q4J z M k)) ok (qlh M k)):=by
 rw[qm0 hk k M 0 z]
 cases hm:qlh M k
 ·have:q4J z M k=z:=by
   clear hk
   induction M with
   | nil=>rfl
   | cons p M ih=>
    rw[qlh] at hm
    rw[q4J]
    simp_all
  rw[this];rfl
 ·rfl
end
section
variable {κ ν:Type} {kE:κ→Value} {vE:ν→R} [DecidableEq κ]
theorem qj9 (k:κ) (v:ν):∀(M:List (κ×ν)) (i:Nat),qlh M k=true→(mpE kE vE M i).set (qt9 M k) (kE k,vE v,i+qt9 M k)=mpE kE vE (qhL M k v) i∧(qhL M k v).length=M.length
 | [],_,h=>by cases h
 | p::M,i,h=>by
  rw[qlh] at h
  by_cases hp:k=p.1
  ·simp only[mpE,qt9,qhL,if_pos hp]
   simp_all
  ·rw[if_neg hp] at h
   obtain⟨a,b⟩:=qj9 k v M (i+1) h
   simp only[mpE,qt9,qhL,if_neg hp,qQI,List.set_cons_succ]
   grind
theorem qjQ (k:κ) (v:ν):∀(M:List (κ×ν)) (i:Nat),qlh M k=false→mpE kE vE M i++[(kE k,vE v,i+M.length)]=mpE kE vE (qhL M k v) i∧(qhL M k v).length=M.length+1
 | [],i,_=>⟨rfl,rfl⟩
 | p::M,i,h=>by
  rw[qlh] at h
  by_cases hp:k=p.1
  ·simp_all
  ·rw[if_neg hp] at h
   obtain⟨a,b⟩:=qjQ k v M (i+1) h
   simp only[mpE,qhL,if_neg hp,qQI,qRD]
   grind
end
def mpq:B→Option (List (Value×R×Nat))
 | .ob (.mp es _)=>some es
 | _=>none
def mpo (s:S):R→Option (List (Value×R×Nat))
 | .c .nilm=>some []
 | .c (.hd .map id)=>mpq (s.blk id)
 | _=>none
theorem qqg (s:S) (x:Operand):qad s x=mpo s (s.ev x):=by rfl
theorem qzZ (es:List (Value×R×Nat)) (ck:Nat):mpq (.ob (.mp es ck))=some es:=rfl
theorem qIq {κ ν:Type} (kE:κ→Value) (vE:ν→R) (M:List (κ×ν)):mpq (.ob (mpB kE vE M))=some (mpE kE vE M 0):=rfl
def mup (kt:Kd) (kv:Value) (r:R):B→Option B
 | .ob (.mp es ck)=>if plK kt kv=true∧es.all (fun q=>plK kt q.1)=true then
   (match fnd kv es 0 with
    | some q=>some (.ob (.mp (es.set q.1 (kv,r,q.2.2)) ck))
    | none=>some (.ob (.mp (es++[(kv,r,ck)]) (ck+1)))) else none
 | _=>none
def qMs (n:Int) (r:R):B→Option B
 | .ob (.mp es ck)=>(fnb n es 0).bind fun i=>(es[i]?).bind fun e=>some (.ob (.mp (es.set i (e.1,r,e.2.2)) ck))
 | _=>none
def xmu (T:Ty) (s:S) (t:TypeId) (m:R) (kv:Option Value) (r:R):Option (R×S):=
 match T.k t,m,kv with
 | .mp kt _,.c (.hd .map id),some kv=>(mup (T.k kt) kv r (s.blk id)).bind fun b=>some (.any,s.up [(id,b)])
 | _,_,_=>none
theorem qym (T:Ty) (s:S) (t:TypeId) (m:R) (kv:Option Value) (r:R):xmu T s t m kv r =
 match T.k t,m,kv with
 | .mp kt _,.c (.hd .map id),some kv=>(mup (T.k kt) kv r (s.blk id)).bind fun b=>some (.any,s.up [(id,b)])
 | _,_,_=>none:=rfl
theorem ql6 (T:Ty) (s:S) (t:TypeId) (m k x:Operand):q66 T s t m k x=xmu T s t (s.ev m) (s.ev k).key (s.ev x):=by
 unfold q66 xmu mup
 grind
def xes (s:S) (m st r:R):Option (R×S):=
 match m,st with
 | .c (.hd .map id),.c (.d (.int _ n))=>(qMs n r (s.blk id)).bind fun b=>some (.any,s.up [(id,b)])
 | _,_=>none
section
variable {κ ν:Type} {kE:κ→Value} {vE:ν→R} [DecidableEq κ] (hk:∀a b,kq (kE a) (kE b)=decide (a=b)) {kt:Kd} (hp:∀a,plK kt (kE a)=true)
include hk hp
theorem qGB (k:κ) (v:ν) (M:List (κ×ν)):mup kt (kE k) (vE v) (.ob (mpB kE vE M))=some (.ob (mpB kE vE (qhL M k v))):=by
 unfold mpB mup
 simp only
 rw[if_pos ⟨hp k,qgR (fun k r i=>hp k) M 0⟩,qm0 hk k M 0 v]
 cases hm:qlh M k
 ·obtain⟨a,b⟩:=qjQ (kE:=kE) (vE:=vE) k v M 0 hm
  simp_all
 ·obtain⟨a,b⟩:=qj9 (kE:=kE) (vE:=vE) k v M 0 hm
  simp_all
end
theorem qwO {κ ν:Type} {kE:κ→Value} {vE:ν→R} {s:S} {sel:List Nat} (h:∀v,qlj s sel (vE v)=vE v) (M:List (κ×ν)):cvA s sel (mpB kE vE M)=some (mpB kE vE M):=by
 have:∀(M:List (κ×ν)) (i:Nat),(mpE kE vE M i).map (fun e=>(e.1,qlj s sel e.2.1,e.2.2))=mpE kE vE M i:=by
  intro M
  induction M with
  | nil=>intro i;rfl
  | cons p M ih=>intro i;rw[mpE,qQU,ih,h]
 show some (AO.mp ((mpE kE vE M 0).map fun e=>(e.1,qlj s sel e.2.1,e.2.2)) M.length)=_
 rw[this];rfl
theorem qtA (k:IntKind) (a b:Int):kq (q5D k a) (q5D k b)=decide (a=b):=rfl
def mpc:B→Option Nat
 | .ob (.mp _ ck)=>some ck
 | _=>none
def xrg (s:S) (p:Nat) (kd:Kd) (r:R):Option (R×S):=
 match kd,r with
 | .str,.c (.d (.str b))=>some (.c (.hd .iter p),s.up [(p,.ob (.si b 0))])
 | .mp _ _,.c .nilm=>some (.c (.hd .iter p),s.up [(p,.ob (.mi (.c .nilm) 0 []))])
 | .mp _ _,.c (.hd .map id)=>(mpc (s.blk id)).bind fun ck=>some (.c (.hd .iter p),s.up [(p,.ob (.mi (.c (.hd .map id)) ck []))])
 | _,_=>none
theorem qmo (T:Ty) (s:S) (p:Nat) (t:TypeId) (x:Operand):q7b T s p t x=xrg s p (T.k t) (s.ev x):=by
 unfold q7b xrg
 split
 ·simp_all
 ·simp_all
 ·rename_i id h1 h2
  rw[h1,h2]
  simp only
  generalize s.blk id=b
  cases b with
  | ob o=>cases o<;>rfl
  | _=>rfl
 simp_all
theorem qpx {κ ν:Type} {kE:κ→Value} {vE:ν→R} (hk:∀a b,kE a=kE b→a=b) (hv:∀a b,vE a=vE b→a=b):∀(M M':List (κ×ν)) (i:Nat),mpE kE vE M i=mpE kE vE M' i→M=M'
 | [],[],_,_=>rfl
 | [],_::_,_,h=>by cases h
 | _::_,[],_,h=>by cases h
 | (a,v)::M,(b,w)::M',i,h=>by
  unfold mpE at h
  simp only[List.cons.injEq,Prod.mk.injEq] at h
  obtain⟨⟨h1,h2,_⟩,h3⟩:=h
  rw[hk _ _ h1,hv _ _ h2,qpx hk hv M M' _ h3]
theorem quY {κ ν:Type} {kE:κ→Value} {vE:ν→R} (hk:∀a b,kE a=kE b→a=b) (hv:∀a b,vE a=vE b→a=b) (M M':List (κ×ν)):(B.ob (mpB kE vE M)=B.ob (mpB kE vE M'))=(M=M'):=
 propext ⟨fun h=>by
  injection h with h
  unfold mpB at h
  injection h with h
  exact qpx hk hv M M' 0 h,fun h=>by rw[h]⟩
section
variable {κ ν:Type}
end
end
noncomputable section
open Go.RowKit Go.Maps Go.Sort Go.Shelf
section
variable {P:Program} {ρ:Ren}
end
end
noncomputable section
open Go.RowKit
theorem qeO:∀l:List Int,qaZ ((l.flatMap eI).map C.d)=some l
 | []=>rfl
 | x::l=>by
  rw[qRC,List.map_append]
  show(qaZ ((l.flatMap eI).map C.d)).map (x :: ·)=_
  rw[qeO l];rfl
theorem q8R:∀l:List Int,(l.map fun z=>C.d (.int .i64 z))=(l.flatMap eI).map C.d
 | []=>rfl
 | x::l=>by
  rw[qRC,List.map_append,qQU,q8R l];rfl
theorem qAo (e:TypeId) (n:Nat) (l:List Int):qDP e 0 [.c (.own 0 1 0 n)] [(0,.row e 1 ((l.flatMap eI).map C.d))]=if n=l.length then some (.c (.own 0 1 0 (cpI l).length),[(0,.row e 1 (((cpI l).flatMap eI).map C.d))]) else none:=by
 show(if e=e then cpX 0 n e _ else none)=_
 rw[if_pos rfl]
 unfold cpX
 rw[qeO,qQx,q8R]
theorem qd6 {α β:Type} {E:α→List β} {z:Nat} (hE:∀x,(E x).length=z):∀(l:List α) (i:Nat),i<l.length→(l.flatMap E).take (i*z)++(l.flatMap E).drop ((i+1)*z)=(l.eraseIdx i).flatMap E
 | [],_,h=>by simp at h
 | x::l,0,_=>by
  rw[qRC,Nat.zero_mul,List.take_zero,qQR,qQV,Nat.one_mul,←hE x,List.drop_left];rfl
 | x::l,i+1,h=>by
  rw[qRC,List.eraseIdx_cons_succ,qRC,←qd6 hE l i (by simpa using h)]
  have e1:(i+1)*z=(E x).length+i*z:=by rw[hE,Nat.add_mul];omega
  have e2:(i+1+1)*z=(E x).length+(i+1)*z:=by rw[hE,Nat.add_mul (i+1)];omega
  rw[e2,List.drop_append,e1,List.take_append]
  simp[Nat.add_sub_cancel_left,qRF,List.drop_of_length_le]
theorem quz {α:Type} {E:α→List D} {e z:Nat} (hE:∀x,(E x).length=z) {n:Nat} (l:List α) (i j:Int) (hn:n=l.length):qku e z 0 [.c (.own 0 z 0 n),.c (.d (.int .i64 i)),.c (.d (.int .i64 j))] [(0,.row e z ((l.flatMap E).map C.d))] =
  if 0≤i∧j=i+1∧i<l.length then some (.c (.own 0 z 0 (l.eraseIdx i.toNat).length),[(0,.row e z (((l.eraseIdx i.toNat).flatMap E).map C.d))]) else none:=by
 subst hn
 show qF7 e z z z e l.length i j _=_
 unfold qF7
 have h1:((l.flatMap E).map C.d).length=l.length*z:=by
  rw[qRg]
  induction l with
  | nil=>simp
  | cons x l ih=>rw[qRC,qQE,ih,hE,qQI,Nat.add_mul];omega
 have h2:((l.flatMap E).map C.d).all C.known=true:=by rw[List.all_map];exact qQO.2 fun x _=>rfl
 have h3:((l.flatMap E).map C.d).all (C.far 0)=true:=by rw[List.all_map];exact qQO.2 fun x _=>rfl
 by_cases hc:0≤i∧j=i+1∧i<(l.length:Int)
 ·rw[if_pos ⟨rfl,rfl,rfl,h1,h2,h3,hc⟩,if_pos hc]
  have hi:i.toNat<l.length:=by omega
  rw[←List.map_take,←List.map_drop,←List.map_append,qd6 hE l _ hi,List.length_eraseIdx,if_pos hi]
 ·rw[if_neg (fun h=>hc h.2.2.2.2.2.2),if_neg hc]
end
noncomputable section
open Go.RowKit
theorem qIg {g:FuncId} {s:Int→Int→Option Int} (h:∀x y,ev g 0 [.c (.d (.int .i64 x)),.c (.d (.int .i64 y))] []=(s x y).bind fun c=>some (.c (.d (.int .i64 c)),[])):cfO evo g=s:=by
 funext x y
 have h1:evo (.fn g) 0 [.c (.d (.int .i64 x)),.c (.d (.int .i64 y))] []=(s x y).bind fun c=>some (.c (.d (.int .i64 c)),[]):=h x y
 unfold cfO
 rw[h1]
 cases s x y<;>rfl
end
noncomputable section
open Go.RowKit
section
variable {α:Type} {E:α→List C} {n:Nat}
end
theorem qrk (f:C→C) (xs ys:List C):(xs++ys).map f=xs.map f++ys.map f:=List.map_append
end
noncomputable section
open Go.RowKit
def bx0:=JA_ @qxO (JA_ @qJf.eq_1 (JA_ @S.uwD.eq_1 (JA_ @S.tkD.eq_1 (JA_ @S.tkP.eq_1 (JA_ @S.tkP.eq_2 (JA_ @qHc.eq_2 (JA_ @tkL.eq_1 (JA_ @tkL.eq_2 (JA_ @S.frk.eq_1 (JA_ @qDc.eq_1 (JA_ @qnr.eq_1 (JA_ @qsd (JA_ @adL.eq_1 (JA_ @adS.eq_1 (JA_ @adI.eq_2 (@adP.eq_1))))))))))))))))
def bx1:=JA_ @qKu.eq_1 (JA_ @qHl.eq_1 (JA_ @uwR.eq_2 (JA_ @ldO.eq_1 (JA_ @ldT.eq_2 (JA_ @ldT.eq_11 (JA_ @ldP.eq_1 (JA_ @ldU.eq_1 (JA_ @stO.eq_1 (JA_ @qJt.eq_2 (JA_ @qtm.eq_1 (JA_ @S.fnB.eq_1 (JA_ @S.uwB.eq_1 (@Kd.isSl0.eq_1)))))))))))))
def bx3:=JA_ @C.noow.eq_2 (JA_ @S.strip.eq_1 (JA_ @q7a.eq_1 (JA_ @q7a.eq_2 (JA_ @qyb.eq_1 (JA_ @qyb.eq_2 (JA_ @R.isA.eq_1 (JA_ @R.isA.eq_2 (JA_ @qLo.eq_1 (JA_ @qEA.eq_1 (JA_ @qnA.eq_1 (JA_ @qmV.eq_1 (JA_ @S.ly.eq_1 (JA_ @S.ly.eq_2 (JA_ @alC.eq_1 (JA_ @alC.eq_2 (JA_ @alX.eq_1 (JA_ @alX.eq_2 (JA_ @qKT.eq_1 (JA_ @qyP.eq_1 (JA_ @qEQ.eq_1 (JA_ @ipX.eq_1 (@qFh.eq_1))))))))))))))))))))))
def bx4:=JA_ @qFh.eq_2 (JA_ @qH6.eq_1 (JA_ @qIf.eq_1 (JA_ @ipA.eq_1 (JA_ @ipS.eq_1 (JA_ @ipS.eq_2 (JA_ @ipF.eq_1 (JA_ @qBL.eq_1 (JA_ @qBL.eq_2 (JA_ @qEI.eq_1 (JA_ @qke.eq_1 (JA_ @qhU.eq_1 (JA_ @qrw.eq_1 (JA_ @qrw.eq_2 (JA_ @zmk.eq_1 (JA_ @zmk.eq_2 (JA_ @S.fin.eq_1 (JA_ @S.fn1.eq_1 (JA_ @S.inr.eq_1 (JA_ @prx.eq_1 (JA_ @APr.of_run (JA_ @pr0.eq_1 (JA_ @List.isEmpty_nil.{0} (JA_ @List.isEmpty_cons.{0} (JA_ @wbC.eq_1 (JA_ @wbC.eq_2 (JA_ @B.beq.eq_1 (JA_ @C.beqL.eq_1 (JA_ @C.beqL.eq_2 (@C.beq0.eq_1)))))))))))))))))))))))))))))
def bx5:=JA_ @D.beq.eq_1 (JA_ @D.beq.eq_4 (JA_ @D.beq_self (JA_ @qIt.eq_1 (JA_ @dzc.eq_2 (JA_ @dzc.eq_3 (JA_ @C.isNils.eq_2 (JA_ @qro (JA_ @List.any_append.{0} (JA_ @q4T.eq_1 (JA_ @qa2.eq_1 (JA_ @qa2.eq_2 (JA_ @qqZ.eq_1 (JA_ @fpA.eq_1 (JA_ @qkM.eq_1 (JA_ @S.kill.eq_1 (JA_ @qwZ.eq_1 (JA_ @qwZ.eq_2 (JA_ @qpy.eq_1 (JA_ @qA8.eq_1 (JA_ @okX.eq_1 (JA_ @okX.eq_2 (@okK.eq_1))))))))))))))))))))))
def bx6:=JA_ @okN.eq_1 (JA_ @okN.eq_2 (JA_ @qav.eq_1 (JA_ @qwR.eq_1 (JA_ @qwR.eq_2 (JA_ @qy4.eq_1 (JA_ @qy4.eq_2 (JA_ @q82.eq_1 (JA_ @qop.eq_1 (JA_ @q58.eq_1 (JA_ @qlY.eq_1 (JA_ @q8v.eq_1 (JA_ @q6a.eq_1 (JA_ @qdy.eq_1 (JA_ @qb1.eq_1 (JA_ @qb1.eq_2 (JA_ @cvT.eq_1 (JA_ @qh0.eq_1 (JA_ @qa6.eq_1 (JA_ @qCP.eq_1 (JA_ @qqi.eq_1 (JA_ @qqi.eq_2 (JA_ @S.rf.eq_1 (JA_ @S.rfx.eq_1 (JA_ @qyp.eq_1 (JA_ @rdB.eq_1 (JA_ @qm1.eq_1 (JA_ @qm1.eq_2 (JA_ @q9B.eq_1 (@qst)))))))))))))))))))))))))))))
def bx7:=JA_ @qr0 (JA_ @qqe (JA_ @qsI (JA_ @qwC (JA_ @qr4 (JA_ @qlB.eq_1 (JA_ @qmT.eq_1 (JA_ @D.key.eq_1 (JA_ @R.key.eq_1 (JA_ @plK.eq_1 (JA_ @zR.eq_1 (JA_ @tt2.eq_1 (JA_ @fnd.eq_1 (JA_ @fnd.eq_2 (JA_ @kq.eq_1 (JA_ @B.isOb.eq_2 (JA_ @AO.mapR.eq_1 (JA_ @AO.mapR.eq_2 (@AO.mapR.eq_4))))))))))))))))))
def bx8:=JA_ @AO.Rs.eq_1 (JA_ @AO.Rs.eq_2 (JA_ @AO.Rs.eq_4 (JA_ @R.refs0.eq_1 (JA_ @R.refs0.eq_2 (JA_ @R.refs0.eq_3 (JA_ @cvA.eq_2 (JA_ @qlj.eq_1 (JA_ @xgd.eq_1 (JA_ @xgF.eq_1 (JA_ @xo.eq_1 (JA_ @xo.eq_2 (JA_ @xo.eq_3 (JA_ @xo.eq_4 (JA_ @xo.eq_5 (JA_ @xo.eq_6 (JA_ @xo.eq_7 (JA_ @xo.eq_8 (JA_ @xo.eq_9 (JA_ @xo.eq_10 (JA_ @xo.eq_11 (JA_ @xo.eq_12 (JA_ @xo.eq_13 (JA_ @xo.eq_14 (JA_ @xo.eq_15 (JA_ @xo.eq_16 (JA_ @xo.eq_17 (JA_ @xo.eq_19 (JA_ @xo.eq_20 (JA_ @xo.eq_21 (JA_ @xo.eq_22 (JA_ @xo.eq_23 (@xo.eq_24))))))))))))))))))))))))))))))))
def bx9:=JA_ @xo.eq_25 (JA_ @xo.eq_26 (JA_ @xo.eq_29 (JA_ @xo.eq_31 (JA_ @xCl.eq_1 (JA_ @pre.eq_1 (JA_ @pre.eq_2 (JA_ @pre.eq_3 (JA_ @qbF.eq_1 (JA_ @q3R.eq_1 (JA_ @qb3.eq_1 (JA_ @qjO.eq_1 (JA_ @qhp.eq_1 (JA_ @q5T.eq_1 (JA_ @q4Q.eq_2 (JA_ @q4Q.eq_3 (JA_ @qGX.eq_1 (JA_ @qng.eq_1 (JA_ @qng.eq_2 (JA_ @cvR.eq_1 (JA_ @cvR.eq_2 (JA_ @cvR.eq_3 (JA_ @cvL.eq_1 (JA_ @cvL.eq_2 (JA_ @qq6.eq_1 (JA_ @qq6.eq_2 (JA_ @cv.eq_1 (JA_ @cv.eq_2 (JA_ @cv0.eq_1 (@cv0.eq_5)))))))))))))))))))))))))))))
def qOC:=JA_ @cv0.eq_9 (JA_ @cv0.eq_10 (JA_ @cv0.eq_11 (JA_ @cvG.eq_1 (JA_ @cvG.eq_2 (JA_ @cvB.eq_1 (JA_ @cvB.eq_2 (JA_ @cvB.eq_3 (JA_ @vis.eq_1 (JA_ @qac.eq_1 (JA_ @qac.eq_2 (JA_ @q5J (JA_ @quX.eq_1 (JA_ @pos.eq_1 (JA_ @pos.eq_2 (JA_ @qrS.eq_1 (JA_ @qem.eq_1 (JA_ @qid.eq_1 (JA_ @qFC.eq_1 (JA_ @q5c.eq_1 (JA_ @q4x.eq_1 (JA_ @q6K.eq_1 (JA_ @qaS.eq_1 (JA_ @q6j.eq_1 (JA_ @qeS.eq_1 (JA_ @qeS.eq_2 (JA_ @qeS.eq_3 (JA_ @qeS.eq_4 (JA_ @qeS.eq_5 (JA_ @qeS.eq_6 (@qeS.eq_9))))))))))))))))))))))))))))))
def qOB:=JA_ @qeS.eq_10 (JA_ @qeS.eq_11 (JA_ @qeS.eq_12 (JA_ @qeS.eq_13 (JA_ @qeS.eq_14 (JA_ @qeS.eq_15 (JA_ @qeS.eq_16 (JA_ @qeS.eq_17 (JA_ @qyd.eq_3 (JA_ @qyd.eq_4 (JA_ @qyd.eq_6 (JA_ @qEu.eq_1 (JA_ @qEu.eq_2 (JA_ @qFv.eq_1 (JA_ @qF3.eq_1 (JA_ @qF9.eq_1 (JA_ @qFE.eq_1 (JA_ @qF2.eq_1 (JA_ @qqQ.eq_1 (JA_ @qix.eq_1 (JA_ @qk3.eq_1 (JA_ @q1Y.eq_1 (JA_ @q8E.eq_1 (@qh1.eq_1)))))))))))))))))))))))
def qMP:=JA_ @q7n.eq_1 (JA_ @Kd.isSl.eq_1 (JA_ @nrm.eq_1 (JA_ @qu9.eq_1 (JA_ @qJ3.eq_1 (JA_ @rng.eq_1 (JA_ @rng.eq_2 (JA_ @rwAll.eq_1 (JA_ @rwAll.eq_2 (JA_ @rw1.eq_1 (JA_ @rw1.eq_2 (JA_ @cn.eq_1 (JA_ @cn.eq_2 (JA_ @cn0.eq_1 (JA_ @cn0.eq_2 (JA_ @cn0.eq_3 (JA_ @cn0.eq_5 (JA_ @cnR.eq_2 (JA_ @qoF.eq_1 (JA_ @qoF.eq_2 (JA_ @qoF.eq_3 (JA_ @cnB.eq_1 (JA_ @cnB.eq_2 (JA_ @cnB.eq_3 (JA_ @cnH.eq_1 (JA_ @cnH.eq_2 (JA_ @qBI (JA_ @zt.eq_1 (JA_ @zt.eq_2 (@zt.eq_3)))))))))))))))))))))))))))))
def qME:=JA_ @qy3.eq_1 (JA_ @qkC.eq_1 (JA_ @qcp.eq_1 (JA_ @ql4.eq_1 (JA_ @qcs.eq_1 (JA_ @qhM.eq_1 (JA_ @qcv.eq_1 (JA_ @qcv.eq_2 (JA_ @S.frz.eq_1 (JA_ @S.frz.eq_2 (JA_ @S.frz1.eq_1 (JA_ @fz.eq_1 (JA_ @fz.eq_2 (JA_ @fz0.eq_1 (JA_ @fz0.eq_2 (JA_ @fz0.eq_3 (JA_ @fz0.eq_5 (JA_ @fzR.eq_1 (JA_ @fzR.eq_2 (JA_ @qq5.eq_1 (JA_ @qq5.eq_2 (JA_ @qq5.eq_3 (JA_ @fzB.eq_1 (JA_ @fzB.eq_2 (JA_ @fzB.eq_3 (JA_ @fzB.eq_4 (JA_ @qD1 (JA_ @dz.eq_1 (JA_ @dz.eq_2 (JA_ @dzL.eq_1 (JA_ @dzL.eq_2 (JA_ @dzR.eq_1 (JA_ @dzR.eq_2 (JA_ @qkT.eq_1 (JA_ @qkT.eq_2 (@one.eq_1)))))))))))))))))))))))))))))))))))
def qOb:=JA_ @one.eq_2 (JA_ @rvs.eq_1 (JA_ @rvs.eq_2 (JA_ @qxl.eq_1 (JA_ @qxl.eq_2 (JA_ @tt.eq_1 (JA_ @ff.eq_1 (JA_ @qaN.eq_1 (JA_ @qaN.eq_2 (JA_ @C.ref0.eq_1 (JA_ @C.ref0.eq_2 (JA_ @C.ref0.eq_3 (JA_ @C.ref0.eq_4 (JA_ @C.refs.eq_1 (JA_ @C.refs.eq_2 (JA_ @B.refs.eq_1 (JA_ @B.refs.eq_2 (JA_ @B.refs.eq_3 (JA_ @B.refs.eq_4 (JA_ @R.refs.eq_1 (JA_ @R.refs.eq_2 (JA_ @R.refs.eq_4 (JA_ @C.rows0.eq_1 (JA_ @C.rows0.eq_2 (JA_ @C.rows.eq_1 (JA_ @C.rows.eq_2 (JA_ @R.rows.eq_1 (JA_ @R.rows.eq_2 (JA_ @R.rows.eq_3 (JA_ @C.ptrs0.eq_1 (JA_ @C.ptrs0.eq_2 (JA_ @C.ptrs0.eq_3 (JA_ @C.ptrs.eq_1 (JA_ @C.ptrs.eq_2 (JA_ @R.ptrs.eq_1 (JA_ @R.ptrs.eq_2 (JA_ @R.ptrs.eq_3 (JA_ @B.isBlk.eq_1 (@B.isBlk.eq_2))))))))))))))))))))))))))))))))))))))
def qMy:=JA_ @B.isBlk.eq_3 (JA_ @R.scl.eq_1 (JA_ @R.scl.eq_2 (JA_ @R.scl0.eq_1 (JA_ @R.scl0.eq_2 (JA_ @R.scl0.eq_3 (JA_ @C.scl.eq_1 (JA_ @C.scl.eq_2 (JA_ @C.scl0.eq_1 (JA_ @C.scl0.eq_5 (JA_ @B.scl.eq_1 (JA_ @B.scl.eq_2 (JA_ @B.scl.eq_3 (JA_ @C.dat.eq_1 (JA_ @C.dat.eq_2 (JA_ @C.dat0.eq_1 (JA_ @C.dat0.eq_9 (JA_ @ren.eq_1 (JA_ @R.rn.eq_1 (JA_ @R.rn.eq_2 (JA_ @R.rn0.eq_1 (JA_ @R.rn0.eq_2 (JA_ @R.rn0.eq_3 (JA_ @C.rn.eq_1 (JA_ @C.rn.eq_2 (JA_ @C.rn0.eq_1 (JA_ @C.rn0.eq_2 (@C.rn0.eq_3)))))))))))))))))))))))))))
def qOT:=JA_ @C.rn0.eq_6 (JA_ @B.rn.eq_1 (JA_ @B.rn.eq_2 (JA_ @B.rn.eq_3 (JA_ @qDJ (JA_ @S.aft.eq_1 (JA_ @S.fgL.eq_1 (JA_ @S.fgL.eq_2 (JA_ @C.fgL.eq_1 (JA_ @C.fgL.eq_2 (JA_ @C.fgL.eq_3 (JA_ @C.fgL.eq_4 (JA_ @C.fgL.eq_5 (JA_ @R.fgL.eq_1 (JA_ @R.fgL.eq_2 (JA_ @R.fgL.eq_3 (JA_ @R.fgL.eq_4 (JA_ @B.fgL.eq_1 (JA_ @B.fgL.eq_2 (JA_ @B.fgL.eq_3 (JA_ @B.fgL.eq_4 (JA_ @C.farL.eq_1 (JA_ @C.farL.eq_3 (JA_ @C.farL.eq_5 (JA_ @R.farL.eq_1 (JA_ @R.farL.eq_2 (JA_ @R.farL.eq_3 (JA_ @R.farL.eq_4 (JA_ @B.farL.eq_1 (JA_ @B.farL.eq_2 (JA_ @B.farL.eq_3 (JA_ @qyc.eq_1 (JA_ @qyc.eq_2 (JA_ @qyc.eq_3 (@qnm.eq_1))))))))))))))))))))))))))))))))))
def qOH:=JA_ @qnm.eq_2 (JA_ @qhh.eq_1 (JA_ @qhh.eq_2 (JA_ @S.ev.eq_1 (JA_ @S.ev.eq_2 (JA_ @S.ev.eq_3 (JA_ @S.get.eq_1 (JA_ @S.blk.eq_1 (JA_ @S.put.eq_1 (JA_ @S.put.eq_2 (JA_ @S.up.eq_1 (JA_ @S.bd.eq_1 (JA_ @S.bd.eq_2 (JA_ @S.seq.eq_1 (JA_ @S.cell1.eq_1 (JA_ @lk.eq_1 (JA_ @lk.eq_2 (JA_ @q1n.eq_1 (JA_ @q1n.eq_2 (JA_ @q1n.eq_3 (JA_ @q1n.eq_5 (JA_ @q1n.eq_6 (JA_ @q1n.eq_7 (JA_ @q43.eq_1 (JA_ @q43.eq_2 (JA_ @qwE (JA_ @ldx.eq_1 (JA_ @bld.eq_1 (JA_ @bld.eq_2 (JA_ @spl.eq_1 (JA_ @spl.eq_2 (JA_ @q27.eq_1 (JA_ @Ty.foff.eq_1 (JA_ @R.cells.eq_1 (JA_ @R.cells.eq_2 (@R.parts.eq_1)))))))))))))))))))))))))))))))))))
def qOy:=JA_ @R.parts.eq_2 (JA_ @B.cells.eq_1 (JA_ @B.cells.eq_2 (JA_ @B.live.eq_1 (JA_ @B.live.eq_2 (JA_ @C.known.eq_3 (JA_ @C.far.eq_1 (JA_ @C.far.eq_5 (JA_ @S.fg.eq_1 (JA_ @R.fg.eq_1 (JA_ @R.fg.eq_2 (JA_ @R.fg.eq_3 (JA_ @R.fg.eq_4 (JA_ @B.fg.eq_1 (JA_ @B.fg.eq_2 (JA_ @B.fg.eq_3 (JA_ @B.fg.eq_4 (JA_ @C.fg.eq_1 (JA_ @C.fg.eq_2 (JA_ @C.fg.eq_3 (JA_ @C.fg.eq_4 (JA_ @C.fg.eq_5 (JA_ @D1.eq_1 (JA_ @q48.eq_1 (JA_ @q48.eq_2 (JA_ @q48.eq_3 (JA_ @q48.eq_4 (JA_ @q48.eq_6 (JA_ @q48.eq_7 (JA_ @q48.eq_8 (@q48.eq_9))))))))))))))))))))))))))))))
def qMh:=JA_ @q48.eq_10 (JA_ @q48.eq_12 (JA_ @q48.eq_13 (JA_ @q48.eq_14 (JA_ @q48.eq_15 (JA_ @q48.eq_17 (JA_ @q48.eq_19 (JA_ @q48.eq_23 (JA_ @q48.eq_24 (JA_ @qlk.eq_1 (JA_ @qlk.eq_2 (JA_ @qlk.eq_5 (JA_ @qlk.eq_6 (JA_ @qbQ.eq_3 (JA_ @qbQ.eq_5 (JA_ @qbQ.eq_6 (JA_ @qpS.eq_1 (JA_ @qpS.eq_3 (JA_ @qpS.eq_4 (JA_ @qpS.eq_5 (JA_ @fpC.eq_1 (JA_ @qA1.eq_1 (JA_ @qCH.eq_1 (JA_ @qFi.eq_1 (JA_ @C.lt0.eq_3 (@C.lt0.eq_4)))))))))))))))))))))))))
def qPt:=JA_ @C.ltn.eq_2 (JA_ @R.lt0.eq_1 (JA_ @R.lt0.eq_2 (JA_ @R.ltn.eq_1 (JA_ @R.ltn.eq_2 (JA_ @B.ltn.eq_1 (JA_ @B.ltn.eq_2 (JA_ @q6l.eq_1 (JA_ @Fp.none?.eq_1 (JA_ @okP.eq_1 (JA_ @okP.eq_2 (JA_ @qqc (JA_ @qqh (JA_ @quZ (JA_ @qqT (JA_ @qr3 (JA_ @qqk (JA_ @quP (JA_ @qs7 (JA_ @qsW (JA_ @qt1 (JA_ @qkk (JA_ @qv5 (JA_ @qqA (JA_ @qqm (JA_ @qvm (JA_ @qsS (JA_ @qrb (JA_ @qsu (JA_ @qxP (JA_ @qsV (JA_ @qrl (JA_ @qqs (@qvH)))))))))))))))))))))))))))))))))
def qOr:=JA_ @qt5 (JA_ @qvd (JA_ @qmG (JA_ @qwI (JA_ @qsD (JA_ @quU (JA_ @qsE (JA_ @qAy (JA_ @qvn (JA_ @C.farF.eq_1 (JA_ @C.farF.eq_2 (JA_ @Op.operands.eq_1 (JA_ @Op.operands.eq_4 (JA_ @Op.operands.eq_5 (JA_ @Op.operands.eq_7 (JA_ @Op.operands.eq_8 (JA_ @Op.operands.eq_10 (JA_ @Op.operands.eq_14 (JA_ @Op.operands.eq_20 (JA_ @Op.operands.eq_23 (JA_ @Op.operands.eq_24 (@Op.operands.eq_25)))))))))))))))))))))
def qNP:=JA_ @Op.operands.eq_26 (JA_ @Op.operands.eq_27 (JA_ @Op.operands.eq_29 (JA_ @Op.operands.eq_34 (JA_ @Op.operands.eq_36 (JA_ @Op.operands.eq_40 (JA_ @qAj (JA_ @qDp (JA_ @Option.isNone_none.{0} (JA_ @Option.isNone_some.{0} (JA_ @qDZ.eq_1 (JA_ @qDZ.eq_2 (JA_ @Option.toList_some.{0} (JA_ @Option.toList_none.{0} (JA_ @List.all_append.{0} (JA_ @List.getElem?_nil.{0} (JA_ @List.drop_zero.{0} (JA_ @wi (JA_ @Int.cast_ofNat_Int (JA_ @Int.le_refl (JA_ @qQN (JA_ @Option.bind_assoc.{0,0,0} (JA_ @List.any_nil.{0} (JA_ @List.any_cons.{0} (JA_ @List.getD_cons_zero.{0} (JA_ @List.getD_cons_succ.{0} (JA_ @true_and (@and_true)))))))))))))))))))))))))))
def qOq:=JA_ @and_false (JA_ @qRn.{0} (JA_ @Prod.mk.injEq.{0,0} (JA_ @qQx.{0,0} (JA_ @Option.bind_none.{0,0} (JA_ @Option.map_some.{0,0} (JA_ @Option.map_none.{0,0} (JA_ @Option.getD_some.{0} (JA_ @Option.getD_none.{0} (JA_ @ne_eq.{1} (JA_ @not_false_eq_true (JA_ @or_true (JA_ @or_false (JA_ @Bool.false_eq_true (JA_ @qQU.{0,0} (JA_ @List.map_nil.{0,0} (JA_ @List.all_cons.{0} (JA_ @List.all_nil.{0} (JA_ @qRz (JA_ @qR4 (JA_ @Bool.and_false (JA_ @qRA (JA_ @qR3 (JA_ @Bool.or_true (JA_ @Bool.true_or (JA_ @Bool.or_false (JA_ @Bool.false_or (JA_ @qQI.{0} (JA_ @qRh.{0} (JA_ @qRg.{0,0} (JA_ @qQH.{0} (JA_ @qQW.{0} (JA_ @qRB.{0,0} (JA_ @List.foldl_nil.{0,0} (JA_ @qRD.{0} (@qQR.{0})))))))))))))))))))))))))))))))))))
def qPM:=JA_ @qQS.{0} (JA_ @Nat.max_def (JA_ @decide_true (JA_ @decide_false (JA_ @decide_not (JA_ @qRx (JA_ @qQX (JA_ @Nat.zero_mul (JA_ @Nat.mul_one (JA_ @Nat.one_mul (JA_ @Nat.add_zero (JA_ @qQV (JA_ @qQA (JA_ @List.mapM_cons.{0,0,0} (JA_ @List.mapM_nil.{0,0,0} (JA_ @List.drop_succ_cons.{0} (JA_ @List.drop_nil.{0} (JA_ @List.take_succ_cons.{0} (JA_ @List.take_zero.{0} (JA_ @List.replicate_succ.{0} (JA_ @List.replicate_zero.{0} (JA_ @List.set_cons_zero.{0} (JA_ @List.set_cons_succ.{0} (JA_ @and_self (JA_ @Bool.not_true (JA_ @Bool.not_false (JA_ @List.contains_cons.{0} (JA_ @List.contains_nil.{0} (JA_ @qRC.{0,0} (JA_ @List.flatMap_nil.{0,0} (JA_ @List.filter_cons.{0} (JA_ @List.filter_nil.{0} (JA_ @List.eraseDups_cons.{0} (JA_ @List.eraseDups_nil.{0} (JA_ @List.nodup_cons.{0} (JA_ @List.nodup_nil.{0} (JA_ @qQT.{0} (JA_ @List.not_mem_nil.{0} (JA_ @List.headD_cons.{0} (@List.headD_nil.{0})))))))))))))))))))))))))))))))))))))))
def qNp:=JA_ @List.tail_cons.{0} (JA_ @List.tail_nil.{0} (JA_ @beq_self_eq_true.{0} (JA_ @q0O (JA_ @List.range_succ (JA_ @List.range_zero (JA_ @ite_self.{1} (JA_ @qrk (JA_ @qrM (JA_ @qx3 (JA_ @quq (JA_ @qrZ (JA_ @qvW (JA_ @frA.eq_1 (JA_ @R.dat.eq_1 (JA_ @R.dat.eq_2 (JA_ @qxI (JA_ @qw7 (JA_ @qzp (JA_ @qx0 (JA_ @qEg (JA_ @qum (JA_ @qwD (@qDG)))))))))))))))))))))))
def qNH:=JA_ @qsM (JA_ @qfz (JA_ @qqg (JA_ @mpo.eq_2 (JA_ @qzZ (JA_ @qIq (JA_ @ql6 (JA_ @qym (JA_ @mup.eq_1 (JA_ @qvY (JA_ @qqG (JA_ @qCh (JA_ @qxQ (JA_ @qE5 (JA_ @qrO (JA_ @qw2 (JA_ @qlJ (JA_ @qwi (JA_ @qr2 (JA_ @quH (@qqD))))))))))))))))))))
def qNe:=JA_ @q2I.eq_1 (JA_ @q2I.eq_2 (JA_ @quk.eq_2 (JA_ @hdG.eq_1 (JA_ @qA4.eq_1 (JA_ @qA4.eq_2 (JA_ @qmo (@xrg.eq_1)))))))
def qPG:=JA_ @qkQ (JA_ @qwr (JA_ @qsU (JA_ @qqJ (JA_ @qvt (JA_ @qrh (JA_ @qwm (JA_ @qs4 (JA_ @qkh (JA_ @quM (JA_ @qs5 (JA_ @qsF (JA_ @qvp (JA_ @qrE (JA_ @qwx (JA_ @qqx (JA_ @qwK (JA_ @qur (JA_ @qrG (JA_ @qvS (JA_ @qNo (JA_ @qMX (JA_ @qJ2 (@qH4)))))))))))))))))))))))
def qPo:=JA_ @qGR (JA_ @qBb (JA_ @qEv (JA_ @qD9 (JA_ @qGl (JA_ @qDx (JA_ @qHX (JA_ @qys (JA_ @qAR (JA_ @qv4 (JA_ @qwQ (JA_ @qzi (JA_ @qwU (JA_ @qDX (JA_ @qwM (JA_ @qM2 (JA_ @qks (JA_ @qsT (JA_ @qxS (JA_ @qzS (JA_ @qCF (JA_ @qxH (JA_ @qwF (JA_ @Sum.elim_inl.{0,1,0} (JA_ @Sum.elim_inr.{0,1,0} (JA_ @qgX (JA_ @qn8 (JA_ @qme (@qy1.eq_1))))))))))))))))))))))))))))
def qO3:=JA_ @qpo (JA_ @qw1 (JA_ @qFG (JA_ @qwh (JA_ @qwt (JA_ @qxB (JA_ @qvU (JA_ @qhK (JA_ @qft (JA_ @qDN (JA_ @qK8.eq_1 (JA_ @qQE.{0} (JA_ @qRj.{0} (JA_ @qRf.{0} (JA_ @ql7 (JA_ @lkq.eq_1 (JA_ @lkq.eq_2 (JA_ @qv9 (JA_ @qoP (JA_ @qt0 (JA_ @List.take_nil.{0} (JA_ @List.flatten_nil.{0} (@qm4))))))))))))))))))))))
def qOY:=JA_ @q5E (JA_ @qeO (JA_ @q8R (@qAo)))
theorem qMQ (a0 a1 a2:Int) (i:Nat):([C.d (D.int .i64 a0),C.d (D.int .i64 a1),C.d (D.int .i64 a2)]:List C)[i]?=([a0,a1,a2][i]?).bind fun x=>some (C.d (D.int .i64 x)):=by rw[show([C.d (D.int .i64 a0),C.d (D.int .i64 a1),C.d (D.int .i64 a2)]:List C)=[a0,a1,a2].map (fun x=>C.d (D.int .i64 x)) from rfl,qQL];cases([a0,a1,a2]:List Int)[i]? <;> rfl
theorem qMk (a0 a1 a2 a3:Int) (i:Nat):([C.d (D.int .i64 a0),C.d (D.int .i64 a1),C.d (D.int .i64 a2),C.d (D.int .i64 a3)]:List C)[i]?=([a0,a1,a2,a3][i]?).bind fun x=>some (C.d (D.int .i64 x)):=by rw[show([C.d (D.int .i64 a0),C.d (D.int .i64 a1),C.d (D.int .i64 a2),C.d (D.int .i64 a3)]:List C)=[a0,a1,a2,a3].map (fun x=>C.d (D.int .i64 x)) from rfl,qQL];cases([a0,a1,a2,a3]:List Int)[i]? <;> rfl
theorem qOP (a0 a1 a2 a3 a4:Int) (i:Nat):([C.d (D.int .i64 a0),C.d (D.int .i64 a1),C.d (D.int .i64 a2),C.d (D.int .i64 a3),C.d (D.int .i64 a4)]:List C)[i]?=([a0,a1,a2,a3,a4][i]?).bind fun x=>some (C.d (D.int .i64 x)):=by rw[show([C.d (D.int .i64 a0),C.d (D.int .i64 a1),C.d (D.int .i64 a2),C.d (D.int .i64 a3),C.d (D.int .i64 a4)]:List C)=[a0,a1,a2,a3,a4].map (fun x=>C.d (D.int .i64 x)) from rfl,qQL];cases([a0,a1,a2,a3,a4]:List Int)[i]? <;> rfl
theorem qMf (a0 a1 a2 a3 a4 a5:Int) (i:Nat):([C.d (D.int .i64 a0),C.d (D.int .i64 a1),C.d (D.int .i64 a2),C.d (D.int .i64 a3),C.d (D.int .i64 a4),C.d (D.int .i64 a5)]:List C)[i]?=([a0,a1,a2,a3,a4,a5][i]?).bind fun x=>some (C.d (D.int .i64 x)):=by rw[show([C.d (D.int .i64 a0),C.d (D.int .i64 a1),C.d (D.int .i64 a2),C.d (D.int .i64 a3),C.d (D.int .i64 a4),C.d (D.int .i64 a5)]:List C)=[a0,a1,a2,a3,a4,a5].map (fun x=>C.d (D.int .i64 x)) from rfl,qQL];cases([a0,a1,a2,a3,a4,a5]:List Int)[i]? <;> rfl
theorem qNR (a0 a1 a2:ByteArray) (i:Nat):([C.d (D.str a0),C.d (D.str a1),C.d (D.str a2)]:List C)[i]?=([a0,a1,a2][i]?).bind fun x=>some (C.d (D.str x)):=by rw[show([C.d (D.str a0),C.d (D.str a1),C.d (D.str a2)]:List C)=[a0,a1,a2].map (fun x=>C.d (D.str x)) from rfl,qQL];cases([a0,a1,a2]:List ByteArray)[i]? <;> rfl
theorem qOa (a0 a1 a2 a3:ByteArray) (i:Nat):([C.d (D.str a0),C.d (D.str a1),C.d (D.str a2),C.d (D.str a3)]:List C)[i]?=([a0,a1,a2,a3][i]?).bind fun x=>some (C.d (D.str x)):=by rw[show([C.d (D.str a0),C.d (D.str a1),C.d (D.str a2),C.d (D.str a3)]:List C)=[a0,a1,a2,a3].map (fun x=>C.d (D.str x)) from rfl,qQL];cases([a0,a1,a2,a3]:List ByteArray)[i]? <;> rfl
theorem qHd {α:Type} (l:List α) (j:Nat):List.take (l.length-j) (List.drop j l)=List.drop j l:=by rw[qRF];rw[qRk];exact qQN _
theorem qun (l:List Int):(l.length=(q2W l).length)=True:=eq_true (q5O l).symm
theorem quE (f:Int→Int→Option Int) (l:List Int):((q0v f l).length=l.length)=True:=eq_true (q4l f l)
theorem qvz (f:Int→Int→Option Int) (l:List Int):D.sl 1 l.length ((q0v f l).flatMap eI)=D.sl 1 (q0v f l).length ((q0v f l).flatMap eI):=by rw[q4l]
def bz0:=JA_ @qMQ (JA_ @qMk (JA_ @qOP (JA_ @qMf (JA_ @qNR (@qOa)))))
def bz1:=@qHd
def bz5:=JA_ @qun (JA_ @quE (@qvz))
end
noncomputable section
open Go.RowKit
structure q0u (α:Type) where
 a0:α
 a1:α
def eA2 {α:Type} (E:α→List D) (x:q0u α):List D:=E x.a0++E x.a1
theorem qv2 {α:Type} (x:q0u α):q0u.mk x.a0 x.a1=x:=rfl
structure qty (α:Type) where
 a0:α
 a1:α
 a2:α
structure q0i where
 Has:List (List Int)
 Odd:q0u (qty Int)
 Programme:List Int
 Day:Int
structure qe where
 School:Int
 Code:ByteArray
def qf (x:qe):List D:=[D.int .i64 x.School,D.str x.Code]
theorem q0E (x:qe):qf x=[D.int .i64 x.School,D.str x.Code]:=rfl
theorem q5e (x:qe):(qf x).length=2:=rfl
theorem qaj (x:qe):qe.mk x.School x.Code=x:=rfl
structure qa where
 Course:qe
 Credits:Int
 Grade:Int
 Day:Int
 Sources:List Int
 Bundle:Int
 Path:List Int
def qc (x:qa):List D:=[D.int .i64 x.Course.School,D.str x.Course.Code,D.int .i64 x.Credits,D.int .i64 x.Grade,D.int .i64 x.Day,D.sl 1 x.Sources.length (x.Sources.flatMap eI),D.int .i64 x.Bundle,D.sl 1 x.Path.length (x.Path.flatMap eI)]
theorem Zj (x:qa):qc x=[D.int .i64 x.Course.School,D.str x.Course.Code,D.int .i64 x.Credits,D.int .i64 x.Grade,D.int .i64 x.Day,D.sl 1 x.Sources.length (x.Sources.flatMap eI),D.int .i64 x.Bundle,D.sl 1 x.Path.length (x.Path.flatMap eI)]:=rfl
theorem q2u (x:qa):(qc x).length=8:=rfl
theorem q6o (x:qa):qa.mk x.Course x.Credits x.Grade x.Day x.Sources x.Bundle x.Path=x:=rfl
structure qb where
 Kind:Int
 N:Int
 Min:Int
 Set:List qe
 L:List qb
mutual
def qh:qb→List D
 | ⟨a0,a1,a2,a3,a4⟩=>[D.int .i64 a0,D.int .i64 a1,D.int .i64 a2,D.sl 2 a3.length (a3.flatMap qf),D.sl 5 a4.length (ZX a4)]
def ZX:List qb→List D
 | []=>[]
 | x::l=>qh x++ZX l
end
theorem q5g:∀l:List qb,ZX l=l.flatMap qh
 | []=>rfl
 | x::l=>by rw[qRC,←q5g l,ZX]
theorem q1I (x:qb):qh x=[D.int .i64 x.Kind,D.int .i64 x.N,D.int .i64 x.Min,D.sl 2 x.Set.length (x.Set.flatMap qf),D.sl 5 x.L.length (x.L.flatMap qh)]:=by cases x;rw[qh,q5g]
theorem q1d (x:qb):(qh x).length=5:=by rw[q1I];rfl
theorem qct (x:qb):qb.mk x.Kind x.N x.Min x.Set x.L=x:=by cases x;rfl
structure qg where
 School:Int
 Id:Int
 Version:Int
 From:Int
 Name:ByteArray
 Need:qb
 Total:Int
 Own:Int
 Age:Int
 Exclude:List (q0u qe)
theorem q7l (x:qg):qg.mk x.School x.Id x.Version x.From x.Name x.Need x.Total x.Own x.Age x.Exclude=x:=rfl
structure qd where
 Worst:Int
 Best:Int
 Pass:Int
theorem qc4 (x:qd):qd.mk x.Worst x.Best x.Pass=x:=rfl
structure ZS where
 Taken:List Int
 Leaf:List Int
structure qi where
 L:List Int
 At:Int
theorem qae (x:qi):qi.mk x.L x.At=x:=rfl
structure qV where
 many:Int
 credits:Int
 fine:Bool
theorem qcx (x:qV):qV.mk x.many x.credits x.fine=x:=rfl
theorem qo8:∀x:(List Int),((eL 1 eI) x).length=1:=fun _=>rfl
theorem qkF (v:List (List Int)) (i:Nat):ld T ((v.flatMap (eL 1 eI)).map C.d) (i) 25=(v[i]?).bind fun x=>some (.c (.d (D.sl 1 x.length (x.flatMap eI)))):=by rw[q8I qo8 v i _ (by decide)];cases v[i]? with|none=>rfl|some x=>rfl
theorem qbm:∀x:Int,(eI x).length=1:=fun _=>rfl
theorem qGZ (v:List Int):(v.flatMap eI).length=v.length:=by rw[q4W qbm,Nat.mul_one]
theorem qsg (v:List Int) (i:Nat):ld T ((v.flatMap eI).map C.d) (i) 3=(v[i]?).bind fun x=>some (.c (.d (D.int .i64 x))):=by rw[q8I qbm v i _ (by decide)];cases v[i]? with|none=>rfl|some x=>rfl
theorem qGe (v:List Int) (a:Int):(v.flatMap eI).map C.d++[C.d (D.int .i64 a)]=((v++[a]).flatMap eI).map C.d:=by have h:=qdC (E:=eI) v a;exact h
theorem qB3 (v:List Int) (i:Nat) (a:Int):spr ((v.flatMap eI).map C.d) (i) [C.d (D.int .i64 a)]=((v.set i a).flatMap eI).map C.d:=by have h:=qbt qbm v i a;rw[Nat.mul_one] at h;exact h
theorem qHZ (v:List Int) (a:Nat):(v.flatMap eI).take (a)=(v.take a).flatMap eI:=by have h:=qdJ qbm v a;rwa [Nat.mul_one] at h
theorem qz0 (v:List Int) (a:Nat):((v.flatMap eI).map C.d).take (a)=((v.take a).flatMap eI).map C.d:=by rw[←List.map_take,qHZ]
theorem qxm (s:S) (v:List Int) (lo hi:Option Operand):xsl T s 25 (.c (.d (.sl 1 v.length (v.flatMap eI)))) lo hi=qy1 s eI 1 v (s.bd lo 0) (s.bd hi v.length):=qls qbm v lo hi (by rfl) (by rfl) (by decide)
theorem qz3 (m:Nat):(List.replicate m [C.d (D.int .i64 0)]).flatten=((List.replicate m 0).flatMap eI).map C.d:=qpv (E:=eI) 0 (by rfl) m
theorem q7g:∀x:qa,(qc x).length=8:=q2u
theorem qAp (v:List qa):(v.flatMap qc).length=v.length*8:=by rw[q4W q7g]
theorem qlb (v:List qa) (i:Nat):ld T ((v.flatMap qc).map C.d) (i*8) 54=(v[i]?).bind fun x=>some (.agg [.d (D.int .i64 x.Course.School),.d (D.str x.Course.Code),.d (D.int .i64 x.Credits),.d (D.int .i64 x.Grade),.d (D.int .i64 x.Day),.d (D.sl 1 x.Sources.length (x.Sources.flatMap eI)),.d (D.int .i64 x.Bundle),.d (D.sl 1 x.Path.length (x.Path.flatMap eI))]):=by rw[qaK q7g v i _ (by decide) (by decide)];cases v[i]? with|none=>rfl|some x=>rw[qQx,qQx,Zj];rfl
theorem qky (v:List qa) (i:Nat):ld T ((v.flatMap qc).map C.d) (i*8+5) 25=(v[i]?).bind fun x=>some (.c (.d (D.sl 1 x.Sources.length (x.Sources.flatMap eI)))):=by rw[qhr q7g v i 5 _ (by decide) (by decide)];cases v[i]? with|none=>rfl|some x=>rw[qQx,qQx,Zj];rfl
theorem qBS (v:List qa) (qy:Int) (qD:ByteArray) (zG:Int) (QS:Int) (q1e:Int) (zB:List Int) (Qc:Int) (ZO:List Int):(v.flatMap qc).map C.d++[C.d (D.int .i64 qy),C.d (D.str qD),C.d (D.int .i64 zG),C.d (D.int .i64 QS),C.d (D.int .i64 q1e),C.d (D.sl 1 zB.length (zB.flatMap eI)),C.d (D.int .i64 Qc),C.d (D.sl 1 ZO.length (ZO.flatMap eI))]=((v++[(qa.mk (qe.mk qy qD) zG QS q1e zB Qc ZO)]).flatMap qc).map C.d:=by have h:=qdC (E:=qc) v (qa.mk (qe.mk qy qD) zG QS q1e zB Qc ZO);rw[Zj] at h;exact h
theorem qvf (v:List qa) (i:Nat) (qy:Int) (qD:ByteArray) (zG:Int) (QS:Int) (q1e:Int) (zB:List Int) (Qc:Int) (ZO:List Int):spr ((v.flatMap qc).map C.d) (i*8) [C.d (D.int .i64 qy),C.d (D.str qD),C.d (D.int .i64 zG),C.d (D.int .i64 QS),C.d (D.int .i64 q1e),C.d (D.sl 1 zB.length (zB.flatMap eI)),C.d (D.int .i64 Qc),C.d (D.sl 1 ZO.length (ZO.flatMap eI))]=((v.set i (qa.mk (qe.mk qy qD) zG QS q1e zB Qc ZO)).flatMap qc).map C.d:=by have h:=qbt q7g v i (qa.mk (qe.mk qy qD) zG QS q1e zB Qc ZO);rw[Zj] at h;exact h
theorem qzm (v:List qa) (ys:List C):dzc [0,0,0,0,0,1,0,1] [] ((v.flatMap qc).map C.d++ys)=(v.flatMap qc).map C.d++dzc [0,0,0,0,0,1,0,1] [] ys:=qu4 q7g [0,0,0,0,0,1,0,1] rfl v ys
theorem qqR (s:S) (v:List qa) (lo hi:Option Operand):xsl T s 30 (.c (.d (.sl 8 v.length (v.flatMap qc)))) lo hi=qy1 s qc 8 v (s.bd lo 0) (s.bd hi v.length):=qls q7g v lo hi (by rfl) (by rfl) (by decide)
theorem q7x:∀x:qe,(qf x).length=2:=q5e
theorem qzu (v:List qe):(v.flatMap qf).length=v.length*2:=by rw[q4W q7x]
theorem qkz (v:List qe) (i:Nat):ld T ((v.flatMap qf).map C.d) (i*2) 52=(v[i]?).bind fun x=>some (.agg [.d (D.int .i64 x.School),.d (D.str x.Code)]):=by rw[qaK q7x v i _ (by decide) (by decide)];cases v[i]? with|none=>rfl|some x=>rw[qQx,qQx,q0E];rfl
theorem qDC (v:List qe) (Js:Int) (q2A:ByteArray):(v.flatMap qf).map C.d++[C.d (D.int .i64 Js),C.d (D.str q2A)]=((v++[(qe.mk Js q2A)]).flatMap qf).map C.d:=by have h:=qdC (E:=qf) v (qe.mk Js q2A);rw[q0E] at h;exact h
theorem qv7 (v:List qe) (i:Nat) (Js:Int) (q2A:ByteArray):spr ((v.flatMap qf).map C.d) (i*2) [C.d (D.int .i64 Js),C.d (D.str q2A)]=((v.set i (qe.mk Js q2A)).flatMap qf).map C.d:=by have h:=qbt q7x v i (qe.mk Js q2A);rw[q0E] at h;exact h
theorem qEk (v:List qe) (a:Nat):(v.flatMap qf).drop (a*2)=(v.drop a).flatMap qf:=by have h:=qgz q7x v a;exact h
theorem qBG (v:List qe) (a:Nat):(v.flatMap qf).take (a*2)=(v.take a).flatMap qf:=by have h:=qdJ q7x v a;exact h
theorem qxe (v:List qe) (a:Nat):((v.flatMap qf).map C.d).drop (a*2)=((v.drop a).flatMap qf).map C.d:=by rw[←List.map_drop,qEk]
theorem qx7 (v:List qe) (a:Nat):((v.flatMap qf).map C.d).take (a*2)=((v.take a).flatMap qf).map C.d:=by rw[←List.map_take,qBG]
theorem qwj (v w:List qe) (i:Nat):spl (v.flatMap qf) (i*2) (w.flatMap qf)=(spl v i w).flatMap qf:=by have h:=qoj q7x w v i;exact h
theorem qeP:∀x:qb,(qh x).length=5:=q1d
theorem qyz (v:List qb):(v.flatMap qh).length=v.length*5:=by rw[q4W qeP]
theorem ql0 (v:List qb) (i:Nat):ld T ((v.flatMap qh).map C.d) (i*5) 34=(v[i]?).bind fun x=>some (.agg [.d (D.int .i64 x.Kind),.d (D.int .i64 x.N),.d (D.int .i64 x.Min),.d (D.sl 2 x.Set.length (x.Set.flatMap qf)),.d (D.sl 5 x.L.length (x.L.flatMap qh))]):=by rw[qaK qeP v i _ (by decide) (by decide)];cases v[i]? with|none=>rfl|some x=>rw[qQx,qQx,q1I];rfl
theorem qAC (v:List qb) (qcc:Int) (a_N:Int) (qhY:Int) (qeQ:List qe) (a_L:List qb):(v.flatMap qh).map C.d++[C.d (D.int .i64 qcc),C.d (D.int .i64 a_N),C.d (D.int .i64 qhY),C.d (D.sl 2 qeQ.length (qeQ.flatMap qf)),C.d (D.sl 5 a_L.length (a_L.flatMap qh))]=((v++[(qb.mk qcc a_N qhY qeQ a_L)]).flatMap qh).map C.d:=by have h:=qdC (E:=qh) v (qb.mk qcc a_N qhY qeQ a_L);rw[q1I] at h;exact h
theorem qxo (v:List qb) (i:Nat) (qcc:Int) (a_N:Int) (qhY:Int) (qeQ:List qe) (a_L:List qb):spr ((v.flatMap qh).map C.d) (i*5) [C.d (D.int .i64 qcc),C.d (D.int .i64 a_N),C.d (D.int .i64 qhY),C.d (D.sl 2 qeQ.length (qeQ.flatMap qf)),C.d (D.sl 5 a_L.length (a_L.flatMap qh))]=((v.set i (qb.mk qcc a_N qhY qeQ a_L)).flatMap qh).map C.d:=by have h:=qbt qeP v i (qb.mk qcc a_N qhY qeQ a_L);rw[q1I] at h;exact h
theorem qej:∀x:(q0u qe),((eA2 qf) x).length=4:=fun _=>rfl
theorem qf9 (v:List (q0u qe)) (i:Nat):ld T ((v.flatMap (eA2 qf)).map C.d) (i*4) 101=(v[i]?).bind fun x=>some (.agg [.d (D.int .i64 x.a0.School),.d (D.str x.a0.Code),.d (D.int .i64 x.a1.School),.d (D.str x.a1.Code)]):=by rw[qaK qej v i _ (by decide) (by decide)];cases v[i]? with|none=>rfl|some x=>rw[qQx,qQx];rfl
theorem qmI (s:S) (v:List (q0u qe)) (lo hi:Option Operand):xsl T s 35 (.c (.d (.sl 4 v.length (v.flatMap (eA2 qf))))) lo hi=qy1 s (eA2 qf) 4 v (s.bd lo 0) (s.bd hi v.length):=qls qej v lo hi (by rfl) (by rfl) (by decide)
theorem qiH:∀x:Bool,(eB x).length=1:=fun _=>rfl
theorem qJr (v:List Bool):(v.flatMap eB).length=v.length:=by rw[q4W qiH,Nat.mul_one]
theorem qqj (v:List Bool) (i:Nat):ld T ((v.flatMap eB).map C.d) (i) 4=(v[i]?).bind fun x=>some (.c (.d (D.bool x))):=by rw[q8I qiH v i _ (by decide)];cases v[i]? with|none=>rfl|some x=>rfl
theorem qAz (v:List Bool) (i:Nat) (a:Bool):spr ((v.flatMap eB).map C.d) (i) [C.d (D.bool a)]=((v.set i a).flatMap eB).map C.d:=by have h:=qbt qiH v i a;rw[Nat.mul_one] at h;exact h
theorem qAD (m:Nat):(List.replicate m [C.d (D.bool false)]).flatten=((List.replicate m false).flatMap eB).map C.d:=qpv (E:=eB) false (by rfl) m
theorem qw9:∀x:(q0u Int),((eA2 eI) x).length=2:=fun _=>rfl
theorem qu8:∀x:ByteArray,(eS x).length=1:=fun _=>rfl
theorem qs2 (v:List ByteArray) (i:Nat):ld T ((v.flatMap eS).map C.d) (i) 9=(v[i]?).bind fun x=>some (.c (.d (D.str x))):=by rw[q8I qu8 v i _ (by decide)];cases v[i]? with|none=>rfl|some x=>rfl
theorem qtW:∀x:Int,(eU8 x).length=1:=fun _=>rfl
theorem qr7 (v:List Int) (i:Nat):ld T ((v.flatMap eU8).map C.d) (i) 5=(v[i]?).bind fun x=>some (.c (.d (D.int .u8 x))):=by rw[q8I qtW v i _ (by decide)];cases v[i]? with|none=>rfl|some x=>rfl
theorem qmX {α:Type} {E:α→List D} {k:Nat} (h:∀x,(E x).length=k) (hi:∀x y,E x=E y→x=y):∀x y:q0u α,eA2 E x=eA2 E y→x=y:=by
 rintro⟨a0,a1⟩ ⟨b0,b1⟩ e
 unfold eA2 at e
 dsimp only at e
 obtain⟨e,h1⟩:=List.append_inj' e (by rw[h,h])
 rw[hi _ _ e,hi _ _ h1]
theorem q3F (v w:List Int):(v.flatMap eI=w.flatMap eI)=(v=w):=propext ⟨fun h=>(q1k qbm (by decide) (fun x y h=>by injection h with h;injection h) _ _) h,fun h=>by rw[h]⟩
theorem q1J (v w:List (List Int)):(v.flatMap (eL 1 eI)=w.flatMap (eL 1 eI))=(v=w):=propext ⟨fun h=>(q1k qo8 (by decide) (fun x y h=>by injection h with h;injection h with _ _ h;exact(q1k qbm (by decide) (fun x y h=>by injection h with h;injection h) _ _) h) _ _) h,fun h=>by rw[h]⟩
theorem q5b:∀x y:qe,qf x=qf y→x=y:=by
 rintro⟨a_0,a_1⟩ ⟨b_0,b_1⟩ h
 simp only[q0E,List.cons.injEq,D.int.injEq,D.bool.injEq,D.str.injEq,D.sl.injEq,true_and,and_true,q3F,q1J] at h
 simp only[h]
theorem q5X:∀x y:qa,qc x=qc y→x=y:=by
 rintro⟨⟨a_0_0,a_0_1⟩,a_1,a_2,a_3,a_4,a_5,a_6⟩ ⟨⟨b_0_0,b_0_1⟩,b_1,b_2,b_3,b_4,b_5,b_6⟩ h
 simp only[Zj,List.cons.injEq,D.int.injEq,D.bool.injEq,D.str.injEq,D.sl.injEq,true_and,and_true,q3F,q1J] at h
 simp only[h]
theorem q2F (v w:List qa):(v.flatMap qc=w.flatMap qc)=(v=w):=propext ⟨fun h=>(q1k q7g (by decide) q5X _ _) h,fun h=>by rw[h]⟩
theorem q2D (v w:List qe):(v.flatMap qf=w.flatMap qf)=(v=w):=propext ⟨fun h=>(q1k q7x (by decide) q5b _ _) h,fun h=>by rw[h]⟩
mutual
theorem q76:∀x y:qb,qh x=qh y→x=y
 | ⟨a0,a1,a2,a3,a4⟩,⟨b0,b1,b2,b3,b4⟩,h=>by
  rw[qh,qh] at h
  simp only[List.cons.injEq,D.int.injEq,D.bool.injEq,D.str.injEq,D.sl.injEq,true_and,and_true,q3F,q1J,q2F,q2D] at h
  have hl:a4=b4:=q6i a4 b4 (by simp only[h])
  subst hl
  simp only[h]
theorem q6i:∀v w:List qb,ZX v=ZX w→v=w
 | [],[],_=>rfl
 | [],y::w,e=>by
  have:=congrArg List.length e
  rw[ZX,ZX,qQE,q1d] at this
  first|omega|(simp at this;done)|(simp at this;omega)
 | x::v,[],e=>by
  have:=congrArg List.length e
  rw[ZX,ZX,qQE,q1d] at this
  first|omega|(simp at this;done)|(simp at this;omega)
 | x::v,y::w,e=>by
  rw[ZX,ZX] at e
  obtain⟨h1,h2⟩:=List.append_inj e (by rw[q1d,q1d])
  rw[q76 x y h1,q6i v w h2]
end
theorem q3m (v w:List qb):(v.flatMap qh=w.flatMap qh)=(v=w):=propext ⟨fun h=>(q1k qeP (by decide) q76 _ _) h,fun h=>by rw[h]⟩
theorem q1H (v w:List (q0u qe)):(v.flatMap (eA2 qf)=w.flatMap (eA2 qf))=(v=w):=propext ⟨fun h=>(q1k qej (by decide) (qmX q5e q5b) _ _) h,fun h=>by rw[h]⟩
theorem q5G (v w:List Bool):(v.flatMap eB=w.flatMap eB)=(v=w):=propext ⟨fun h=>(q1k qiH (by decide) (fun x y h=>by injection h with h;injection h) _ _) h,fun h=>by rw[h]⟩
theorem q3j (v w:List (q0u Int)):(v.flatMap (eA2 eI)=w.flatMap (eA2 eI))=(v=w):=propext ⟨fun h=>(q1k qw9 (by decide) (qmX (fun _=>rfl) (fun x y h=>by injection h with h;injection h)) _ _) h,fun h=>by rw[h]⟩
theorem q60 (v w:List ByteArray):(v.flatMap eS=w.flatMap eS)=(v=w):=propext ⟨fun h=>(q1k qu8 (by decide) (fun x y h=>by injection h with h;injection h) _ _) h,fun h=>by rw[h]⟩
theorem q6p (v w:List Int):(v.flatMap eU8=w.flatMap eU8)=(v=w):=propext ⟨fun h=>(q1k qtW (by decide) (fun x y h=>by injection h with h;injection h) _ _) h,fun h=>by rw[h]⟩
def q05 (v:Int):R:=R.c (C.d (D.int .i64 v))
theorem q2f (M M':List (Int×Int)):(B.ob (mpB (q5D .i64) q05 M)=B.ob (mpB (q5D .i64) q05 M'))=(M=M'):=quY (fun a b h=>by injection h) (fun a b h=>by simp only[q05,R.c.injEq,C.d.injEq,D.int.injEq,D.bool.injEq,D.str.injEq,D.sl.injEq,true_and,and_true,q3F,q1J,q2F,q2D,q3m,q1H,q5G,q3j,q60,q6p] at h;simp only[h]) M M'
theorem qBx (f:Nat→Nat) (M:List (Int×Int)):AO.mapR (R.rn0 f) (mpB (q5D .i64) q05 M)=mpB (q5D .i64) q05 M:=qed (vE:=q05) (fun v=>rfl) M
theorem qDt (X:List Nat) (M:List (Int×Int)):AO.mapR (R.fgL X) (mpB (q5D .i64) q05 M)=mpB (q5D .i64) q05 M:=qed (vE:=q05) (fun v=>rfl) M
theorem qz7 (ids:List Nat) (M:List (Int×Int)):AO.mapR (qoF ids) (mpB (q5D .i64) q05 M)=mpB (q5D .i64) q05 M:=qed (vE:=q05) (fun v=>rfl) M
theorem qBg (M:List (Int×Int)):(mpB (q5D .i64) q05 M).Rs.all (R.scl0)=true:=quK (fun v=>rfl) M
theorem qBu (M:List (Int×Int)):(mpB (q5D .i64) q05 M).Rs.flatMap R.refs0=[]:=qrn (fun v=>rfl) M
theorem qwl (s:S) (sel:List Nat) (M:List (Int×Int)):cvA s sel (mpB (q5D .i64) q05 M)=some (mpB (q5D .i64) q05 M):=qwO (fun v=>rfl) M
theorem qrm (M:List (Int×Int)):((mpE (q5D .i64) q05 M 0).all fun q=>plK (Kd.int .i64) q.1)=true:=qgR (fun k r i=>rfl) M 0
theorem qvZ (ok:Bool) (k:Int) (M:List (Int×Int)):lkq ok (R.c (C.d (D.int .i64 0))) (fnd (Value.int .i64 k) (mpE (q5D .i64) q05 M 0) 0)=some (tt2 (R.c (C.d (D.int .i64 (q4J (0:Int) M k)))) ok (qlh M k)):=qFK (vE:=q05) (kE:=(q5D .i64)) (qtA _) ((0:Int)) ok k M
theorem qus (k:Int) (v:Int) (M:List (Int×Int)):mup (Kd.int .i64) (Value.int .i64 k) (R.c (C.d (D.int .i64 v))) (.ob (mpB (q5D .i64) q05 M))=some (.ob (mpB (q5D .i64) q05 (qhL M k v))):=qGB (vE:=q05) (kE:=(q5D .i64)) (qtA _) (fun a=>rfl) k v M
theorem qEo (s:S) (p:Nat):q3I T s p 90 none=some (.c (.hd .map p),s.up [(p,.ob (mpB (q5D .i64) q05 ([]:List (Int×Int))))]):=rfl
theorem qw4 (s:S) (p:Nat):q3I T s p 138 none=some (.c (.hd .map p),s.up [(p,.ob (.mp [] 0))]):=rfl
theorem qx5 (l:List qa) (i j:Int):qku 54 8 0 [.c (.own 0 8 0 l.length),.c (.d (.int .i64 i)),.c (.d (.int .i64 j))] [(0,.row 54 8 ((l.flatMap qc).map C.d))]=if 0≤i∧j=i+1∧i<l.length then some (.c (.own 0 8 0 (l.eraseIdx i.toNat).length),[(0,.row 54 8 (((l.eraseIdx i.toNat).flatMap qc).map C.d))]) else none:=quz q2u l i j rfl
end
noncomputable section
open Go.RowKit
theorem qIG:qfK Tryz.prog 52=true:=by kernel_rfl
theorem qAK:qsR Tryz.prog 101=true:=by kernel_rfl
def by0:=JA_ @k3 (JA_ @z3 (JA_ @b3 (JA_ @o3 (JA_ @q3 (JA_ @k4 (JA_ @z4 (JA_ @b4 (JA_ @o4 (JA_ @q4 (JA_ @k5 (@z5)))))))))))
def by1:=JA_ @k9 (JA_ @z9 (@q9))
def by2:=JA_ @q21 (JA_ @k22 (JA_ @z22 (JA_ @q22 (JA_ @k23 (JA_ @z23 (JA_ @o23 (JA_ @k24 (JA_ @z24 (JA_ @k25 (@z25))))))))))
def by3:=JA_ @o25 (JA_ @q25 (JA_ @k26 (JA_ @z26 (JA_ @k28 (JA_ @z28 (JA_ @q28 (JA_ @k30 (JA_ @z30 (JA_ @o30 (JA_ @q30 (JA_ @k31 (JA_ @z31 (JA_ @q31 (JA_ @k32 (JA_ @z32 (JA_ @o32 (@q32)))))))))))))))))
def by4:=JA_ @k34 (JA_ @z34 (JA_ @b34 (JA_ @o34 (JA_ @q34 (JA_ @k35 (JA_ @z35 (JA_ @q35 (JA_ @k37 (JA_ @z37 (JA_ @o37 (JA_ @q37 (JA_ @k40 (JA_ @z40 (JA_ @o40 (@q40)))))))))))))))
def by5:=JA_ @k44 (JA_ @z44 (JA_ @o44 (JA_ @q44 (JA_ @k47 (JA_ @z47 (JA_ @o47 (@q47)))))))
def by6:=JA_ @k52 (JA_ @z52 (JA_ @b52 (JA_ @o52 (JA_ @q52 (JA_ @k54 (JA_ @z54 (JA_ @b54 (JA_ @o54 (@q54)))))))))
def by7:=JA_ @q61 (JA_ @k63 (JA_ @o63 (@q63)))
def by8:=JA_ @k71 (JA_ @z71 (JA_ @o71 (JA_ @q71 (@q75))))
def qMU:=JA_ @k90 (JA_ @z90 (JA_ @o90 (JA_ @q90 (JA_ @q91 (JA_ @k93 (JA_ @o93 (@k94)))))))
def qMz:=JA_ @q94 (JA_ @q97 (JA_ @k98 (JA_ @o98 (JA_ @qO6 (JA_ @qOX (JA_ @qNj (@qOe)))))))
def qPD:=@qOj
def qPy:=JA_ @qNY (JA_ @qPa (JA_ @qOh (JA_ @qOS (JA_ @qO5 (JA_ @qMn (JA_ @qPV (JA_ @qO4 (@qP2))))))))
def qMH:=@qPX
def qOZ:=@qPe
def qMY:=JA_ @qMv (JA_ @qPf (JA_ @qPF (JA_ @qPT (JA_ @qMO (JA_ @qMZ (JA_ @qPk (@qOF)))))))
def qNv:=JA_ @qNq (JA_ @qMm (JA_ @qNy (JA_ @qN0 (JA_ @qM3 (JA_ @qM7 (JA_ @qNZ (JA_ @qPY (JA_ @qMe (JA_ @qPl (JA_ @qPP (@qP1)))))))))))
def qPm:=JA_ @qMG (JA_ @qOD (@qPN))
def qMM:=JA_ @qLX (@qNS)
def qMK:=@qNi
def qPK:=@qNM
def qO0:=JA_ @qIG (JA_ @qAK (JA_ @bk_ (JA_ @qOg (@qDi))))
def qNV:=JA_ @qN1 (JA_ @qOn (JA_ @qOo (JA_ @qMT (JA_ @qH2 (@qHE)))))
def qNK:=JA_ @qFJ (JA_ @qGP (JA_ @qHm (JA_ @qH5 (JA_ @qJu (JA_ @qFF (JA_ @qGS (JA_ @qJ9 (JA_ @qFL (JA_ @qHv (JA_ @qHt (@qIm)))))))))))
def qNO:=JA_ @qGH (JA_ @qIT (JA_ @qI1 (JA_ @qIC (@qIz))))
def qPJ:=JA_ @qHk (@qG6)
def qPZ:=JA_ @qIh (JA_ @qHN (JA_ @qIH (JA_ @qHT (@qzK))))
def qOu:=JA_ @qE6 (JA_ @qBR (JA_ @qDj (JA_ @qDI (@qyR))))
def qPO:=JA_ @qCT (@qCx)
def qND:=JA_ @qDE (JA_ @qBp (JA_ @qEr (JA_ @qA5 (JA_ @qAc (@qyD)))))
def qP5:=JA_ @qEc (@qDk)
def qMl:=JA_ @pw3 (JA_ @pw4 (JA_ @pw5 (JA_ @pw6 (JA_ @pw7 (JA_ @pw8 (JA_ @qKY (JA_ @qL9 (JA_ @qLg (JA_ @qLv (JA_ @qKE (JA_ @qKs (JA_ @qKC (JA_ @qKn (JA_ @qKX (JA_ @qLG (JA_ @qLa (JA_ @qKc (JA_ @qKo (JA_ @qK1 (JA_ @qLS (JA_ @qL2 (JA_ @qLE (JA_ @qKQ (JA_ @qJV (JA_ @qLx (JA_ @qLB (JA_ @qJZ (JA_ @qLL (JA_ @qKi (JA_ @qJj (@qL4)))))))))))))))))))))))))))))))
def qNB:=JA_ @qLw (JA_ @qLp (JA_ @qL6 (JA_ @qKV (JA_ @qLF (JA_ @qFc (JA_ @qKx (JA_ @qLN (JA_ @qKk (JA_ @qKh (JA_ @qLl (JA_ @qHb (JA_ @qKI (JA_ @qMN (JA_ @qL1 (JA_ @qJX (JA_ @qLH (JA_ @qL5 (JA_ @qKe (JA_ @qK5 (JA_ @qLJ (JA_ @qKD (JA_ @qLh (JA_ @qKM (JA_ @qLK (JA_ @qNa (JA_ @qKN (JA_ @qJW (JA_ @qLn (JA_ @qFp (JA_ @qLT (JA_ @qLy (JA_ @qKm (JA_ @qKg (JA_ @qKO (@qLI)))))))))))))))))))))))))))))))))))
def qNr:=JA_ @qL0 (JA_ @qLQ (JA_ @qCc (JA_ @qLk (JA_ @qJP (JA_ @qLM (JA_ @qKG (JA_ @qLu (JA_ @qLR (JA_ @qLb (JA_ @qKd (JA_ @qLq (JA_ @qLU (JA_ @qL8 (JA_ @qKH (JA_ @qzM (JA_ @qAf (JA_ @qB2 (JA_ @qAA (JA_ @qE2 (JA_ @qBl (JA_ @qvh (JA_ @qAG (JA_ @qCY (JA_ @qBk (JA_ @qEf (JA_ @qDn (JA_ @qE9 (JA_ @qAI (JA_ @qDW (@qA7))))))))))))))))))))))))))))))
def qMC:=JA_ @qzr (JA_ @qyE (JA_ @qBZ (JA_ @qCX (JA_ @qs1 (JA_ @qzR (JA_ @qCf (JA_ @qAU (JA_ @qB1 (JA_ @qBm (JA_ @qA9 (JA_ @qBf (@qAv))))))))))))
def qNu:=JA_ @qNt (JA_ @qJA (JA_ @qGv (JA_ @qI7 (JA_ @qIj (JA_ @qFM (JA_ @qJz (JA_ @qIL (JA_ @qH9 (JA_ @qJl (JA_ @qHR (JA_ @qHY (JA_ @qFU (JA_ @qIw (JA_ @qG2 (JA_ @qGa (@qGd))))))))))))))))
def qOw:=JA_ @qID (JA_ @qJs (JA_ @qIl (JA_ @qIY (JA_ @qGI (JA_ @qG0 (JA_ @qIu (JA_ @qI8 (JA_ @qGw (JA_ @qIs (JA_ @qHM (JA_ @qH3 (JA_ @qGJ (JA_ @qIo (JA_ @qHP (JA_ @qGs (JA_ @qGp (JA_ @qGu (JA_ @qJy (JA_ @qHg (@qHC))))))))))))))))))))
def qNG:=JA_ @qGN (JA_ @qHO (JA_ @qIn (JA_ @qI3 (JA_ @qBy (JA_ @qAb (JA_ @qC8 (JA_ @qBB (JA_ @qD6 (JA_ @qBd (JA_ @qza (JA_ @qBY (@qAJ))))))))))))
def qNX:=JA_ @qDh (JA_ @qBc (JA_ @qEa (JA_ @qBH (JA_ @qyS (JA_ @qzs (JA_ @qIB (JA_ @qFS (JA_ @qHo (@qGQ)))))))))
def qNJ:=JA_ @qB6 (JA_ @qAe (JA_ @qzC (JA_ @qA0 (JA_ @qDz (JA_ @qBX (JA_ @qAd (JA_ @qEs (JA_ @qB8 (JA_ @qEm (JA_ @qzy (JA_ @qBw (JA_ @qAH (JA_ @qx6 (JA_ @qCj (JA_ @qDy (JA_ @qzP (JA_ @qDQ (JA_ @qCJ (JA_ @qDv (JA_ @quv (JA_ @qzB (JA_ @qDl (JA_ @qAP (JA_ @qzq (JA_ @qDS (JA_ @qC9 (JA_ @qzX (JA_ @qCa (JA_ @qv8 (@qxw))))))))))))))))))))))))))))))
def qNU:=JA_ @qx8 (JA_ @qx9 (JA_ @qyI (JA_ @qAm (JA_ @qE4 (JA_ @qzv (JA_ @qBP (JA_ @qxu (@qvc))))))))
def qN8:=JA_ @qxi (JA_ @qxh (JA_ @qwu (@qwe)))
def qNC:=JA_ @qGL (JA_ @qHU (JA_ @qFI (JA_ @qIk (JA_ @qFT (JA_ @qAY (@qyY))))))
def qOK:=JA_ @qyw (JA_ @qCm (JA_ @qDY (JA_ @qxV (JA_ @qvs (JA_ @qA3 (JA_ @qBe (JA_ @qEe (JA_ @qyi (JA_ @qBT (JA_ @qCp (JA_ @qvT (JA_ @qvq (JA_ @qC7 (JA_ @qz6 (JA_ @qCL (JA_ @qvw (JA_ @qux (JA_ @qBi (JA_ @qCE (JA_ @qDr (JA_ @qzc (JA_ @qw0 (JA_ @qz9 (JA_ @qAk (JA_ @qxU (JA_ @qvG (@quh)))))))))))))))))))))))))))
def qNW:=JA_ @quV (JA_ @qBv (JA_ @qAW (JA_ @qIN (JA_ @qFO (JA_ @qG3 (JA_ @qJ6 (JA_ @qHD (JA_ @qDu (JA_ @qyV (JA_ @qCO (JA_ @qBW (JA_ @qDw (JA_ @quL (JA_ @qxW (JA_ @qCV (JA_ @qyX (@qCu)))))))))))))))))
def qP8:=JA_ @qyq (JA_ @qE7 (JA_ @qDo (JA_ @qvy (JA_ @qvv (JA_ @qC6 (JA_ @qzJ (JA_ @qzz (JA_ @qvN (JA_ @qxL (JA_ @qEl (JA_ @qAu (JA_ @qyT (JA_ @qCd (JA_ @qxb (JA_ @qDT (JA_ @qDm (JA_ @quW (JA_ @qwV (@quG)))))))))))))))))))
def qMt:=@qvX
def bt0:=JA_ @qkF (JA_ @qGZ (JA_ @qsg (JA_ @qGe (JA_ @qB3 (JA_ @qz0 (JA_ @qxm (JA_ @qz3 (@qAp))))))))
def bt1:=JA_ @qlb (JA_ @qky (JA_ @qBS (@qvf)))
def bt2:=JA_ @qzm (JA_ @qqR (JA_ @qzu (JA_ @qkz (JA_ @qDC (@qv7)))))
def bt3:=JA_ @qxe (JA_ @qx7 (JA_ @qwj (JA_ @qyz (JA_ @ql0 (JA_ @qAC (@qxo))))))
def bt4:=@qf9
def bt5:=JA_ @qmI (JA_ @qJr (JA_ @qqj (JA_ @qAz (@qAD))))
def bt6:=@qs2
def bt7:=JA_ @qr7 (JA_ @qBx (JA_ @qDt (JA_ @qz7 (JA_ @qBg (JA_ @qBu (JA_ @qwl (JA_ @qrm (JA_ @qvZ (JA_ @qus (JA_ @qEo (@qw4)))))))))))
def bt8:=JA_ @qx5 (JA_ @qct (JA_ @q7l (JA_ @qc4 (JA_ @qaj (JA_ @q6o (JA_ @qae (JA_ @qcx (@qv2))))))))
def bA:=JA_ @bx0 (JA_ @bx1 (JA_ @bx3 (JA_ @bx4 (JA_ @bx5 (JA_ @bx6 (JA_ @bx7 (JA_ @bx8 (JA_ @bx9 (JA_ @qOC (JA_ @qOB (JA_ @qMP (JA_ @qME (JA_ @qOb (JA_ @qMy (JA_ @qOT (JA_ @qOH (JA_ @qOy (JA_ @qMh (JA_ @qPt (JA_ @qOr (JA_ @qNP (JA_ @qOq (JA_ @qPM (JA_ @qNp (JA_ @qNH (JA_ @qNe (JA_ @qPG (JA_ @qPo (JA_ @qO3 (JA_ @qOY (JA_ @bz0 (JA_ @bz1 (JA_ @bz5 (JA_ @by0 (JA_ @by1 (JA_ @by2 (JA_ @by3 (JA_ @by4 (JA_ @by5 (JA_ @by6 (JA_ @by7 (JA_ @by8 (JA_ @qMU (JA_ @qMz (JA_ @qPD (JA_ @qPy (JA_ @qMH (JA_ @qOZ (JA_ @qMY (JA_ @qNv (JA_ @qPm (JA_ @qMM (JA_ @qMK (JA_ @qPK (JA_ @qO0 (JA_ @qNV (JA_ @qNK (JA_ @qNO (JA_ @qPJ (JA_ @qPZ (JA_ @qOu (JA_ @qPO (JA_ @qND (JA_ @qP5 (JA_ @qMl (JA_ @qNB (JA_ @qNr (JA_ @qMC (JA_ @qNu (JA_ @qOw (JA_ @qNG (JA_ @qNX (JA_ @qNJ (JA_ @qNU (JA_ @qN8 (JA_ @qNC (JA_ @qOK (JA_ @qNW (JA_ @qP8 (JA_ @qMt (JA_ @bt0 (JA_ @bt1 (JA_ @bt2 (JA_ @bt3 (JA_ @bt4 (JA_ @bt5 (JA_ @bt6 (JA_ @bt7 (@bt8)))))))))))))))))))))))))))))))))))))))))))))))))))))))))))))))))))))))))))))))))))))))))
def bZ:=JA_ @qQE.{0} (JA_ @qRj.{0} (JA_ @q5E (JA_ @qRf.{0} (JA_ @qQI.{0} (JA_ @qRh.{0} (JA_ @qQV (JA_ @qRC.{0,0} (JA_ @List.flatMap_nil.{0,0} (JA_ @qQU.{0,0} (JA_ @List.map_nil.{0,0} (JA_ @eI.eq_1 (JA_ @eS.eq_1 (JA_ @qRD.{0} (JA_ @qQR.{0} (JA_ @qQS.{0} (JA_ @List.flatMap_append.{0,0} (JA_ @List.map_append.{0,0} (JA_ @q1I (JA_ @q0E (JA_ @Zj (@eA2.eq_1)))))))))))))))))))))
theorem gA {P:Prop} (h:P:=by simp -implicitDefEqProofs (maxSteps:=10000000) only[bA,Int.reduceToNat,Int.reduceLT,Int.reduceLE,Int.reduceAdd,Int.reduceSub,Int.reduceMul,Int.reduceNeg,Int.reduceEq,Int.reduceNe,Int.reduceBEq,Int.reduceBNe,Nat.reduceLT,Nat.reduceAdd,Nat.reduceMul,Nat.reduceSub,Nat.reduceEqDiff,Nat.reduceLeDiff,Nat.reduceBEq,Nat.reduceBNe,↓reduceIte,reduceCtorEq,pure,bind,w64,zN,roundOf,Option.or_some,Option.or_none,Option.none_or,Option.some_or, *]<;>simp only[rL,dL,bR,bZ,Nat.reduceAdd]):P:=h
end
noncomputable section
open Go.RowKit
section
variable {β:Type}
def frN (n:Nat) (k:Nat→β):β:=match n with | 0=>k 0|m+1=>k (m+1)
theorem q0B (n:Nat) (k:Nat→β):frN n k=k n:=by cases n<;>rfl
def frI (i:Int) (k:Int→β):β:=match i with | .ofNat n=>frN n fun n=>k (.ofNat n) | .negSucc n=>frN n fun n=>k (.negSucc n)
theorem quc (i:Int) (k:Int→β):frI i k=k i:=by cases i<;>simp only[frI,q0B]
def frB (b:Bool) (k:Bool→β):β:=match b with|true=>k true|false=>k false
theorem qu6 (b:Bool) (k:Bool→β):frB b k=k b:=by cases b<;>rfl
def frD (d:D):(D→β)→β:=
 D.rec (motive_1:=fun _=>(D→β)→β) (motive_2:=fun _=>(List D→β)→β)
  (fun k n K=>frI n fun n=>K (.int k n)) (fun b K=>frB b fun b=>K (.bool b)) (fun s K=>K (.str s)) (fun sz n _ ih K=>frN sz fun sz=>frN n fun n=>ih fun cs=>K (.sl sz n cs))
  (fun K=>K []) (fun _ _ ih1 ih2 K=>ih1 fun x=>ih2 fun l=>K (x::l)) d
def qn5 (d:List D):(List D→β)→β:=
 D.rec_1 (motive_1:=fun _=>(D→β)→β) (motive_2:=fun _=>(List D→β)→β)
  (fun k n K=>frI n fun n=>K (.int k n)) (fun b K=>frB b fun b=>K (.bool b)) (fun s K=>K (.str s)) (fun sz n _ ih K=>frN sz fun sz=>frN n fun n=>ih fun cs=>K (.sl sz n cs))
  (fun K=>K []) (fun _ _ ih1 ih2 K=>ih1 fun x=>ih2 fun l=>K (x::l)) d
mutual
theorem qtp:∀(d:D) (K:D→β),frD d K=K d
 | .int k n,K=>by show frI n (fun n=>K (.int k n))=_;rw[quc]
 | .bool b,K=>by show frB b (fun b=>K (.bool b))=_;rw[qu6]
 | .str s,K=>rfl
 | .sl sz n cs,K=>by show frN sz (fun sz=>frN n fun n=>qn5 cs fun cs=>K (.sl sz n cs))=_;rw[q0B,q0B,qb8 cs]
theorem qb8:∀(d:List D) (K:List D→β),qn5 d K=K d
 | [],K=>rfl
 | x::l,K=>(qtp x _).trans (qb8 l _)
end
def frC (c:C):(C→β)→β:=
 C.rec (motive_1:=fun _=>(C→β)→β) (motive_2:=fun _=>(List C→β)→β)
  (fun x K=>frD x fun x=>K (.d x)) (fun i o K=>frN i fun i=>frN o fun o=>K (.ptr i o)) (fun h i K=>frN i fun i=>K (.hd h i)) (fun K=>K .nilm) (fun K=>K .nilp) (fun K=>K .nilf) (fun K=>K .nils)
  (fun cs o K=>qn5 cs fun cs=>frN o fun o=>K (.eptr cs o)) (fun i sz o n K=>frN i fun i=>frN sz fun sz=>frN o fun o=>frN n fun n=>K (.own i sz o n))
  (fun f _ _ ih1 ih2 K=>ih1 fun fs=>ih2 fun caps=>K (.fn f fs caps)) (fun e sz n cs K=>frN e fun e=>frN sz fun sz=>frN n fun n=>qn5 cs fun cs=>K (.ow e sz n cs)) (fun sz n cs K=>frN sz fun sz=>frN n fun n=>qn5 cs fun cs=>K (.clp sz n cs)) (fun K=>K .any)
  (fun K=>K []) (fun _ _ ih1 ih2 K=>ih1 fun x=>ih2 fun l=>K (x::l)) c
def qD5 (c:List C):(List C→β)→β:=
 C.rec_1 (motive_1:=fun _=>(C→β)→β) (motive_2:=fun _=>(List C→β)→β)
  (fun x K=>frD x fun x=>K (.d x)) (fun i o K=>frN i fun i=>frN o fun o=>K (.ptr i o)) (fun h i K=>frN i fun i=>K (.hd h i)) (fun K=>K .nilm) (fun K=>K .nilp) (fun K=>K .nilf) (fun K=>K .nils)
  (fun cs o K=>qn5 cs fun cs=>frN o fun o=>K (.eptr cs o)) (fun i sz o n K=>frN i fun i=>frN sz fun sz=>frN o fun o=>frN n fun n=>K (.own i sz o n))
  (fun f _ _ ih1 ih2 K=>ih1 fun fs=>ih2 fun caps=>K (.fn f fs caps)) (fun e sz n cs K=>frN e fun e=>frN sz fun sz=>frN n fun n=>qn5 cs fun cs=>K (.ow e sz n cs)) (fun sz n cs K=>frN sz fun sz=>frN n fun n=>qn5 cs fun cs=>K (.clp sz n cs)) (fun K=>K .any)
  (fun K=>K []) (fun _ _ ih1 ih2 K=>ih1 fun x=>ih2 fun l=>K (x::l)) c
mutual
theorem qtj:∀(c:C) (K:C→β),frC c K=K c
 | .d x,K=>by show frD x (fun x=>K (.d x))=_;rw[qtp]
 | .ptr i o,K=>by show frN i (fun i=>frN o fun o=>K (.ptr i o))=_;rw[q0B,q0B]
 | .hd h i,K=>by show frN i (fun i=>K (.hd h i))=_;rw[q0B]
 | .nilm,K=>rfl
 | .nilp,K=>rfl
 | .nilf,K=>rfl
 | .nils,K=>rfl
 | .eptr cs o,K=>by show qn5 cs (fun cs=>frN o fun o=>K (.eptr cs o))=_;rw[qb8,q0B]
 | .own i sz o n,K=>by show frN i (fun i=>frN sz fun sz=>frN o fun o=>frN n fun n=>K (.own i sz o n))=_;rw[q0B,q0B,q0B,q0B]
 | .fn f fs caps,K=>(q9K fs _).trans (q9K caps _)
 | .ow e sz n cs,K=>by show frN e (fun e=>frN sz fun sz=>frN n fun n=>qn5 cs fun cs=>K (.ow e sz n cs))=_;rw[q0B,q0B,q0B,qb8]
 | .clp sz n cs,K=>by show frN sz (fun sz=>frN n fun n=>qn5 cs fun cs=>K (.clp sz n cs))=_;rw[q0B,q0B,qb8]
 | .any,K=>rfl
theorem q9K:∀(c:List C) (K:List C→β),qD5 c K=K c
 | [],K=>rfl
 | x::l,K=>(qtj x _).trans (q9K l _)
end
def frR (r:R):(R→β)→β:=
 R.rec (motive_1:=fun _=>(R→β)→β) (motive_2:=fun _=>(List R→β)→β)
  (fun x K=>frC x fun x=>K (.c x)) (fun xs K=>qD5 xs fun xs=>K (.agg xs)) (fun _ ih K=>ih fun xs=>K (.tup xs)) (fun K=>K .any)
  (fun K=>K []) (fun _ _ ih1 ih2 K=>ih1 fun x=>ih2 fun l=>K (x::l)) r
def qB9 (r:List R):(List R→β)→β:=
 R.rec_1 (motive_1:=fun _=>(R→β)→β) (motive_2:=fun _=>(List R→β)→β)
  (fun x K=>frC x fun x=>K (.c x)) (fun xs K=>qD5 xs fun xs=>K (.agg xs)) (fun _ ih K=>ih fun xs=>K (.tup xs)) (fun K=>K .any)
  (fun K=>K []) (fun _ _ ih1 ih2 K=>ih1 fun x=>ih2 fun l=>K (x::l)) r
mutual
theorem qcK:∀(r:R) (K:R→β),frR r K=K r
 | .c x,K=>qtj x _
 | .agg xs,K=>q9K xs _
 | .tup xs,K=>qbI xs _
 | .any,K=>rfl
theorem qbI:∀(r:List R) (K:List R→β),qB9 r K=K r
 | [],K=>rfl
 | x::l,K=>(qcK x _).trans (qbI l _)
end
def frV (v:Value) (K:Value→β):β:=match v with | .int k n=>frI n fun n=>K (.int k n) | .bool b=>frB b fun b=>K (.bool b)|v=>K v
theorem qyF (v:Value) (K:Value→β):frV v K=K v:=by cases v<;>simp only[frV,quc,qu6]
def frM (l:List (Value×R×Nat)):(List (Value×R×Nat)→β)→β:=
 List.rec (motive:=fun _=>(List (Value×R×Nat)→β)→β) (fun K=>K []) (fun x _ ih K=>match x with|(v,r,b)=>frV v fun v=>frR r fun r=>frN b fun b=>ih fun l=>K ((v,r,b)::l)) l
theorem qsr (v:Value) (r:R) (b:Nat) (l:List (Value×R×Nat)) (K:List (Value×R×Nat)→β):frM ((v,r,b)::l) K=frV v fun v=>frR r fun r=>frN b fun b=>frM l fun l=>K ((v,r,b)::l):=rfl
theorem qtJ:∀(l:List (Value×R×Nat)) (K:List (Value×R×Nat)→β),frM l K=K l
 | [],K=>rfl
 | (v,r,b)::l,K=>by rw[qsr,qyF,qcK,q0B,qtJ l]
def frP (p:Option Code) (K:Option Code→β):β:=match p with|none=>K none|some c=>K (some c)
theorem qAM (p:Option Code) (K:Option Code→β):frP p K=K p:=by cases p<;>rfl
def qJh (b:B) (K:B→β):β:=match b with
 | .blk t cs=>qD5 cs fun cs=>K (.blk t cs)
 | .row e sz cs=>qD5 cs fun cs=>K (.row e sz cs)
 | .ob (.mp es ck)=>frM es fun es=>frN ck fun ck=>K (.ob (.mp es ck))
 | .ob (.si s p)=>frN p fun p=>K (.ob (.si s p))
 | .ob (.lp f tm ps a c st pd)=>qB9 tm fun tm=>frP pd fun pd=>K (.ob (.lp f tm ps a c st pd))
 | .ob .df=>K (.ob .df)
 | .ob (.mi m c l)=>frR m fun m=>frN c fun c=>K (.ob (.mi m c l))
 | .ob (.m1 e m c l)=>K (.ob (.m1 e m c l))
 | .dead=>K .dead
theorem qxc (b:B) (K:B→β):qJh b K=K b:=by
 cases b with
 | blk t cs=>exact q9K cs _
 | row e sz cs=>exact q9K cs _
 | ob o=>
  cases o with
  | mp es ck=>show frM es (fun es=>frN ck fun ck=>K (.ob (.mp es ck)))=_;rw[qtJ,q0B]
  | si s p=>show frN p (fun p=>K (.ob (.si s p)))=_;rw[q0B]
  | lp f tm ps a c st pd=>show qB9 tm (fun tm=>frP pd fun pd=>K (.ob (.lp f tm ps a c st pd)))=_;rw[qbI,qAM]
  | df=>rfl
  | mi m c l=>show frR m (fun m=>frN c fun c=>K (.ob (.mi m c l)))=_;rw[qcK,q0B]
  | m1 e m c l=>rfl
 | dead=>rfl
def frT (l:List (Nat×R)):(List (Nat×R)→β)→β:=
 List.rec (motive:=fun _=>(List (Nat×R)→β)→β) (fun K=>K []) (fun x _ ih K=>match x with|(i,r)=>frR r fun r=>ih fun l=>K ((i,r)::l)) l
theorem quf:∀(l:List (Nat×R)) (K:List (Nat×R)→β),frT l K=K l
 | [],K=>rfl
 | (i,r)::l,K=>(qcK r _).trans (quf l _)
def frH (l:List (Nat×B)):(List (Nat×B)→β)→β:=
 List.rec (motive:=fun _=>(List (Nat×B)→β)→β) (fun K=>K []) (fun x _ ih K=>match x with|(i,r)=>frN i fun i=>qJh r fun r=>ih fun l=>K ((i,r)::l)) l
theorem qsG (i:Nat) (r:B) (l:List (Nat×B)) (K:List (Nat×B)→β):frH ((i,r)::l) K=frN i fun i=>qJh r fun r=>frH l fun l=>K ((i,r)::l):=rfl
theorem qde:∀(l:List (Nat×B)) (K:List (Nat×B)→β),frH l K=K l
 | [],K=>rfl
 | (i,r)::l,K=>by rw[qsG,q0B,qxc,qde l]
def frS (s:S) (K:S→β):β:=match s with|⟨tm,hp,nx,n⟩=>frT tm fun tm=>frH hp fun hp=>frN nx fun nx=>K ⟨tm,hp,nx,n⟩
theorem qc9 (s:S) (K:S→β):frS s K=K s:=by
 obtain⟨tm,hp,nx,n⟩:=s
 show frT tm (fun tm=>frH hp fun hp=>frN nx fun nx=>K ⟨tm,hp,nx,n⟩)=_
 rw[quf,qde,q0B]
end
section
variable (P:Program) (T:Ty) (po:Pol) (E:Orc)
def kxr (ops:List Oper):List Oper→S→Option S
 | [],s=>some s
 | o::l,s=>(xgd P T po E ops o s).bind fun s'=>frS s' fun s'=>kxr ops l s'
def qlg {β:Type} (l:List Nat):(List Nat→β)→β:=
 List.rec (motive:=fun _=>(List Nat→β)→β) (fun K=>K []) (fun x _ ih K=>frN x fun x=>ih fun l=>K (x::l)) l
theorem q9b {β:Type}:∀(l:List Nat) (K:List Nat→β),qlg l K=K l
 | [],K=>rfl
 | x::l,K=>by show frN x (fun x=>qlg l fun l=>K (x::l))=_;rw[q0B,q9b l]
def frX {β:Type} (x:Tx) (K:Tx→β):β:=match x with|((r,us),⟨rb,wb,X,ks,nw⟩)=>frR r fun r=>frH us fun us=>qlg rb fun rb=>qlg wb fun wb=>qlg X fun X=>qlg ks fun ks=>qlg nw fun nw=>K ((r,us),⟨rb,wb,X,ks,nw⟩)
theorem qzo {β:Type} (x:Tx) (K:Tx→β):frX x K=K x:=by
 obtain⟨⟨r,us⟩,⟨rb,wb,X,ks,nw⟩⟩:=x
 show(frR r fun r=>frH us fun us=>qlg rb fun rb=>qlg wb fun wb=>qlg X fun X=>qlg ks fun ks=>qlg nw fun nw=>K ((r,us),⟨rb,wb,X,ks,nw⟩))=_
 rw[qcK,qde,q9b,q9b,q9b,q9b,q9b]
def qzF (ops:List Oper) (A:List (List Nat)) (s0:S):Nat→List Oper→S→List Tx→Option S | 0,l,s,acc=>if okP A 0 [] acc=true∧okX ops A s0 acc 0 acc=true∧okK ops A acc=true∧okN acc 0 acc=true then kxr P T po E ops l s else none|m+1,o::l,s,acc=>(xgF P T po E ops o s).bind fun q=>frS q.1 fun s1=>frX q.2 fun x=>qzF ops A s0 m l s1 (acc++[x])|_+1,[],_,_=>none
theorem qn1 (ops:List Oper):∀(l:List Oper) (s:S),kxr P T po E ops l s=xr P T po E ops l s
 | [],s=>rfl
 | o::l,s=>by
  unfold kxr xr
  congr 1
  funext s'
  rw[qc9,qn1 ops l]
theorem qos (ops:List Oper) (A:List (List Nat)) (s0:S):∀(m:Nat) (l:List Oper) (s:S) (acc:List Tx),qzF P T po E ops A s0 m l s acc=xdp P T po E ops A s0 m l s acc
 | 0,l,s,acc=>by unfold qzF xdp;rw[qn1]
 | m+1,o::l,s,acc=>by
  unfold qzF xdp
  congr 1
  funext q
  rw[qc9,qzo,qos ops A s0 m l]
 | _+1,[],_,_=>rfl
def qGA (x:XS):XS:=x.bind fun p=>frS p.2 fun s=>some (p.1,s)
theorem qpp (x:XS):qGA x=x:=by
 cases x with
 | none=>rfl
 | some p=>show frS p.2 (fun s=>some (p.1,s))=_;rw[qc9]
def kXD (LO:(S→XS)→S→XS) (f k:Nat):Code→S→XS
 | .skip,s=>some (.normal,s)
 | .label _,s=>some (.normal,s)
 | .ret,s=>some (.ret,s)
 | .exit id,s=>some (.exit id,s)
 | .seq a b,s=>(kXD LO f k a s).bind (sqD fun s'=>kXD LO f k b s')
 | .block id c,s=>(kXD LO f k c s).bind (bkD id)
 | .scope c,s=>(kXD LO f k c s).bind scD
 | .cond c x y,s=>match s.ev c with
  | .c (.d (.bool b))=>if b=true then kXD LO f k x (s.ly c tt) else kXD LO f k y (s.ly c ff)
  | _=>none
 | .region id ops draw,s=>if draw=true then frS (((s.uwD po ops.toList).dzr po.q).frk (po.rk f id)) fun s=>((s.tkD T po ops.toList).bind fun s=>frS s.strip fun s=>qzF P T po E ops.toList (po.an f id) s (po.dm f id) ops.toList s []).bind fun s'=>some (.normal,s') else(kxr P T po E ops.toList ops.toList s).bind fun s'=>some (.normal,s')
 | .rangeFunc g ps a b,s=>qGA (frS ((s.dzr po.q).frz (qa6 (s.dzr po.q) (po.rk f (zt b)))) fun s=>xRF po E f g ps.toList a b s)
 | .loop c,s=>(nrm po f (zt c) k s).bind fun s0=>frS s0 fun s0=>lpM LO (q2I c) (fun s=>qGA ((kXD LO f k c s).bind (lpx po f (zt c) k))) s0
 | _,_=>none
theorem qoL (LO:(S→XS)→S→XS) (f k:Nat):∀(c:Code) (s:S),kXD P T po E LO f k c s=XD P T po E (D1 P T po E f k) LO f k c s:=by
 intro c
 induction c with
 | seq a b iha ihb=>intro s;unfold kXD XD;simp_all
 | block id c ih=>intro s;unfold kXD XD;rw[ih]
 | scope c ih=>intro s;unfold kXD XD;rw[ih]
 | cond c x y ihx ihy=>
  intro s
  unfold kXD XD
  grind
 | region id ops draw=>
  intro s
  unfold kXD XD
  simp only[qc9,qos,qn1]
  rfl
 | rangeFunc g ps a b _ _=>intro s;unfold kXD XD;rw[qpp,qc9]
 | loop c ih=>
  intro s
  unfold kXD XD
  congr 1
  funext s0
  rw[qc9]
  congr 1
  funext s
  rw[qpp,ih]
 | _=>intro s;rfl
def frF (x:Option (R×List (Nat×B))):Option (R×List (Nat×B)):=x.bind fun q=>frR q.1 fun r=>frH q.2 fun hp=>some (r,hp)
theorem qpN (x:Option (R×List (Nat×B))):frF x=x:=by
 cases x with
 | none=>rfl
 | some q=>show frR q.1 (fun r=>frH q.2 fun hp=>some (r,hp))=_;rw[qcK,qde]
def qxK (LO:(S→XS)→S→XS) (f k:Nat) (args:List R) (G:List (Nat×B)) (bd:Bd):Option (R×List (Nat×B)):=if args.length≤bd.n then qB9 args fun args=>frH G fun G=>frF ((kXD P T po E LO f k bd.code ⟨q43 args 0,G,G.length,bd.n⟩).bind (qy3 T po f k bd)) else none
def qlw (LO:(S→XS)→S→XS) (f k:Nat) (a b:Code) (tm:List R) (G:List (Nat×B)):Option (R×List (Nat×B)):=
 if 0<k∧q6A (drq po f) false a=true∧q6A (drq po f) false b=true then qB9 tm fun tm=>frH G fun G=>frF ((kXD P T po E LO f k a ⟨q43 tm 0,G,G.length,tm.length⟩).bind fun p=>
  match p.1 with
  | .normal=>(rdB (p.2.blk (k-1))).bind fun x=>frS (p.2.up [(k-1,x)]) fun s=>(kXD P T po E LO f k b s).bind (q9B k)
  | _=>none) else none
theorem qsn (LO:(S→XS)→S→XS) (f k:Nat) (args:List R) (G:List (Nat×B)) (bd:Bd):qxK P T po E LO f k args G bd=q7r P T po (D1 P T po) E LO f k args G bd:=by
 unfold qxK q7r
 rw[qbI,qde,qpN,qoL]
theorem qo3 (LO:(S→XS)→S→XS) (f k:Nat) (a b:Code) (tm:List R) (G:List (Nat×B)):qlw P T po E LO f k a b tm G=q4t P T po (D1 P T po) E LO f k a b tm G:=by
 unfold qlw q4t
 rw[qbI,qde,qpN,qoL]
 congr 1
 congr 1
 funext p
 obtain⟨e,t⟩:=p
 unfold q9w
 cases e with
 | normal=>
  simp only
  congr 1
  funext x
  rw[qc9,qoL]
 | _=>rfl
end
def kf (P:Program) (T:Ty) (po:Pol) (bt:Nat→Option Bd) (tab:Orc):Nat→Orc
 | 0=>fun _ _ _ _=>none
 | n+1=>fun g k args G=>match tab g k args G with
  | some x=>some x
  | none=>match g with
   | .fn f=>(match po.pr f with|some g=>frF (prx (g.run (kf P T po bt tab n)) k args G)|none=>(bt f).bind fun bd=>qxK P T po (kf P T po bt tab n) (iter n) f k args G bd)
   | .rd f a b=>qlw P T po (kf P T po bt tab n) (iter n) f k a b args G
theorem qyl {P:Program} {T:Ty} {po:Pol} {bt:Nat→Option Bd} {tab:Orc} (hb:∀f bd,bt f=some bd→qu P po f=some bd) (ht:OLe tab (EE P T po (D1 P T po))):∀n,OLe (kf P T po bt tab n) (EE P T po (D1 P T po))
 | 0=>fun _ _ _ _ _ h=>by cases h
 | n+1=>fun g k args G x h=>by
  have ih:=qyl hb ht n
  unfold kf at h
  split at h
  ·rename_i y hy
   injection h with h
   subst h
   exact ht _ _ _ _ _ hy
  ·cases g with
   | fn f=>
    simp only at h
    rw[qD7 q4L qdS]
    unfold fnx
    cases hg:po.pr f with
    | some g=>
     rw[hg] at h
     simp only[qpN] at h
     exact g.mono _ _ ih _ _ _ _ h
    | none=>
     rw[hg] at h
     obtain⟨bd,h1,h2⟩:=qQC.1 h
     rw[qsn] at h2
     simp only[hb f bd h1,qQx]
     exact q8X q4L ih (qbd n) h2
   | rd f a b=>
    simp only at h
    rw[qzI q4L qdS]
    rw[qo3] at h
    exact q7f q4L ih (qbd n) h
def qLe:Orc:=fun _ _ _ _=>none
theorem quO {E:Orc}:OLe qLe E:=fun _ _ _ _ _ h=>by cases h
end
end Go.Proofs.YtofbcijbpfjliaaGreat.Vc
