/-
  Facts of this dump for the walks: which functions have a body of their own; how its structs are made.
-/
import Derived.Test.YtjghbcjnplcleaaGreatDoorFw
namespace Go.Proofs.YtjghbcjnplcleaaGreatDoor

theorem mixed : Tryz.prog.follows .mixedOrders = true := by kernel_rfl
theorem hb3 : HasBody Tryz.prog 3 := hasBody Tryz.func3 (by kernel_rfl)
theorem hb4 : HasBody Tryz.prog 4 := hasBody Tryz.func4 (by kernel_rfl)
theorem hb5 : HasBody Tryz.prog 5 := hasBody Tryz.func5 (by kernel_rfl)
theorem hb6 : HasBody Tryz.prog 6 := hasBody Tryz.func6 (by kernel_rfl)
theorem hb7 : HasBody Tryz.prog 7 := hasBody Tryz.func7 (by kernel_rfl)
theorem hb8 : HasBody Tryz.prog 8 := hasBody Tryz.func8 (by kernel_rfl)
theorem hb9 : HasBody Tryz.prog 9 := hasBody Tryz.func9 (by kernel_rfl)
theorem hb10 : HasBody Tryz.prog 10 := hasBody Tryz.func10 (by kernel_rfl)
theorem hb11 : HasBody Tryz.prog 11 := hasBody Tryz.func11 (by kernel_rfl)
theorem hb12 : HasBody Tryz.prog 12 := hasBody Tryz.func12 (by kernel_rfl)
theorem hb13 : HasBody Tryz.prog 13 := hasBody Tryz.func13 (by kernel_rfl)
theorem hb14 : HasBody Tryz.prog 14 := hasBody Tryz.func14 (by kernel_rfl)
theorem hb15 : HasBody Tryz.prog 15 := hasBody Tryz.func15 (by kernel_rfl)
theorem hb16 : HasBody Tryz.prog 16 := hasBody Tryz.func16 (by kernel_rfl)
theorem hb17 : HasBody Tryz.prog 17 := hasBody Tryz.func17 (by kernel_rfl)
theorem hb18 : HasBody Tryz.prog 18 := hasBody Tryz.func18 (by kernel_rfl)
theorem hb19 : HasBody Tryz.prog 19 := hasBody Tryz.func19 (by kernel_rfl)
theorem hb20 : HasBody Tryz.prog 20 := hasBody Tryz.func20 (by kernel_rfl)
theorem hb21 : HasBody Tryz.prog 21 := hasBody Tryz.func21 (by kernel_rfl)
theorem hb22 : HasBody Tryz.prog 22 := hasBody Tryz.func22 (by kernel_rfl)
theorem hb23 : HasBody Tryz.prog 23 := hasBody Tryz.func23 (by kernel_rfl)
theorem hb24 : HasBody Tryz.prog 24 := hasBody Tryz.func24 (by kernel_rfl)
theorem hb25 : HasBody Tryz.prog 25 := hasBody Tryz.func25 (by kernel_rfl)
theorem hb26 : HasBody Tryz.prog 26 := hasBody Tryz.func26 (by kernel_rfl)
theorem hb27 : HasBody Tryz.prog 27 := hasBody Tryz.func27 (by kernel_rfl)
theorem hb28 : HasBody Tryz.prog 28 := hasBody Tryz.func28 (by kernel_rfl)
theorem hb29 : HasBody Tryz.prog 29 := hasBody Tryz.func29 (by kernel_rfl)
theorem hb30 : HasBody Tryz.prog 30 := hasBody Tryz.func30 (by kernel_rfl)
theorem hb31 : HasBody Tryz.prog 31 := hasBody Tryz.func31 (by kernel_rfl)
theorem hb32 : HasBody Tryz.prog 32 := hasBody Tryz.func32 (by kernel_rfl)
theorem hb33 : HasBody Tryz.prog 33 := hasBody Tryz.func33 (by kernel_rfl)
theorem hb34 : HasBody Tryz.prog 34 := hasBody Tryz.func34 (by kernel_rfl)
theorem hb35 : HasBody Tryz.prog 35 := hasBody Tryz.func35 (by kernel_rfl)
theorem hb36 : HasBody Tryz.prog 36 := hasBody Tryz.func36 (by kernel_rfl)
theorem hb37 : HasBody Tryz.prog 37 := hasBody Tryz.func37 (by kernel_rfl)
theorem hb38 : HasBody Tryz.prog 38 := hasBody Tryz.func38 (by kernel_rfl)
theorem hb39 : HasBody Tryz.prog 39 := hasBody Tryz.func39 (by kernel_rfl)
theorem hb40 : HasBody Tryz.prog 40 := hasBody Tryz.func40 (by kernel_rfl)
theorem hb41 : HasBody Tryz.prog 41 := hasBody Tryz.func41 (by kernel_rfl)
theorem hb42 : HasBody Tryz.prog 42 := hasBody Tryz.func42 (by kernel_rfl)
theorem hb43 : HasBody Tryz.prog 43 := hasBody Tryz.func43 (by kernel_rfl)
theorem hb44 : HasBody Tryz.prog 44 := hasBody Tryz.func44 (by kernel_rfl)
theorem hb45 : HasBody Tryz.prog 45 := hasBody Tryz.func45 (by kernel_rfl)
theorem hb46 : HasBody Tryz.prog 46 := hasBody Tryz.func46 (by kernel_rfl)
theorem hb47 : HasBody Tryz.prog 47 := hasBody Tryz.func47 (by kernel_rfl)
theorem hb48 : HasBody Tryz.prog 48 := hasBody Tryz.func48 (by kernel_rfl)
theorem hb49 : HasBody Tryz.prog 49 := hasBody Tryz.func49 (by kernel_rfl)
theorem hb50 : HasBody Tryz.prog 50 := hasBody Tryz.func50 (by kernel_rfl)
theorem hb51 : HasBody Tryz.prog 51 := hasBody Tryz.func51 (by kernel_rfl)
theorem hb52 : HasBody Tryz.prog 52 := hasBody Tryz.func52 (by kernel_rfl)
theorem hb53 : HasBody Tryz.prog 53 := hasBody Tryz.func53 (by kernel_rfl)
theorem hb54 : HasBody Tryz.prog 54 := hasBody Tryz.func54 (by kernel_rfl)
theorem hb55 : HasBody Tryz.prog 55 := hasBody Tryz.func55 (by kernel_rfl)
theorem hb56 : HasBody Tryz.prog 56 := hasBody Tryz.func56 (by kernel_rfl)
theorem hb57 : HasBody Tryz.prog 57 := hasBody Tryz.func57 (by kernel_rfl)
theorem hb58 : HasBody Tryz.prog 58 := hasBody Tryz.func58 (by kernel_rfl)
theorem hb59 : HasBody Tryz.prog 59 := hasBody Tryz.func59 (by kernel_rfl)
theorem hb60 : HasBody Tryz.prog 60 := hasBody Tryz.func60 (by kernel_rfl)
theorem hb61 : HasBody Tryz.prog 61 := hasBody Tryz.func61 (by kernel_rfl)
theorem hb62 : HasBody Tryz.prog 62 := hasBody Tryz.func62 (by kernel_rfl)
theorem hb63 : HasBody Tryz.prog 63 := hasBody Tryz.func63 (by kernel_rfl)
theorem hb64 : HasBody Tryz.prog 64 := hasBody Tryz.func64 (by kernel_rfl)
theorem hb65 : HasBody Tryz.prog 65 := hasBody Tryz.func65 (by kernel_rfl)
theorem hb66 : HasBody Tryz.prog 66 := hasBody Tryz.func66 (by kernel_rfl)
theorem hb67 : HasBody Tryz.prog 67 := hasBody Tryz.func67 (by kernel_rfl)
theorem hb68 : HasBody Tryz.prog 68 := hasBody Tryz.func68 (by kernel_rfl)
theorem hb69 : HasBody Tryz.prog 69 := hasBody Tryz.func69 (by kernel_rfl)
theorem hb70 : HasBody Tryz.prog 70 := hasBody Tryz.func70 (by kernel_rfl)
theorem hb71 : HasBody Tryz.prog 71 := hasBody Tryz.func71 (by kernel_rfl)
theorem hb72 : HasBody Tryz.prog 72 := hasBody Tryz.func72 (by kernel_rfl)
theorem hb73 : HasBody Tryz.prog 73 := hasBody Tryz.func73 (by kernel_rfl)
theorem hb74 : HasBody Tryz.prog 74 := hasBody Tryz.func74 (by kernel_rfl)
theorem hb75 : HasBody Tryz.prog 75 := hasBody Tryz.func75 (by kernel_rfl)
theorem hb76 : HasBody Tryz.prog 76 := hasBody Tryz.func76 (by kernel_rfl)
theorem hb77 : HasBody Tryz.prog 77 := hasBody Tryz.func77 (by kernel_rfl)
theorem hb78 : HasBody Tryz.prog 78 := hasBody Tryz.func78 (by kernel_rfl)
theorem hb79 : HasBody Tryz.prog 79 := hasBody Tryz.func79 (by kernel_rfl)
theorem hb80 : HasBody Tryz.prog 80 := hasBody Tryz.func80 (by kernel_rfl)
theorem hb81 : HasBody Tryz.prog 81 := hasBody Tryz.func81 (by kernel_rfl)
theorem hb82 : HasBody Tryz.prog 82 := hasBody Tryz.func82 (by kernel_rfl)
theorem hb84 : HasBody Tryz.prog 84 := hasBody Tryz.func84 (by kernel_rfl)
theorem hb86 : HasBody Tryz.prog 86 := hasBody Tryz.func86 (by kernel_rfl)
theorem hb89 : HasBody Tryz.prog 89 := hasBody Tryz.func89 (by kernel_rfl)
theorem hb90 : HasBody Tryz.prog 90 := hasBody Tryz.func90 (by kernel_rfl)
theorem hb91 : HasBody Tryz.prog 91 := hasBody Tryz.func91 (by kernel_rfl)
theorem hb92 : HasBody Tryz.prog 92 := hasBody Tryz.func92 (by kernel_rfl)
theorem hb93 : HasBody Tryz.prog 93 := hasBody Tryz.func93 (by kernel_rfl)
theorem hb94 : HasBody Tryz.prog 94 := hasBody Tryz.func94 (by kernel_rfl)
theorem hb95 : HasBody Tryz.prog 95 := hasBody Tryz.func95 (by kernel_rfl)
theorem hb96 : HasBody Tryz.prog 96 := hasBody Tryz.func96 (by kernel_rfl)
theorem hb97 : HasBody Tryz.prog 97 := hasBody Tryz.func97 (by kernel_rfl)
theorem hb98 : HasBody Tryz.prog 98 := hasBody Tryz.func98 (by kernel_rfl)
theorem hb99 : HasBody Tryz.prog 99 := hasBody Tryz.func99 (by kernel_rfl)
theorem hb100 : HasBody Tryz.prog 100 := hasBody Tryz.func100 (by kernel_rfl)
theorem hb101 : HasBody Tryz.prog 101 := hasBody Tryz.func101 (by kernel_rfl)
theorem hb102 : HasBody Tryz.prog 102 := hasBody Tryz.func102 (by kernel_rfl)
theorem hb104 : HasBody Tryz.prog 104 := hasBody Tryz.func104 (by kernel_rfl)
theorem hb105 : HasBody Tryz.prog 105 := hasBody Tryz.func105 (by kernel_rfl)
theorem hb106 : HasBody Tryz.prog 106 := hasBody Tryz.func106 (by kernel_rfl)
theorem hb107 : HasBody Tryz.prog 107 := hasBody Tryz.func107 (by kernel_rfl)
theorem hb108 : HasBody Tryz.prog 108 := hasBody Tryz.func108 (by kernel_rfl)
theorem hb109 : HasBody Tryz.prog 109 := hasBody Tryz.func109 (by kernel_rfl)
theorem hb110 : HasBody Tryz.prog 110 := hasBody Tryz.func110 (by kernel_rfl)
theorem hb111 : HasBody Tryz.prog 111 := hasBody Tryz.func111 (by kernel_rfl)
theorem hb112 : HasBody Tryz.prog 112 := hasBody Tryz.func112 (by kernel_rfl)
theorem hb113 : HasBody Tryz.prog 113 := hasBody Tryz.func113 (by kernel_rfl)
theorem hb114 : HasBody Tryz.prog 114 := hasBody Tryz.func114 (by kernel_rfl)
theorem hb115 : HasBody Tryz.prog 115 := hasBody Tryz.func115 (by kernel_rfl)
theorem hb116 : HasBody Tryz.prog 116 := hasBody Tryz.func116 (by kernel_rfl)
theorem hb117 : HasBody Tryz.prog 117 := hasBody Tryz.func117 (by kernel_rfl)
theorem hb118 : HasBody Tryz.prog 118 := hasBody Tryz.func118 (by kernel_rfl)
theorem hb120 : HasBody Tryz.prog 120 := hasBody Tryz.func120 (by kernel_rfl)
theorem hb121 : HasBody Tryz.prog 121 := hasBody Tryz.func121 (by kernel_rfl)
theorem hb122 : HasBody Tryz.prog 122 := hasBody Tryz.func122 (by kernel_rfl)
theorem hb123 : HasBody Tryz.prog 123 := hasBody Tryz.func123 (by kernel_rfl)
theorem hb124 : HasBody Tryz.prog 124 := hasBody Tryz.func124 (by kernel_rfl)
theorem hb125 : HasBody Tryz.prog 125 := hasBody Tryz.func125 (by kernel_rfl)
theorem hb126 : HasBody Tryz.prog 126 := hasBody Tryz.func126 (by kernel_rfl)
theorem hb127 : HasBody Tryz.prog 127 := hasBody Tryz.func127 (by kernel_rfl)
theorem hb128 : HasBody Tryz.prog 128 := hasBody Tryz.func128 (by kernel_rfl)
theorem hb129 : HasBody Tryz.prog 129 := hasBody Tryz.func129 (by kernel_rfl)
theorem hb130 : HasBody Tryz.prog 130 := hasBody Tryz.func130 (by kernel_rfl)
theorem hb131 : HasBody Tryz.prog 131 := hasBody Tryz.func131 (by kernel_rfl)
theorem hb132 : HasBody Tryz.prog 132 := hasBody Tryz.func132 (by kernel_rfl)
theorem hb133 : HasBody Tryz.prog 133 := hasBody Tryz.func133 (by kernel_rfl)
theorem hb134 : HasBody Tryz.prog 134 := hasBody Tryz.func134 (by kernel_rfl)
theorem hb135 : HasBody Tryz.prog 135 := hasBody Tryz.func135 (by kernel_rfl)
theorem hb136 : HasBody Tryz.prog 136 := hasBody Tryz.func136 (by kernel_rfl)
theorem hb137 : HasBody Tryz.prog 137 := hasBody Tryz.func137 (by kernel_rfl)
theorem hb138 : HasBody Tryz.prog 138 := hasBody Tryz.func138 (by kernel_rfl)
theorem hb139 : HasBody Tryz.prog 139 := hasBody Tryz.func139 (by kernel_rfl)
theorem hb140 : HasBody Tryz.prog 140 := hasBody Tryz.func140 (by kernel_rfl)
theorem hb141 : HasBody Tryz.prog 141 := hasBody Tryz.func141 (by kernel_rfl)
theorem hb142 : HasBody Tryz.prog 142 := hasBody Tryz.func142 (by kernel_rfl)
theorem hb143 : HasBody Tryz.prog 143 := hasBody Tryz.func143 (by kernel_rfl)
theorem hb144 : HasBody Tryz.prog 144 := hasBody Tryz.func144 (by kernel_rfl)
theorem hb145 : HasBody Tryz.prog 145 := hasBody Tryz.func145 (by kernel_rfl)
theorem hb146 : HasBody Tryz.prog 146 := hasBody Tryz.func146 (by kernel_rfl)
theorem hb147 : HasBody Tryz.prog 147 := hasBody Tryz.func147 (by kernel_rfl)
theorem hb149 : HasBody Tryz.prog 149 := hasBody Tryz.func149 (by kernel_rfl)
theorem hb150 : HasBody Tryz.prog 150 := hasBody Tryz.func150 (by kernel_rfl)
theorem hb151 : HasBody Tryz.prog 151 := hasBody Tryz.func151 (by kernel_rfl)
theorem hb152 : HasBody Tryz.prog 152 := hasBody Tryz.func152 (by kernel_rfl)
theorem hb153 : HasBody Tryz.prog 153 := hasBody Tryz.func153 (by kernel_rfl)
theorem hb154 : HasBody Tryz.prog 154 := hasBody Tryz.func154 (by kernel_rfl)
theorem hb155 : HasBody Tryz.prog 155 := hasBody Tryz.func155 (by kernel_rfl)
theorem hb156 : HasBody Tryz.prog 156 := hasBody Tryz.func156 (by kernel_rfl)
theorem hb157 : HasBody Tryz.prog 157 := hasBody Tryz.func157 (by kernel_rfl)
theorem hb158 : HasBody Tryz.prog 158 := hasBody Tryz.func158 (by kernel_rfl)
theorem hb159 : HasBody Tryz.prog 159 := hasBody Tryz.func159 (by kernel_rfl)
theorem hb160 : HasBody Tryz.prog 160 := hasBody Tryz.func160 (by kernel_rfl)
theorem hb161 : HasBody Tryz.prog 161 := hasBody Tryz.func161 (by kernel_rfl)
theorem hb162 : HasBody Tryz.prog 162 := hasBody Tryz.func162 (by kernel_rfl)
theorem hb163 : HasBody Tryz.prog 163 := hasBody Tryz.func163 (by kernel_rfl)
theorem hb164 : HasBody Tryz.prog 164 := hasBody Tryz.func164 (by kernel_rfl)
theorem hb165 : HasBody Tryz.prog 165 := hasBody Tryz.func165 (by kernel_rfl)
theorem hb166 : HasBody Tryz.prog 166 := hasBody Tryz.func166 (by kernel_rfl)
theorem hb167 : HasBody Tryz.prog 167 := hasBody Tryz.func167 (by kernel_rfl)
theorem hb168 : HasBody Tryz.prog 168 := hasBody Tryz.func168 (by kernel_rfl)
theorem hb169 : HasBody Tryz.prog 169 := hasBody Tryz.func169 (by kernel_rfl)
theorem hb170 : HasBody Tryz.prog 170 := hasBody Tryz.func170 (by kernel_rfl)
theorem hb171 : HasBody Tryz.prog 171 := hasBody Tryz.func171 (by kernel_rfl)
theorem hb172 : HasBody Tryz.prog 172 := hasBody Tryz.func172 (by kernel_rfl)
theorem hb173 : HasBody Tryz.prog 173 := hasBody Tryz.func173 (by kernel_rfl)
theorem hb174 : HasBody Tryz.prog 174 := hasBody Tryz.func174 (by kernel_rfl)
theorem hb175 : HasBody Tryz.prog 175 := hasBody Tryz.func175 (by kernel_rfl)
theorem hb176 : HasBody Tryz.prog 176 := hasBody Tryz.func176 (by kernel_rfl)
theorem hb178 : HasBody Tryz.prog 178 := hasBody Tryz.func178 (by kernel_rfl)
theorem hb179 : HasBody Tryz.prog 179 := hasBody Tryz.func179 (by kernel_rfl)
theorem hb180 : HasBody Tryz.prog 180 := hasBody Tryz.func180 (by kernel_rfl)
theorem hb181 : HasBody Tryz.prog 181 := hasBody Tryz.func181 (by kernel_rfl)
theorem hb182 : HasBody Tryz.prog 182 := hasBody Tryz.func182 (by kernel_rfl)
theorem hb187 : HasBody Tryz.prog 187 := hasBody Tryz.func187 (by kernel_rfl)
theorem hb188 : HasBody Tryz.prog 188 := hasBody Tryz.func188 (by kernel_rfl)
theorem hb189 : HasBody Tryz.prog 189 := hasBody Tryz.func189 (by kernel_rfl)
theorem hb190 : HasBody Tryz.prog 190 := hasBody Tryz.func190 (by kernel_rfl)
theorem hb191 : HasBody Tryz.prog 191 := hasBody Tryz.func191 (by kernel_rfl)
theorem hb192 : HasBody Tryz.prog 192 := hasBody Tryz.func192 (by kernel_rfl)
theorem hb193 : HasBody Tryz.prog 193 := hasBody Tryz.func193 (by kernel_rfl)
theorem hb194 : HasBody Tryz.prog 194 := hasBody Tryz.func194 (by kernel_rfl)
theorem hb195 : HasBody Tryz.prog 195 := hasBody Tryz.func195 (by kernel_rfl)
theorem hb196 : HasBody Tryz.prog 196 := hasBody Tryz.func196 (by kernel_rfl)
theorem hb197 : HasBody Tryz.prog 197 := hasBody Tryz.func197 (by kernel_rfl)
theorem hb198 : HasBody Tryz.prog 198 := hasBody Tryz.func198 (by kernel_rfl)
theorem hb199 : HasBody Tryz.prog 199 := hasBody Tryz.func199 (by kernel_rfl)
theorem hb200 : HasBody Tryz.prog 200 := hasBody Tryz.func200 (by kernel_rfl)
theorem hb201 : HasBody Tryz.prog 201 := hasBody Tryz.func201 (by kernel_rfl)
theorem hb202 : HasBody Tryz.prog 202 := hasBody Tryz.func202 (by kernel_rfl)
theorem hb203 : HasBody Tryz.prog 203 := hasBody Tryz.func203 (by kernel_rfl)
theorem hb204 : HasBody Tryz.prog 204 := hasBody Tryz.func204 (by kernel_rfl)
theorem hb205 : HasBody Tryz.prog 205 := hasBody Tryz.func205 (by kernel_rfl)
theorem hb206 : HasBody Tryz.prog 206 := hasBody Tryz.func206 (by kernel_rfl)
theorem hb207 : HasBody Tryz.prog 207 := hasBody Tryz.func207 (by kernel_rfl)
theorem hb208 : HasBody Tryz.prog 208 := hasBody Tryz.func208 (by kernel_rfl)
theorem hb209 : HasBody Tryz.prog 209 := hasBody Tryz.func209 (by kernel_rfl)
theorem hb210 : HasBody Tryz.prog 210 := hasBody Tryz.func210 (by kernel_rfl)
theorem hb211 : HasBody Tryz.prog 211 := hasBody Tryz.func211 (by kernel_rfl)
theorem hb212 : HasBody Tryz.prog 212 := hasBody Tryz.func212 (by kernel_rfl)
theorem hb213 : HasBody Tryz.prog 213 := hasBody Tryz.func213 (by kernel_rfl)
theorem hb214 : HasBody Tryz.prog 214 := hasBody Tryz.func214 (by kernel_rfl)
theorem hb216 : HasBody Tryz.prog 216 := hasBody Tryz.func216 (by kernel_rfl)
theorem hb217 : HasBody Tryz.prog 217 := hasBody Tryz.func217 (by kernel_rfl)
theorem hb219 : HasBody Tryz.prog 219 := hasBody Tryz.func219 (by kernel_rfl)
theorem hb220 : HasBody Tryz.prog 220 := hasBody Tryz.func220 (by kernel_rfl)
theorem hb227 : HasBody Tryz.prog 227 := hasBody Tryz.func227 (by kernel_rfl)
theorem hb230 : HasBody Tryz.prog 230 := hasBody Tryz.func230 (by kernel_rfl)
theorem hb231 : HasBody Tryz.prog 231 := hasBody Tryz.func231 (by kernel_rfl)
theorem hb232 : HasBody Tryz.prog 232 := hasBody Tryz.func232 (by kernel_rfl)
theorem hb233 : HasBody Tryz.prog 233 := hasBody Tryz.func233 (by kernel_rfl)
theorem hb234 : HasBody Tryz.prog 234 := hasBody Tryz.func234 (by kernel_rfl)
theorem hb235 : HasBody Tryz.prog 235 := hasBody Tryz.func235 (by kernel_rfl)
theorem hb236 : HasBody Tryz.prog 236 := hasBody Tryz.func236 (by kernel_rfl)
theorem hb237 : HasBody Tryz.prog 237 := hasBody Tryz.func237 (by kernel_rfl)
theorem hb238 : HasBody Tryz.prog 238 := hasBody Tryz.func238 (by kernel_rfl)
theorem hb239 : HasBody Tryz.prog 239 := hasBody Tryz.func239 (by kernel_rfl)
theorem hb240 : HasBody Tryz.prog 240 := hasBody Tryz.func240 (by kernel_rfl)
theorem hb244 : HasBody Tryz.prog 244 := hasBody Tryz.func244 (by kernel_rfl)
theorem hb250 : HasBody Tryz.prog 250 := hasBody Tryz.func250 (by kernel_rfl)
theorem hb251 : HasBody Tryz.prog 251 := hasBody Tryz.func251 (by kernel_rfl)
theorem hb252 : HasBody Tryz.prog 252 := hasBody Tryz.func252 (by kernel_rfl)
theorem hb253 : HasBody Tryz.prog 253 := hasBody Tryz.func253 (by kernel_rfl)
theorem hb257 : HasBody Tryz.prog 257 := hasBody Tryz.func257 (by kernel_rfl)
theorem isz31 : (Tryz.prog.info? 31).map (·.size) = some 6 := by kernel_rfl
theorem blt31 : Tryz.prog.built 31 = fun parts => Instr.fill (([(0, 1), (1, 1), (2, 1), (3, 1), (4, 1), (5, 1)] : List (Nat × Nat)).toArray[·]?) [Value.int .i64 0, Value.int .i64 0, Value.string ⟨#[]⟩, Value.slice none 0 0, Value.slice none 0 0, Value.slice none 0 0].toArray parts := by kernel_rfl
theorem isz63 : (Tryz.prog.info? 63).map (·.size) = some 3 := by kernel_rfl
theorem blt63 : Tryz.prog.built 63 = fun parts => Instr.fill (([(0, 1), (1, 1), (2, 1)] : List (Nat × Nat)).toArray[·]?) [Value.slice none 0 0, Value.int .i64 0, Value.bool false].toArray parts := by kernel_rfl
theorem isz69 : (Tryz.prog.info? 69).map (·.size) = some 4 := by kernel_rfl
theorem blt69 : Tryz.prog.built 69 = fun parts => Instr.fill (([(0, 1), (1, 1), (2, 1), (3, 1)] : List (Nat × Nat)).toArray[·]?) [Value.slice none 0 0, Value.int .i64 0, Value.bool false, Value.int .i64 0].toArray parts := by kernel_rfl
theorem isz76 : (Tryz.prog.info? 76).map (·.size) = some 3 := by kernel_rfl
theorem blt76 : Tryz.prog.built 76 = fun parts => Instr.fill (([(0, 1), (1, 1), (2, 1)] : List (Nat × Nat)).toArray[·]?) [Value.int .i64 0, Value.int .i64 0, Value.slice none 0 0].toArray parts := by kernel_rfl
theorem isz80 : (Tryz.prog.info? 80).map (·.size) = some 5 := by kernel_rfl
theorem blt80 : Tryz.prog.built 80 = fun parts => Instr.fill (([(0, 1), (1, 4)] : List (Nat × Nat)).toArray[·]?) [Value.int .i64 0, Value.int .i64 0, Value.int .i64 0, Value.int .i64 0, Value.int .i64 0].toArray parts := by kernel_rfl
theorem isz84 : (Tryz.prog.info? 84).map (·.size) = some 6 := by kernel_rfl
theorem blt84 : Tryz.prog.built 84 = fun parts => Instr.fill (([(0, 1), (1, 1), (2, 1), (3, 1), (4, 1), (5, 1)] : List (Nat × Nat)).toArray[·]?) [Value.int .i64 0, Value.int .i64 0, Value.int .i64 0, Value.int .i64 0, Value.slice none 0 0, Value.int .i64 0].toArray parts := by kernel_rfl
theorem isz87 : (Tryz.prog.info? 87).map (·.size) = some 22 := by kernel_rfl
theorem blt87 : Tryz.prog.built 87 = fun parts => Instr.fill (([(0, 1), (1, 1), (2, 5), (7, 1), (8, 6), (14, 1), (15, 6), (21, 1)] : List (Nat × Nat)).toArray[·]?) [Value.int .i64 0, Value.slice none 0 0, Value.int .i64 0, Value.int .i64 0, Value.int .i64 0, Value.int .i64 0, Value.int .i64 0, Value.slice none 0 0, Value.int .i64 0, Value.int .i64 0, Value.int .i64 0, Value.int .i64 0, Value.slice none 0 0, Value.int .i64 0, Value.int .i64 0, Value.int .i64 0, Value.int .i64 0, Value.int .i64 0, Value.int .i64 0, Value.int .i64 0, Value.int .i64 0, Value.slice none 0 0].toArray parts := by kernel_rfl
theorem isz89 : (Tryz.prog.info? 89).map (·.size) = some 2 := by kernel_rfl
theorem blt89 : Tryz.prog.built 89 = fun parts => Instr.fill (([(0, 1), (1, 1)] : List (Nat × Nat)).toArray[·]?) [Value.slice none 0 0, Value.bool false].toArray parts := by kernel_rfl
theorem isz92 : (Tryz.prog.info? 92).map (·.size) = some 2 := by kernel_rfl
theorem blt92 : Tryz.prog.built 92 = fun parts => Instr.fill (([(0, 1), (1, 1)] : List (Nat × Nat)).toArray[·]?) [Value.slice none 0 0, Value.slice none 0 0].toArray parts := by kernel_rfl
theorem isz115 : (Tryz.prog.info? 115).map (·.size) = some 2 := by kernel_rfl
theorem blt115 : Tryz.prog.built 115 = fun parts => Instr.fill (([(0, 2)] : List (Nat × Nat)).toArray[·]?) [Value.pointer none, Value.slice none 0 0].toArray parts := by kernel_rfl
theorem isz129 : (Tryz.prog.info? 129).map (·.size) = some 2 := by kernel_rfl
theorem blt129 : Tryz.prog.built 129 = fun parts => Instr.fill (([(0, 1), (1, 1)] : List (Nat × Nat)).toArray[·]?) [Value.slice none 0 0, Value.bool false].toArray parts := by kernel_rfl
theorem eg143 : Tryz.prog.eqGuardType Tryz.prog.depth 143 = false := by kernel_rfl
theorem eqA143 (a0 : Int) (a1 : Int) (a2 : ByteArray) (b0 : Int) (b1 : Int) (b2 : ByteArray) (w : World) : (binOp .eql 143 (.agg #[.int .i64 a0, .int .i64 a1, .string a2]) (.agg #[.int .i64 b0, .int .i64 b1, .string b2])).run Tryz.prog w = .ok (.bool (decide (a0 = b0 ∧ a1 = b1 ∧ a2.toList = b2.toList))) w := by
  by_cases h0 : a0 = b0
  · by_cases h1 : a1 = b1
    · by_cases h2 : a2.toList = b2.toList
      · go_simp
      · go_simp
    · go_simp
  · go_simp
theorem neA143 (a0 : Int) (a1 : Int) (a2 : ByteArray) (b0 : Int) (b1 : Int) (b2 : ByteArray) (w : World) : (binOp .neq 143 (.agg #[.int .i64 a0, .int .i64 a1, .string a2]) (.agg #[.int .i64 b0, .int .i64 b1, .string b2])).run Tryz.prog w = .ok (.bool (!decide (a0 = b0 ∧ a1 = b1 ∧ a2.toList = b2.toList))) w := by
  by_cases h0 : a0 = b0
  · by_cases h1 : a1 = b1
    · by_cases h2 : a2.toList = b2.toList
      · go_simp
      · go_simp
    · go_simp
  · go_simp
theorem isz143 : (Tryz.prog.info? 143).map (·.size) = some 3 := by kernel_rfl
theorem blt143 : Tryz.prog.built 143 = fun parts => Instr.fill (([(0, 1), (1, 1), (2, 1)] : List (Nat × Nat)).toArray[·]?) [Value.int .i64 0, Value.int .i64 0, Value.string ⟨#[]⟩].toArray parts := by kernel_rfl
theorem eg167 : Tryz.prog.eqGuardType Tryz.prog.depth 167 = false := by kernel_rfl
theorem eqA167 (a0 : Int) (a1 : Int) (b0 : Int) (b1 : Int) (w : World) : (binOp .eql 167 (.agg #[.int .i64 a0, .int .i64 a1]) (.agg #[.int .i64 b0, .int .i64 b1])).run Tryz.prog w = .ok (.bool (decide (a0 = b0 ∧ a1 = b1))) w := by
  by_cases h0 : a0 = b0
  · by_cases h1 : a1 = b1
    · go_simp
    · go_simp
  · go_simp
theorem neA167 (a0 : Int) (a1 : Int) (b0 : Int) (b1 : Int) (w : World) : (binOp .neq 167 (.agg #[.int .i64 a0, .int .i64 a1]) (.agg #[.int .i64 b0, .int .i64 b1])).run Tryz.prog w = .ok (.bool (!decide (a0 = b0 ∧ a1 = b1))) w := by
  by_cases h0 : a0 = b0
  · by_cases h1 : a1 = b1
    · go_simp
    · go_simp
  · go_simp
theorem isz167 : (Tryz.prog.info? 167).map (·.size) = some 2 := by kernel_rfl
theorem blt167 : Tryz.prog.built 167 = fun parts => Instr.fill (([(0, 1), (1, 1)] : List (Nat × Nat)).toArray[·]?) [Value.int .i64 0, Value.int .i64 0].toArray parts := by kernel_rfl
theorem isz170 : (Tryz.prog.info? 170).map (·.size) = some 7 := by kernel_rfl
theorem blt170 : Tryz.prog.built 170 = fun parts => Instr.fill (([(0, 1), (1, 6)] : List (Nat × Nat)).toArray[·]?) [Value.int .i64 0, Value.int .i64 0, Value.int .i64 0, Value.int .i64 0, Value.int .i64 0, Value.int .i64 0, Value.int .i64 0].toArray parts := by kernel_rfl
theorem isz185 : (Tryz.prog.info? 185).map (·.size) = some 2 := by kernel_rfl
theorem blt185 : Tryz.prog.built 185 = fun parts => Instr.fill (([(0, 1), (1, 1)] : List (Nat × Nat)).toArray[·]?) [Value.slice none 0 0, Value.int .i64 0].toArray parts := by kernel_rfl

end Go.Proofs.YtjghbcjnplcleaaGreatDoor
