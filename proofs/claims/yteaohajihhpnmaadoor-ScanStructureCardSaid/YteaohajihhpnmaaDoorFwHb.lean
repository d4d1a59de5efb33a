/-
  Facts of this dump for the walks: which functions have a body of their own; how its structs are made.
-/
import Derived.Test.YteaohajihhpnmaaDoorFw
namespace Go.Proofs.YteaohajihhpnmaaDoor

theorem mixed : Tryd.prog.follows .mixedOrders = true := by kernel_rfl
theorem hb3 : HasBody Tryd.prog 3 := hasBody Tryd.func3 (by kernel_rfl)
theorem hb4 : HasBody Tryd.prog 4 := hasBody Tryd.func4 (by kernel_rfl)
theorem hb5 : HasBody Tryd.prog 5 := hasBody Tryd.func5 (by kernel_rfl)
theorem hb6 : HasBody Tryd.prog 6 := hasBody Tryd.func6 (by kernel_rfl)
theorem hb7 : HasBody Tryd.prog 7 := hasBody Tryd.func7 (by kernel_rfl)
theorem hb8 : HasBody Tryd.prog 8 := hasBody Tryd.func8 (by kernel_rfl)
theorem hb9 : HasBody Tryd.prog 9 := hasBody Tryd.func9 (by kernel_rfl)
theorem hb10 : HasBody Tryd.prog 10 := hasBody Tryd.func10 (by kernel_rfl)
theorem hb11 : HasBody Tryd.prog 11 := hasBody Tryd.func11 (by kernel_rfl)
theorem hb12 : HasBody Tryd.prog 12 := hasBody Tryd.func12 (by kernel_rfl)
theorem hb13 : HasBody Tryd.prog 13 := hasBody Tryd.func13 (by kernel_rfl)
theorem hb14 : HasBody Tryd.prog 14 := hasBody Tryd.func14 (by kernel_rfl)
theorem hb15 : HasBody Tryd.prog 15 := hasBody Tryd.func15 (by kernel_rfl)
theorem hb16 : HasBody Tryd.prog 16 := hasBody Tryd.func16 (by kernel_rfl)
theorem hb17 : HasBody Tryd.prog 17 := hasBody Tryd.func17 (by kernel_rfl)
theorem hb18 : HasBody Tryd.prog 18 := hasBody Tryd.func18 (by kernel_rfl)
theorem hb19 : HasBody Tryd.prog 19 := hasBody Tryd.func19 (by kernel_rfl)
theorem hb20 : HasBody Tryd.prog 20 := hasBody Tryd.func20 (by kernel_rfl)
theorem hb21 : HasBody Tryd.prog 21 := hasBody Tryd.func21 (by kernel_rfl)
theorem hb22 : HasBody Tryd.prog 22 := hasBody Tryd.func22 (by kernel_rfl)
theorem hb23 : HasBody Tryd.prog 23 := hasBody Tryd.func23 (by kernel_rfl)
theorem hb24 : HasBody Tryd.prog 24 := hasBody Tryd.func24 (by kernel_rfl)
theorem hb25 : HasBody Tryd.prog 25 := hasBody Tryd.func25 (by kernel_rfl)
theorem hb26 : HasBody Tryd.prog 26 := hasBody Tryd.func26 (by kernel_rfl)
theorem hb27 : HasBody Tryd.prog 27 := hasBody Tryd.func27 (by kernel_rfl)
theorem hb28 : HasBody Tryd.prog 28 := hasBody Tryd.func28 (by kernel_rfl)
theorem hb29 : HasBody Tryd.prog 29 := hasBody Tryd.func29 (by kernel_rfl)
theorem hb30 : HasBody Tryd.prog 30 := hasBody Tryd.func30 (by kernel_rfl)
theorem hb31 : HasBody Tryd.prog 31 := hasBody Tryd.func31 (by kernel_rfl)
theorem hb32 : HasBody Tryd.prog 32 := hasBody Tryd.func32 (by kernel_rfl)
theorem hb33 : HasBody Tryd.prog 33 := hasBody Tryd.func33 (by kernel_rfl)
theorem hb34 : HasBody Tryd.prog 34 := hasBody Tryd.func34 (by kernel_rfl)
theorem hb35 : HasBody Tryd.prog 35 := hasBody Tryd.func35 (by kernel_rfl)
theorem hb36 : HasBody Tryd.prog 36 := hasBody Tryd.func36 (by kernel_rfl)
theorem hb37 : HasBody Tryd.prog 37 := hasBody Tryd.func37 (by kernel_rfl)
theorem hb38 : HasBody Tryd.prog 38 := hasBody Tryd.func38 (by kernel_rfl)
theorem hb39 : HasBody Tryd.prog 39 := hasBody Tryd.func39 (by kernel_rfl)
theorem hb40 : HasBody Tryd.prog 40 := hasBody Tryd.func40 (by kernel_rfl)
theorem hb41 : HasBody Tryd.prog 41 := hasBody Tryd.func41 (by kernel_rfl)
theorem hb42 : HasBody Tryd.prog 42 := hasBody Tryd.func42 (by kernel_rfl)
theorem hb43 : HasBody Tryd.prog 43 := hasBody Tryd.func43 (by kernel_rfl)
theorem hb44 : HasBody Tryd.prog 44 := hasBody Tryd.func44 (by kernel_rfl)
theorem hb45 : HasBody Tryd.prog 45 := hasBody Tryd.func45 (by kernel_rfl)
theorem hb46 : HasBody Tryd.prog 46 := hasBody Tryd.func46 (by kernel_rfl)
theorem hb47 : HasBody Tryd.prog 47 := hasBody Tryd.func47 (by kernel_rfl)
theorem hb48 : HasBody Tryd.prog 48 := hasBody Tryd.func48 (by kernel_rfl)
theorem hb49 : HasBody Tryd.prog 49 := hasBody Tryd.func49 (by kernel_rfl)
theorem hb50 : HasBody Tryd.prog 50 := hasBody Tryd.func50 (by kernel_rfl)
theorem hb51 : HasBody Tryd.prog 51 := hasBody Tryd.func51 (by kernel_rfl)
theorem hb52 : HasBody Tryd.prog 52 := hasBody Tryd.func52 (by kernel_rfl)
theorem hb53 : HasBody Tryd.prog 53 := hasBody Tryd.func53 (by kernel_rfl)
theorem hb54 : HasBody Tryd.prog 54 := hasBody Tryd.func54 (by kernel_rfl)
theorem hb55 : HasBody Tryd.prog 55 := hasBody Tryd.func55 (by kernel_rfl)
theorem hb56 : HasBody Tryd.prog 56 := hasBody Tryd.func56 (by kernel_rfl)
theorem hb57 : HasBody Tryd.prog 57 := hasBody Tryd.func57 (by kernel_rfl)
theorem hb58 : HasBody Tryd.prog 58 := hasBody Tryd.func58 (by kernel_rfl)
theorem hb59 : HasBody Tryd.prog 59 := hasBody Tryd.func59 (by kernel_rfl)
theorem hb60 : HasBody Tryd.prog 60 := hasBody Tryd.func60 (by kernel_rfl)
theorem hb61 : HasBody Tryd.prog 61 := hasBody Tryd.func61 (by kernel_rfl)
theorem hb62 : HasBody Tryd.prog 62 := hasBody Tryd.func62 (by kernel_rfl)
theorem hb63 : HasBody Tryd.prog 63 := hasBody Tryd.func63 (by kernel_rfl)
theorem hb64 : HasBody Tryd.prog 64 := hasBody Tryd.func64 (by kernel_rfl)
theorem hb65 : HasBody Tryd.prog 65 := hasBody Tryd.func65 (by kernel_rfl)
theorem hb66 : HasBody Tryd.prog 66 := hasBody Tryd.func66 (by kernel_rfl)
theorem hb67 : HasBody Tryd.prog 67 := hasBody Tryd.func67 (by kernel_rfl)
theorem hb68 : HasBody Tryd.prog 68 := hasBody Tryd.func68 (by kernel_rfl)
theorem hb70 : HasBody Tryd.prog 70 := hasBody Tryd.func70 (by kernel_rfl)
theorem hb71 : HasBody Tryd.prog 71 := hasBody Tryd.func71 (by kernel_rfl)
theorem hb73 : HasBody Tryd.prog 73 := hasBody Tryd.func73 (by kernel_rfl)
theorem hb75 : HasBody Tryd.prog 75 := hasBody Tryd.func75 (by kernel_rfl)
theorem hb76 : HasBody Tryd.prog 76 := hasBody Tryd.func76 (by kernel_rfl)
theorem hb77 : HasBody Tryd.prog 77 := hasBody Tryd.func77 (by kernel_rfl)
theorem hb78 : HasBody Tryd.prog 78 := hasBody Tryd.func78 (by kernel_rfl)
theorem hb79 : HasBody Tryd.prog 79 := hasBody Tryd.func79 (by kernel_rfl)
theorem hb80 : HasBody Tryd.prog 80 := hasBody Tryd.func80 (by kernel_rfl)
theorem hb81 : HasBody Tryd.prog 81 := hasBody Tryd.func81 (by kernel_rfl)
theorem hb82 : HasBody Tryd.prog 82 := hasBody Tryd.func82 (by kernel_rfl)
theorem hb83 : HasBody Tryd.prog 83 := hasBody Tryd.func83 (by kernel_rfl)
theorem hb86 : HasBody Tryd.prog 86 := hasBody Tryd.func86 (by kernel_rfl)
theorem hb87 : HasBody Tryd.prog 87 := hasBody Tryd.func87 (by kernel_rfl)
theorem hb88 : HasBody Tryd.prog 88 := hasBody Tryd.func88 (by kernel_rfl)
theorem hb89 : HasBody Tryd.prog 89 := hasBody Tryd.func89 (by kernel_rfl)
theorem hb90 : HasBody Tryd.prog 90 := hasBody Tryd.func90 (by kernel_rfl)
theorem hb99 : HasBody Tryd.prog 99 := hasBody Tryd.func99 (by kernel_rfl)
theorem hb100 : HasBody Tryd.prog 100 := hasBody Tryd.func100 (by kernel_rfl)
theorem hb101 : HasBody Tryd.prog 101 := hasBody Tryd.func101 (by kernel_rfl)
theorem hb102 : HasBody Tryd.prog 102 := hasBody Tryd.func102 (by kernel_rfl)
theorem hb103 : HasBody Tryd.prog 103 := hasBody Tryd.func103 (by kernel_rfl)
theorem hb104 : HasBody Tryd.prog 104 := hasBody Tryd.func104 (by kernel_rfl)
theorem hb105 : HasBody Tryd.prog 105 := hasBody Tryd.func105 (by kernel_rfl)
theorem hb106 : HasBody Tryd.prog 106 := hasBody Tryd.func106 (by kernel_rfl)
theorem hb108 : HasBody Tryd.prog 108 := hasBody Tryd.func108 (by kernel_rfl)
theorem hb109 : HasBody Tryd.prog 109 := hasBody Tryd.func109 (by kernel_rfl)
theorem hb110 : HasBody Tryd.prog 110 := hasBody Tryd.func110 (by kernel_rfl)
theorem hb112 : HasBody Tryd.prog 112 := hasBody Tryd.func112 (by kernel_rfl)
theorem hb118 : HasBody Tryd.prog 118 := hasBody Tryd.func118 (by kernel_rfl)
theorem eg27 : Tryd.prog.eqGuardType Tryd.prog.depth 27 = false := by kernel_rfl
theorem eqA27 (a0 : Int) (a1 : Int) (a2 : ByteArray) (b0 : Int) (b1 : Int) (b2 : ByteArray) (w : World) : (binOp .eql 27 (.agg #[.int .i64 a0, .int .i64 a1, .string a2]) (.agg #[.int .i64 b0, .int .i64 b1, .string b2])).run Tryd.prog w = .ok (.bool (decide (a0 = b0 ∧ a1 = b1 ∧ a2.toList = b2.toList))) w := by
  by_cases h0 : a0 = b0
  · by_cases h1 : a1 = b1
    · by_cases h2 : a2.toList = b2.toList
      · go_simp
      · go_simp
    · go_simp
  · go_simp
theorem neA27 (a0 : Int) (a1 : Int) (a2 : ByteArray) (b0 : Int) (b1 : Int) (b2 : ByteArray) (w : World) : (binOp .neq 27 (.agg #[.int .i64 a0, .int .i64 a1, .string a2]) (.agg #[.int .i64 b0, .int .i64 b1, .string b2])).run Tryd.prog w = .ok (.bool (!decide (a0 = b0 ∧ a1 = b1 ∧ a2.toList = b2.toList))) w := by
  by_cases h0 : a0 = b0
  · by_cases h1 : a1 = b1
    · by_cases h2 : a2.toList = b2.toList
      · go_simp
      · go_simp
    · go_simp
  · go_simp
theorem isz27 : (Tryd.prog.info? 27).map (·.size) = some 3 := by kernel_rfl
theorem blt27 : Tryd.prog.built 27 = fun parts => Instr.fill (([(0, 1), (1, 1), (2, 1)] : List (Nat × Nat)).toArray[·]?) [Value.int .i64 0, Value.int .i64 0, Value.string ⟨#[]⟩].toArray parts := by kernel_rfl
theorem isz71 : (Tryd.prog.info? 71).map (·.size) = some 2 := by kernel_rfl
theorem blt71 : Tryd.prog.built 71 = fun parts => Instr.fill (([(0, 1), (1, 1)] : List (Nat × Nat)).toArray[·]?) [Value.slice none 0 0, Value.int .i64 0].toArray parts := by kernel_rfl

end Go.Proofs.YteaohajihhpnmaaDoor
