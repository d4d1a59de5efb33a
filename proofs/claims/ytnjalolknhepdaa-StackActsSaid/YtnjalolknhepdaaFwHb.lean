/-
  Facts of this dump for the walks: which functions have a body of their own; how its structs are made.
-/
import Derived.Test.YtnjalolknhepdaaFw
namespace Go.Proofs.Ytnjalolknhepdaa

theorem mixed : Try.prog.follows .mixedOrders = true := by kernel_rfl
theorem hb3 : HasBody Try.prog 3 := hasBody Try.func3 (by kernel_rfl)
theorem hb4 : HasBody Try.prog 4 := hasBody Try.func4 (by kernel_rfl)
theorem hb5 : HasBody Try.prog 5 := hasBody Try.func5 (by kernel_rfl)
theorem hb6 : HasBody Try.prog 6 := hasBody Try.func6 (by kernel_rfl)
theorem hb7 : HasBody Try.prog 7 := hasBody Try.func7 (by kernel_rfl)
theorem hb8 : HasBody Try.prog 8 := hasBody Try.func8 (by kernel_rfl)
theorem hb9 : HasBody Try.prog 9 := hasBody Try.func9 (by kernel_rfl)
theorem hb10 : HasBody Try.prog 10 := hasBody Try.func10 (by kernel_rfl)
theorem hb11 : HasBody Try.prog 11 := hasBody Try.func11 (by kernel_rfl)
theorem hb12 : HasBody Try.prog 12 := hasBody Try.func12 (by kernel_rfl)
theorem hb13 : HasBody Try.prog 13 := hasBody Try.func13 (by kernel_rfl)
theorem hb14 : HasBody Try.prog 14 := hasBody Try.func14 (by kernel_rfl)
theorem hb15 : HasBody Try.prog 15 := hasBody Try.func15 (by kernel_rfl)
theorem hb16 : HasBody Try.prog 16 := hasBody Try.func16 (by kernel_rfl)
theorem hb17 : HasBody Try.prog 17 := hasBody Try.func17 (by kernel_rfl)
theorem hb18 : HasBody Try.prog 18 := hasBody Try.func18 (by kernel_rfl)
theorem hb19 : HasBody Try.prog 19 := hasBody Try.func19 (by kernel_rfl)
theorem hb20 : HasBody Try.prog 20 := hasBody Try.func20 (by kernel_rfl)
theorem hb21 : HasBody Try.prog 21 := hasBody Try.func21 (by kernel_rfl)
theorem hb22 : HasBody Try.prog 22 := hasBody Try.func22 (by kernel_rfl)
theorem hb23 : HasBody Try.prog 23 := hasBody Try.func23 (by kernel_rfl)
theorem hb24 : HasBody Try.prog 24 := hasBody Try.func24 (by kernel_rfl)
theorem hb25 : HasBody Try.prog 25 := hasBody Try.func25 (by kernel_rfl)
theorem hb26 : HasBody Try.prog 26 := hasBody Try.func26 (by kernel_rfl)
theorem hb27 : HasBody Try.prog 27 := hasBody Try.func27 (by kernel_rfl)
theorem hb28 : HasBody Try.prog 28 := hasBody Try.func28 (by kernel_rfl)
theorem hb29 : HasBody Try.prog 29 := hasBody Try.func29 (by kernel_rfl)
theorem hb30 : HasBody Try.prog 30 := hasBody Try.func30 (by kernel_rfl)
theorem hb31 : HasBody Try.prog 31 := hasBody Try.func31 (by kernel_rfl)
theorem hb32 : HasBody Try.prog 32 := hasBody Try.func32 (by kernel_rfl)
theorem hb33 : HasBody Try.prog 33 := hasBody Try.func33 (by kernel_rfl)
theorem hb34 : HasBody Try.prog 34 := hasBody Try.func34 (by kernel_rfl)
theorem hb35 : HasBody Try.prog 35 := hasBody Try.func35 (by kernel_rfl)
theorem hb37 : HasBody Try.prog 37 := hasBody Try.func37 (by kernel_rfl)
theorem hb39 : HasBody Try.prog 39 := hasBody Try.func39 (by kernel_rfl)
theorem hb40 : HasBody Try.prog 40 := hasBody Try.func40 (by kernel_rfl)
theorem isz37 : (Try.prog.info? 37).map (·.size) = some 5 := by kernel_rfl
theorem blt37 : Try.prog.built 37 = fun parts => Instr.fill (([(0, 1), (1, 1), (2, 1), (3, 1), (4, 1)] : List (Nat × Nat)).toArray[·]?) [Value.int .i64 0, Value.int .i64 0, Value.int .i64 0, Value.slice none 0 0, Value.slice none 0 0].toArray parts := by kernel_rfl
theorem eg39 : Try.prog.eqGuardType Try.prog.depth 39 = false := by kernel_rfl
theorem eqA39 (a0 : Int) (a1 : Bool) (a2 : Int) (a3 : Int) (a4 : ByteArray) (a5 : Int) (a6 : Int) (a7 : Int) (b0 : Int) (b1 : Bool) (b2 : Int) (b3 : Int) (b4 : ByteArray) (b5 : Int) (b6 : Int) (b7 : Int) (w : World) : (binOp .eql 39 (.agg #[.int .i64 a0, .bool a1, .int .i64 a2, .int .i64 a3, .string a4, .int .i64 a5, .int .i64 a6, .int .i64 a7]) (.agg #[.int .i64 b0, .bool b1, .int .i64 b2, .int .i64 b3, .string b4, .int .i64 b5, .int .i64 b6, .int .i64 b7])).run Try.prog w = .ok (.bool (decide (a0 = b0 ∧ a1 = b1 ∧ a2 = b2 ∧ a3 = b3 ∧ a4.toList = b4.toList ∧ a5 = b5 ∧ a6 = b6 ∧ a7 = b7))) w := by
  by_cases h0 : a0 = b0
  · by_cases h1 : a1 = b1
    · by_cases h2 : a2 = b2
      · by_cases h3 : a3 = b3
        · by_cases h4 : a4.toList = b4.toList
          · by_cases h5 : a5 = b5
            · by_cases h6 : a6 = b6
              · by_cases h7 : a7 = b7
                · go_simp
                · go_simp
              · go_simp
            · go_simp
          · go_simp
        · go_simp
      · go_simp
    · go_simp
  · go_simp
theorem neA39 (a0 : Int) (a1 : Bool) (a2 : Int) (a3 : Int) (a4 : ByteArray) (a5 : Int) (a6 : Int) (a7 : Int) (b0 : Int) (b1 : Bool) (b2 : Int) (b3 : Int) (b4 : ByteArray) (b5 : Int) (b6 : Int) (b7 : Int) (w : World) : (binOp .neq 39 (.agg #[.int .i64 a0, .bool a1, .int .i64 a2, .int .i64 a3, .string a4, .int .i64 a5, .int .i64 a6, .int .i64 a7]) (.agg #[.int .i64 b0, .bool b1, .int .i64 b2, .int .i64 b3, .string b4, .int .i64 b5, .int .i64 b6, .int .i64 b7])).run Try.prog w = .ok (.bool (!decide (a0 = b0 ∧ a1 = b1 ∧ a2 = b2 ∧ a3 = b3 ∧ a4.toList = b4.toList ∧ a5 = b5 ∧ a6 = b6 ∧ a7 = b7))) w := by
  by_cases h0 : a0 = b0
  · by_cases h1 : a1 = b1
    · by_cases h2 : a2 = b2
      · by_cases h3 : a3 = b3
        · by_cases h4 : a4.toList = b4.toList
          · by_cases h5 : a5 = b5
            · by_cases h6 : a6 = b6
              · by_cases h7 : a7 = b7
                · go_simp
                · go_simp
              · go_simp
            · go_simp
          · go_simp
        · go_simp
      · go_simp
    · go_simp
  · go_simp
theorem isz39 : (Try.prog.info? 39).map (·.size) = some 8 := by kernel_rfl
theorem blt39 : Try.prog.built 39 = fun parts => Instr.fill (([(0, 1), (1, 1), (2, 1), (3, 1), (4, 1), (5, 1), (6, 1), (7, 1)] : List (Nat × Nat)).toArray[·]?) [Value.int .i64 0, Value.bool false, Value.int .i64 0, Value.int .i64 0, Value.string ⟨#[]⟩, Value.int .i64 0, Value.int .i64 0, Value.int .i64 0].toArray parts := by kernel_rfl
theorem isz57 : (Try.prog.info? 57).map (·.size) = some 4 := by kernel_rfl
theorem blt57 : Try.prog.built 57 = fun parts => Instr.fill (([(0, 1), (1, 1), (2, 1), (3, 1)] : List (Nat × Nat)).toArray[·]?) [Value.int .i64 0, Value.int .i64 0, Value.int .i64 0, Value.slice none 0 0].toArray parts := by kernel_rfl

end Go.Proofs.Ytnjalolknhepdaa
