/- Written by a program (gen.py): functions of the translation as transformers, with the link to Calls. -/
import Derived.Test.YtdjdeahmhenchaaLycDef
import Derived.Test.YtdjdeahmhenchaaLycTy
set_option linter.unusedSimpArgs false
set_option linter.unusedVariables false
namespace Go.Proofs.Ytdjdeahmhenchaa
open Lyc Go
set_option maxRecDepth 100000

@[go_sem] theorem ty0z : tzero Try.prog 0 = some (.tuple #[]) := by kernel_rfl
@[go_sem] theorem ty0 : tkind Try.prog 0 = some 0 ∧ tsize Try.prog 0 = some 1 ∧ tbytes Try.prog 0 = some 0 ∧ tagg Try.prog 0 = some false := by and_intros <;> kernel_rfl
@[go_sem] theorem ty1z : tzero Try.prog 1 = some (.nilFunc) := by kernel_rfl
@[go_sem] theorem ty1 : tkind Try.prog 1 = some 11 ∧ tsize Try.prog 1 = some 1 ∧ tbytes Try.prog 1 = some 8 ∧ tagg Try.prog 1 = some false := by and_intros <;> kernel_rfl
@[go_sem] theorem ty2z : tzero Try.prog 2 = some (.int .i64 0) := by kernel_rfl
@[go_sem] theorem ty2 : tkind Try.prog 2 = some 8 ∧ tsize Try.prog 2 = some 1 ∧ tbytes Try.prog 2 = some 8 ∧ tagg Try.prog 2 = some false ∧ tint Try.prog 2 = some .i64 := by and_intros <;> kernel_rfl
@[go_sem] theorem ty3z : tzero Try.prog 3 = some (.int .i64 0) := by kernel_rfl
@[go_sem] theorem ty3 : tkind Try.prog 3 = some 8 ∧ tsize Try.prog 3 = some 1 ∧ tbytes Try.prog 3 = some 8 ∧ tagg Try.prog 3 = some false ∧ tint Try.prog 3 = some .i64 := by and_intros <;> kernel_rfl
@[go_sem] theorem ty4z : tzero Try.prog 4 = some (.bool false) := by kernel_rfl
@[go_sem] theorem ty4 : tkind Try.prog 4 = some 9 ∧ tsize Try.prog 4 = some 1 ∧ tbytes Try.prog 4 = some 1 ∧ tagg Try.prog 4 = some false := by and_intros <;> kernel_rfl
@[go_sem] theorem ty5z : tzero Try.prog 5 = some (.int .u8 0) := by kernel_rfl
@[go_sem] theorem ty5 : tkind Try.prog 5 = some 8 ∧ tsize Try.prog 5 = some 1 ∧ tbytes Try.prog 5 = some 1 ∧ tagg Try.prog 5 = some false ∧ tint Try.prog 5 = some .u8 := by and_intros <;> kernel_rfl
@[go_sem] theorem ty6z : tzero Try.prog 6 = some (.int .u8 0) := by kernel_rfl
@[go_sem] theorem ty6 : tkind Try.prog 6 = some 8 ∧ tsize Try.prog 6 = some 1 ∧ tbytes Try.prog 6 = some 1 ∧ tagg Try.prog 6 = some false ∧ tint Try.prog 6 = some .u8 := by and_intros <;> kernel_rfl
@[go_sem] theorem ty7z : tzero Try.prog 7 = some (.agg #[.int .i64 0, .int .i64 0, .bool false, .int .u8 0]) := by kernel_rfl
@[go_sem] theorem ty7 : tkind Try.prog 7 = some 7 ∧ tsize Try.prog 7 = some 4 ∧ tbytes Try.prog 7 = some 24 ∧ tagg Try.prog 7 = some true ∧ tsizeA Try.prog 7 = some 4 ∧ tfield Try.prog 7 0 = some (0, 1) ∧ tfo Try.prog 7 0 = some 0 ∧ tfield Try.prog 7 1 = some (1, 1) ∧ tfo Try.prog 7 1 = some 1 ∧ tfield Try.prog 7 2 = some (2, 1) ∧ tfo Try.prog 7 2 = some 2 ∧ tfield Try.prog 7 3 = some (3, 1) ∧ tfo Try.prog 7 3 = some 3 ∧ tfields Try.prog 7 = some [(0, 1), (1, 1), (2, 1), (3, 1)] := by and_intros <;> kernel_rfl
@[go_sem] theorem ty8z : tzero Try.prog 8 = some (.agg #[.int .i64 0, .int .i64 0, .bool false, .int .u8 0]) := by kernel_rfl
@[go_sem] theorem ty8 : tkind Try.prog 8 = some 7 ∧ tsize Try.prog 8 = some 4 ∧ tbytes Try.prog 8 = some 24 ∧ tagg Try.prog 8 = some true ∧ tsizeA Try.prog 8 = some 4 ∧ tfield Try.prog 8 0 = some (0, 1) ∧ tfo Try.prog 8 0 = some 0 ∧ tfield Try.prog 8 1 = some (1, 1) ∧ tfo Try.prog 8 1 = some 1 ∧ tfield Try.prog 8 2 = some (2, 1) ∧ tfo Try.prog 8 2 = some 2 ∧ tfield Try.prog 8 3 = some (3, 1) ∧ tfo Try.prog 8 3 = some 3 ∧ tfields Try.prog 8 = some [(0, 1), (1, 1), (2, 1), (3, 1)] := by and_intros <;> kernel_rfl
@[go_sem] theorem ty9z : tzero Try.prog 9 = some (.string ⟨#[]⟩) := by kernel_rfl
@[go_sem] theorem ty9 : tkind Try.prog 9 = some 3 ∧ tsize Try.prog 9 = some 1 ∧ tbytes Try.prog 9 = some 16 ∧ tagg Try.prog 9 = some false := by and_intros <;> kernel_rfl
@[go_sem] theorem ty10z : tzero Try.prog 10 = some (.string ⟨#[]⟩) := by kernel_rfl
@[go_sem] theorem ty10 : tkind Try.prog 10 = some 3 ∧ tsize Try.prog 10 = some 1 ∧ tbytes Try.prog 10 = some 16 ∧ tagg Try.prog 10 = some false := by and_intros <;> kernel_rfl
@[go_sem] theorem ty11z : tzero Try.prog 11 = some (.string ⟨#[]⟩) := by kernel_rfl
@[go_sem] theorem ty11 : tkind Try.prog 11 = some 3 ∧ tsize Try.prog 11 = some 1 ∧ tbytes Try.prog 11 = some 16 ∧ tagg Try.prog 11 = some false := by and_intros <;> kernel_rfl
@[go_sem] theorem ty12z : tzero Try.prog 12 = some (.int .u64 0) := by kernel_rfl
@[go_sem] theorem ty12 : tkind Try.prog 12 = some 8 ∧ tsize Try.prog 12 = some 1 ∧ tbytes Try.prog 12 = some 8 ∧ tagg Try.prog 12 = some false ∧ tint Try.prog 12 = some .u64 := by and_intros <;> kernel_rfl
@[go_sem] theorem ty13z : tzero Try.prog 13 = some (.agg #[.string ⟨#[]⟩, .int .u64 0]) := by kernel_rfl
@[go_sem] theorem ty13 : tkind Try.prog 13 = some 7 ∧ tsize Try.prog 13 = some 2 ∧ tbytes Try.prog 13 = some 24 ∧ tagg Try.prog 13 = some true ∧ tsizeA Try.prog 13 = some 2 ∧ tfield Try.prog 13 0 = some (0, 1) ∧ tfo Try.prog 13 0 = some 0 ∧ tfield Try.prog 13 1 = some (1, 1) ∧ tfo Try.prog 13 1 = some 1 ∧ tfields Try.prog 13 = some [(0, 1), (1, 1)] := by and_intros <;> kernel_rfl
@[go_sem] theorem ty14z : tzero Try.prog 14 = some (.agg #[.string ⟨#[]⟩, .int .u64 0]) := by kernel_rfl
@[go_sem] theorem ty14 : tkind Try.prog 14 = some 7 ∧ tsize Try.prog 14 = some 2 ∧ tbytes Try.prog 14 = some 24 ∧ tagg Try.prog 14 = some true ∧ tsizeA Try.prog 14 = some 2 ∧ tfield Try.prog 14 0 = some (0, 1) ∧ tfo Try.prog 14 0 = some 0 ∧ tfield Try.prog 14 1 = some (1, 1) ∧ tfo Try.prog 14 1 = some 1 ∧ tfields Try.prog 14 = some [(0, 1), (1, 1)] := by and_intros <;> kernel_rfl
@[go_sem] theorem ty15z : tzero Try.prog 15 = some (.pointer none) := by kernel_rfl
@[go_sem] theorem ty15 : tkind Try.prog 15 = some 4 ∧ tsize Try.prog 15 = some 1 ∧ tbytes Try.prog 15 = some 8 ∧ tagg Try.prog 15 = some false ∧ telem Try.prog 15 = some 177 := by and_intros <;> kernel_rfl
@[go_sem] theorem ty16z : tzero Try.prog 16 = some (.pointer none) := by kernel_rfl
@[go_sem] theorem ty16 : tkind Try.prog 16 = some 4 ∧ tsize Try.prog 16 = some 1 ∧ tbytes Try.prog 16 = some 8 ∧ tagg Try.prog 16 = some false ∧ telem Try.prog 16 = some 180 := by and_intros <;> kernel_rfl
@[go_sem] theorem ty17z : tzero Try.prog 17 = some (.pointer none) := by kernel_rfl
@[go_sem] theorem ty17 : tkind Try.prog 17 = some 4 ∧ tsize Try.prog 17 = some 1 ∧ tbytes Try.prog 17 = some 8 ∧ tagg Try.prog 17 = some false ∧ telem Try.prog 17 = some 188 := by and_intros <;> kernel_rfl
@[go_sem] theorem ty18z : tzero Try.prog 18 = some (.agg #[.pointer none]) := by kernel_rfl
@[go_sem] theorem ty18 : tkind Try.prog 18 = some 7 ∧ tsize Try.prog 18 = some 1 ∧ tbytes Try.prog 18 = some 8 ∧ tagg Try.prog 18 = some true ∧ tsizeA Try.prog 18 = some 1 ∧ tfield Try.prog 18 0 = some (0, 1) ∧ tfo Try.prog 18 0 = some 0 ∧ tfields Try.prog 18 = some [(0, 1)] := by and_intros <;> kernel_rfl
@[go_sem] theorem ty19z : tzero Try.prog 19 = some (.agg #[.pointer none]) := by kernel_rfl
@[go_sem] theorem ty19 : tkind Try.prog 19 = some 7 ∧ tsize Try.prog 19 = some 1 ∧ tbytes Try.prog 19 = some 8 ∧ tagg Try.prog 19 = some true ∧ tsizeA Try.prog 19 = some 1 ∧ tfield Try.prog 19 0 = some (0, 1) ∧ tfo Try.prog 19 0 = some 0 ∧ tfields Try.prog 19 = some [(0, 1)] := by and_intros <;> kernel_rfl
@[go_sem] theorem ty20z : tzero Try.prog 20 = some (.nilIface) := by kernel_rfl
@[go_sem] theorem ty20 : tkind Try.prog 20 = some 10 ∧ tsize Try.prog 20 = some 1 ∧ tbytes Try.prog 20 = some 16 ∧ tagg Try.prog 20 = some false := by and_intros <;> kernel_rfl
@[go_sem] theorem ty21z : tzero Try.prog 21 = some (.int .i32 0) := by kernel_rfl
@[go_sem] theorem ty21 : tkind Try.prog 21 = some 8 ∧ tsize Try.prog 21 = some 1 ∧ tbytes Try.prog 21 = some 4 ∧ tagg Try.prog 21 = some false ∧ tint Try.prog 21 = some .i32 := by and_intros <;> kernel_rfl
@[go_sem] theorem ty22z : tzero Try.prog 22 = some (.slice none 0 0) := by kernel_rfl
@[go_sem] theorem ty22sl : tslice Try.prog 22 = some 5 := by kernel_rfl
@[go_sem] theorem ty22ap : tapp Try.prog 22 = some (27, 5, 32) := by kernel_rfl
@[go_sem] theorem ty22mk : tmk Try.prog 22 = some (27, 5, [.int .i64 0, .int .i64 0, .int .i64 0, .bool false, .bool false], 32) := by kernel_rfl
@[go_sem] theorem ty22 : tkind Try.prog 22 = some 1 ∧ tsize Try.prog 22 = some 1 ∧ tbytes Try.prog 22 = some 24 ∧ tagg Try.prog 22 = some false ∧ tbs Try.prog 22 = some (27, 5, [.int .i64 0, .int .i64 0, .int .i64 0, .bool false, .bool false]) ∧ telem Try.prog 22 = some 27 := by and_intros <;> kernel_rfl
@[go_sem] theorem ty23z : tzero Try.prog 23 = some (.nilFunc) := by kernel_rfl
@[go_sem] theorem ty23 : tkind Try.prog 23 = some 11 ∧ tsize Try.prog 23 = some 1 ∧ tbytes Try.prog 23 = some 8 ∧ tagg Try.prog 23 = some false := by and_intros <;> kernel_rfl
@[go_sem] theorem ty24z : tzero Try.prog 24 = some (.pointer none) := by kernel_rfl
@[go_sem] theorem ty24 : tkind Try.prog 24 = some 4 ∧ tsize Try.prog 24 = some 1 ∧ tbytes Try.prog 24 = some 8 ∧ tagg Try.prog 24 = some false ∧ telem Try.prog 24 = some 86 := by and_intros <;> kernel_rfl
@[go_sem] theorem ty25z : tzero Try.prog 25 = some (.nilFunc) := by kernel_rfl
@[go_sem] theorem ty25 : tkind Try.prog 25 = some 11 ∧ tsize Try.prog 25 = some 1 ∧ tbytes Try.prog 25 = some 8 ∧ tagg Try.prog 25 = some false := by and_intros <;> kernel_rfl
@[go_sem] theorem ty26z : tzero Try.prog 26 = some (.agg #[.int .i64 0, .int .i64 0, .int .i64 0, .bool false, .bool false]) := by kernel_rfl
@[go_sem] theorem ty26 : tkind Try.prog 26 = some 7 ∧ tsize Try.prog 26 = some 5 ∧ tbytes Try.prog 26 = some 32 ∧ tagg Try.prog 26 = some true ∧ tsizeA Try.prog 26 = some 5 ∧ tfield Try.prog 26 0 = some (0, 1) ∧ tfo Try.prog 26 0 = some 0 ∧ tfield Try.prog 26 1 = some (1, 1) ∧ tfo Try.prog 26 1 = some 1 ∧ tfield Try.prog 26 2 = some (2, 1) ∧ tfo Try.prog 26 2 = some 2 ∧ tfield Try.prog 26 3 = some (3, 1) ∧ tfo Try.prog 26 3 = some 3 ∧ tfield Try.prog 26 4 = some (4, 1) ∧ tfo Try.prog 26 4 = some 4 ∧ tfields Try.prog 26 = some [(0, 1), (1, 1), (2, 1), (3, 1), (4, 1)] := by and_intros <;> kernel_rfl
@[go_sem] theorem ty27z : tzero Try.prog 27 = some (.agg #[.int .i64 0, .int .i64 0, .int .i64 0, .bool false, .bool false]) := by kernel_rfl
@[go_sem] theorem ty27 : tkind Try.prog 27 = some 7 ∧ tsize Try.prog 27 = some 5 ∧ tbytes Try.prog 27 = some 32 ∧ tagg Try.prog 27 = some true ∧ tflat Try.prog 27 = some [(0, 8), (1, 8), (2, 8), (3, 9), (4, 9)] ∧ tsizeA Try.prog 27 = some 5 ∧ tfield Try.prog 27 0 = some (0, 1) ∧ tfo Try.prog 27 0 = some 0 ∧ tfield Try.prog 27 1 = some (1, 1) ∧ tfo Try.prog 27 1 = some 1 ∧ tfield Try.prog 27 2 = some (2, 1) ∧ tfo Try.prog 27 2 = some 2 ∧ tfield Try.prog 27 3 = some (3, 1) ∧ tfo Try.prog 27 3 = some 3 ∧ tfield Try.prog 27 4 = some (4, 1) ∧ tfo Try.prog 27 4 = some 4 ∧ tfields Try.prog 27 = some [(0, 1), (1, 1), (2, 1), (3, 1), (4, 1)] := by and_intros <;> kernel_rfl
@[go_sem] theorem ty28z : tzero Try.prog 28 = some (.agg #[.int .i64 0, .int .i64 0, .bool false, .string ⟨#[]⟩]) := by kernel_rfl
@[go_sem] theorem ty28 : tkind Try.prog 28 = some 7 ∧ tsize Try.prog 28 = some 4 ∧ tbytes Try.prog 28 = some 40 ∧ tagg Try.prog 28 = some true ∧ tsizeA Try.prog 28 = some 4 ∧ tfield Try.prog 28 0 = some (0, 1) ∧ tfo Try.prog 28 0 = some 0 ∧ tfield Try.prog 28 1 = some (1, 1) ∧ tfo Try.prog 28 1 = some 1 ∧ tfield Try.prog 28 2 = some (2, 1) ∧ tfo Try.prog 28 2 = some 2 ∧ tfield Try.prog 28 3 = some (3, 1) ∧ tfo Try.prog 28 3 = some 3 ∧ tfields Try.prog 28 = some [(0, 1), (1, 1), (2, 1), (3, 1)] := by and_intros <;> kernel_rfl
@[go_sem] theorem ty29z : tzero Try.prog 29 = some (.agg #[.int .i64 0, .int .i64 0, .bool false, .string ⟨#[]⟩]) := by kernel_rfl
@[go_sem] theorem ty29 : tkind Try.prog 29 = some 7 ∧ tsize Try.prog 29 = some 4 ∧ tbytes Try.prog 29 = some 40 ∧ tagg Try.prog 29 = some true ∧ tflat Try.prog 29 = some [(0, 8), (1, 8), (2, 9), (3, 3)] ∧ tsizeA Try.prog 29 = some 4 ∧ tfield Try.prog 29 0 = some (0, 1) ∧ tfo Try.prog 29 0 = some 0 ∧ tfield Try.prog 29 1 = some (1, 1) ∧ tfo Try.prog 29 1 = some 1 ∧ tfield Try.prog 29 2 = some (2, 1) ∧ tfo Try.prog 29 2 = some 2 ∧ tfield Try.prog 29 3 = some (3, 1) ∧ tfo Try.prog 29 3 = some 3 ∧ tfields Try.prog 29 = some [(0, 1), (1, 1), (2, 1), (3, 1)] := by and_intros <;> kernel_rfl
@[go_sem] theorem ty30z : tzero Try.prog 30 = some (.tuple #[.agg #[.int .i64 0, .int .i64 0, .bool false, .string ⟨#[]⟩], .bool false]) := by kernel_rfl
@[go_sem] theorem ty30 : tkind Try.prog 30 = some 0 ∧ tsize Try.prog 30 = some 1 ∧ tbytes Try.prog 30 = some 0 ∧ tagg Try.prog 30 = some false := by and_intros <;> kernel_rfl
@[go_sem] theorem ty31z : tzero Try.prog 31 = some (.nilFunc) := by kernel_rfl
@[go_sem] theorem ty31 : tkind Try.prog 31 = some 11 ∧ tsize Try.prog 31 = some 1 ∧ tbytes Try.prog 31 = some 8 ∧ tagg Try.prog 31 = some false := by and_intros <;> kernel_rfl
@[go_sem] theorem ty32z : tzero Try.prog 32 = some (.nilFunc) := by kernel_rfl
@[go_sem] theorem ty32 : tkind Try.prog 32 = some 11 ∧ tsize Try.prog 32 = some 1 ∧ tbytes Try.prog 32 = some 8 ∧ tagg Try.prog 32 = some false := by and_intros <;> kernel_rfl
@[go_sem] theorem ty33z : tzero Try.prog 33 = some (.nilFunc) := by kernel_rfl
@[go_sem] theorem ty33 : tkind Try.prog 33 = some 11 ∧ tsize Try.prog 33 = some 1 ∧ tbytes Try.prog 33 = some 8 ∧ tagg Try.prog 33 = some false := by and_intros <;> kernel_rfl
@[go_sem] theorem ty34z : tzero Try.prog 34 = some (.nilFunc) := by kernel_rfl
@[go_sem] theorem ty34 : tkind Try.prog 34 = some 11 ∧ tsize Try.prog 34 = some 1 ∧ tbytes Try.prog 34 = some 8 ∧ tagg Try.prog 34 = some false := by and_intros <;> kernel_rfl
@[go_sem] theorem ty35z : tzero Try.prog 35 = some (.nilFunc) := by kernel_rfl
@[go_sem] theorem ty35 : tkind Try.prog 35 = some 11 ∧ tsize Try.prog 35 = some 1 ∧ tbytes Try.prog 35 = some 8 ∧ tagg Try.prog 35 = some false := by and_intros <;> kernel_rfl
@[go_sem] theorem ty36z : tzero Try.prog 36 = some (.pointer none) := by kernel_rfl
@[go_sem] theorem ty36 : tkind Try.prog 36 = some 4 ∧ tsize Try.prog 36 = some 1 ∧ tbytes Try.prog 36 = some 8 ∧ tagg Try.prog 36 = some false ∧ telem Try.prog 36 = some 89 := by and_intros <;> kernel_rfl
@[go_sem] theorem ty37z : tzero Try.prog 37 = some (.nilFunc) := by kernel_rfl
@[go_sem] theorem ty37 : tkind Try.prog 37 = some 11 ∧ tsize Try.prog 37 = some 1 ∧ tbytes Try.prog 37 = some 8 ∧ tagg Try.prog 37 = some false := by and_intros <;> kernel_rfl
@[go_sem] theorem ty38z : tzero Try.prog 38 = some (.nilFunc) := by kernel_rfl
@[go_sem] theorem ty38 : tkind Try.prog 38 = some 11 ∧ tsize Try.prog 38 = some 1 ∧ tbytes Try.prog 38 = some 8 ∧ tagg Try.prog 38 = some false := by and_intros <;> kernel_rfl
@[go_sem] theorem ty39z : tzero Try.prog 39 = some (.nilFunc) := by kernel_rfl
@[go_sem] theorem ty39 : tkind Try.prog 39 = some 11 ∧ tsize Try.prog 39 = some 1 ∧ tbytes Try.prog 39 = some 8 ∧ tagg Try.prog 39 = some false := by and_intros <;> kernel_rfl
@[go_sem] theorem ty40z : tzero Try.prog 40 = some (.pointer none) := by kernel_rfl
@[go_sem] theorem ty40 : tkind Try.prog 40 = some 4 ∧ tsize Try.prog 40 = some 1 ∧ tbytes Try.prog 40 = some 8 ∧ tagg Try.prog 40 = some false ∧ telem Try.prog 40 = some 99 := by and_intros <;> kernel_rfl
@[go_sem] theorem ty41z : tzero Try.prog 41 = some (.nilFunc) := by kernel_rfl
@[go_sem] theorem ty41 : tkind Try.prog 41 = some 11 ∧ tsize Try.prog 41 = some 1 ∧ tbytes Try.prog 41 = some 8 ∧ tagg Try.prog 41 = some false := by and_intros <;> kernel_rfl
@[go_sem] theorem ty42z : tzero Try.prog 42 = some (.nilFunc) := by kernel_rfl
@[go_sem] theorem ty42 : tkind Try.prog 42 = some 11 ∧ tsize Try.prog 42 = some 1 ∧ tbytes Try.prog 42 = some 8 ∧ tagg Try.prog 42 = some false := by and_intros <;> kernel_rfl
@[go_sem] theorem ty43z : tzero Try.prog 43 = some (.agg #[.int .i32 0, .int .u8 0, .int .u8 0, .int .u8 0]) := by kernel_rfl
@[go_sem] theorem ty43 : tkind Try.prog 43 = some 7 ∧ tsize Try.prog 43 = some 4 ∧ tbytes Try.prog 43 = some 8 ∧ tagg Try.prog 43 = some true ∧ tsizeA Try.prog 43 = some 4 ∧ tfield Try.prog 43 0 = some (0, 1) ∧ tfo Try.prog 43 0 = some 0 ∧ tfield Try.prog 43 1 = some (1, 1) ∧ tfo Try.prog 43 1 = some 1 ∧ tfield Try.prog 43 2 = some (2, 1) ∧ tfo Try.prog 43 2 = some 2 ∧ tfield Try.prog 43 3 = some (3, 1) ∧ tfo Try.prog 43 3 = some 3 ∧ tfields Try.prog 43 = some [(0, 1), (1, 1), (2, 1), (3, 1)] := by and_intros <;> kernel_rfl
@[go_sem] theorem ty44z : tzero Try.prog 44 = some (.agg #[.int .i32 0, .int .u8 0, .int .u8 0, .int .u8 0]) := by kernel_rfl
@[go_sem] theorem ty44 : tkind Try.prog 44 = some 7 ∧ tsize Try.prog 44 = some 4 ∧ tbytes Try.prog 44 = some 8 ∧ tagg Try.prog 44 = some true ∧ tflat Try.prog 44 = some [(0, 8), (1, 8), (2, 8), (3, 8)] ∧ tsizeA Try.prog 44 = some 4 ∧ tfield Try.prog 44 0 = some (0, 1) ∧ tfo Try.prog 44 0 = some 0 ∧ tfield Try.prog 44 1 = some (1, 1) ∧ tfo Try.prog 44 1 = some 1 ∧ tfield Try.prog 44 2 = some (2, 1) ∧ tfo Try.prog 44 2 = some 2 ∧ tfield Try.prog 44 3 = some (3, 1) ∧ tfo Try.prog 44 3 = some 3 ∧ tfields Try.prog 44 = some [(0, 1), (1, 1), (2, 1), (3, 1)] := by and_intros <;> kernel_rfl
@[go_sem] theorem ty45z : tzero Try.prog 45 = some (.slice none 0 0) := by kernel_rfl
@[go_sem] theorem ty45sl : tslice Try.prog 45 = some 4 := by kernel_rfl
@[go_sem] theorem ty45ap : tapp Try.prog 45 = some (44, 4, 8) := by kernel_rfl
@[go_sem] theorem ty45mk : tmk Try.prog 45 = some (44, 4, [.int .i32 0, .int .u8 0, .int .u8 0, .int .u8 0], 8) := by kernel_rfl
@[go_sem] theorem ty45 : tkind Try.prog 45 = some 1 ∧ tsize Try.prog 45 = some 1 ∧ tbytes Try.prog 45 = some 24 ∧ tagg Try.prog 45 = some false ∧ tbs Try.prog 45 = some (44, 4, [.int .i32 0, .int .u8 0, .int .u8 0, .int .u8 0]) ∧ telem Try.prog 45 = some 44 := by and_intros <;> kernel_rfl
@[go_sem] theorem ty46z : tzero Try.prog 46 = some (.nilFunc) := by kernel_rfl
@[go_sem] theorem ty46 : tkind Try.prog 46 = some 11 ∧ tsize Try.prog 46 = some 1 ∧ tbytes Try.prog 46 = some 8 ∧ tagg Try.prog 46 = some false := by and_intros <;> kernel_rfl
@[go_sem] theorem ty47z : tzero Try.prog 47 = some (.nilFunc) := by kernel_rfl
@[go_sem] theorem ty47 : tkind Try.prog 47 = some 11 ∧ tsize Try.prog 47 = some 1 ∧ tbytes Try.prog 47 = some 8 ∧ tagg Try.prog 47 = some false := by and_intros <;> kernel_rfl
@[go_sem] theorem ty48z : tzero Try.prog 48 = some (.slice none 0 0) := by kernel_rfl
@[go_sem] theorem ty48sl : tslice Try.prog 48 = some 1 := by kernel_rfl
@[go_sem] theorem ty48ap : tapp Try.prog 48 = some (50, 1, 24) := by kernel_rfl
@[go_sem] theorem ty48mk : tmk Try.prog 48 = some (50, 1, [.slice none 0 0], 24) := by kernel_rfl
@[go_sem] theorem ty48 : tkind Try.prog 48 = some 1 ∧ tsize Try.prog 48 = some 1 ∧ tbytes Try.prog 48 = some 24 ∧ tagg Try.prog 48 = some false ∧ tbs Try.prog 48 = some (50, 1, [.slice none 0 0]) ∧ telem Try.prog 48 = some 50 := by and_intros <;> kernel_rfl
@[go_sem] theorem ty49z : tzero Try.prog 49 = some (.nilFunc) := by kernel_rfl
@[go_sem] theorem ty49 : tkind Try.prog 49 = some 11 ∧ tsize Try.prog 49 = some 1 ∧ tbytes Try.prog 49 = some 8 ∧ tagg Try.prog 49 = some false := by and_intros <;> kernel_rfl
@[go_sem] theorem ty50z : tzero Try.prog 50 = some (.slice none 0 0) := by kernel_rfl
@[go_sem] theorem ty50sl : tslice Try.prog 50 = some 1 := by kernel_rfl
@[go_sem] theorem ty50ap : tapp Try.prog 50 = some (3, 1, 8) := by kernel_rfl
@[go_sem] theorem ty50mk : tmk Try.prog 50 = some (3, 1, [.int .i64 0], 8) := by kernel_rfl
@[go_sem] theorem ty50 : tkind Try.prog 50 = some 1 ∧ tsize Try.prog 50 = some 1 ∧ tbytes Try.prog 50 = some 24 ∧ tagg Try.prog 50 = some false ∧ tbs Try.prog 50 = some (3, 1, [.int .i64 0]) ∧ telem Try.prog 50 = some 3 := by and_intros <;> kernel_rfl
@[go_sem] theorem ty51z : tzero Try.prog 51 = some (.nilFunc) := by kernel_rfl
@[go_sem] theorem ty51 : tkind Try.prog 51 = some 11 ∧ tsize Try.prog 51 = some 1 ∧ tbytes Try.prog 51 = some 8 ∧ tagg Try.prog 51 = some false := by and_intros <;> kernel_rfl
@[go_sem] theorem ty52z : tzero Try.prog 52 = some (.nilFunc) := by kernel_rfl
@[go_sem] theorem ty52 : tkind Try.prog 52 = some 11 ∧ tsize Try.prog 52 = some 1 ∧ tbytes Try.prog 52 = some 8 ∧ tagg Try.prog 52 = some false := by and_intros <;> kernel_rfl
@[go_sem] theorem ty53z : tzero Try.prog 53 = some (.agg #[.int .i64 0, .int .i64 0, .slice none 0 0]) := by kernel_rfl
@[go_sem] theorem ty53 : tkind Try.prog 53 = some 7 ∧ tsize Try.prog 53 = some 3 ∧ tbytes Try.prog 53 = some 40 ∧ tagg Try.prog 53 = some true ∧ tsizeA Try.prog 53 = some 3 ∧ tfield Try.prog 53 0 = some (0, 1) ∧ tfo Try.prog 53 0 = some 0 ∧ tfield Try.prog 53 1 = some (1, 1) ∧ tfo Try.prog 53 1 = some 1 ∧ tfield Try.prog 53 2 = some (2, 1) ∧ tfo Try.prog 53 2 = some 2 ∧ tfields Try.prog 53 = some [(0, 1), (1, 1), (2, 1)] := by and_intros <;> kernel_rfl
@[go_sem] theorem ty54z : tzero Try.prog 54 = some (.agg #[.int .i64 0, .int .i64 0, .slice none 0 0]) := by kernel_rfl
@[go_sem] theorem ty54 : tkind Try.prog 54 = some 7 ∧ tsize Try.prog 54 = some 3 ∧ tbytes Try.prog 54 = some 40 ∧ tagg Try.prog 54 = some true ∧ tsizeA Try.prog 54 = some 3 ∧ tfield Try.prog 54 0 = some (0, 1) ∧ tfo Try.prog 54 0 = some 0 ∧ tfield Try.prog 54 1 = some (1, 1) ∧ tfo Try.prog 54 1 = some 1 ∧ tfield Try.prog 54 2 = some (2, 1) ∧ tfo Try.prog 54 2 = some 2 ∧ tfields Try.prog 54 = some [(0, 1), (1, 1), (2, 1)] := by and_intros <;> kernel_rfl
@[go_sem] theorem ty55z : tzero Try.prog 55 = some (.nilFunc) := by kernel_rfl
@[go_sem] theorem ty55 : tkind Try.prog 55 = some 11 ∧ tsize Try.prog 55 = some 1 ∧ tbytes Try.prog 55 = some 8 ∧ tagg Try.prog 55 = some false := by and_intros <;> kernel_rfl
@[go_sem] theorem ty56z : tzero Try.prog 56 = some (.nilFunc) := by kernel_rfl
@[go_sem] theorem ty56 : tkind Try.prog 56 = some 11 ∧ tsize Try.prog 56 = some 1 ∧ tbytes Try.prog 56 = some 8 ∧ tagg Try.prog 56 = some false := by and_intros <;> kernel_rfl
@[go_sem] theorem ty57z : tzero Try.prog 57 = some (.nilFunc) := by kernel_rfl
@[go_sem] theorem ty57 : tkind Try.prog 57 = some 11 ∧ tsize Try.prog 57 = some 1 ∧ tbytes Try.prog 57 = some 8 ∧ tagg Try.prog 57 = some false := by and_intros <;> kernel_rfl
@[go_sem] theorem ty58z : tzero Try.prog 58 = some (.nilFunc) := by kernel_rfl
@[go_sem] theorem ty58 : tkind Try.prog 58 = some 11 ∧ tsize Try.prog 58 = some 1 ∧ tbytes Try.prog 58 = some 8 ∧ tagg Try.prog 58 = some false := by and_intros <;> kernel_rfl
@[go_sem] theorem ty59z : tzero Try.prog 59 = some (.nilFunc) := by kernel_rfl
@[go_sem] theorem ty59 : tkind Try.prog 59 = some 11 ∧ tsize Try.prog 59 = some 1 ∧ tbytes Try.prog 59 = some 8 ∧ tagg Try.prog 59 = some false := by and_intros <;> kernel_rfl
@[go_sem] theorem ty60z : tzero Try.prog 60 = some (.nilFunc) := by kernel_rfl
@[go_sem] theorem ty60 : tkind Try.prog 60 = some 11 ∧ tsize Try.prog 60 = some 1 ∧ tbytes Try.prog 60 = some 8 ∧ tagg Try.prog 60 = some false := by and_intros <;> kernel_rfl
@[go_sem] theorem ty61z : tzero Try.prog 61 = some (.agg #[.int .i64 0, .int .i64 0, .slice none 0 0]) := by kernel_rfl
@[go_sem] theorem ty61 : tkind Try.prog 61 = some 7 ∧ tsize Try.prog 61 = some 3 ∧ tbytes Try.prog 61 = some 40 ∧ tagg Try.prog 61 = some true ∧ tsizeA Try.prog 61 = some 3 ∧ tfield Try.prog 61 0 = some (0, 1) ∧ tfo Try.prog 61 0 = some 0 ∧ tfield Try.prog 61 1 = some (1, 1) ∧ tfo Try.prog 61 1 = some 1 ∧ tfield Try.prog 61 2 = some (2, 1) ∧ tfo Try.prog 61 2 = some 2 ∧ tfields Try.prog 61 = some [(0, 1), (1, 1), (2, 1)] := by and_intros <;> kernel_rfl
@[go_sem] theorem ty62z : tzero Try.prog 62 = some (.agg #[.int .i64 0, .int .i64 0, .slice none 0 0]) := by kernel_rfl
@[go_sem] theorem ty62 : tkind Try.prog 62 = some 7 ∧ tsize Try.prog 62 = some 3 ∧ tbytes Try.prog 62 = some 40 ∧ tagg Try.prog 62 = some true ∧ tsizeA Try.prog 62 = some 3 ∧ tfield Try.prog 62 0 = some (0, 1) ∧ tfo Try.prog 62 0 = some 0 ∧ tfield Try.prog 62 1 = some (1, 1) ∧ tfo Try.prog 62 1 = some 1 ∧ tfield Try.prog 62 2 = some (2, 1) ∧ tfo Try.prog 62 2 = some 2 ∧ tfields Try.prog 62 = some [(0, 1), (1, 1), (2, 1)] := by and_intros <;> kernel_rfl
@[go_sem] theorem ty63z : tzero Try.prog 63 = some (.agg #[.int .i64 0, .int .i64 0, .int .i64 0, .int .i64 0]) := by kernel_rfl
@[go_sem] theorem ty63 : tkind Try.prog 63 = some 2 ∧ tsize Try.prog 63 = some 4 ∧ tbytes Try.prog 63 = some 32 ∧ tagg Try.prog 63 = some true ∧ tarr Try.prog 63 = some (4, 1) ∧ tsizeA Try.prog 63 = some 4 ∧ telem Try.prog 63 = some 3 ∧ tlen Try.prog 63 = some 4 := by and_intros <;> kernel_rfl
@[go_sem] theorem ty64z : tzero Try.prog 64 = some (.nilFunc) := by kernel_rfl
@[go_sem] theorem ty64 : tkind Try.prog 64 = some 11 ∧ tsize Try.prog 64 = some 1 ∧ tbytes Try.prog 64 = some 8 ∧ tagg Try.prog 64 = some false := by and_intros <;> kernel_rfl
@[go_sem] theorem ty65z : tzero Try.prog 65 = some (.agg #[.int .i64 0, .int .i64 0, .int .i64 0, .int .i64 0]) := by kernel_rfl
@[go_sem] theorem ty65 : tkind Try.prog 65 = some 7 ∧ tsize Try.prog 65 = some 4 ∧ tbytes Try.prog 65 = some 32 ∧ tagg Try.prog 65 = some true ∧ tsizeA Try.prog 65 = some 4 ∧ tfield Try.prog 65 0 = some (0, 1) ∧ tfo Try.prog 65 0 = some 0 ∧ tfield Try.prog 65 1 = some (1, 1) ∧ tfo Try.prog 65 1 = some 1 ∧ tfield Try.prog 65 2 = some (2, 1) ∧ tfo Try.prog 65 2 = some 2 ∧ tfield Try.prog 65 3 = some (3, 1) ∧ tfo Try.prog 65 3 = some 3 ∧ tfields Try.prog 65 = some [(0, 1), (1, 1), (2, 1), (3, 1)] := by and_intros <;> kernel_rfl
@[go_sem] theorem ty66z : tzero Try.prog 66 = some (.agg #[.int .i64 0, .int .i64 0, .int .i64 0, .int .i64 0]) := by kernel_rfl
@[go_sem] theorem ty66 : tkind Try.prog 66 = some 7 ∧ tsize Try.prog 66 = some 4 ∧ tbytes Try.prog 66 = some 32 ∧ tagg Try.prog 66 = some true ∧ tflat Try.prog 66 = some [(0, 8), (1, 8), (2, 8), (3, 8)] ∧ tsizeA Try.prog 66 = some 4 ∧ tfield Try.prog 66 0 = some (0, 1) ∧ tfo Try.prog 66 0 = some 0 ∧ tfield Try.prog 66 1 = some (1, 1) ∧ tfo Try.prog 66 1 = some 1 ∧ tfield Try.prog 66 2 = some (2, 1) ∧ tfo Try.prog 66 2 = some 2 ∧ tfield Try.prog 66 3 = some (3, 1) ∧ tfo Try.prog 66 3 = some 3 ∧ tfields Try.prog 66 = some [(0, 1), (1, 1), (2, 1), (3, 1)] := by and_intros <;> kernel_rfl
@[go_sem] theorem ty67z : tzero Try.prog 67 = some (.nilFunc) := by kernel_rfl
@[go_sem] theorem ty67 : tkind Try.prog 67 = some 11 ∧ tsize Try.prog 67 = some 1 ∧ tbytes Try.prog 67 = some 8 ∧ tagg Try.prog 67 = some false := by and_intros <;> kernel_rfl
@[go_sem] theorem ty68z : tzero Try.prog 68 = some (.nilFunc) := by kernel_rfl
@[go_sem] theorem ty68 : tkind Try.prog 68 = some 11 ∧ tsize Try.prog 68 = some 1 ∧ tbytes Try.prog 68 = some 8 ∧ tagg Try.prog 68 = some false := by and_intros <;> kernel_rfl
@[go_sem] theorem ty69z : tzero Try.prog 69 = some (.nilFunc) := by kernel_rfl
@[go_sem] theorem ty69 : tkind Try.prog 69 = some 11 ∧ tsize Try.prog 69 = some 1 ∧ tbytes Try.prog 69 = some 8 ∧ tagg Try.prog 69 = some false := by and_intros <;> kernel_rfl
@[go_sem] theorem ty70z : tzero Try.prog 70 = some (.agg #[.int .i64 0, .int .i64 0, .int .i64 0]) := by kernel_rfl
@[go_sem] theorem ty70 : tkind Try.prog 70 = some 2 ∧ tsize Try.prog 70 = some 3 ∧ tbytes Try.prog 70 = some 24 ∧ tagg Try.prog 70 = some true ∧ tarr Try.prog 70 = some (3, 1) ∧ tsizeA Try.prog 70 = some 3 ∧ telem Try.prog 70 = some 3 ∧ tlen Try.prog 70 = some 3 := by and_intros <;> kernel_rfl
@[go_sem] theorem ty71z : tzero Try.prog 71 = some (.nilFunc) := by kernel_rfl
@[go_sem] theorem ty71 : tkind Try.prog 71 = some 11 ∧ tsize Try.prog 71 = some 1 ∧ tbytes Try.prog 71 = some 8 ∧ tagg Try.prog 71 = some false := by and_intros <;> kernel_rfl
@[go_sem] theorem ty72z : tzero Try.prog 72 = some (.nilFunc) := by kernel_rfl
@[go_sem] theorem ty72 : tkind Try.prog 72 = some 11 ∧ tsize Try.prog 72 = some 1 ∧ tbytes Try.prog 72 = some 8 ∧ tagg Try.prog 72 = some false := by and_intros <;> kernel_rfl
@[go_sem] theorem ty73z : tzero Try.prog 73 = some (.agg #[.int .i64 0, .int .i64 0]) := by kernel_rfl
@[go_sem] theorem ty73 : tkind Try.prog 73 = some 2 ∧ tsize Try.prog 73 = some 2 ∧ tbytes Try.prog 73 = some 16 ∧ tagg Try.prog 73 = some true ∧ tarr Try.prog 73 = some (2, 1) ∧ tsizeA Try.prog 73 = some 2 ∧ telem Try.prog 73 = some 3 ∧ tlen Try.prog 73 = some 2 := by and_intros <;> kernel_rfl
@[go_sem] theorem ty74z : tzero Try.prog 74 = some (.nilFunc) := by kernel_rfl
@[go_sem] theorem ty74 : tkind Try.prog 74 = some 11 ∧ tsize Try.prog 74 = some 1 ∧ tbytes Try.prog 74 = some 8 ∧ tagg Try.prog 74 = some false := by and_intros <;> kernel_rfl
@[go_sem] theorem ty75z : tzero Try.prog 75 = some (.nilFunc) := by kernel_rfl
@[go_sem] theorem ty75 : tkind Try.prog 75 = some 11 ∧ tsize Try.prog 75 = some 1 ∧ tbytes Try.prog 75 = some 8 ∧ tagg Try.prog 75 = some false := by and_intros <;> kernel_rfl
@[go_sem] theorem ty76z : tzero Try.prog 76 = some (.nilFunc) := by kernel_rfl
@[go_sem] theorem ty76 : tkind Try.prog 76 = some 11 ∧ tsize Try.prog 76 = some 1 ∧ tbytes Try.prog 76 = some 8 ∧ tagg Try.prog 76 = some false := by and_intros <;> kernel_rfl
@[go_sem] theorem ty77z : tzero Try.prog 77 = some (.nilFunc) := by kernel_rfl
@[go_sem] theorem ty77 : tkind Try.prog 77 = some 11 ∧ tsize Try.prog 77 = some 1 ∧ tbytes Try.prog 77 = some 8 ∧ tagg Try.prog 77 = some false := by and_intros <;> kernel_rfl
@[go_sem] theorem ty78z : tzero Try.prog 78 = some (.slice none 0 0) := by kernel_rfl
@[go_sem] theorem ty78sl : tslice Try.prog 78 = some 3 := by kernel_rfl
@[go_sem] theorem ty78ap : tapp Try.prog 78 = some (80, 3, 24) := by kernel_rfl
@[go_sem] theorem ty78mk : tmk Try.prog 78 = some (80, 3, [.int .i64 0, .int .i64 0, .bool false], 24) := by kernel_rfl
@[go_sem] theorem ty78 : tkind Try.prog 78 = some 1 ∧ tsize Try.prog 78 = some 1 ∧ tbytes Try.prog 78 = some 24 ∧ tagg Try.prog 78 = some false ∧ tbs Try.prog 78 = some (80, 3, [.int .i64 0, .int .i64 0, .bool false]) ∧ telem Try.prog 78 = some 80 := by and_intros <;> kernel_rfl
@[go_sem] theorem ty79z : tzero Try.prog 79 = some (.agg #[.int .i64 0, .int .i64 0, .bool false]) := by kernel_rfl
@[go_sem] theorem ty79 : tkind Try.prog 79 = some 7 ∧ tsize Try.prog 79 = some 3 ∧ tbytes Try.prog 79 = some 24 ∧ tagg Try.prog 79 = some true ∧ tsizeA Try.prog 79 = some 3 ∧ tfield Try.prog 79 0 = some (0, 1) ∧ tfo Try.prog 79 0 = some 0 ∧ tfield Try.prog 79 1 = some (1, 1) ∧ tfo Try.prog 79 1 = some 1 ∧ tfield Try.prog 79 2 = some (2, 1) ∧ tfo Try.prog 79 2 = some 2 ∧ tfields Try.prog 79 = some [(0, 1), (1, 1), (2, 1)] := by and_intros <;> kernel_rfl
@[go_sem] theorem ty80z : tzero Try.prog 80 = some (.agg #[.int .i64 0, .int .i64 0, .bool false]) := by kernel_rfl
@[go_sem] theorem ty80 : tkind Try.prog 80 = some 7 ∧ tsize Try.prog 80 = some 3 ∧ tbytes Try.prog 80 = some 24 ∧ tagg Try.prog 80 = some true ∧ tflat Try.prog 80 = some [(0, 8), (1, 8), (2, 9)] ∧ tsizeA Try.prog 80 = some 3 ∧ tfield Try.prog 80 0 = some (0, 1) ∧ tfo Try.prog 80 0 = some 0 ∧ tfield Try.prog 80 1 = some (1, 1) ∧ tfo Try.prog 80 1 = some 1 ∧ tfield Try.prog 80 2 = some (2, 1) ∧ tfo Try.prog 80 2 = some 2 ∧ tfields Try.prog 80 = some [(0, 1), (1, 1), (2, 1)] := by and_intros <;> kernel_rfl
@[go_sem] theorem ty81z : tzero Try.prog 81 = some (.nilFunc) := by kernel_rfl
@[go_sem] theorem ty81 : tkind Try.prog 81 = some 11 ∧ tsize Try.prog 81 = some 1 ∧ tbytes Try.prog 81 = some 8 ∧ tagg Try.prog 81 = some false := by and_intros <;> kernel_rfl
@[go_sem] theorem ty82z : tzero Try.prog 82 = some (.nilFunc) := by kernel_rfl
@[go_sem] theorem ty82 : tkind Try.prog 82 = some 11 ∧ tsize Try.prog 82 = some 1 ∧ tbytes Try.prog 82 = some 8 ∧ tagg Try.prog 82 = some false := by and_intros <;> kernel_rfl
@[go_sem] theorem ty83z : tzero Try.prog 83 = some (.nilFunc) := by kernel_rfl
@[go_sem] theorem ty83 : tkind Try.prog 83 = some 11 ∧ tsize Try.prog 83 = some 1 ∧ tbytes Try.prog 83 = some 8 ∧ tagg Try.prog 83 = some false := by and_intros <;> kernel_rfl
@[go_sem] theorem ty84z : tzero Try.prog 84 = some (.chan none) := by kernel_rfl
@[go_sem] theorem ty84 : tkind Try.prog 84 = some 6 ∧ tsize Try.prog 84 = some 1 ∧ tbytes Try.prog 84 = some 8 ∧ tagg Try.prog 84 = some false ∧ tchan Try.prog 84 = some () ∧ telem Try.prog 84 = some 29 := by and_intros <;> kernel_rfl
@[go_sem] theorem ty85z : tzero Try.prog 85 = some (.agg #[.chan none, .bool false, .int .i64 0]) := by kernel_rfl
@[go_sem] theorem ty85 : tkind Try.prog 85 = some 7 ∧ tsize Try.prog 85 = some 3 ∧ tbytes Try.prog 85 = some 24 ∧ tagg Try.prog 85 = some true ∧ tsizeA Try.prog 85 = some 3 ∧ tfield Try.prog 85 0 = some (0, 1) ∧ tfo Try.prog 85 0 = some 0 ∧ tfield Try.prog 85 1 = some (1, 1) ∧ tfo Try.prog 85 1 = some 1 ∧ tfield Try.prog 85 2 = some (2, 1) ∧ tfo Try.prog 85 2 = some 2 ∧ tfields Try.prog 85 = some [(0, 1), (1, 1), (2, 1)] := by and_intros <;> kernel_rfl
@[go_sem] theorem ty86z : tzero Try.prog 86 = some (.agg #[.chan none, .bool false, .int .i64 0]) := by kernel_rfl
@[go_sem] theorem ty86 : tkind Try.prog 86 = some 7 ∧ tsize Try.prog 86 = some 3 ∧ tbytes Try.prog 86 = some 24 ∧ tagg Try.prog 86 = some true ∧ tsizeA Try.prog 86 = some 3 ∧ tfield Try.prog 86 0 = some (0, 1) ∧ tfo Try.prog 86 0 = some 0 ∧ tfield Try.prog 86 1 = some (1, 1) ∧ tfo Try.prog 86 1 = some 1 ∧ tfield Try.prog 86 2 = some (2, 1) ∧ tfo Try.prog 86 2 = some 2 ∧ tfields Try.prog 86 = some [(0, 1), (1, 1), (2, 1)] := by and_intros <;> kernel_rfl
@[go_sem] theorem ty87z : tzero Try.prog 87 = some (.map none) := by kernel_rfl
@[go_sem] theorem ty87 : tkind Try.prog 87 = some 5 ∧ tsize Try.prog 87 = some 1 ∧ tbytes Try.prog 87 = some 8 ∧ tagg Try.prog 87 = some false ∧ telem Try.prog 87 = some 90 := by and_intros <;> kernel_rfl
@[go_sem] theorem ty88z : tzero Try.prog 88 = some (.agg #[.int .i64 0, .int .i64 0, .int .i64 0, .map none]) := by kernel_rfl
@[go_sem] theorem ty88 : tkind Try.prog 88 = some 7 ∧ tsize Try.prog 88 = some 4 ∧ tbytes Try.prog 88 = some 32 ∧ tagg Try.prog 88 = some true ∧ tsizeA Try.prog 88 = some 4 ∧ tfield Try.prog 88 0 = some (0, 1) ∧ tfo Try.prog 88 0 = some 0 ∧ tfield Try.prog 88 1 = some (1, 1) ∧ tfo Try.prog 88 1 = some 1 ∧ tfield Try.prog 88 2 = some (2, 1) ∧ tfo Try.prog 88 2 = some 2 ∧ tfield Try.prog 88 3 = some (3, 1) ∧ tfo Try.prog 88 3 = some 3 ∧ tfields Try.prog 88 = some [(0, 1), (1, 1), (2, 1), (3, 1)] := by and_intros <;> kernel_rfl
@[go_sem] theorem ty89z : tzero Try.prog 89 = some (.agg #[.int .i64 0, .int .i64 0, .int .i64 0, .map none]) := by kernel_rfl
@[go_sem] theorem ty89 : tkind Try.prog 89 = some 7 ∧ tsize Try.prog 89 = some 4 ∧ tbytes Try.prog 89 = some 32 ∧ tagg Try.prog 89 = some true ∧ tsizeA Try.prog 89 = some 4 ∧ tfield Try.prog 89 0 = some (0, 1) ∧ tfo Try.prog 89 0 = some 0 ∧ tfield Try.prog 89 1 = some (1, 1) ∧ tfo Try.prog 89 1 = some 1 ∧ tfield Try.prog 89 2 = some (2, 1) ∧ tfo Try.prog 89 2 = some 2 ∧ tfield Try.prog 89 3 = some (3, 1) ∧ tfo Try.prog 89 3 = some 3 ∧ tfields Try.prog 89 = some [(0, 1), (1, 1), (2, 1), (3, 1)] := by and_intros <;> kernel_rfl
@[go_sem] theorem ty90z : tzero Try.prog 90 = some (.pointer none) := by kernel_rfl
@[go_sem] theorem ty90 : tkind Try.prog 90 = some 4 ∧ tsize Try.prog 90 = some 1 ∧ tbytes Try.prog 90 = some 8 ∧ tagg Try.prog 90 = some false ∧ telem Try.prog 90 = some 93 := by and_intros <;> kernel_rfl
@[go_sem] theorem ty91z : tzero Try.prog 91 = some (.tuple #[.pointer none, .bool false]) := by kernel_rfl
@[go_sem] theorem ty91 : tkind Try.prog 91 = some 0 ∧ tsize Try.prog 91 = some 1 ∧ tbytes Try.prog 91 = some 0 ∧ tagg Try.prog 91 = some false := by and_intros <;> kernel_rfl
@[go_sem] theorem ty92z : tzero Try.prog 92 = some (.agg #[.pointer none, .int .i64 0]) := by kernel_rfl
@[go_sem] theorem ty92 : tkind Try.prog 92 = some 7 ∧ tsize Try.prog 92 = some 2 ∧ tbytes Try.prog 92 = some 16 ∧ tagg Try.prog 92 = some true ∧ tsizeA Try.prog 92 = some 2 ∧ tfield Try.prog 92 0 = some (0, 1) ∧ tfo Try.prog 92 0 = some 0 ∧ tfield Try.prog 92 1 = some (1, 1) ∧ tfo Try.prog 92 1 = some 1 ∧ tfields Try.prog 92 = some [(0, 1), (1, 1)] := by and_intros <;> kernel_rfl
@[go_sem] theorem ty93z : tzero Try.prog 93 = some (.agg #[.pointer none, .int .i64 0]) := by kernel_rfl
@[go_sem] theorem ty93 : tkind Try.prog 93 = some 7 ∧ tsize Try.prog 93 = some 2 ∧ tbytes Try.prog 93 = some 16 ∧ tagg Try.prog 93 = some true ∧ tsizeA Try.prog 93 = some 2 ∧ tfield Try.prog 93 0 = some (0, 1) ∧ tfo Try.prog 93 0 = some 0 ∧ tfield Try.prog 93 1 = some (1, 1) ∧ tfo Try.prog 93 1 = some 1 ∧ tfields Try.prog 93 = some [(0, 1), (1, 1)] := by and_intros <;> kernel_rfl
@[go_sem] theorem ty94z : tzero Try.prog 94 = some (.nilFunc) := by kernel_rfl
@[go_sem] theorem ty94 : tkind Try.prog 94 = some 11 ∧ tsize Try.prog 94 = some 1 ∧ tbytes Try.prog 94 = some 8 ∧ tagg Try.prog 94 = some false := by and_intros <;> kernel_rfl
@[go_sem] theorem ty95z : tzero Try.prog 95 = some (.slice none 0 0) := by kernel_rfl
@[go_sem] theorem ty95sl : tslice Try.prog 95 = some 1 := by kernel_rfl
@[go_sem] theorem ty95ap : tapp Try.prog 95 = some (45, 1, 24) := by kernel_rfl
@[go_sem] theorem ty95mk : tmk Try.prog 95 = some (45, 1, [.slice none 0 0], 24) := by kernel_rfl
@[go_sem] theorem ty95 : tkind Try.prog 95 = some 1 ∧ tsize Try.prog 95 = some 1 ∧ tbytes Try.prog 95 = some 24 ∧ tagg Try.prog 95 = some false ∧ tbs Try.prog 95 = some (45, 1, [.slice none 0 0]) ∧ telem Try.prog 95 = some 45 := by and_intros <;> kernel_rfl
@[go_sem] theorem ty96z : tzero Try.prog 96 = some (.agg #[.int .i64 0, .int .i64 0, .slice none 0 0]) := by kernel_rfl
@[go_sem] theorem ty96 : tkind Try.prog 96 = some 7 ∧ tsize Try.prog 96 = some 3 ∧ tbytes Try.prog 96 = some 40 ∧ tagg Try.prog 96 = some true ∧ tsizeA Try.prog 96 = some 3 ∧ tfield Try.prog 96 0 = some (0, 1) ∧ tfo Try.prog 96 0 = some 0 ∧ tfield Try.prog 96 1 = some (1, 1) ∧ tfo Try.prog 96 1 = some 1 ∧ tfield Try.prog 96 2 = some (2, 1) ∧ tfo Try.prog 96 2 = some 2 ∧ tfields Try.prog 96 = some [(0, 1), (1, 1), (2, 1)] := by and_intros <;> kernel_rfl
@[go_sem] theorem ty97z : tzero Try.prog 97 = some (.agg #[.int .i64 0, .int .i64 0, .slice none 0 0]) := by kernel_rfl
@[go_sem] theorem ty97 : tkind Try.prog 97 = some 7 ∧ tsize Try.prog 97 = some 3 ∧ tbytes Try.prog 97 = some 40 ∧ tagg Try.prog 97 = some true ∧ tsizeA Try.prog 97 = some 3 ∧ tfield Try.prog 97 0 = some (0, 1) ∧ tfo Try.prog 97 0 = some 0 ∧ tfield Try.prog 97 1 = some (1, 1) ∧ tfo Try.prog 97 1 = some 1 ∧ tfield Try.prog 97 2 = some (2, 1) ∧ tfo Try.prog 97 2 = some 2 ∧ tfields Try.prog 97 = some [(0, 1), (1, 1), (2, 1)] := by and_intros <;> kernel_rfl
@[go_sem] theorem ty98z : tzero Try.prog 98 = some (.agg #[.int .i64 0, .int .i64 0, .slice none 0 0]) := by kernel_rfl
@[go_sem] theorem ty98 : tkind Try.prog 98 = some 7 ∧ tsize Try.prog 98 = some 3 ∧ tbytes Try.prog 98 = some 40 ∧ tagg Try.prog 98 = some true ∧ tsizeA Try.prog 98 = some 3 ∧ tfield Try.prog 98 0 = some (0, 3) ∧ tfo Try.prog 98 0 = some 0 ∧ tfields Try.prog 98 = some [(0, 3)] := by and_intros <;> kernel_rfl
@[go_sem] theorem ty99z : tzero Try.prog 99 = some (.agg #[.int .i64 0, .int .i64 0, .slice none 0 0]) := by kernel_rfl
@[go_sem] theorem ty99 : tkind Try.prog 99 = some 7 ∧ tsize Try.prog 99 = some 3 ∧ tbytes Try.prog 99 = some 40 ∧ tagg Try.prog 99 = some true ∧ tsizeA Try.prog 99 = some 3 ∧ tfield Try.prog 99 0 = some (0, 3) ∧ tfo Try.prog 99 0 = some 0 ∧ tfields Try.prog 99 = some [(0, 3)] := by and_intros <;> kernel_rfl
@[go_sem] theorem ty100z : tzero Try.prog 100 = some (.nilFunc) := by kernel_rfl
@[go_sem] theorem ty100 : tkind Try.prog 100 = some 11 ∧ tsize Try.prog 100 = some 1 ∧ tbytes Try.prog 100 = some 8 ∧ tagg Try.prog 100 = some false := by and_intros <;> kernel_rfl
@[go_sem] theorem ty101z : tzero Try.prog 101 = some (.nilFunc) := by kernel_rfl
@[go_sem] theorem ty101 : tkind Try.prog 101 = some 11 ∧ tsize Try.prog 101 = some 1 ∧ tbytes Try.prog 101 = some 8 ∧ tagg Try.prog 101 = some false := by and_intros <;> kernel_rfl
@[go_sem] theorem ty102z : tzero Try.prog 102 = some (.tuple #[.slice none 0 0, .bool false]) := by kernel_rfl
@[go_sem] theorem ty102 : tkind Try.prog 102 = some 0 ∧ tsize Try.prog 102 = some 1 ∧ tbytes Try.prog 102 = some 0 ∧ tagg Try.prog 102 = some false := by and_intros <;> kernel_rfl
@[go_sem] theorem ty103z : tzero Try.prog 103 = some (.nilFunc) := by kernel_rfl
@[go_sem] theorem ty103 : tkind Try.prog 103 = some 11 ∧ tsize Try.prog 103 = some 1 ∧ tbytes Try.prog 103 = some 8 ∧ tagg Try.prog 103 = some false := by and_intros <;> kernel_rfl
@[go_sem] theorem ty104z : tzero Try.prog 104 = some (.agg #[.int .i32 0, .int .i32 0, .int .i32 0, .int .i32 0, .int .i32 0, .int .i32 0, .int .i32 0, .int .i32 0]) := by kernel_rfl
@[go_sem] theorem ty104 : tkind Try.prog 104 = some 2 ∧ tsize Try.prog 104 = some 8 ∧ tbytes Try.prog 104 = some 32 ∧ tagg Try.prog 104 = some true ∧ tarr Try.prog 104 = some (8, 1) ∧ tsizeA Try.prog 104 = some 8 ∧ telem Try.prog 104 = some 21 ∧ tlen Try.prog 104 = some 8 := by and_intros <;> kernel_rfl
@[go_sem] theorem ty105z : tzero Try.prog 105 = some (.nilFunc) := by kernel_rfl
@[go_sem] theorem ty105 : tkind Try.prog 105 = some 11 ∧ tsize Try.prog 105 = some 1 ∧ tbytes Try.prog 105 = some 8 ∧ tagg Try.prog 105 = some false := by and_intros <;> kernel_rfl
@[go_sem] theorem ty106z : tzero Try.prog 106 = some (.nilFunc) := by kernel_rfl
@[go_sem] theorem ty106 : tkind Try.prog 106 = some 11 ∧ tsize Try.prog 106 = some 1 ∧ tbytes Try.prog 106 = some 8 ∧ tagg Try.prog 106 = some false := by and_intros <;> kernel_rfl
@[go_sem] theorem ty107z : tzero Try.prog 107 = some (.tuple #[.int .i64 0, .int .i64 0]) := by kernel_rfl
@[go_sem] theorem ty107 : tkind Try.prog 107 = some 0 ∧ tsize Try.prog 107 = some 1 ∧ tbytes Try.prog 107 = some 0 ∧ tagg Try.prog 107 = some false := by and_intros <;> kernel_rfl
@[go_sem] theorem ty108z : tzero Try.prog 108 = some (.nilFunc) := by kernel_rfl
@[go_sem] theorem ty108 : tkind Try.prog 108 = some 11 ∧ tsize Try.prog 108 = some 1 ∧ tbytes Try.prog 108 = some 8 ∧ tagg Try.prog 108 = some false := by and_intros <;> kernel_rfl
@[go_sem] theorem ty109z : tzero Try.prog 109 = some (.nilFunc) := by kernel_rfl
@[go_sem] theorem ty109 : tkind Try.prog 109 = some 11 ∧ tsize Try.prog 109 = some 1 ∧ tbytes Try.prog 109 = some 8 ∧ tagg Try.prog 109 = some false := by and_intros <;> kernel_rfl
@[go_sem] theorem ty110z : tzero Try.prog 110 = some (.nilFunc) := by kernel_rfl
@[go_sem] theorem ty110 : tkind Try.prog 110 = some 11 ∧ tsize Try.prog 110 = some 1 ∧ tbytes Try.prog 110 = some 8 ∧ tagg Try.prog 110 = some false := by and_intros <;> kernel_rfl
@[go_sem] theorem ty111z : tzero Try.prog 111 = some (.nilFunc) := by kernel_rfl
@[go_sem] theorem ty111 : tkind Try.prog 111 = some 11 ∧ tsize Try.prog 111 = some 1 ∧ tbytes Try.prog 111 = some 8 ∧ tagg Try.prog 111 = some false := by and_intros <;> kernel_rfl
@[go_sem] theorem ty112z : tzero Try.prog 112 = some (.nilFunc) := by kernel_rfl
@[go_sem] theorem ty112 : tkind Try.prog 112 = some 11 ∧ tsize Try.prog 112 = some 1 ∧ tbytes Try.prog 112 = some 8 ∧ tagg Try.prog 112 = some false := by and_intros <;> kernel_rfl
@[go_sem] theorem ty113z : tzero Try.prog 113 = some (.slice none 0 0) := by kernel_rfl
@[go_sem] theorem ty113sl : tslice Try.prog 113 = some 1 := by kernel_rfl
@[go_sem] theorem ty113ap : tapp Try.prog 113 = some (9, 1, 16) := by kernel_rfl
@[go_sem] theorem ty113mk : tmk Try.prog 113 = some (9, 1, [.string ⟨#[]⟩], 16) := by kernel_rfl
@[go_sem] theorem ty113 : tkind Try.prog 113 = some 1 ∧ tsize Try.prog 113 = some 1 ∧ tbytes Try.prog 113 = some 24 ∧ tagg Try.prog 113 = some false ∧ tbs Try.prog 113 = some (9, 1, [.string ⟨#[]⟩]) ∧ telem Try.prog 113 = some 9 := by and_intros <;> kernel_rfl
@[go_sem] theorem ty114z : tzero Try.prog 114 = some (.nilFunc) := by kernel_rfl
@[go_sem] theorem ty114 : tkind Try.prog 114 = some 11 ∧ tsize Try.prog 114 = some 1 ∧ tbytes Try.prog 114 = some 8 ∧ tagg Try.prog 114 = some false := by and_intros <;> kernel_rfl
@[go_sem] theorem ty115z : tzero Try.prog 115 = some (.nilFunc) := by kernel_rfl
@[go_sem] theorem ty115 : tkind Try.prog 115 = some 11 ∧ tsize Try.prog 115 = some 1 ∧ tbytes Try.prog 115 = some 8 ∧ tagg Try.prog 115 = some false := by and_intros <;> kernel_rfl
@[go_sem] theorem ty116z : tzero Try.prog 116 = some (.nilFunc) := by kernel_rfl
@[go_sem] theorem ty116 : tkind Try.prog 116 = some 11 ∧ tsize Try.prog 116 = some 1 ∧ tbytes Try.prog 116 = some 8 ∧ tagg Try.prog 116 = some false := by and_intros <;> kernel_rfl
@[go_sem] theorem ty117z : tzero Try.prog 117 = some (.nilFunc) := by kernel_rfl
@[go_sem] theorem ty117 : tkind Try.prog 117 = some 11 ∧ tsize Try.prog 117 = some 1 ∧ tbytes Try.prog 117 = some 8 ∧ tagg Try.prog 117 = some false := by and_intros <;> kernel_rfl
@[go_sem] theorem ty118z : tzero Try.prog 118 = some (.agg #[.int .i32 0, .int .i32 0, .int .i32 0, .int .i32 0]) := by kernel_rfl
@[go_sem] theorem ty118 : tkind Try.prog 118 = some 2 ∧ tsize Try.prog 118 = some 4 ∧ tbytes Try.prog 118 = some 16 ∧ tagg Try.prog 118 = some true ∧ tarr Try.prog 118 = some (4, 1) ∧ tsizeA Try.prog 118 = some 4 ∧ telem Try.prog 118 = some 21 ∧ tlen Try.prog 118 = some 4 := by and_intros <;> kernel_rfl
@[go_sem] theorem ty119z : tzero Try.prog 119 = some (.int .u64 0) := by kernel_rfl
@[go_sem] theorem ty119 : tkind Try.prog 119 = some 8 ∧ tsize Try.prog 119 = some 1 ∧ tbytes Try.prog 119 = some 8 ∧ tagg Try.prog 119 = some false ∧ tint Try.prog 119 = some .u64 := by and_intros <;> kernel_rfl
@[go_sem] theorem ty120z : tzero Try.prog 120 = some (.nilFunc) := by kernel_rfl
@[go_sem] theorem ty120 : tkind Try.prog 120 = some 11 ∧ tsize Try.prog 120 = some 1 ∧ tbytes Try.prog 120 = some 8 ∧ tagg Try.prog 120 = some false := by and_intros <;> kernel_rfl
@[go_sem] theorem ty121z : tzero Try.prog 121 = some (.nilFunc) := by kernel_rfl
@[go_sem] theorem ty121 : tkind Try.prog 121 = some 11 ∧ tsize Try.prog 121 = some 1 ∧ tbytes Try.prog 121 = some 8 ∧ tagg Try.prog 121 = some false := by and_intros <;> kernel_rfl
@[go_sem] theorem ty122z : tzero Try.prog 122 = some (.nilFunc) := by kernel_rfl
@[go_sem] theorem ty122 : tkind Try.prog 122 = some 11 ∧ tsize Try.prog 122 = some 1 ∧ tbytes Try.prog 122 = some 8 ∧ tagg Try.prog 122 = some false := by and_intros <;> kernel_rfl
@[go_sem] theorem ty123z : tzero Try.prog 123 = some (.nilFunc) := by kernel_rfl
@[go_sem] theorem ty123 : tkind Try.prog 123 = some 11 ∧ tsize Try.prog 123 = some 1 ∧ tbytes Try.prog 123 = some 8 ∧ tagg Try.prog 123 = some false := by and_intros <;> kernel_rfl
@[go_sem] theorem ty124z : tzero Try.prog 124 = some (.nilFunc) := by kernel_rfl
@[go_sem] theorem ty124 : tkind Try.prog 124 = some 11 ∧ tsize Try.prog 124 = some 1 ∧ tbytes Try.prog 124 = some 8 ∧ tagg Try.prog 124 = some false := by and_intros <;> kernel_rfl
@[go_sem] theorem ty125z : tzero Try.prog 125 = some (.nilFunc) := by kernel_rfl
@[go_sem] theorem ty125 : tkind Try.prog 125 = some 11 ∧ tsize Try.prog 125 = some 1 ∧ tbytes Try.prog 125 = some 8 ∧ tagg Try.prog 125 = some false := by and_intros <;> kernel_rfl
@[go_sem] theorem ty126z : tzero Try.prog 126 = some (.nilFunc) := by kernel_rfl
@[go_sem] theorem ty126 : tkind Try.prog 126 = some 11 ∧ tsize Try.prog 126 = some 1 ∧ tbytes Try.prog 126 = some 8 ∧ tagg Try.prog 126 = some false := by and_intros <;> kernel_rfl
@[go_sem] theorem ty127z : tzero Try.prog 127 = some (.nilFunc) := by kernel_rfl
@[go_sem] theorem ty127 : tkind Try.prog 127 = some 11 ∧ tsize Try.prog 127 = some 1 ∧ tbytes Try.prog 127 = some 8 ∧ tagg Try.prog 127 = some false := by and_intros <;> kernel_rfl
@[go_sem] theorem ty128z : tzero Try.prog 128 = some (.nilFunc) := by kernel_rfl
@[go_sem] theorem ty128 : tkind Try.prog 128 = some 11 ∧ tsize Try.prog 128 = some 1 ∧ tbytes Try.prog 128 = some 8 ∧ tagg Try.prog 128 = some false := by and_intros <;> kernel_rfl
@[go_sem] theorem ty129z : tzero Try.prog 129 = some (.slice none 0 0) := by kernel_rfl
@[go_sem] theorem ty129sl : tslice Try.prog 129 = some 1 := by kernel_rfl
@[go_sem] theorem ty129ap : tapp Try.prog 129 = some (21, 1, 4) := by kernel_rfl
@[go_sem] theorem ty129mk : tmk Try.prog 129 = some (21, 1, [.int .i32 0], 4) := by kernel_rfl
@[go_sem] theorem ty129 : tkind Try.prog 129 = some 1 ∧ tsize Try.prog 129 = some 1 ∧ tbytes Try.prog 129 = some 24 ∧ tagg Try.prog 129 = some false ∧ tbs Try.prog 129 = some (21, 1, [.int .i32 0]) ∧ telem Try.prog 129 = some 21 := by and_intros <;> kernel_rfl
@[go_sem] theorem ty130z : tzero Try.prog 130 = some (.nilFunc) := by kernel_rfl
@[go_sem] theorem ty130 : tkind Try.prog 130 = some 11 ∧ tsize Try.prog 130 = some 1 ∧ tbytes Try.prog 130 = some 8 ∧ tagg Try.prog 130 = some false := by and_intros <;> kernel_rfl
@[go_sem] theorem ty131z : tzero Try.prog 131 = some (.pointer none) := by kernel_rfl
@[go_sem] theorem ty131 : tkind Try.prog 131 = some 4 ∧ tsize Try.prog 131 = some 1 ∧ tbytes Try.prog 131 = some 8 ∧ tagg Try.prog 131 = some false ∧ telem Try.prog 131 = some 97 := by and_intros <;> kernel_rfl
@[go_sem] theorem ty132z : tzero Try.prog 132 = some (.nilFunc) := by kernel_rfl
@[go_sem] theorem ty132 : tkind Try.prog 132 = some 11 ∧ tsize Try.prog 132 = some 1 ∧ tbytes Try.prog 132 = some 8 ∧ tagg Try.prog 132 = some false := by and_intros <;> kernel_rfl
@[go_sem] theorem ty133z : tzero Try.prog 133 = some (.nilFunc) := by kernel_rfl
@[go_sem] theorem ty133 : tkind Try.prog 133 = some 11 ∧ tsize Try.prog 133 = some 1 ∧ tbytes Try.prog 133 = some 8 ∧ tagg Try.prog 133 = some false := by and_intros <;> kernel_rfl
@[go_sem] theorem ty134z : tzero Try.prog 134 = some (.nilFunc) := by kernel_rfl
@[go_sem] theorem ty134 : tkind Try.prog 134 = some 11 ∧ tsize Try.prog 134 = some 1 ∧ tbytes Try.prog 134 = some 8 ∧ tagg Try.prog 134 = some false := by and_intros <;> kernel_rfl
@[go_sem] theorem ty135z : tzero Try.prog 135 = some (.agg #[.int .i32 0, .int .i32 0, .int .i32 0, .int .i32 0, .int .i32 0, .int .i32 0, .int .i32 0, .int .i32 0, .int .i32 0, .int .i32 0, .int .i32 0, .int .i32 0, .int .i32 0, .int .i32 0, .int .i32 0, .int .i32 0]) := by kernel_rfl
@[go_sem] theorem ty135 : tkind Try.prog 135 = some 2 ∧ tsize Try.prog 135 = some 16 ∧ tbytes Try.prog 135 = some 64 ∧ tagg Try.prog 135 = some true ∧ tarr Try.prog 135 = some (16, 1) ∧ tsizeA Try.prog 135 = some 16 ∧ telem Try.prog 135 = some 21 ∧ tlen Try.prog 135 = some 16 := by and_intros <;> kernel_rfl
@[go_sem] theorem ty136z : tzero Try.prog 136 = some (.slice none 0 0) := by kernel_rfl
@[go_sem] theorem ty136sl : tslice Try.prog 136 = some 1 := by kernel_rfl
@[go_sem] theorem ty136ap : tapp Try.prog 136 = some (4, 1, 1) := by kernel_rfl
@[go_sem] theorem ty136mk : tmk Try.prog 136 = some (4, 1, [.bool false], 1) := by kernel_rfl
@[go_sem] theorem ty136 : tkind Try.prog 136 = some 1 ∧ tsize Try.prog 136 = some 1 ∧ tbytes Try.prog 136 = some 24 ∧ tagg Try.prog 136 = some false ∧ tbs Try.prog 136 = some (4, 1, [.bool false]) ∧ telem Try.prog 136 = some 4 := by and_intros <;> kernel_rfl
@[go_sem] theorem ty137z : tzero Try.prog 137 = some (.nilFunc) := by kernel_rfl
@[go_sem] theorem ty137 : tkind Try.prog 137 = some 11 ∧ tsize Try.prog 137 = some 1 ∧ tbytes Try.prog 137 = some 8 ∧ tagg Try.prog 137 = some false := by and_intros <;> kernel_rfl
@[go_sem] theorem ty138z : tzero Try.prog 138 = some (.nilFunc) := by kernel_rfl
@[go_sem] theorem ty138 : tkind Try.prog 138 = some 11 ∧ tsize Try.prog 138 = some 1 ∧ tbytes Try.prog 138 = some 8 ∧ tagg Try.prog 138 = some false := by and_intros <;> kernel_rfl
@[go_sem] theorem ty139z : tzero Try.prog 139 = some (.nilFunc) := by kernel_rfl
@[go_sem] theorem ty139 : tkind Try.prog 139 = some 11 ∧ tsize Try.prog 139 = some 1 ∧ tbytes Try.prog 139 = some 8 ∧ tagg Try.prog 139 = some false := by and_intros <;> kernel_rfl
@[go_sem] theorem ty140z : tzero Try.prog 140 = some (.slice none 0 0) := by kernel_rfl
@[go_sem] theorem ty140sl : tslice Try.prog 140 = some 1 := by kernel_rfl
@[go_sem] theorem ty140ap : tapp Try.prog 140 = some (5, 1, 1) := by kernel_rfl
@[go_sem] theorem ty140mk : tmk Try.prog 140 = some (5, 1, [.int .u8 0], 1) := by kernel_rfl
@[go_sem] theorem ty140 : tkind Try.prog 140 = some 1 ∧ tsize Try.prog 140 = some 1 ∧ tbytes Try.prog 140 = some 24 ∧ tagg Try.prog 140 = some false ∧ tbs Try.prog 140 = some (5, 1, [.int .u8 0]) ∧ telem Try.prog 140 = some 5 := by and_intros <;> kernel_rfl
@[go_sem] theorem ty141z : tzero Try.prog 141 = some (.nilFunc) := by kernel_rfl
@[go_sem] theorem ty141 : tkind Try.prog 141 = some 11 ∧ tsize Try.prog 141 = some 1 ∧ tbytes Try.prog 141 = some 8 ∧ tagg Try.prog 141 = some false := by and_intros <;> kernel_rfl
@[go_sem] theorem ty142z : tzero Try.prog 142 = some (.nilFunc) := by kernel_rfl
@[go_sem] theorem ty142 : tkind Try.prog 142 = some 11 ∧ tsize Try.prog 142 = some 1 ∧ tbytes Try.prog 142 = some 8 ∧ tagg Try.prog 142 = some false := by and_intros <;> kernel_rfl
@[go_sem] theorem ty143z : tzero Try.prog 143 = some (.nilFunc) := by kernel_rfl
@[go_sem] theorem ty143 : tkind Try.prog 143 = some 11 ∧ tsize Try.prog 143 = some 1 ∧ tbytes Try.prog 143 = some 8 ∧ tagg Try.prog 143 = some false := by and_intros <;> kernel_rfl
@[go_sem] theorem ty144z : tzero Try.prog 144 = some (.tuple #[.int .u64 0, .int .u64 0]) := by kernel_rfl
@[go_sem] theorem ty144 : tkind Try.prog 144 = some 0 ∧ tsize Try.prog 144 = some 1 ∧ tbytes Try.prog 144 = some 0 ∧ tagg Try.prog 144 = some false := by and_intros <;> kernel_rfl
@[go_sem] theorem ty145z : tzero Try.prog 145 = some (.nilFunc) := by kernel_rfl
@[go_sem] theorem ty145 : tkind Try.prog 145 = some 11 ∧ tsize Try.prog 145 = some 1 ∧ tbytes Try.prog 145 = some 8 ∧ tagg Try.prog 145 = some false := by and_intros <;> kernel_rfl
@[go_sem] theorem ty146z : tzero Try.prog 146 = some (.nilFunc) := by kernel_rfl
@[go_sem] theorem ty146 : tkind Try.prog 146 = some 11 ∧ tsize Try.prog 146 = some 1 ∧ tbytes Try.prog 146 = some 8 ∧ tagg Try.prog 146 = some false := by and_intros <;> kernel_rfl
@[go_sem] theorem ty147z : tzero Try.prog 147 = some (.nilFunc) := by kernel_rfl
@[go_sem] theorem ty147 : tkind Try.prog 147 = some 11 ∧ tsize Try.prog 147 = some 1 ∧ tbytes Try.prog 147 = some 8 ∧ tagg Try.prog 147 = some false := by and_intros <;> kernel_rfl
@[go_sem] theorem ty148z : tzero Try.prog 148 = some (.nilFunc) := by kernel_rfl
@[go_sem] theorem ty148 : tkind Try.prog 148 = some 11 ∧ tsize Try.prog 148 = some 1 ∧ tbytes Try.prog 148 = some 8 ∧ tagg Try.prog 148 = some false := by and_intros <;> kernel_rfl
@[go_sem] theorem ty149z : tzero Try.prog 149 = some (.agg #[.int .i32 0, .int .i32 0, .int .i64 0]) := by kernel_rfl
@[go_sem] theorem ty149 : tkind Try.prog 149 = some 7 ∧ tsize Try.prog 149 = some 3 ∧ tbytes Try.prog 149 = some 16 ∧ tagg Try.prog 149 = some true ∧ tsizeA Try.prog 149 = some 3 ∧ tfield Try.prog 149 0 = some (0, 1) ∧ tfo Try.prog 149 0 = some 0 ∧ tfield Try.prog 149 1 = some (1, 1) ∧ tfo Try.prog 149 1 = some 1 ∧ tfield Try.prog 149 2 = some (2, 1) ∧ tfo Try.prog 149 2 = some 2 ∧ tfields Try.prog 149 = some [(0, 1), (1, 1), (2, 1)] := by and_intros <;> kernel_rfl
@[go_sem] theorem ty150z : tzero Try.prog 150 = some (.agg #[.int .i32 0, .int .i32 0, .int .i64 0]) := by kernel_rfl
@[go_sem] theorem ty150 : tkind Try.prog 150 = some 7 ∧ tsize Try.prog 150 = some 3 ∧ tbytes Try.prog 150 = some 16 ∧ tagg Try.prog 150 = some true ∧ tflat Try.prog 150 = some [(0, 8), (1, 8), (2, 8)] ∧ tsizeA Try.prog 150 = some 3 ∧ tfield Try.prog 150 0 = some (0, 1) ∧ tfo Try.prog 150 0 = some 0 ∧ tfield Try.prog 150 1 = some (1, 1) ∧ tfo Try.prog 150 1 = some 1 ∧ tfield Try.prog 150 2 = some (2, 1) ∧ tfo Try.prog 150 2 = some 2 ∧ tfields Try.prog 150 = some [(0, 1), (1, 1), (2, 1)] := by and_intros <;> kernel_rfl
@[go_sem] theorem ty151z : tzero Try.prog 151 = some (.agg #[.int .i32 0, .int .i32 0, .int .i64 0, .int .i32 0, .int .i32 0, .int .i64 0, .int .i32 0, .int .i32 0, .int .i64 0, .int .i32 0, .int .i32 0, .int .i64 0, .int .i32 0, .int .i32 0, .int .i64 0, .int .i32 0, .int .i32 0, .int .i64 0, .int .i32 0, .int .i32 0, .int .i64 0, .int .i32 0, .int .i32 0, .int .i64 0, .int .i32 0, .int .i32 0, .int .i64 0, .int .i32 0, .int .i32 0, .int .i64 0, .int .i32 0, .int .i32 0, .int .i64 0, .int .i32 0, .int .i32 0, .int .i64 0, .int .i32 0, .int .i32 0, .int .i64 0, .int .i32 0, .int .i32 0, .int .i64 0, .int .i32 0, .int .i32 0, .int .i64 0, .int .i32 0, .int .i32 0, .int .i64 0]) := by kernel_rfl
@[go_sem] theorem ty151 : tkind Try.prog 151 = some 2 ∧ tsize Try.prog 151 = some 48 ∧ tbytes Try.prog 151 = some 256 ∧ tagg Try.prog 151 = some true ∧ tarr Try.prog 151 = some (16, 3) ∧ tsizeA Try.prog 151 = some 48 ∧ telem Try.prog 151 = some 150 ∧ tlen Try.prog 151 = some 16 := by and_intros <;> kernel_rfl
@[go_sem] theorem ty152z : tzero Try.prog 152 = some (.int .u32 0) := by kernel_rfl
@[go_sem] theorem ty152 : tkind Try.prog 152 = some 8 ∧ tsize Try.prog 152 = some 1 ∧ tbytes Try.prog 152 = some 4 ∧ tagg Try.prog 152 = some false ∧ tint Try.prog 152 = some .u32 := by and_intros <;> kernel_rfl
@[go_sem] theorem ty153z : tzero Try.prog 153 = some (.tuple #[.int .u32 0, .int .u32 0]) := by kernel_rfl
@[go_sem] theorem ty153 : tkind Try.prog 153 = some 0 ∧ tsize Try.prog 153 = some 1 ∧ tbytes Try.prog 153 = some 0 ∧ tagg Try.prog 153 = some false := by and_intros <;> kernel_rfl
@[go_sem] theorem ty154z : tzero Try.prog 154 = some (.nilFunc) := by kernel_rfl
@[go_sem] theorem ty154 : tkind Try.prog 154 = some 11 ∧ tsize Try.prog 154 = some 1 ∧ tbytes Try.prog 154 = some 8 ∧ tagg Try.prog 154 = some false := by and_intros <;> kernel_rfl
@[go_sem] theorem ty155z : tzero Try.prog 155 = some (.int .u64 0) := by kernel_rfl
@[go_sem] theorem ty155 : tkind Try.prog 155 = some 8 ∧ tsize Try.prog 155 = some 1 ∧ tbytes Try.prog 155 = some 8 ∧ tagg Try.prog 155 = some false ∧ tint Try.prog 155 = some .u64 := by and_intros <;> kernel_rfl
@[go_sem] theorem ty156z : tzero Try.prog 156 = some (.tuple #[.int .u64 0, .int .u64 0]) := by kernel_rfl
@[go_sem] theorem ty156 : tkind Try.prog 156 = some 0 ∧ tsize Try.prog 156 = some 1 ∧ tbytes Try.prog 156 = some 0 ∧ tagg Try.prog 156 = some false := by and_intros <;> kernel_rfl
@[go_sem] theorem ty157z : tzero Try.prog 157 = some (.nilFunc) := by kernel_rfl
@[go_sem] theorem ty157 : tkind Try.prog 157 = some 11 ∧ tsize Try.prog 157 = some 1 ∧ tbytes Try.prog 157 = some 8 ∧ tagg Try.prog 157 = some false := by and_intros <;> kernel_rfl
@[go_sem] theorem ty158z : tzero Try.prog 158 = some (.nilFunc) := by kernel_rfl
@[go_sem] theorem ty158 : tkind Try.prog 158 = some 11 ∧ tsize Try.prog 158 = some 1 ∧ tbytes Try.prog 158 = some 8 ∧ tagg Try.prog 158 = some false := by and_intros <;> kernel_rfl
@[go_sem] theorem ty159z : tzero Try.prog 159 = some (.int .i64 0) := by kernel_rfl
@[go_sem] theorem ty159 : tkind Try.prog 159 = some 8 ∧ tsize Try.prog 159 = some 1 ∧ tbytes Try.prog 159 = some 8 ∧ tagg Try.prog 159 = some false ∧ tint Try.prog 159 = some .i64 := by and_intros <;> kernel_rfl
@[go_sem] theorem ty160z : tzero Try.prog 160 = some (.tuple #[.int .i64 0, .int .i64 0]) := by kernel_rfl
@[go_sem] theorem ty160 : tkind Try.prog 160 = some 0 ∧ tsize Try.prog 160 = some 1 ∧ tbytes Try.prog 160 = some 0 ∧ tagg Try.prog 160 = some false := by and_intros <;> kernel_rfl
@[go_sem] theorem ty161z : tzero Try.prog 161 = some (.nilFunc) := by kernel_rfl
@[go_sem] theorem ty161 : tkind Try.prog 161 = some 11 ∧ tsize Try.prog 161 = some 1 ∧ tbytes Try.prog 161 = some 8 ∧ tagg Try.prog 161 = some false := by and_intros <;> kernel_rfl
@[go_sem] theorem ty162z : tzero Try.prog 162 = some (.nilFunc) := by kernel_rfl
@[go_sem] theorem ty162 : tkind Try.prog 162 = some 11 ∧ tsize Try.prog 162 = some 1 ∧ tbytes Try.prog 162 = some 8 ∧ tagg Try.prog 162 = some false := by and_intros <;> kernel_rfl
@[go_sem] theorem ty163z : tzero Try.prog 163 = some (.tuple #[.int .i64 0, .bool false]) := by kernel_rfl
@[go_sem] theorem ty163 : tkind Try.prog 163 = some 0 ∧ tsize Try.prog 163 = some 1 ∧ tbytes Try.prog 163 = some 0 ∧ tagg Try.prog 163 = some false := by and_intros <;> kernel_rfl
@[go_sem] theorem ty164z : tzero Try.prog 164 = some (.nilFunc) := by kernel_rfl
@[go_sem] theorem ty164 : tkind Try.prog 164 = some 11 ∧ tsize Try.prog 164 = some 1 ∧ tbytes Try.prog 164 = some 8 ∧ tagg Try.prog 164 = some false := by and_intros <;> kernel_rfl
@[go_sem] theorem ty165z : tzero Try.prog 165 = some (.nilFunc) := by kernel_rfl
@[go_sem] theorem ty165 : tkind Try.prog 165 = some 11 ∧ tsize Try.prog 165 = some 1 ∧ tbytes Try.prog 165 = some 8 ∧ tagg Try.prog 165 = some false := by and_intros <;> kernel_rfl
@[go_sem] theorem ty166z : tzero Try.prog 166 = some (.nilFunc) := by kernel_rfl
@[go_sem] theorem ty166 : tkind Try.prog 166 = some 11 ∧ tsize Try.prog 166 = some 1 ∧ tbytes Try.prog 166 = some 8 ∧ tagg Try.prog 166 = some false := by and_intros <;> kernel_rfl
@[go_sem] theorem ty167z : tzero Try.prog 167 = some (.int .u64 0) := by kernel_rfl
@[go_sem] theorem ty167 : tkind Try.prog 167 = some 8 ∧ tsize Try.prog 167 = some 1 ∧ tbytes Try.prog 167 = some 8 ∧ tagg Try.prog 167 = some false ∧ tint Try.prog 167 = some .u64 := by and_intros <;> kernel_rfl
@[go_sem] theorem ty168z : tzero Try.prog 168 = some (.nilFunc) := by kernel_rfl
@[go_sem] theorem ty168 : tkind Try.prog 168 = some 11 ∧ tsize Try.prog 168 = some 1 ∧ tbytes Try.prog 168 = some 8 ∧ tagg Try.prog 168 = some false := by and_intros <;> kernel_rfl
@[go_sem] theorem ty169z : tzero Try.prog 169 = some (.nilFunc) := by kernel_rfl
@[go_sem] theorem ty169 : tkind Try.prog 169 = some 11 ∧ tsize Try.prog 169 = some 1 ∧ tbytes Try.prog 169 = some 8 ∧ tagg Try.prog 169 = some false := by and_intros <;> kernel_rfl
@[go_sem] theorem ty170z : tzero Try.prog 170 = some (.nilFunc) := by kernel_rfl
@[go_sem] theorem ty170 : tkind Try.prog 170 = some 11 ∧ tsize Try.prog 170 = some 1 ∧ tbytes Try.prog 170 = some 8 ∧ tagg Try.prog 170 = some false := by and_intros <;> kernel_rfl
@[go_sem] theorem ty171z : tzero Try.prog 171 = some (.pointer none) := by kernel_rfl
@[go_sem] theorem ty171 : tkind Try.prog 171 = some 4 ∧ tsize Try.prog 171 = some 1 ∧ tbytes Try.prog 171 = some 8 ∧ tagg Try.prog 171 = some false ∧ telem Try.prog 171 = some 3 := by and_intros <;> kernel_rfl
@[go_sem] theorem ty172z : tzero Try.prog 172 = some (.nilFunc) := by kernel_rfl
@[go_sem] theorem ty172 : tkind Try.prog 172 = some 11 ∧ tsize Try.prog 172 = some 1 ∧ tbytes Try.prog 172 = some 8 ∧ tagg Try.prog 172 = some false := by and_intros <;> kernel_rfl
@[go_sem] theorem ty173z : tzero Try.prog 173 = some (.pointer none) := by kernel_rfl
@[go_sem] theorem ty173 : tkind Try.prog 173 = some 4 ∧ tsize Try.prog 173 = some 1 ∧ tbytes Try.prog 173 = some 8 ∧ tagg Try.prog 173 = some false ∧ telem Try.prog 173 = some 167 := by and_intros <;> kernel_rfl
@[go_sem] theorem ty174z : tzero Try.prog 174 = some (.nilFunc) := by kernel_rfl
@[go_sem] theorem ty174 : tkind Try.prog 174 = some 11 ∧ tsize Try.prog 174 = some 1 ∧ tbytes Try.prog 174 = some 8 ∧ tagg Try.prog 174 = some false := by and_intros <;> kernel_rfl
@[go_sem] theorem ty175z : tzero Try.prog 175 = some (.nilFunc) := by kernel_rfl
@[go_sem] theorem ty175 : tkind Try.prog 175 = some 11 ∧ tsize Try.prog 175 = some 1 ∧ tbytes Try.prog 175 = some 8 ∧ tagg Try.prog 175 = some false := by and_intros <;> kernel_rfl
@[go_sem] theorem ty176z : tzero Try.prog 176 = some (.agg #[.pointer none, .pointer none, .pointer none, .string ⟨#[]⟩]) := by kernel_rfl
@[go_sem] theorem ty176 : tkind Try.prog 176 = some 7 ∧ tsize Try.prog 176 = some 4 ∧ tbytes Try.prog 176 = some 40 ∧ tagg Try.prog 176 = some true ∧ tsizeA Try.prog 176 = some 4 ∧ tfield Try.prog 176 0 = some (0, 1) ∧ tfo Try.prog 176 0 = some 0 ∧ tfield Try.prog 176 1 = some (1, 1) ∧ tfo Try.prog 176 1 = some 1 ∧ tfield Try.prog 176 2 = some (2, 1) ∧ tfo Try.prog 176 2 = some 2 ∧ tfield Try.prog 176 3 = some (3, 1) ∧ tfo Try.prog 176 3 = some 3 ∧ tfields Try.prog 176 = some [(0, 1), (1, 1), (2, 1), (3, 1)] := by and_intros <;> kernel_rfl
@[go_sem] theorem ty177z : tzero Try.prog 177 = some (.agg #[.pointer none, .pointer none, .pointer none, .string ⟨#[]⟩]) := by kernel_rfl
@[go_sem] theorem ty177 : tkind Try.prog 177 = some 7 ∧ tsize Try.prog 177 = some 4 ∧ tbytes Try.prog 177 = some 40 ∧ tagg Try.prog 177 = some true ∧ tsizeA Try.prog 177 = some 4 ∧ tfield Try.prog 177 0 = some (0, 1) ∧ tfo Try.prog 177 0 = some 0 ∧ tfield Try.prog 177 1 = some (1, 1) ∧ tfo Try.prog 177 1 = some 1 ∧ tfield Try.prog 177 2 = some (2, 1) ∧ tfo Try.prog 177 2 = some 2 ∧ tfield Try.prog 177 3 = some (3, 1) ∧ tfo Try.prog 177 3 = some 3 ∧ tfields Try.prog 177 = some [(0, 1), (1, 1), (2, 1), (3, 1)] := by and_intros <;> kernel_rfl
@[go_sem] theorem ty178z : tzero Try.prog 178 = some (.agg #[]) := by kernel_rfl
@[go_sem] theorem ty178 : tkind Try.prog 178 = some 2 ∧ tsize Try.prog 178 = some 0 ∧ tbytes Try.prog 178 = some 0 ∧ tagg Try.prog 178 = some true ∧ tarr Try.prog 178 = some (0, 1) ∧ tsizeA Try.prog 178 = some 0 ∧ telem Try.prog 178 = some 16 ∧ tlen Try.prog 178 = some 0 := by and_intros <;> kernel_rfl
@[go_sem] theorem ty179z : tzero Try.prog 179 = some (.agg #[]) := by kernel_rfl
@[go_sem] theorem ty179 : tkind Try.prog 179 = some 7 ∧ tsize Try.prog 179 = some 0 ∧ tbytes Try.prog 179 = some 0 ∧ tagg Try.prog 179 = some true ∧ tsizeA Try.prog 179 = some 0 ∧ tfield Try.prog 179 0 = some (0, 0) ∧ tfields Try.prog 179 = some [(0, 0)] := by and_intros <;> kernel_rfl
@[go_sem] theorem ty180z : tzero Try.prog 180 = some (.agg #[]) := by kernel_rfl
@[go_sem] theorem ty180 : tkind Try.prog 180 = some 7 ∧ tsize Try.prog 180 = some 0 ∧ tbytes Try.prog 180 = some 0 ∧ tagg Try.prog 180 = some true ∧ tsizeA Try.prog 180 = some 0 ∧ tfield Try.prog 180 0 = some (0, 0) ∧ tfields Try.prog 180 = some [(0, 0)] := by and_intros <;> kernel_rfl
@[go_sem] theorem ty181z : tzero Try.prog 181 = some (.int .u8 0) := by kernel_rfl
@[go_sem] theorem ty181 : tkind Try.prog 181 = some 8 ∧ tsize Try.prog 181 = some 1 ∧ tbytes Try.prog 181 = some 1 ∧ tagg Try.prog 181 = some false ∧ tint Try.prog 181 = some .u8 := by and_intros <;> kernel_rfl
@[go_sem] theorem ty182z : tzero Try.prog 182 = some (.int .u8 0) := by kernel_rfl
@[go_sem] theorem ty182 : tkind Try.prog 182 = some 8 ∧ tsize Try.prog 182 = some 1 ∧ tbytes Try.prog 182 = some 1 ∧ tagg Try.prog 182 = some false ∧ tint Try.prog 182 = some .u8 := by and_intros <;> kernel_rfl
@[go_sem] theorem ty183z : tzero Try.prog 183 = some (.nilFunc) := by kernel_rfl
@[go_sem] theorem ty183 : tkind Try.prog 183 = some 11 ∧ tsize Try.prog 183 = some 1 ∧ tbytes Try.prog 183 = some 8 ∧ tagg Try.prog 183 = some false := by and_intros <;> kernel_rfl
@[go_sem] theorem ty184z : tzero Try.prog 184 = some (.pointer none) := by kernel_rfl
@[go_sem] theorem ty184 : tkind Try.prog 184 = some 4 ∧ tsize Try.prog 184 = some 1 ∧ tbytes Try.prog 184 = some 8 ∧ tagg Try.prog 184 = some false ∧ telem Try.prog 184 = some 5 := by and_intros <;> kernel_rfl
@[go_sem] theorem ty185z : tzero Try.prog 185 = some (.int .i32 0) := by kernel_rfl
@[go_sem] theorem ty185 : tkind Try.prog 185 = some 8 ∧ tsize Try.prog 185 = some 1 ∧ tbytes Try.prog 185 = some 4 ∧ tagg Try.prog 185 = some false ∧ tint Try.prog 185 = some .i32 := by and_intros <;> kernel_rfl
@[go_sem] theorem ty186z : tzero Try.prog 186 = some (.int .i32 0) := by kernel_rfl
@[go_sem] theorem ty186 : tkind Try.prog 186 = some 8 ∧ tsize Try.prog 186 = some 1 ∧ tbytes Try.prog 186 = some 4 ∧ tagg Try.prog 186 = some false ∧ tint Try.prog 186 = some .i32 := by and_intros <;> kernel_rfl
@[go_sem] theorem ty187z : tzero Try.prog 187 = some (.agg #[.int .u64 0, .int .u64 0, .int .u32 0, .int .u8 0, .int .u8 0, .int .u8 0, .int .u8 0, .nilFunc, .pointer none, .int .i32 0, .int .i32 0]) := by kernel_rfl
@[go_sem] theorem ty187 : tkind Try.prog 187 = some 7 ∧ tsize Try.prog 187 = some 11 ∧ tbytes Try.prog 187 = some 48 ∧ tagg Try.prog 187 = some true ∧ tsizeA Try.prog 187 = some 11 ∧ tfield Try.prog 187 0 = some (0, 1) ∧ tfo Try.prog 187 0 = some 0 ∧ tfield Try.prog 187 1 = some (1, 1) ∧ tfo Try.prog 187 1 = some 1 ∧ tfield Try.prog 187 2 = some (2, 1) ∧ tfo Try.prog 187 2 = some 2 ∧ tfield Try.prog 187 3 = some (3, 1) ∧ tfo Try.prog 187 3 = some 3 ∧ tfield Try.prog 187 4 = some (4, 1) ∧ tfo Try.prog 187 4 = some 4 ∧ tfield Try.prog 187 5 = some (5, 1) ∧ tfo Try.prog 187 5 = some 5 ∧ tfield Try.prog 187 6 = some (6, 1) ∧ tfo Try.prog 187 6 = some 6 ∧ tfield Try.prog 187 7 = some (7, 1) ∧ tfo Try.prog 187 7 = some 7 ∧ tfield Try.prog 187 8 = some (8, 1) ∧ tfo Try.prog 187 8 = some 8 ∧ tfield Try.prog 187 9 = some (9, 1) ∧ tfo Try.prog 187 9 = some 9 ∧ tfield Try.prog 187 10 = some (10, 1) ∧ tfo Try.prog 187 10 = some 10 ∧ tfields Try.prog 187 = some [(0, 1), (1, 1), (2, 1), (3, 1), (4, 1), (5, 1), (6, 1), (7, 1), (8, 1), (9, 1), (10, 1)] := by and_intros <;> kernel_rfl
@[go_sem] theorem ty188z : tzero Try.prog 188 = some (.agg #[.int .u64 0, .int .u64 0, .int .u32 0, .int .u8 0, .int .u8 0, .int .u8 0, .int .u8 0, .nilFunc, .pointer none, .int .i32 0, .int .i32 0]) := by kernel_rfl
@[go_sem] theorem ty188 : tkind Try.prog 188 = some 7 ∧ tsize Try.prog 188 = some 11 ∧ tbytes Try.prog 188 = some 48 ∧ tagg Try.prog 188 = some true ∧ tsizeA Try.prog 188 = some 11 ∧ tfield Try.prog 188 0 = some (0, 1) ∧ tfo Try.prog 188 0 = some 0 ∧ tfield Try.prog 188 1 = some (1, 1) ∧ tfo Try.prog 188 1 = some 1 ∧ tfield Try.prog 188 2 = some (2, 1) ∧ tfo Try.prog 188 2 = some 2 ∧ tfield Try.prog 188 3 = some (3, 1) ∧ tfo Try.prog 188 3 = some 3 ∧ tfield Try.prog 188 4 = some (4, 1) ∧ tfo Try.prog 188 4 = some 4 ∧ tfield Try.prog 188 5 = some (5, 1) ∧ tfo Try.prog 188 5 = some 5 ∧ tfield Try.prog 188 6 = some (6, 1) ∧ tfo Try.prog 188 6 = some 6 ∧ tfield Try.prog 188 7 = some (7, 1) ∧ tfo Try.prog 188 7 = some 7 ∧ tfield Try.prog 188 8 = some (8, 1) ∧ tfo Try.prog 188 8 = some 8 ∧ tfield Try.prog 188 9 = some (9, 1) ∧ tfo Try.prog 188 9 = some 9 ∧ tfield Try.prog 188 10 = some (10, 1) ∧ tfo Try.prog 188 10 = some 10 ∧ tfields Try.prog 188 = some [(0, 1), (1, 1), (2, 1), (3, 1), (4, 1), (5, 1), (6, 1), (7, 1), (8, 1), (9, 1), (10, 1)] := by and_intros <;> kernel_rfl
@[go_sem] theorem ty189z : tzero Try.prog 189 = some (.pointer none) := by kernel_rfl
@[go_sem] theorem ty189 : tkind Try.prog 189 = some 0 ∧ tsize Try.prog 189 = some 1 ∧ tbytes Try.prog 189 = some 8 ∧ tagg Try.prog 189 = some false := by and_intros <;> kernel_rfl
end Go.Proofs.Ytdjdeahmhenchaa
