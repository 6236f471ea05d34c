/- Written by a program (gen.py): functions of the translation as transformers, with the link to Calls. -/
import Derived.Test.YtdjdeahmhenchaaLycDef
import Derived.Test.YtdjdeahmhenchaaLycTy
set_option linter.unusedSimpArgs false
set_option linter.unusedVariables false
namespace Go.Proofs.Ytdjdeahmhenchaa
open Lyc Go
set_option maxRecDepth 100000

@[go_sem] theorem ty0k : tkind Try.prog 0 = some 0 := by kernel_rfl
@[go_sem] theorem ty0s : tsize Try.prog 0 = some 1 := by kernel_rfl
@[go_sem] theorem ty0b : tbytes Try.prog 0 = some 0 := by kernel_rfl
@[go_sem] theorem ty0a : tagg Try.prog 0 = some false := by kernel_rfl
@[go_sem] theorem ty0z : tzero Try.prog 0 = some (.tuple #[]) := by kernel_rfl
@[go_sem] theorem ty1k : tkind Try.prog 1 = some 11 := by kernel_rfl
@[go_sem] theorem ty1s : tsize Try.prog 1 = some 1 := by kernel_rfl
@[go_sem] theorem ty1b : tbytes Try.prog 1 = some 8 := by kernel_rfl
@[go_sem] theorem ty1a : tagg Try.prog 1 = some false := by kernel_rfl
@[go_sem] theorem ty1z : tzero Try.prog 1 = some (.nilFunc) := by kernel_rfl
@[go_sem] theorem ty2k : tkind Try.prog 2 = some 8 := by kernel_rfl
@[go_sem] theorem ty2s : tsize Try.prog 2 = some 1 := by kernel_rfl
@[go_sem] theorem ty2b : tbytes Try.prog 2 = some 8 := by kernel_rfl
@[go_sem] theorem ty2a : tagg Try.prog 2 = some false := by kernel_rfl
@[go_sem] theorem ty2z : tzero Try.prog 2 = some (.int .i64 0) := by kernel_rfl
@[go_sem] theorem ty2i : tint Try.prog 2 = some .i64 := by kernel_rfl
@[go_sem] theorem ty3k : tkind Try.prog 3 = some 8 := by kernel_rfl
@[go_sem] theorem ty3s : tsize Try.prog 3 = some 1 := by kernel_rfl
@[go_sem] theorem ty3b : tbytes Try.prog 3 = some 8 := by kernel_rfl
@[go_sem] theorem ty3a : tagg Try.prog 3 = some false := by kernel_rfl
@[go_sem] theorem ty3z : tzero Try.prog 3 = some (.int .i64 0) := by kernel_rfl
@[go_sem] theorem ty3i : tint Try.prog 3 = some .i64 := by kernel_rfl
@[go_sem] theorem ty4k : tkind Try.prog 4 = some 9 := by kernel_rfl
@[go_sem] theorem ty4s : tsize Try.prog 4 = some 1 := by kernel_rfl
@[go_sem] theorem ty4b : tbytes Try.prog 4 = some 1 := by kernel_rfl
@[go_sem] theorem ty4a : tagg Try.prog 4 = some false := by kernel_rfl
@[go_sem] theorem ty4z : tzero Try.prog 4 = some (.bool false) := by kernel_rfl
@[go_sem] theorem ty5k : tkind Try.prog 5 = some 8 := by kernel_rfl
@[go_sem] theorem ty5s : tsize Try.prog 5 = some 1 := by kernel_rfl
@[go_sem] theorem ty5b : tbytes Try.prog 5 = some 1 := by kernel_rfl
@[go_sem] theorem ty5a : tagg Try.prog 5 = some false := by kernel_rfl
@[go_sem] theorem ty5z : tzero Try.prog 5 = some (.int .u8 0) := by kernel_rfl
@[go_sem] theorem ty5i : tint Try.prog 5 = some .u8 := by kernel_rfl
@[go_sem] theorem ty6k : tkind Try.prog 6 = some 8 := by kernel_rfl
@[go_sem] theorem ty6s : tsize Try.prog 6 = some 1 := by kernel_rfl
@[go_sem] theorem ty6b : tbytes Try.prog 6 = some 1 := by kernel_rfl
@[go_sem] theorem ty6a : tagg Try.prog 6 = some false := by kernel_rfl
@[go_sem] theorem ty6z : tzero Try.prog 6 = some (.int .u8 0) := by kernel_rfl
@[go_sem] theorem ty6i : tint Try.prog 6 = some .u8 := by kernel_rfl
@[go_sem] theorem ty7k : tkind Try.prog 7 = some 7 := by kernel_rfl
@[go_sem] theorem ty7s : tsize Try.prog 7 = some 4 := by kernel_rfl
@[go_sem] theorem ty7b : tbytes Try.prog 7 = some 24 := by kernel_rfl
@[go_sem] theorem ty7a : tagg Try.prog 7 = some true := by kernel_rfl
@[go_sem] theorem ty7z : tzero Try.prog 7 = some (.agg #[.int .i64 0, .int .i64 0, .bool false, .int .u8 0]) := by kernel_rfl
@[go_sem] theorem ty7sa : tsizeA Try.prog 7 = some 4 := by kernel_rfl
@[go_sem] theorem ty7f0 : tfield Try.prog 7 0 = some (0, 1) := by kernel_rfl
@[go_sem] theorem ty7o0 : tfo Try.prog 7 0 = some 0 := by kernel_rfl
@[go_sem] theorem ty7f1 : tfield Try.prog 7 1 = some (1, 1) := by kernel_rfl
@[go_sem] theorem ty7o1 : tfo Try.prog 7 1 = some 1 := by kernel_rfl
@[go_sem] theorem ty7f2 : tfield Try.prog 7 2 = some (2, 1) := by kernel_rfl
@[go_sem] theorem ty7o2 : tfo Try.prog 7 2 = some 2 := by kernel_rfl
@[go_sem] theorem ty7f3 : tfield Try.prog 7 3 = some (3, 1) := by kernel_rfl
@[go_sem] theorem ty7o3 : tfo Try.prog 7 3 = some 3 := by kernel_rfl
@[go_sem] theorem ty7fs : tfields Try.prog 7 = some [(0, 1), (1, 1), (2, 1), (3, 1)] := by kernel_rfl
@[go_sem] theorem ty8k : tkind Try.prog 8 = some 7 := by kernel_rfl
@[go_sem] theorem ty8s : tsize Try.prog 8 = some 4 := by kernel_rfl
@[go_sem] theorem ty8b : tbytes Try.prog 8 = some 24 := by kernel_rfl
@[go_sem] theorem ty8a : tagg Try.prog 8 = some true := by kernel_rfl
@[go_sem] theorem ty8z : tzero Try.prog 8 = some (.agg #[.int .i64 0, .int .i64 0, .bool false, .int .u8 0]) := by kernel_rfl
@[go_sem] theorem ty8sa : tsizeA Try.prog 8 = some 4 := by kernel_rfl
@[go_sem] theorem ty8f0 : tfield Try.prog 8 0 = some (0, 1) := by kernel_rfl
@[go_sem] theorem ty8o0 : tfo Try.prog 8 0 = some 0 := by kernel_rfl
@[go_sem] theorem ty8f1 : tfield Try.prog 8 1 = some (1, 1) := by kernel_rfl
@[go_sem] theorem ty8o1 : tfo Try.prog 8 1 = some 1 := by kernel_rfl
@[go_sem] theorem ty8f2 : tfield Try.prog 8 2 = some (2, 1) := by kernel_rfl
@[go_sem] theorem ty8o2 : tfo Try.prog 8 2 = some 2 := by kernel_rfl
@[go_sem] theorem ty8f3 : tfield Try.prog 8 3 = some (3, 1) := by kernel_rfl
@[go_sem] theorem ty8o3 : tfo Try.prog 8 3 = some 3 := by kernel_rfl
@[go_sem] theorem ty8fs : tfields Try.prog 8 = some [(0, 1), (1, 1), (2, 1), (3, 1)] := by kernel_rfl
@[go_sem] theorem ty9k : tkind Try.prog 9 = some 3 := by kernel_rfl
@[go_sem] theorem ty9s : tsize Try.prog 9 = some 1 := by kernel_rfl
@[go_sem] theorem ty9b : tbytes Try.prog 9 = some 16 := by kernel_rfl
@[go_sem] theorem ty9a : tagg Try.prog 9 = some false := by kernel_rfl
@[go_sem] theorem ty9z : tzero Try.prog 9 = some (.string ⟨#[]⟩) := by kernel_rfl
@[go_sem] theorem ty10k : tkind Try.prog 10 = some 3 := by kernel_rfl
@[go_sem] theorem ty10s : tsize Try.prog 10 = some 1 := by kernel_rfl
@[go_sem] theorem ty10b : tbytes Try.prog 10 = some 16 := by kernel_rfl
@[go_sem] theorem ty10a : tagg Try.prog 10 = some false := by kernel_rfl
@[go_sem] theorem ty10z : tzero Try.prog 10 = some (.string ⟨#[]⟩) := by kernel_rfl
@[go_sem] theorem ty11k : tkind Try.prog 11 = some 3 := by kernel_rfl
@[go_sem] theorem ty11s : tsize Try.prog 11 = some 1 := by kernel_rfl
@[go_sem] theorem ty11b : tbytes Try.prog 11 = some 16 := by kernel_rfl
@[go_sem] theorem ty11a : tagg Try.prog 11 = some false := by kernel_rfl
@[go_sem] theorem ty11z : tzero Try.prog 11 = some (.string ⟨#[]⟩) := by kernel_rfl
@[go_sem] theorem ty12k : tkind Try.prog 12 = some 8 := by kernel_rfl
@[go_sem] theorem ty12s : tsize Try.prog 12 = some 1 := by kernel_rfl
@[go_sem] theorem ty12b : tbytes Try.prog 12 = some 8 := by kernel_rfl
@[go_sem] theorem ty12a : tagg Try.prog 12 = some false := by kernel_rfl
@[go_sem] theorem ty12z : tzero Try.prog 12 = some (.int .u64 0) := by kernel_rfl
@[go_sem] theorem ty12i : tint Try.prog 12 = some .u64 := by kernel_rfl
@[go_sem] theorem ty13k : tkind Try.prog 13 = some 7 := by kernel_rfl
@[go_sem] theorem ty13s : tsize Try.prog 13 = some 2 := by kernel_rfl
@[go_sem] theorem ty13b : tbytes Try.prog 13 = some 24 := by kernel_rfl
@[go_sem] theorem ty13a : tagg Try.prog 13 = some true := by kernel_rfl
@[go_sem] theorem ty13z : tzero Try.prog 13 = some (.agg #[.string ⟨#[]⟩, .int .u64 0]) := by kernel_rfl
@[go_sem] theorem ty13sa : tsizeA Try.prog 13 = some 2 := by kernel_rfl
@[go_sem] theorem ty13f0 : tfield Try.prog 13 0 = some (0, 1) := by kernel_rfl
@[go_sem] theorem ty13o0 : tfo Try.prog 13 0 = some 0 := by kernel_rfl
@[go_sem] theorem ty13f1 : tfield Try.prog 13 1 = some (1, 1) := by kernel_rfl
@[go_sem] theorem ty13o1 : tfo Try.prog 13 1 = some 1 := by kernel_rfl
@[go_sem] theorem ty13fs : tfields Try.prog 13 = some [(0, 1), (1, 1)] := by kernel_rfl
@[go_sem] theorem ty14k : tkind Try.prog 14 = some 7 := by kernel_rfl
@[go_sem] theorem ty14s : tsize Try.prog 14 = some 2 := by kernel_rfl
@[go_sem] theorem ty14b : tbytes Try.prog 14 = some 24 := by kernel_rfl
@[go_sem] theorem ty14a : tagg Try.prog 14 = some true := by kernel_rfl
@[go_sem] theorem ty14z : tzero Try.prog 14 = some (.agg #[.string ⟨#[]⟩, .int .u64 0]) := by kernel_rfl
@[go_sem] theorem ty14sa : tsizeA Try.prog 14 = some 2 := by kernel_rfl
@[go_sem] theorem ty14f0 : tfield Try.prog 14 0 = some (0, 1) := by kernel_rfl
@[go_sem] theorem ty14o0 : tfo Try.prog 14 0 = some 0 := by kernel_rfl
@[go_sem] theorem ty14f1 : tfield Try.prog 14 1 = some (1, 1) := by kernel_rfl
@[go_sem] theorem ty14o1 : tfo Try.prog 14 1 = some 1 := by kernel_rfl
@[go_sem] theorem ty14fs : tfields Try.prog 14 = some [(0, 1), (1, 1)] := by kernel_rfl
@[go_sem] theorem ty15k : tkind Try.prog 15 = some 4 := by kernel_rfl
@[go_sem] theorem ty15s : tsize Try.prog 15 = some 1 := by kernel_rfl
@[go_sem] theorem ty15b : tbytes Try.prog 15 = some 8 := by kernel_rfl
@[go_sem] theorem ty15a : tagg Try.prog 15 = some false := by kernel_rfl
@[go_sem] theorem ty15z : tzero Try.prog 15 = some (.pointer none) := by kernel_rfl
@[go_sem] theorem ty15e : telem Try.prog 15 = some 177 := by kernel_rfl
@[go_sem] theorem ty16k : tkind Try.prog 16 = some 4 := by kernel_rfl
@[go_sem] theorem ty16s : tsize Try.prog 16 = some 1 := by kernel_rfl
@[go_sem] theorem ty16b : tbytes Try.prog 16 = some 8 := by kernel_rfl
@[go_sem] theorem ty16a : tagg Try.prog 16 = some false := by kernel_rfl
@[go_sem] theorem ty16z : tzero Try.prog 16 = some (.pointer none) := by kernel_rfl
@[go_sem] theorem ty16e : telem Try.prog 16 = some 180 := by kernel_rfl
@[go_sem] theorem ty17k : tkind Try.prog 17 = some 4 := by kernel_rfl
@[go_sem] theorem ty17s : tsize Try.prog 17 = some 1 := by kernel_rfl
@[go_sem] theorem ty17b : tbytes Try.prog 17 = some 8 := by kernel_rfl
@[go_sem] theorem ty17a : tagg Try.prog 17 = some false := by kernel_rfl
@[go_sem] theorem ty17z : tzero Try.prog 17 = some (.pointer none) := by kernel_rfl
@[go_sem] theorem ty17e : telem Try.prog 17 = some 188 := by kernel_rfl
@[go_sem] theorem ty18k : tkind Try.prog 18 = some 7 := by kernel_rfl
@[go_sem] theorem ty18s : tsize Try.prog 18 = some 1 := by kernel_rfl
@[go_sem] theorem ty18b : tbytes Try.prog 18 = some 8 := by kernel_rfl
@[go_sem] theorem ty18a : tagg Try.prog 18 = some true := by kernel_rfl
@[go_sem] theorem ty18z : tzero Try.prog 18 = some (.agg #[.pointer none]) := by kernel_rfl
@[go_sem] theorem ty18sa : tsizeA Try.prog 18 = some 1 := by kernel_rfl
@[go_sem] theorem ty18f0 : tfield Try.prog 18 0 = some (0, 1) := by kernel_rfl
@[go_sem] theorem ty18o0 : tfo Try.prog 18 0 = some 0 := by kernel_rfl
@[go_sem] theorem ty18fs : tfields Try.prog 18 = some [(0, 1)] := by kernel_rfl
@[go_sem] theorem ty19k : tkind Try.prog 19 = some 7 := by kernel_rfl
@[go_sem] theorem ty19s : tsize Try.prog 19 = some 1 := by kernel_rfl
@[go_sem] theorem ty19b : tbytes Try.prog 19 = some 8 := by kernel_rfl
@[go_sem] theorem ty19a : tagg Try.prog 19 = some true := by kernel_rfl
@[go_sem] theorem ty19z : tzero Try.prog 19 = some (.agg #[.pointer none]) := by kernel_rfl
@[go_sem] theorem ty19sa : tsizeA Try.prog 19 = some 1 := by kernel_rfl
@[go_sem] theorem ty19f0 : tfield Try.prog 19 0 = some (0, 1) := by kernel_rfl
@[go_sem] theorem ty19o0 : tfo Try.prog 19 0 = some 0 := by kernel_rfl
@[go_sem] theorem ty19fs : tfields Try.prog 19 = some [(0, 1)] := by kernel_rfl
@[go_sem] theorem ty20k : tkind Try.prog 20 = some 10 := by kernel_rfl
@[go_sem] theorem ty20s : tsize Try.prog 20 = some 1 := by kernel_rfl
@[go_sem] theorem ty20b : tbytes Try.prog 20 = some 16 := by kernel_rfl
@[go_sem] theorem ty20a : tagg Try.prog 20 = some false := by kernel_rfl
@[go_sem] theorem ty20z : tzero Try.prog 20 = some (.nilIface) := by kernel_rfl
@[go_sem] theorem ty21k : tkind Try.prog 21 = some 8 := by kernel_rfl
@[go_sem] theorem ty21s : tsize Try.prog 21 = some 1 := by kernel_rfl
@[go_sem] theorem ty21b : tbytes Try.prog 21 = some 4 := by kernel_rfl
@[go_sem] theorem ty21a : tagg Try.prog 21 = some false := by kernel_rfl
@[go_sem] theorem ty21z : tzero Try.prog 21 = some (.int .i32 0) := by kernel_rfl
@[go_sem] theorem ty21i : tint Try.prog 21 = some .i32 := by kernel_rfl
@[go_sem] theorem ty22k : tkind Try.prog 22 = some 1 := by kernel_rfl
@[go_sem] theorem ty22s : tsize Try.prog 22 = some 1 := by kernel_rfl
@[go_sem] theorem ty22b : tbytes Try.prog 22 = some 24 := by kernel_rfl
@[go_sem] theorem ty22a : tagg Try.prog 22 = some false := by kernel_rfl
@[go_sem] theorem ty22z : tzero Try.prog 22 = some (.slice none 0 0) := by kernel_rfl
@[go_sem] theorem ty22sl : tslice Try.prog 22 = some 5 := by kernel_rfl
@[go_sem] theorem ty22ap : tapp Try.prog 22 = some (27, 5, 32) := by kernel_rfl
@[go_sem] theorem ty22bs : tbs Try.prog 22 = some (27, 5, [.int .i64 0, .int .i64 0, .int .i64 0, .bool false, .bool false]) := by kernel_rfl
@[go_sem] theorem ty22mk : tmk Try.prog 22 = some (27, 5, [.int .i64 0, .int .i64 0, .int .i64 0, .bool false, .bool false], 32) := by kernel_rfl
@[go_sem] theorem ty22e : telem Try.prog 22 = some 27 := by kernel_rfl
@[go_sem] theorem ty23k : tkind Try.prog 23 = some 11 := by kernel_rfl
@[go_sem] theorem ty23s : tsize Try.prog 23 = some 1 := by kernel_rfl
@[go_sem] theorem ty23b : tbytes Try.prog 23 = some 8 := by kernel_rfl
@[go_sem] theorem ty23a : tagg Try.prog 23 = some false := by kernel_rfl
@[go_sem] theorem ty23z : tzero Try.prog 23 = some (.nilFunc) := by kernel_rfl
@[go_sem] theorem ty24k : tkind Try.prog 24 = some 4 := by kernel_rfl
@[go_sem] theorem ty24s : tsize Try.prog 24 = some 1 := by kernel_rfl
@[go_sem] theorem ty24b : tbytes Try.prog 24 = some 8 := by kernel_rfl
@[go_sem] theorem ty24a : tagg Try.prog 24 = some false := by kernel_rfl
@[go_sem] theorem ty24z : tzero Try.prog 24 = some (.pointer none) := by kernel_rfl
@[go_sem] theorem ty24e : telem Try.prog 24 = some 86 := by kernel_rfl
@[go_sem] theorem ty25k : tkind Try.prog 25 = some 11 := by kernel_rfl
@[go_sem] theorem ty25s : tsize Try.prog 25 = some 1 := by kernel_rfl
@[go_sem] theorem ty25b : tbytes Try.prog 25 = some 8 := by kernel_rfl
@[go_sem] theorem ty25a : tagg Try.prog 25 = some false := by kernel_rfl
@[go_sem] theorem ty25z : tzero Try.prog 25 = some (.nilFunc) := by kernel_rfl
@[go_sem] theorem ty26k : tkind Try.prog 26 = some 7 := by kernel_rfl
@[go_sem] theorem ty26s : tsize Try.prog 26 = some 5 := by kernel_rfl
@[go_sem] theorem ty26b : tbytes Try.prog 26 = some 32 := by kernel_rfl
@[go_sem] theorem ty26a : tagg Try.prog 26 = some true := by kernel_rfl
@[go_sem] theorem ty26z : tzero Try.prog 26 = some (.agg #[.int .i64 0, .int .i64 0, .int .i64 0, .bool false, .bool false]) := by kernel_rfl
@[go_sem] theorem ty26sa : tsizeA Try.prog 26 = some 5 := by kernel_rfl
@[go_sem] theorem ty26f0 : tfield Try.prog 26 0 = some (0, 1) := by kernel_rfl
@[go_sem] theorem ty26o0 : tfo Try.prog 26 0 = some 0 := by kernel_rfl
@[go_sem] theorem ty26f1 : tfield Try.prog 26 1 = some (1, 1) := by kernel_rfl
@[go_sem] theorem ty26o1 : tfo Try.prog 26 1 = some 1 := by kernel_rfl
@[go_sem] theorem ty26f2 : tfield Try.prog 26 2 = some (2, 1) := by kernel_rfl
@[go_sem] theorem ty26o2 : tfo Try.prog 26 2 = some 2 := by kernel_rfl
@[go_sem] theorem ty26f3 : tfield Try.prog 26 3 = some (3, 1) := by kernel_rfl
@[go_sem] theorem ty26o3 : tfo Try.prog 26 3 = some 3 := by kernel_rfl
@[go_sem] theorem ty26f4 : tfield Try.prog 26 4 = some (4, 1) := by kernel_rfl
@[go_sem] theorem ty26o4 : tfo Try.prog 26 4 = some 4 := by kernel_rfl
@[go_sem] theorem ty26fs : tfields Try.prog 26 = some [(0, 1), (1, 1), (2, 1), (3, 1), (4, 1)] := by kernel_rfl
@[go_sem] theorem ty27k : tkind Try.prog 27 = some 7 := by kernel_rfl
@[go_sem] theorem ty27s : tsize Try.prog 27 = some 5 := by kernel_rfl
@[go_sem] theorem ty27b : tbytes Try.prog 27 = some 32 := by kernel_rfl
@[go_sem] theorem ty27a : tagg Try.prog 27 = some true := by kernel_rfl
@[go_sem] theorem ty27z : tzero Try.prog 27 = some (.agg #[.int .i64 0, .int .i64 0, .int .i64 0, .bool false, .bool false]) := by kernel_rfl
@[go_sem] theorem ty27fl : tflat Try.prog 27 = some [(0, 8), (1, 8), (2, 8), (3, 9), (4, 9)] := by kernel_rfl
@[go_sem] theorem ty27sa : tsizeA Try.prog 27 = some 5 := by kernel_rfl
@[go_sem] theorem ty27f0 : tfield Try.prog 27 0 = some (0, 1) := by kernel_rfl
@[go_sem] theorem ty27o0 : tfo Try.prog 27 0 = some 0 := by kernel_rfl
@[go_sem] theorem ty27f1 : tfield Try.prog 27 1 = some (1, 1) := by kernel_rfl
@[go_sem] theorem ty27o1 : tfo Try.prog 27 1 = some 1 := by kernel_rfl
@[go_sem] theorem ty27f2 : tfield Try.prog 27 2 = some (2, 1) := by kernel_rfl
@[go_sem] theorem ty27o2 : tfo Try.prog 27 2 = some 2 := by kernel_rfl
@[go_sem] theorem ty27f3 : tfield Try.prog 27 3 = some (3, 1) := by kernel_rfl
@[go_sem] theorem ty27o3 : tfo Try.prog 27 3 = some 3 := by kernel_rfl
@[go_sem] theorem ty27f4 : tfield Try.prog 27 4 = some (4, 1) := by kernel_rfl
@[go_sem] theorem ty27o4 : tfo Try.prog 27 4 = some 4 := by kernel_rfl
@[go_sem] theorem ty27fs : tfields Try.prog 27 = some [(0, 1), (1, 1), (2, 1), (3, 1), (4, 1)] := by kernel_rfl
@[go_sem] theorem ty28k : tkind Try.prog 28 = some 7 := by kernel_rfl
@[go_sem] theorem ty28s : tsize Try.prog 28 = some 4 := by kernel_rfl
@[go_sem] theorem ty28b : tbytes Try.prog 28 = some 40 := by kernel_rfl
@[go_sem] theorem ty28a : tagg Try.prog 28 = some true := by kernel_rfl
@[go_sem] theorem ty28z : tzero Try.prog 28 = some (.agg #[.int .i64 0, .int .i64 0, .bool false, .string ⟨#[]⟩]) := by kernel_rfl
@[go_sem] theorem ty28sa : tsizeA Try.prog 28 = some 4 := by kernel_rfl
@[go_sem] theorem ty28f0 : tfield Try.prog 28 0 = some (0, 1) := by kernel_rfl
@[go_sem] theorem ty28o0 : tfo Try.prog 28 0 = some 0 := by kernel_rfl
@[go_sem] theorem ty28f1 : tfield Try.prog 28 1 = some (1, 1) := by kernel_rfl
@[go_sem] theorem ty28o1 : tfo Try.prog 28 1 = some 1 := by kernel_rfl
@[go_sem] theorem ty28f2 : tfield Try.prog 28 2 = some (2, 1) := by kernel_rfl
@[go_sem] theorem ty28o2 : tfo Try.prog 28 2 = some 2 := by kernel_rfl
@[go_sem] theorem ty28f3 : tfield Try.prog 28 3 = some (3, 1) := by kernel_rfl
@[go_sem] theorem ty28o3 : tfo Try.prog 28 3 = some 3 := by kernel_rfl
@[go_sem] theorem ty28fs : tfields Try.prog 28 = some [(0, 1), (1, 1), (2, 1), (3, 1)] := by kernel_rfl
@[go_sem] theorem ty29k : tkind Try.prog 29 = some 7 := by kernel_rfl
@[go_sem] theorem ty29s : tsize Try.prog 29 = some 4 := by kernel_rfl
@[go_sem] theorem ty29b : tbytes Try.prog 29 = some 40 := by kernel_rfl
@[go_sem] theorem ty29a : tagg Try.prog 29 = some true := by kernel_rfl
@[go_sem] theorem ty29z : tzero Try.prog 29 = some (.agg #[.int .i64 0, .int .i64 0, .bool false, .string ⟨#[]⟩]) := by kernel_rfl
@[go_sem] theorem ty29fl : tflat Try.prog 29 = some [(0, 8), (1, 8), (2, 9), (3, 3)] := by kernel_rfl
@[go_sem] theorem ty29sa : tsizeA Try.prog 29 = some 4 := by kernel_rfl
@[go_sem] theorem ty29f0 : tfield Try.prog 29 0 = some (0, 1) := by kernel_rfl
@[go_sem] theorem ty29o0 : tfo Try.prog 29 0 = some 0 := by kernel_rfl
@[go_sem] theorem ty29f1 : tfield Try.prog 29 1 = some (1, 1) := by kernel_rfl
@[go_sem] theorem ty29o1 : tfo Try.prog 29 1 = some 1 := by kernel_rfl
@[go_sem] theorem ty29f2 : tfield Try.prog 29 2 = some (2, 1) := by kernel_rfl
@[go_sem] theorem ty29o2 : tfo Try.prog 29 2 = some 2 := by kernel_rfl
@[go_sem] theorem ty29f3 : tfield Try.prog 29 3 = some (3, 1) := by kernel_rfl
@[go_sem] theorem ty29o3 : tfo Try.prog 29 3 = some 3 := by kernel_rfl
@[go_sem] theorem ty29fs : tfields Try.prog 29 = some [(0, 1), (1, 1), (2, 1), (3, 1)] := by kernel_rfl
@[go_sem] theorem ty30k : tkind Try.prog 30 = some 0 := by kernel_rfl
@[go_sem] theorem ty30s : tsize Try.prog 30 = some 1 := by kernel_rfl
@[go_sem] theorem ty30b : tbytes Try.prog 30 = some 0 := by kernel_rfl
@[go_sem] theorem ty30a : tagg Try.prog 30 = some false := by kernel_rfl
@[go_sem] theorem ty30z : tzero Try.prog 30 = some (.tuple #[.agg #[.int .i64 0, .int .i64 0, .bool false, .string ⟨#[]⟩], .bool false]) := by kernel_rfl
@[go_sem] theorem ty31k : tkind Try.prog 31 = some 11 := by kernel_rfl
@[go_sem] theorem ty31s : tsize Try.prog 31 = some 1 := by kernel_rfl
@[go_sem] theorem ty31b : tbytes Try.prog 31 = some 8 := by kernel_rfl
@[go_sem] theorem ty31a : tagg Try.prog 31 = some false := by kernel_rfl
@[go_sem] theorem ty31z : tzero Try.prog 31 = some (.nilFunc) := by kernel_rfl
@[go_sem] theorem ty32k : tkind Try.prog 32 = some 11 := by kernel_rfl
@[go_sem] theorem ty32s : tsize Try.prog 32 = some 1 := by kernel_rfl
@[go_sem] theorem ty32b : tbytes Try.prog 32 = some 8 := by kernel_rfl
@[go_sem] theorem ty32a : tagg Try.prog 32 = some false := by kernel_rfl
@[go_sem] theorem ty32z : tzero Try.prog 32 = some (.nilFunc) := by kernel_rfl
@[go_sem] theorem ty33k : tkind Try.prog 33 = some 11 := by kernel_rfl
@[go_sem] theorem ty33s : tsize Try.prog 33 = some 1 := by kernel_rfl
@[go_sem] theorem ty33b : tbytes Try.prog 33 = some 8 := by kernel_rfl
@[go_sem] theorem ty33a : tagg Try.prog 33 = some false := by kernel_rfl
@[go_sem] theorem ty33z : tzero Try.prog 33 = some (.nilFunc) := by kernel_rfl
@[go_sem] theorem ty34k : tkind Try.prog 34 = some 11 := by kernel_rfl
@[go_sem] theorem ty34s : tsize Try.prog 34 = some 1 := by kernel_rfl
@[go_sem] theorem ty34b : tbytes Try.prog 34 = some 8 := by kernel_rfl
@[go_sem] theorem ty34a : tagg Try.prog 34 = some false := by kernel_rfl
@[go_sem] theorem ty34z : tzero Try.prog 34 = some (.nilFunc) := by kernel_rfl
@[go_sem] theorem ty35k : tkind Try.prog 35 = some 11 := by kernel_rfl
@[go_sem] theorem ty35s : tsize Try.prog 35 = some 1 := by kernel_rfl
@[go_sem] theorem ty35b : tbytes Try.prog 35 = some 8 := by kernel_rfl
@[go_sem] theorem ty35a : tagg Try.prog 35 = some false := by kernel_rfl
@[go_sem] theorem ty35z : tzero Try.prog 35 = some (.nilFunc) := by kernel_rfl
@[go_sem] theorem ty36k : tkind Try.prog 36 = some 4 := by kernel_rfl
@[go_sem] theorem ty36s : tsize Try.prog 36 = some 1 := by kernel_rfl
@[go_sem] theorem ty36b : tbytes Try.prog 36 = some 8 := by kernel_rfl
@[go_sem] theorem ty36a : tagg Try.prog 36 = some false := by kernel_rfl
@[go_sem] theorem ty36z : tzero Try.prog 36 = some (.pointer none) := by kernel_rfl
@[go_sem] theorem ty36e : telem Try.prog 36 = some 89 := by kernel_rfl
@[go_sem] theorem ty37k : tkind Try.prog 37 = some 11 := by kernel_rfl
@[go_sem] theorem ty37s : tsize Try.prog 37 = some 1 := by kernel_rfl
@[go_sem] theorem ty37b : tbytes Try.prog 37 = some 8 := by kernel_rfl
@[go_sem] theorem ty37a : tagg Try.prog 37 = some false := by kernel_rfl
@[go_sem] theorem ty37z : tzero Try.prog 37 = some (.nilFunc) := by kernel_rfl
@[go_sem] theorem ty38k : tkind Try.prog 38 = some 11 := by kernel_rfl
@[go_sem] theorem ty38s : tsize Try.prog 38 = some 1 := by kernel_rfl
@[go_sem] theorem ty38b : tbytes Try.prog 38 = some 8 := by kernel_rfl
@[go_sem] theorem ty38a : tagg Try.prog 38 = some false := by kernel_rfl
@[go_sem] theorem ty38z : tzero Try.prog 38 = some (.nilFunc) := by kernel_rfl
@[go_sem] theorem ty39k : tkind Try.prog 39 = some 11 := by kernel_rfl
@[go_sem] theorem ty39s : tsize Try.prog 39 = some 1 := by kernel_rfl
@[go_sem] theorem ty39b : tbytes Try.prog 39 = some 8 := by kernel_rfl
@[go_sem] theorem ty39a : tagg Try.prog 39 = some false := by kernel_rfl
@[go_sem] theorem ty39z : tzero Try.prog 39 = some (.nilFunc) := by kernel_rfl
@[go_sem] theorem ty40k : tkind Try.prog 40 = some 4 := by kernel_rfl
@[go_sem] theorem ty40s : tsize Try.prog 40 = some 1 := by kernel_rfl
@[go_sem] theorem ty40b : tbytes Try.prog 40 = some 8 := by kernel_rfl
@[go_sem] theorem ty40a : tagg Try.prog 40 = some false := by kernel_rfl
@[go_sem] theorem ty40z : tzero Try.prog 40 = some (.pointer none) := by kernel_rfl
@[go_sem] theorem ty40e : telem Try.prog 40 = some 99 := by kernel_rfl
@[go_sem] theorem ty41k : tkind Try.prog 41 = some 11 := by kernel_rfl
@[go_sem] theorem ty41s : tsize Try.prog 41 = some 1 := by kernel_rfl
@[go_sem] theorem ty41b : tbytes Try.prog 41 = some 8 := by kernel_rfl
@[go_sem] theorem ty41a : tagg Try.prog 41 = some false := by kernel_rfl
@[go_sem] theorem ty41z : tzero Try.prog 41 = some (.nilFunc) := by kernel_rfl
@[go_sem] theorem ty42k : tkind Try.prog 42 = some 11 := by kernel_rfl
@[go_sem] theorem ty42s : tsize Try.prog 42 = some 1 := by kernel_rfl
@[go_sem] theorem ty42b : tbytes Try.prog 42 = some 8 := by kernel_rfl
@[go_sem] theorem ty42a : tagg Try.prog 42 = some false := by kernel_rfl
@[go_sem] theorem ty42z : tzero Try.prog 42 = some (.nilFunc) := by kernel_rfl
@[go_sem] theorem ty43k : tkind Try.prog 43 = some 7 := by kernel_rfl
@[go_sem] theorem ty43s : tsize Try.prog 43 = some 4 := by kernel_rfl
@[go_sem] theorem ty43b : tbytes Try.prog 43 = some 8 := by kernel_rfl
@[go_sem] theorem ty43a : tagg Try.prog 43 = some true := by kernel_rfl
@[go_sem] theorem ty43z : tzero Try.prog 43 = some (.agg #[.int .i32 0, .int .u8 0, .int .u8 0, .int .u8 0]) := by kernel_rfl
@[go_sem] theorem ty43sa : tsizeA Try.prog 43 = some 4 := by kernel_rfl
@[go_sem] theorem ty43f0 : tfield Try.prog 43 0 = some (0, 1) := by kernel_rfl
@[go_sem] theorem ty43o0 : tfo Try.prog 43 0 = some 0 := by kernel_rfl
@[go_sem] theorem ty43f1 : tfield Try.prog 43 1 = some (1, 1) := by kernel_rfl
@[go_sem] theorem ty43o1 : tfo Try.prog 43 1 = some 1 := by kernel_rfl
@[go_sem] theorem ty43f2 : tfield Try.prog 43 2 = some (2, 1) := by kernel_rfl
@[go_sem] theorem ty43o2 : tfo Try.prog 43 2 = some 2 := by kernel_rfl
@[go_sem] theorem ty43f3 : tfield Try.prog 43 3 = some (3, 1) := by kernel_rfl
@[go_sem] theorem ty43o3 : tfo Try.prog 43 3 = some 3 := by kernel_rfl
@[go_sem] theorem ty43fs : tfields Try.prog 43 = some [(0, 1), (1, 1), (2, 1), (3, 1)] := by kernel_rfl
@[go_sem] theorem ty44k : tkind Try.prog 44 = some 7 := by kernel_rfl
@[go_sem] theorem ty44s : tsize Try.prog 44 = some 4 := by kernel_rfl
@[go_sem] theorem ty44b : tbytes Try.prog 44 = some 8 := by kernel_rfl
@[go_sem] theorem ty44a : tagg Try.prog 44 = some true := by kernel_rfl
@[go_sem] theorem ty44z : tzero Try.prog 44 = some (.agg #[.int .i32 0, .int .u8 0, .int .u8 0, .int .u8 0]) := by kernel_rfl
@[go_sem] theorem ty44fl : tflat Try.prog 44 = some [(0, 8), (1, 8), (2, 8), (3, 8)] := by kernel_rfl
@[go_sem] theorem ty44sa : tsizeA Try.prog 44 = some 4 := by kernel_rfl
@[go_sem] theorem ty44f0 : tfield Try.prog 44 0 = some (0, 1) := by kernel_rfl
@[go_sem] theorem ty44o0 : tfo Try.prog 44 0 = some 0 := by kernel_rfl
@[go_sem] theorem ty44f1 : tfield Try.prog 44 1 = some (1, 1) := by kernel_rfl
@[go_sem] theorem ty44o1 : tfo Try.prog 44 1 = some 1 := by kernel_rfl
@[go_sem] theorem ty44f2 : tfield Try.prog 44 2 = some (2, 1) := by kernel_rfl
@[go_sem] theorem ty44o2 : tfo Try.prog 44 2 = some 2 := by kernel_rfl
@[go_sem] theorem ty44f3 : tfield Try.prog 44 3 = some (3, 1) := by kernel_rfl
@[go_sem] theorem ty44o3 : tfo Try.prog 44 3 = some 3 := by kernel_rfl
@[go_sem] theorem ty44fs : tfields Try.prog 44 = some [(0, 1), (1, 1), (2, 1), (3, 1)] := by kernel_rfl
@[go_sem] theorem ty45k : tkind Try.prog 45 = some 1 := by kernel_rfl
@[go_sem] theorem ty45s : tsize Try.prog 45 = some 1 := by kernel_rfl
@[go_sem] theorem ty45b : tbytes Try.prog 45 = some 24 := by kernel_rfl
@[go_sem] theorem ty45a : tagg Try.prog 45 = some false := by kernel_rfl
@[go_sem] theorem ty45z : tzero Try.prog 45 = some (.slice none 0 0) := by kernel_rfl
@[go_sem] theorem ty45sl : tslice Try.prog 45 = some 4 := by kernel_rfl
@[go_sem] theorem ty45ap : tapp Try.prog 45 = some (44, 4, 8) := by kernel_rfl
@[go_sem] theorem ty45bs : tbs Try.prog 45 = some (44, 4, [.int .i32 0, .int .u8 0, .int .u8 0, .int .u8 0]) := by kernel_rfl
@[go_sem] theorem ty45mk : tmk Try.prog 45 = some (44, 4, [.int .i32 0, .int .u8 0, .int .u8 0, .int .u8 0], 8) := by kernel_rfl
@[go_sem] theorem ty45e : telem Try.prog 45 = some 44 := by kernel_rfl
@[go_sem] theorem ty46k : tkind Try.prog 46 = some 11 := by kernel_rfl
@[go_sem] theorem ty46s : tsize Try.prog 46 = some 1 := by kernel_rfl
@[go_sem] theorem ty46b : tbytes Try.prog 46 = some 8 := by kernel_rfl
@[go_sem] theorem ty46a : tagg Try.prog 46 = some false := by kernel_rfl
@[go_sem] theorem ty46z : tzero Try.prog 46 = some (.nilFunc) := by kernel_rfl
@[go_sem] theorem ty47k : tkind Try.prog 47 = some 11 := by kernel_rfl
@[go_sem] theorem ty47s : tsize Try.prog 47 = some 1 := by kernel_rfl
@[go_sem] theorem ty47b : tbytes Try.prog 47 = some 8 := by kernel_rfl
@[go_sem] theorem ty47a : tagg Try.prog 47 = some false := by kernel_rfl
@[go_sem] theorem ty47z : tzero Try.prog 47 = some (.nilFunc) := by kernel_rfl
@[go_sem] theorem ty48k : tkind Try.prog 48 = some 1 := by kernel_rfl
@[go_sem] theorem ty48s : tsize Try.prog 48 = some 1 := by kernel_rfl
@[go_sem] theorem ty48b : tbytes Try.prog 48 = some 24 := by kernel_rfl
@[go_sem] theorem ty48a : tagg Try.prog 48 = some false := by kernel_rfl
@[go_sem] theorem ty48z : tzero Try.prog 48 = some (.slice none 0 0) := by kernel_rfl
@[go_sem] theorem ty48sl : tslice Try.prog 48 = some 1 := by kernel_rfl
@[go_sem] theorem ty48ap : tapp Try.prog 48 = some (50, 1, 24) := by kernel_rfl
@[go_sem] theorem ty48bs : tbs Try.prog 48 = some (50, 1, [.slice none 0 0]) := by kernel_rfl
@[go_sem] theorem ty48mk : tmk Try.prog 48 = some (50, 1, [.slice none 0 0], 24) := by kernel_rfl
@[go_sem] theorem ty48e : telem Try.prog 48 = some 50 := by kernel_rfl
@[go_sem] theorem ty49k : tkind Try.prog 49 = some 11 := by kernel_rfl
@[go_sem] theorem ty49s : tsize Try.prog 49 = some 1 := by kernel_rfl
@[go_sem] theorem ty49b : tbytes Try.prog 49 = some 8 := by kernel_rfl
@[go_sem] theorem ty49a : tagg Try.prog 49 = some false := by kernel_rfl
@[go_sem] theorem ty49z : tzero Try.prog 49 = some (.nilFunc) := by kernel_rfl
@[go_sem] theorem ty50k : tkind Try.prog 50 = some 1 := by kernel_rfl
@[go_sem] theorem ty50s : tsize Try.prog 50 = some 1 := by kernel_rfl
@[go_sem] theorem ty50b : tbytes Try.prog 50 = some 24 := by kernel_rfl
@[go_sem] theorem ty50a : tagg Try.prog 50 = some false := by kernel_rfl
@[go_sem] theorem ty50z : tzero Try.prog 50 = some (.slice none 0 0) := by kernel_rfl
@[go_sem] theorem ty50sl : tslice Try.prog 50 = some 1 := by kernel_rfl
@[go_sem] theorem ty50ap : tapp Try.prog 50 = some (3, 1, 8) := by kernel_rfl
@[go_sem] theorem ty50bs : tbs Try.prog 50 = some (3, 1, [.int .i64 0]) := by kernel_rfl
@[go_sem] theorem ty50mk : tmk Try.prog 50 = some (3, 1, [.int .i64 0], 8) := by kernel_rfl
@[go_sem] theorem ty50e : telem Try.prog 50 = some 3 := by kernel_rfl
@[go_sem] theorem ty51k : tkind Try.prog 51 = some 11 := by kernel_rfl
@[go_sem] theorem ty51s : tsize Try.prog 51 = some 1 := by kernel_rfl
@[go_sem] theorem ty51b : tbytes Try.prog 51 = some 8 := by kernel_rfl
@[go_sem] theorem ty51a : tagg Try.prog 51 = some false := by kernel_rfl
@[go_sem] theorem ty51z : tzero Try.prog 51 = some (.nilFunc) := by kernel_rfl
@[go_sem] theorem ty52k : tkind Try.prog 52 = some 11 := by kernel_rfl
@[go_sem] theorem ty52s : tsize Try.prog 52 = some 1 := by kernel_rfl
@[go_sem] theorem ty52b : tbytes Try.prog 52 = some 8 := by kernel_rfl
@[go_sem] theorem ty52a : tagg Try.prog 52 = some false := by kernel_rfl
@[go_sem] theorem ty52z : tzero Try.prog 52 = some (.nilFunc) := by kernel_rfl
@[go_sem] theorem ty53k : tkind Try.prog 53 = some 7 := by kernel_rfl
@[go_sem] theorem ty53s : tsize Try.prog 53 = some 3 := by kernel_rfl
@[go_sem] theorem ty53b : tbytes Try.prog 53 = some 40 := by kernel_rfl
@[go_sem] theorem ty53a : tagg Try.prog 53 = some true := by kernel_rfl
@[go_sem] theorem ty53z : tzero Try.prog 53 = some (.agg #[.int .i64 0, .int .i64 0, .slice none 0 0]) := by kernel_rfl
@[go_sem] theorem ty53sa : tsizeA Try.prog 53 = some 3 := by kernel_rfl
@[go_sem] theorem ty53f0 : tfield Try.prog 53 0 = some (0, 1) := by kernel_rfl
@[go_sem] theorem ty53o0 : tfo Try.prog 53 0 = some 0 := by kernel_rfl
@[go_sem] theorem ty53f1 : tfield Try.prog 53 1 = some (1, 1) := by kernel_rfl
@[go_sem] theorem ty53o1 : tfo Try.prog 53 1 = some 1 := by kernel_rfl
@[go_sem] theorem ty53f2 : tfield Try.prog 53 2 = some (2, 1) := by kernel_rfl
@[go_sem] theorem ty53o2 : tfo Try.prog 53 2 = some 2 := by kernel_rfl
@[go_sem] theorem ty53fs : tfields Try.prog 53 = some [(0, 1), (1, 1), (2, 1)] := by kernel_rfl
@[go_sem] theorem ty54k : tkind Try.prog 54 = some 7 := by kernel_rfl
@[go_sem] theorem ty54s : tsize Try.prog 54 = some 3 := by kernel_rfl
@[go_sem] theorem ty54b : tbytes Try.prog 54 = some 40 := by kernel_rfl
@[go_sem] theorem ty54a : tagg Try.prog 54 = some true := by kernel_rfl
@[go_sem] theorem ty54z : tzero Try.prog 54 = some (.agg #[.int .i64 0, .int .i64 0, .slice none 0 0]) := by kernel_rfl
@[go_sem] theorem ty54sa : tsizeA Try.prog 54 = some 3 := by kernel_rfl
@[go_sem] theorem ty54f0 : tfield Try.prog 54 0 = some (0, 1) := by kernel_rfl
@[go_sem] theorem ty54o0 : tfo Try.prog 54 0 = some 0 := by kernel_rfl
@[go_sem] theorem ty54f1 : tfield Try.prog 54 1 = some (1, 1) := by kernel_rfl
@[go_sem] theorem ty54o1 : tfo Try.prog 54 1 = some 1 := by kernel_rfl
@[go_sem] theorem ty54f2 : tfield Try.prog 54 2 = some (2, 1) := by kernel_rfl
@[go_sem] theorem ty54o2 : tfo Try.prog 54 2 = some 2 := by kernel_rfl
@[go_sem] theorem ty54fs : tfields Try.prog 54 = some [(0, 1), (1, 1), (2, 1)] := by kernel_rfl
@[go_sem] theorem ty55k : tkind Try.prog 55 = some 11 := by kernel_rfl
@[go_sem] theorem ty55s : tsize Try.prog 55 = some 1 := by kernel_rfl
@[go_sem] theorem ty55b : tbytes Try.prog 55 = some 8 := by kernel_rfl
@[go_sem] theorem ty55a : tagg Try.prog 55 = some false := by kernel_rfl
@[go_sem] theorem ty55z : tzero Try.prog 55 = some (.nilFunc) := by kernel_rfl
@[go_sem] theorem ty56k : tkind Try.prog 56 = some 11 := by kernel_rfl
@[go_sem] theorem ty56s : tsize Try.prog 56 = some 1 := by kernel_rfl
@[go_sem] theorem ty56b : tbytes Try.prog 56 = some 8 := by kernel_rfl
@[go_sem] theorem ty56a : tagg Try.prog 56 = some false := by kernel_rfl
@[go_sem] theorem ty56z : tzero Try.prog 56 = some (.nilFunc) := by kernel_rfl
@[go_sem] theorem ty57k : tkind Try.prog 57 = some 11 := by kernel_rfl
@[go_sem] theorem ty57s : tsize Try.prog 57 = some 1 := by kernel_rfl
@[go_sem] theorem ty57b : tbytes Try.prog 57 = some 8 := by kernel_rfl
@[go_sem] theorem ty57a : tagg Try.prog 57 = some false := by kernel_rfl
@[go_sem] theorem ty57z : tzero Try.prog 57 = some (.nilFunc) := by kernel_rfl
@[go_sem] theorem ty58k : tkind Try.prog 58 = some 11 := by kernel_rfl
@[go_sem] theorem ty58s : tsize Try.prog 58 = some 1 := by kernel_rfl
@[go_sem] theorem ty58b : tbytes Try.prog 58 = some 8 := by kernel_rfl
@[go_sem] theorem ty58a : tagg Try.prog 58 = some false := by kernel_rfl
@[go_sem] theorem ty58z : tzero Try.prog 58 = some (.nilFunc) := by kernel_rfl
@[go_sem] theorem ty59k : tkind Try.prog 59 = some 11 := by kernel_rfl
@[go_sem] theorem ty59s : tsize Try.prog 59 = some 1 := by kernel_rfl
@[go_sem] theorem ty59b : tbytes Try.prog 59 = some 8 := by kernel_rfl
@[go_sem] theorem ty59a : tagg Try.prog 59 = some false := by kernel_rfl
@[go_sem] theorem ty59z : tzero Try.prog 59 = some (.nilFunc) := by kernel_rfl
@[go_sem] theorem ty60k : tkind Try.prog 60 = some 11 := by kernel_rfl
@[go_sem] theorem ty60s : tsize Try.prog 60 = some 1 := by kernel_rfl
@[go_sem] theorem ty60b : tbytes Try.prog 60 = some 8 := by kernel_rfl
@[go_sem] theorem ty60a : tagg Try.prog 60 = some false := by kernel_rfl
@[go_sem] theorem ty60z : tzero Try.prog 60 = some (.nilFunc) := by kernel_rfl
@[go_sem] theorem ty61k : tkind Try.prog 61 = some 7 := by kernel_rfl
@[go_sem] theorem ty61s : tsize Try.prog 61 = some 3 := by kernel_rfl
@[go_sem] theorem ty61b : tbytes Try.prog 61 = some 40 := by kernel_rfl
@[go_sem] theorem ty61a : tagg Try.prog 61 = some true := by kernel_rfl
@[go_sem] theorem ty61z : tzero Try.prog 61 = some (.agg #[.int .i64 0, .int .i64 0, .slice none 0 0]) := by kernel_rfl
@[go_sem] theorem ty61sa : tsizeA Try.prog 61 = some 3 := by kernel_rfl
@[go_sem] theorem ty61f0 : tfield Try.prog 61 0 = some (0, 1) := by kernel_rfl
@[go_sem] theorem ty61o0 : tfo Try.prog 61 0 = some 0 := by kernel_rfl
@[go_sem] theorem ty61f1 : tfield Try.prog 61 1 = some (1, 1) := by kernel_rfl
@[go_sem] theorem ty61o1 : tfo Try.prog 61 1 = some 1 := by kernel_rfl
@[go_sem] theorem ty61f2 : tfield Try.prog 61 2 = some (2, 1) := by kernel_rfl
@[go_sem] theorem ty61o2 : tfo Try.prog 61 2 = some 2 := by kernel_rfl
@[go_sem] theorem ty61fs : tfields Try.prog 61 = some [(0, 1), (1, 1), (2, 1)] := by kernel_rfl
@[go_sem] theorem ty62k : tkind Try.prog 62 = some 7 := by kernel_rfl
@[go_sem] theorem ty62s : tsize Try.prog 62 = some 3 := by kernel_rfl
@[go_sem] theorem ty62b : tbytes Try.prog 62 = some 40 := by kernel_rfl
@[go_sem] theorem ty62a : tagg Try.prog 62 = some true := by kernel_rfl
@[go_sem] theorem ty62z : tzero Try.prog 62 = some (.agg #[.int .i64 0, .int .i64 0, .slice none 0 0]) := by kernel_rfl
@[go_sem] theorem ty62sa : tsizeA Try.prog 62 = some 3 := by kernel_rfl
@[go_sem] theorem ty62f0 : tfield Try.prog 62 0 = some (0, 1) := by kernel_rfl
@[go_sem] theorem ty62o0 : tfo Try.prog 62 0 = some 0 := by kernel_rfl
@[go_sem] theorem ty62f1 : tfield Try.prog 62 1 = some (1, 1) := by kernel_rfl
@[go_sem] theorem ty62o1 : tfo Try.prog 62 1 = some 1 := by kernel_rfl
@[go_sem] theorem ty62f2 : tfield Try.prog 62 2 = some (2, 1) := by kernel_rfl
@[go_sem] theorem ty62o2 : tfo Try.prog 62 2 = some 2 := by kernel_rfl
@[go_sem] theorem ty62fs : tfields Try.prog 62 = some [(0, 1), (1, 1), (2, 1)] := by kernel_rfl
@[go_sem] theorem ty63k : tkind Try.prog 63 = some 2 := by kernel_rfl
@[go_sem] theorem ty63s : tsize Try.prog 63 = some 4 := by kernel_rfl
@[go_sem] theorem ty63b : tbytes Try.prog 63 = some 32 := by kernel_rfl
@[go_sem] theorem ty63a : tagg Try.prog 63 = some true := by kernel_rfl
@[go_sem] theorem ty63z : tzero Try.prog 63 = some (.agg #[.int .i64 0, .int .i64 0, .int .i64 0, .int .i64 0]) := by kernel_rfl
@[go_sem] theorem ty63ar : tarr Try.prog 63 = some (4, 1) := by kernel_rfl
@[go_sem] theorem ty63sa : tsizeA Try.prog 63 = some 4 := by kernel_rfl
@[go_sem] theorem ty63e : telem Try.prog 63 = some 3 := by kernel_rfl
@[go_sem] theorem ty63l : tlen Try.prog 63 = some 4 := by kernel_rfl
@[go_sem] theorem ty64k : tkind Try.prog 64 = some 11 := by kernel_rfl
@[go_sem] theorem ty64s : tsize Try.prog 64 = some 1 := by kernel_rfl
@[go_sem] theorem ty64b : tbytes Try.prog 64 = some 8 := by kernel_rfl
@[go_sem] theorem ty64a : tagg Try.prog 64 = some false := by kernel_rfl
@[go_sem] theorem ty64z : tzero Try.prog 64 = some (.nilFunc) := by kernel_rfl
@[go_sem] theorem ty65k : tkind Try.prog 65 = some 7 := by kernel_rfl
@[go_sem] theorem ty65s : tsize Try.prog 65 = some 4 := by kernel_rfl
@[go_sem] theorem ty65b : tbytes Try.prog 65 = some 32 := by kernel_rfl
@[go_sem] theorem ty65a : tagg Try.prog 65 = some true := by kernel_rfl
@[go_sem] theorem ty65z : tzero Try.prog 65 = some (.agg #[.int .i64 0, .int .i64 0, .int .i64 0, .int .i64 0]) := by kernel_rfl
@[go_sem] theorem ty65sa : tsizeA Try.prog 65 = some 4 := by kernel_rfl
@[go_sem] theorem ty65f0 : tfield Try.prog 65 0 = some (0, 1) := by kernel_rfl
@[go_sem] theorem ty65o0 : tfo Try.prog 65 0 = some 0 := by kernel_rfl
@[go_sem] theorem ty65f1 : tfield Try.prog 65 1 = some (1, 1) := by kernel_rfl
@[go_sem] theorem ty65o1 : tfo Try.prog 65 1 = some 1 := by kernel_rfl
@[go_sem] theorem ty65f2 : tfield Try.prog 65 2 = some (2, 1) := by kernel_rfl
@[go_sem] theorem ty65o2 : tfo Try.prog 65 2 = some 2 := by kernel_rfl
@[go_sem] theorem ty65f3 : tfield Try.prog 65 3 = some (3, 1) := by kernel_rfl
@[go_sem] theorem ty65o3 : tfo Try.prog 65 3 = some 3 := by kernel_rfl
@[go_sem] theorem ty65fs : tfields Try.prog 65 = some [(0, 1), (1, 1), (2, 1), (3, 1)] := by kernel_rfl
@[go_sem] theorem ty66k : tkind Try.prog 66 = some 7 := by kernel_rfl
@[go_sem] theorem ty66s : tsize Try.prog 66 = some 4 := by kernel_rfl
@[go_sem] theorem ty66b : tbytes Try.prog 66 = some 32 := by kernel_rfl
@[go_sem] theorem ty66a : tagg Try.prog 66 = some true := by kernel_rfl
@[go_sem] theorem ty66z : tzero Try.prog 66 = some (.agg #[.int .i64 0, .int .i64 0, .int .i64 0, .int .i64 0]) := by kernel_rfl
@[go_sem] theorem ty66fl : tflat Try.prog 66 = some [(0, 8), (1, 8), (2, 8), (3, 8)] := by kernel_rfl
@[go_sem] theorem ty66sa : tsizeA Try.prog 66 = some 4 := by kernel_rfl
@[go_sem] theorem ty66f0 : tfield Try.prog 66 0 = some (0, 1) := by kernel_rfl
@[go_sem] theorem ty66o0 : tfo Try.prog 66 0 = some 0 := by kernel_rfl
@[go_sem] theorem ty66f1 : tfield Try.prog 66 1 = some (1, 1) := by kernel_rfl
@[go_sem] theorem ty66o1 : tfo Try.prog 66 1 = some 1 := by kernel_rfl
@[go_sem] theorem ty66f2 : tfield Try.prog 66 2 = some (2, 1) := by kernel_rfl
@[go_sem] theorem ty66o2 : tfo Try.prog 66 2 = some 2 := by kernel_rfl
@[go_sem] theorem ty66f3 : tfield Try.prog 66 3 = some (3, 1) := by kernel_rfl
@[go_sem] theorem ty66o3 : tfo Try.prog 66 3 = some 3 := by kernel_rfl
@[go_sem] theorem ty66fs : tfields Try.prog 66 = some [(0, 1), (1, 1), (2, 1), (3, 1)] := by kernel_rfl
@[go_sem] theorem ty67k : tkind Try.prog 67 = some 11 := by kernel_rfl
@[go_sem] theorem ty67s : tsize Try.prog 67 = some 1 := by kernel_rfl
@[go_sem] theorem ty67b : tbytes Try.prog 67 = some 8 := by kernel_rfl
@[go_sem] theorem ty67a : tagg Try.prog 67 = some false := by kernel_rfl
@[go_sem] theorem ty67z : tzero Try.prog 67 = some (.nilFunc) := by kernel_rfl
@[go_sem] theorem ty68k : tkind Try.prog 68 = some 11 := by kernel_rfl
@[go_sem] theorem ty68s : tsize Try.prog 68 = some 1 := by kernel_rfl
@[go_sem] theorem ty68b : tbytes Try.prog 68 = some 8 := by kernel_rfl
@[go_sem] theorem ty68a : tagg Try.prog 68 = some false := by kernel_rfl
@[go_sem] theorem ty68z : tzero Try.prog 68 = some (.nilFunc) := by kernel_rfl
@[go_sem] theorem ty69k : tkind Try.prog 69 = some 11 := by kernel_rfl
@[go_sem] theorem ty69s : tsize Try.prog 69 = some 1 := by kernel_rfl
@[go_sem] theorem ty69b : tbytes Try.prog 69 = some 8 := by kernel_rfl
@[go_sem] theorem ty69a : tagg Try.prog 69 = some false := by kernel_rfl
@[go_sem] theorem ty69z : tzero Try.prog 69 = some (.nilFunc) := by kernel_rfl
@[go_sem] theorem ty70k : tkind Try.prog 70 = some 2 := by kernel_rfl
@[go_sem] theorem ty70s : tsize Try.prog 70 = some 3 := by kernel_rfl
@[go_sem] theorem ty70b : tbytes Try.prog 70 = some 24 := by kernel_rfl
@[go_sem] theorem ty70a : tagg Try.prog 70 = some true := by kernel_rfl
@[go_sem] theorem ty70z : tzero Try.prog 70 = some (.agg #[.int .i64 0, .int .i64 0, .int .i64 0]) := by kernel_rfl
@[go_sem] theorem ty70ar : tarr Try.prog 70 = some (3, 1) := by kernel_rfl
@[go_sem] theorem ty70sa : tsizeA Try.prog 70 = some 3 := by kernel_rfl
@[go_sem] theorem ty70e : telem Try.prog 70 = some 3 := by kernel_rfl
@[go_sem] theorem ty70l : tlen Try.prog 70 = some 3 := by kernel_rfl
@[go_sem] theorem ty71k : tkind Try.prog 71 = some 11 := by kernel_rfl
@[go_sem] theorem ty71s : tsize Try.prog 71 = some 1 := by kernel_rfl
@[go_sem] theorem ty71b : tbytes Try.prog 71 = some 8 := by kernel_rfl
@[go_sem] theorem ty71a : tagg Try.prog 71 = some false := by kernel_rfl
@[go_sem] theorem ty71z : tzero Try.prog 71 = some (.nilFunc) := by kernel_rfl
@[go_sem] theorem ty72k : tkind Try.prog 72 = some 11 := by kernel_rfl
@[go_sem] theorem ty72s : tsize Try.prog 72 = some 1 := by kernel_rfl
@[go_sem] theorem ty72b : tbytes Try.prog 72 = some 8 := by kernel_rfl
@[go_sem] theorem ty72a : tagg Try.prog 72 = some false := by kernel_rfl
@[go_sem] theorem ty72z : tzero Try.prog 72 = some (.nilFunc) := by kernel_rfl
@[go_sem] theorem ty73k : tkind Try.prog 73 = some 2 := by kernel_rfl
@[go_sem] theorem ty73s : tsize Try.prog 73 = some 2 := by kernel_rfl
@[go_sem] theorem ty73b : tbytes Try.prog 73 = some 16 := by kernel_rfl
@[go_sem] theorem ty73a : tagg Try.prog 73 = some true := by kernel_rfl
@[go_sem] theorem ty73z : tzero Try.prog 73 = some (.agg #[.int .i64 0, .int .i64 0]) := by kernel_rfl
@[go_sem] theorem ty73ar : tarr Try.prog 73 = some (2, 1) := by kernel_rfl
@[go_sem] theorem ty73sa : tsizeA Try.prog 73 = some 2 := by kernel_rfl
@[go_sem] theorem ty73e : telem Try.prog 73 = some 3 := by kernel_rfl
@[go_sem] theorem ty73l : tlen Try.prog 73 = some 2 := by kernel_rfl
@[go_sem] theorem ty74k : tkind Try.prog 74 = some 11 := by kernel_rfl
@[go_sem] theorem ty74s : tsize Try.prog 74 = some 1 := by kernel_rfl
@[go_sem] theorem ty74b : tbytes Try.prog 74 = some 8 := by kernel_rfl
@[go_sem] theorem ty74a : tagg Try.prog 74 = some false := by kernel_rfl
@[go_sem] theorem ty74z : tzero Try.prog 74 = some (.nilFunc) := by kernel_rfl
@[go_sem] theorem ty75k : tkind Try.prog 75 = some 11 := by kernel_rfl
@[go_sem] theorem ty75s : tsize Try.prog 75 = some 1 := by kernel_rfl
@[go_sem] theorem ty75b : tbytes Try.prog 75 = some 8 := by kernel_rfl
@[go_sem] theorem ty75a : tagg Try.prog 75 = some false := by kernel_rfl
@[go_sem] theorem ty75z : tzero Try.prog 75 = some (.nilFunc) := by kernel_rfl
@[go_sem] theorem ty76k : tkind Try.prog 76 = some 11 := by kernel_rfl
@[go_sem] theorem ty76s : tsize Try.prog 76 = some 1 := by kernel_rfl
@[go_sem] theorem ty76b : tbytes Try.prog 76 = some 8 := by kernel_rfl
@[go_sem] theorem ty76a : tagg Try.prog 76 = some false := by kernel_rfl
@[go_sem] theorem ty76z : tzero Try.prog 76 = some (.nilFunc) := by kernel_rfl
@[go_sem] theorem ty77k : tkind Try.prog 77 = some 11 := by kernel_rfl
@[go_sem] theorem ty77s : tsize Try.prog 77 = some 1 := by kernel_rfl
@[go_sem] theorem ty77b : tbytes Try.prog 77 = some 8 := by kernel_rfl
@[go_sem] theorem ty77a : tagg Try.prog 77 = some false := by kernel_rfl
@[go_sem] theorem ty77z : tzero Try.prog 77 = some (.nilFunc) := by kernel_rfl
@[go_sem] theorem ty78k : tkind Try.prog 78 = some 1 := by kernel_rfl
@[go_sem] theorem ty78s : tsize Try.prog 78 = some 1 := by kernel_rfl
@[go_sem] theorem ty78b : tbytes Try.prog 78 = some 24 := by kernel_rfl
@[go_sem] theorem ty78a : tagg Try.prog 78 = some false := by kernel_rfl
@[go_sem] theorem ty78z : tzero Try.prog 78 = some (.slice none 0 0) := by kernel_rfl
@[go_sem] theorem ty78sl : tslice Try.prog 78 = some 3 := by kernel_rfl
@[go_sem] theorem ty78ap : tapp Try.prog 78 = some (80, 3, 24) := by kernel_rfl
@[go_sem] theorem ty78bs : tbs Try.prog 78 = some (80, 3, [.int .i64 0, .int .i64 0, .bool false]) := by kernel_rfl
@[go_sem] theorem ty78mk : tmk Try.prog 78 = some (80, 3, [.int .i64 0, .int .i64 0, .bool false], 24) := by kernel_rfl
@[go_sem] theorem ty78e : telem Try.prog 78 = some 80 := by kernel_rfl
@[go_sem] theorem ty79k : tkind Try.prog 79 = some 7 := by kernel_rfl
@[go_sem] theorem ty79s : tsize Try.prog 79 = some 3 := by kernel_rfl
@[go_sem] theorem ty79b : tbytes Try.prog 79 = some 24 := by kernel_rfl
@[go_sem] theorem ty79a : tagg Try.prog 79 = some true := by kernel_rfl
@[go_sem] theorem ty79z : tzero Try.prog 79 = some (.agg #[.int .i64 0, .int .i64 0, .bool false]) := by kernel_rfl
@[go_sem] theorem ty79sa : tsizeA Try.prog 79 = some 3 := by kernel_rfl
@[go_sem] theorem ty79f0 : tfield Try.prog 79 0 = some (0, 1) := by kernel_rfl
@[go_sem] theorem ty79o0 : tfo Try.prog 79 0 = some 0 := by kernel_rfl
@[go_sem] theorem ty79f1 : tfield Try.prog 79 1 = some (1, 1) := by kernel_rfl
@[go_sem] theorem ty79o1 : tfo Try.prog 79 1 = some 1 := by kernel_rfl
@[go_sem] theorem ty79f2 : tfield Try.prog 79 2 = some (2, 1) := by kernel_rfl
@[go_sem] theorem ty79o2 : tfo Try.prog 79 2 = some 2 := by kernel_rfl
@[go_sem] theorem ty79fs : tfields Try.prog 79 = some [(0, 1), (1, 1), (2, 1)] := by kernel_rfl
@[go_sem] theorem ty80k : tkind Try.prog 80 = some 7 := by kernel_rfl
@[go_sem] theorem ty80s : tsize Try.prog 80 = some 3 := by kernel_rfl
@[go_sem] theorem ty80b : tbytes Try.prog 80 = some 24 := by kernel_rfl
@[go_sem] theorem ty80a : tagg Try.prog 80 = some true := by kernel_rfl
@[go_sem] theorem ty80z : tzero Try.prog 80 = some (.agg #[.int .i64 0, .int .i64 0, .bool false]) := by kernel_rfl
@[go_sem] theorem ty80fl : tflat Try.prog 80 = some [(0, 8), (1, 8), (2, 9)] := by kernel_rfl
@[go_sem] theorem ty80sa : tsizeA Try.prog 80 = some 3 := by kernel_rfl
@[go_sem] theorem ty80f0 : tfield Try.prog 80 0 = some (0, 1) := by kernel_rfl
@[go_sem] theorem ty80o0 : tfo Try.prog 80 0 = some 0 := by kernel_rfl
@[go_sem] theorem ty80f1 : tfield Try.prog 80 1 = some (1, 1) := by kernel_rfl
@[go_sem] theorem ty80o1 : tfo Try.prog 80 1 = some 1 := by kernel_rfl
@[go_sem] theorem ty80f2 : tfield Try.prog 80 2 = some (2, 1) := by kernel_rfl
@[go_sem] theorem ty80o2 : tfo Try.prog 80 2 = some 2 := by kernel_rfl
@[go_sem] theorem ty80fs : tfields Try.prog 80 = some [(0, 1), (1, 1), (2, 1)] := by kernel_rfl
@[go_sem] theorem ty81k : tkind Try.prog 81 = some 11 := by kernel_rfl
@[go_sem] theorem ty81s : tsize Try.prog 81 = some 1 := by kernel_rfl
@[go_sem] theorem ty81b : tbytes Try.prog 81 = some 8 := by kernel_rfl
@[go_sem] theorem ty81a : tagg Try.prog 81 = some false := by kernel_rfl
@[go_sem] theorem ty81z : tzero Try.prog 81 = some (.nilFunc) := by kernel_rfl
@[go_sem] theorem ty82k : tkind Try.prog 82 = some 11 := by kernel_rfl
@[go_sem] theorem ty82s : tsize Try.prog 82 = some 1 := by kernel_rfl
@[go_sem] theorem ty82b : tbytes Try.prog 82 = some 8 := by kernel_rfl
@[go_sem] theorem ty82a : tagg Try.prog 82 = some false := by kernel_rfl
@[go_sem] theorem ty82z : tzero Try.prog 82 = some (.nilFunc) := by kernel_rfl
@[go_sem] theorem ty83k : tkind Try.prog 83 = some 11 := by kernel_rfl
@[go_sem] theorem ty83s : tsize Try.prog 83 = some 1 := by kernel_rfl
@[go_sem] theorem ty83b : tbytes Try.prog 83 = some 8 := by kernel_rfl
@[go_sem] theorem ty83a : tagg Try.prog 83 = some false := by kernel_rfl
@[go_sem] theorem ty83z : tzero Try.prog 83 = some (.nilFunc) := by kernel_rfl
@[go_sem] theorem ty84k : tkind Try.prog 84 = some 6 := by kernel_rfl
@[go_sem] theorem ty84s : tsize Try.prog 84 = some 1 := by kernel_rfl
@[go_sem] theorem ty84b : tbytes Try.prog 84 = some 8 := by kernel_rfl
@[go_sem] theorem ty84a : tagg Try.prog 84 = some false := by kernel_rfl
@[go_sem] theorem ty84z : tzero Try.prog 84 = some (.chan none) := by kernel_rfl
@[go_sem] theorem ty84ch : tchan Try.prog 84 = some () := by kernel_rfl
@[go_sem] theorem ty84e : telem Try.prog 84 = some 29 := by kernel_rfl
@[go_sem] theorem ty85k : tkind Try.prog 85 = some 7 := by kernel_rfl
@[go_sem] theorem ty85s : tsize Try.prog 85 = some 3 := by kernel_rfl
@[go_sem] theorem ty85b : tbytes Try.prog 85 = some 24 := by kernel_rfl
@[go_sem] theorem ty85a : tagg Try.prog 85 = some true := by kernel_rfl
@[go_sem] theorem ty85z : tzero Try.prog 85 = some (.agg #[.chan none, .bool false, .int .i64 0]) := by kernel_rfl
@[go_sem] theorem ty85sa : tsizeA Try.prog 85 = some 3 := by kernel_rfl
@[go_sem] theorem ty85f0 : tfield Try.prog 85 0 = some (0, 1) := by kernel_rfl
@[go_sem] theorem ty85o0 : tfo Try.prog 85 0 = some 0 := by kernel_rfl
@[go_sem] theorem ty85f1 : tfield Try.prog 85 1 = some (1, 1) := by kernel_rfl
@[go_sem] theorem ty85o1 : tfo Try.prog 85 1 = some 1 := by kernel_rfl
@[go_sem] theorem ty85f2 : tfield Try.prog 85 2 = some (2, 1) := by kernel_rfl
@[go_sem] theorem ty85o2 : tfo Try.prog 85 2 = some 2 := by kernel_rfl
@[go_sem] theorem ty85fs : tfields Try.prog 85 = some [(0, 1), (1, 1), (2, 1)] := by kernel_rfl
@[go_sem] theorem ty86k : tkind Try.prog 86 = some 7 := by kernel_rfl
@[go_sem] theorem ty86s : tsize Try.prog 86 = some 3 := by kernel_rfl
@[go_sem] theorem ty86b : tbytes Try.prog 86 = some 24 := by kernel_rfl
@[go_sem] theorem ty86a : tagg Try.prog 86 = some true := by kernel_rfl
@[go_sem] theorem ty86z : tzero Try.prog 86 = some (.agg #[.chan none, .bool false, .int .i64 0]) := by kernel_rfl
@[go_sem] theorem ty86sa : tsizeA Try.prog 86 = some 3 := by kernel_rfl
@[go_sem] theorem ty86f0 : tfield Try.prog 86 0 = some (0, 1) := by kernel_rfl
@[go_sem] theorem ty86o0 : tfo Try.prog 86 0 = some 0 := by kernel_rfl
@[go_sem] theorem ty86f1 : tfield Try.prog 86 1 = some (1, 1) := by kernel_rfl
@[go_sem] theorem ty86o1 : tfo Try.prog 86 1 = some 1 := by kernel_rfl
@[go_sem] theorem ty86f2 : tfield Try.prog 86 2 = some (2, 1) := by kernel_rfl
@[go_sem] theorem ty86o2 : tfo Try.prog 86 2 = some 2 := by kernel_rfl
@[go_sem] theorem ty86fs : tfields Try.prog 86 = some [(0, 1), (1, 1), (2, 1)] := by kernel_rfl
@[go_sem] theorem ty87k : tkind Try.prog 87 = some 5 := by kernel_rfl
@[go_sem] theorem ty87s : tsize Try.prog 87 = some 1 := by kernel_rfl
@[go_sem] theorem ty87b : tbytes Try.prog 87 = some 8 := by kernel_rfl
@[go_sem] theorem ty87a : tagg Try.prog 87 = some false := by kernel_rfl
@[go_sem] theorem ty87z : tzero Try.prog 87 = some (.map none) := by kernel_rfl
@[go_sem] theorem ty87e : telem Try.prog 87 = some 90 := by kernel_rfl
@[go_sem] theorem ty88k : tkind Try.prog 88 = some 7 := by kernel_rfl
@[go_sem] theorem ty88s : tsize Try.prog 88 = some 4 := by kernel_rfl
@[go_sem] theorem ty88b : tbytes Try.prog 88 = some 32 := by kernel_rfl
@[go_sem] theorem ty88a : tagg Try.prog 88 = some true := by kernel_rfl
@[go_sem] theorem ty88z : tzero Try.prog 88 = some (.agg #[.int .i64 0, .int .i64 0, .int .i64 0, .map none]) := by kernel_rfl
@[go_sem] theorem ty88sa : tsizeA Try.prog 88 = some 4 := by kernel_rfl
@[go_sem] theorem ty88f0 : tfield Try.prog 88 0 = some (0, 1) := by kernel_rfl
@[go_sem] theorem ty88o0 : tfo Try.prog 88 0 = some 0 := by kernel_rfl
@[go_sem] theorem ty88f1 : tfield Try.prog 88 1 = some (1, 1) := by kernel_rfl
@[go_sem] theorem ty88o1 : tfo Try.prog 88 1 = some 1 := by kernel_rfl
@[go_sem] theorem ty88f2 : tfield Try.prog 88 2 = some (2, 1) := by kernel_rfl
@[go_sem] theorem ty88o2 : tfo Try.prog 88 2 = some 2 := by kernel_rfl
@[go_sem] theorem ty88f3 : tfield Try.prog 88 3 = some (3, 1) := by kernel_rfl
@[go_sem] theorem ty88o3 : tfo Try.prog 88 3 = some 3 := by kernel_rfl
@[go_sem] theorem ty88fs : tfields Try.prog 88 = some [(0, 1), (1, 1), (2, 1), (3, 1)] := by kernel_rfl
@[go_sem] theorem ty89k : tkind Try.prog 89 = some 7 := by kernel_rfl
@[go_sem] theorem ty89s : tsize Try.prog 89 = some 4 := by kernel_rfl
@[go_sem] theorem ty89b : tbytes Try.prog 89 = some 32 := by kernel_rfl
@[go_sem] theorem ty89a : tagg Try.prog 89 = some true := by kernel_rfl
@[go_sem] theorem ty89z : tzero Try.prog 89 = some (.agg #[.int .i64 0, .int .i64 0, .int .i64 0, .map none]) := by kernel_rfl
@[go_sem] theorem ty89sa : tsizeA Try.prog 89 = some 4 := by kernel_rfl
@[go_sem] theorem ty89f0 : tfield Try.prog 89 0 = some (0, 1) := by kernel_rfl
@[go_sem] theorem ty89o0 : tfo Try.prog 89 0 = some 0 := by kernel_rfl
@[go_sem] theorem ty89f1 : tfield Try.prog 89 1 = some (1, 1) := by kernel_rfl
@[go_sem] theorem ty89o1 : tfo Try.prog 89 1 = some 1 := by kernel_rfl
@[go_sem] theorem ty89f2 : tfield Try.prog 89 2 = some (2, 1) := by kernel_rfl
@[go_sem] theorem ty89o2 : tfo Try.prog 89 2 = some 2 := by kernel_rfl
@[go_sem] theorem ty89f3 : tfield Try.prog 89 3 = some (3, 1) := by kernel_rfl
@[go_sem] theorem ty89o3 : tfo Try.prog 89 3 = some 3 := by kernel_rfl
@[go_sem] theorem ty89fs : tfields Try.prog 89 = some [(0, 1), (1, 1), (2, 1), (3, 1)] := by kernel_rfl
@[go_sem] theorem ty90k : tkind Try.prog 90 = some 4 := by kernel_rfl
@[go_sem] theorem ty90s : tsize Try.prog 90 = some 1 := by kernel_rfl
@[go_sem] theorem ty90b : tbytes Try.prog 90 = some 8 := by kernel_rfl
@[go_sem] theorem ty90a : tagg Try.prog 90 = some false := by kernel_rfl
@[go_sem] theorem ty90z : tzero Try.prog 90 = some (.pointer none) := by kernel_rfl
@[go_sem] theorem ty90e : telem Try.prog 90 = some 93 := by kernel_rfl
@[go_sem] theorem ty91k : tkind Try.prog 91 = some 0 := by kernel_rfl
@[go_sem] theorem ty91s : tsize Try.prog 91 = some 1 := by kernel_rfl
@[go_sem] theorem ty91b : tbytes Try.prog 91 = some 0 := by kernel_rfl
@[go_sem] theorem ty91a : tagg Try.prog 91 = some false := by kernel_rfl
@[go_sem] theorem ty91z : tzero Try.prog 91 = some (.tuple #[.pointer none, .bool false]) := by kernel_rfl
@[go_sem] theorem ty92k : tkind Try.prog 92 = some 7 := by kernel_rfl
@[go_sem] theorem ty92s : tsize Try.prog 92 = some 2 := by kernel_rfl
@[go_sem] theorem ty92b : tbytes Try.prog 92 = some 16 := by kernel_rfl
@[go_sem] theorem ty92a : tagg Try.prog 92 = some true := by kernel_rfl
@[go_sem] theorem ty92z : tzero Try.prog 92 = some (.agg #[.pointer none, .int .i64 0]) := by kernel_rfl
@[go_sem] theorem ty92sa : tsizeA Try.prog 92 = some 2 := by kernel_rfl
@[go_sem] theorem ty92f0 : tfield Try.prog 92 0 = some (0, 1) := by kernel_rfl
@[go_sem] theorem ty92o0 : tfo Try.prog 92 0 = some 0 := by kernel_rfl
@[go_sem] theorem ty92f1 : tfield Try.prog 92 1 = some (1, 1) := by kernel_rfl
@[go_sem] theorem ty92o1 : tfo Try.prog 92 1 = some 1 := by kernel_rfl
@[go_sem] theorem ty92fs : tfields Try.prog 92 = some [(0, 1), (1, 1)] := by kernel_rfl
@[go_sem] theorem ty93k : tkind Try.prog 93 = some 7 := by kernel_rfl
@[go_sem] theorem ty93s : tsize Try.prog 93 = some 2 := by kernel_rfl
@[go_sem] theorem ty93b : tbytes Try.prog 93 = some 16 := by kernel_rfl
@[go_sem] theorem ty93a : tagg Try.prog 93 = some true := by kernel_rfl
@[go_sem] theorem ty93z : tzero Try.prog 93 = some (.agg #[.pointer none, .int .i64 0]) := by kernel_rfl
@[go_sem] theorem ty93sa : tsizeA Try.prog 93 = some 2 := by kernel_rfl
@[go_sem] theorem ty93f0 : tfield Try.prog 93 0 = some (0, 1) := by kernel_rfl
@[go_sem] theorem ty93o0 : tfo Try.prog 93 0 = some 0 := by kernel_rfl
@[go_sem] theorem ty93f1 : tfield Try.prog 93 1 = some (1, 1) := by kernel_rfl
@[go_sem] theorem ty93o1 : tfo Try.prog 93 1 = some 1 := by kernel_rfl
@[go_sem] theorem ty93fs : tfields Try.prog 93 = some [(0, 1), (1, 1)] := by kernel_rfl
@[go_sem] theorem ty94k : tkind Try.prog 94 = some 11 := by kernel_rfl
@[go_sem] theorem ty94s : tsize Try.prog 94 = some 1 := by kernel_rfl
@[go_sem] theorem ty94b : tbytes Try.prog 94 = some 8 := by kernel_rfl
@[go_sem] theorem ty94a : tagg Try.prog 94 = some false := by kernel_rfl
@[go_sem] theorem ty94z : tzero Try.prog 94 = some (.nilFunc) := by kernel_rfl
@[go_sem] theorem ty95k : tkind Try.prog 95 = some 1 := by kernel_rfl
@[go_sem] theorem ty95s : tsize Try.prog 95 = some 1 := by kernel_rfl
@[go_sem] theorem ty95b : tbytes Try.prog 95 = some 24 := by kernel_rfl
@[go_sem] theorem ty95a : tagg Try.prog 95 = some false := by kernel_rfl
@[go_sem] theorem ty95z : tzero Try.prog 95 = some (.slice none 0 0) := by kernel_rfl
@[go_sem] theorem ty95sl : tslice Try.prog 95 = some 1 := by kernel_rfl
@[go_sem] theorem ty95ap : tapp Try.prog 95 = some (45, 1, 24) := by kernel_rfl
@[go_sem] theorem ty95bs : tbs Try.prog 95 = some (45, 1, [.slice none 0 0]) := by kernel_rfl
@[go_sem] theorem ty95mk : tmk Try.prog 95 = some (45, 1, [.slice none 0 0], 24) := by kernel_rfl
@[go_sem] theorem ty95e : telem Try.prog 95 = some 45 := by kernel_rfl
@[go_sem] theorem ty96k : tkind Try.prog 96 = some 7 := by kernel_rfl
@[go_sem] theorem ty96s : tsize Try.prog 96 = some 3 := by kernel_rfl
@[go_sem] theorem ty96b : tbytes Try.prog 96 = some 40 := by kernel_rfl
@[go_sem] theorem ty96a : tagg Try.prog 96 = some true := by kernel_rfl
@[go_sem] theorem ty96z : tzero Try.prog 96 = some (.agg #[.int .i64 0, .int .i64 0, .slice none 0 0]) := by kernel_rfl
@[go_sem] theorem ty96sa : tsizeA Try.prog 96 = some 3 := by kernel_rfl
@[go_sem] theorem ty96f0 : tfield Try.prog 96 0 = some (0, 1) := by kernel_rfl
@[go_sem] theorem ty96o0 : tfo Try.prog 96 0 = some 0 := by kernel_rfl
@[go_sem] theorem ty96f1 : tfield Try.prog 96 1 = some (1, 1) := by kernel_rfl
@[go_sem] theorem ty96o1 : tfo Try.prog 96 1 = some 1 := by kernel_rfl
@[go_sem] theorem ty96f2 : tfield Try.prog 96 2 = some (2, 1) := by kernel_rfl
@[go_sem] theorem ty96o2 : tfo Try.prog 96 2 = some 2 := by kernel_rfl
@[go_sem] theorem ty96fs : tfields Try.prog 96 = some [(0, 1), (1, 1), (2, 1)] := by kernel_rfl
@[go_sem] theorem ty97k : tkind Try.prog 97 = some 7 := by kernel_rfl
@[go_sem] theorem ty97s : tsize Try.prog 97 = some 3 := by kernel_rfl
@[go_sem] theorem ty97b : tbytes Try.prog 97 = some 40 := by kernel_rfl
@[go_sem] theorem ty97a : tagg Try.prog 97 = some true := by kernel_rfl
@[go_sem] theorem ty97z : tzero Try.prog 97 = some (.agg #[.int .i64 0, .int .i64 0, .slice none 0 0]) := by kernel_rfl
@[go_sem] theorem ty97sa : tsizeA Try.prog 97 = some 3 := by kernel_rfl
@[go_sem] theorem ty97f0 : tfield Try.prog 97 0 = some (0, 1) := by kernel_rfl
@[go_sem] theorem ty97o0 : tfo Try.prog 97 0 = some 0 := by kernel_rfl
@[go_sem] theorem ty97f1 : tfield Try.prog 97 1 = some (1, 1) := by kernel_rfl
@[go_sem] theorem ty97o1 : tfo Try.prog 97 1 = some 1 := by kernel_rfl
@[go_sem] theorem ty97f2 : tfield Try.prog 97 2 = some (2, 1) := by kernel_rfl
@[go_sem] theorem ty97o2 : tfo Try.prog 97 2 = some 2 := by kernel_rfl
@[go_sem] theorem ty97fs : tfields Try.prog 97 = some [(0, 1), (1, 1), (2, 1)] := by kernel_rfl
@[go_sem] theorem ty98k : tkind Try.prog 98 = some 7 := by kernel_rfl
@[go_sem] theorem ty98s : tsize Try.prog 98 = some 3 := by kernel_rfl
@[go_sem] theorem ty98b : tbytes Try.prog 98 = some 40 := by kernel_rfl
@[go_sem] theorem ty98a : tagg Try.prog 98 = some true := by kernel_rfl
@[go_sem] theorem ty98z : tzero Try.prog 98 = some (.agg #[.int .i64 0, .int .i64 0, .slice none 0 0]) := by kernel_rfl
@[go_sem] theorem ty98sa : tsizeA Try.prog 98 = some 3 := by kernel_rfl
@[go_sem] theorem ty98f0 : tfield Try.prog 98 0 = some (0, 3) := by kernel_rfl
@[go_sem] theorem ty98o0 : tfo Try.prog 98 0 = some 0 := by kernel_rfl
@[go_sem] theorem ty98fs : tfields Try.prog 98 = some [(0, 3)] := by kernel_rfl
@[go_sem] theorem ty99k : tkind Try.prog 99 = some 7 := by kernel_rfl
@[go_sem] theorem ty99s : tsize Try.prog 99 = some 3 := by kernel_rfl
@[go_sem] theorem ty99b : tbytes Try.prog 99 = some 40 := by kernel_rfl
@[go_sem] theorem ty99a : tagg Try.prog 99 = some true := by kernel_rfl
@[go_sem] theorem ty99z : tzero Try.prog 99 = some (.agg #[.int .i64 0, .int .i64 0, .slice none 0 0]) := by kernel_rfl
@[go_sem] theorem ty99sa : tsizeA Try.prog 99 = some 3 := by kernel_rfl
@[go_sem] theorem ty99f0 : tfield Try.prog 99 0 = some (0, 3) := by kernel_rfl
@[go_sem] theorem ty99o0 : tfo Try.prog 99 0 = some 0 := by kernel_rfl
@[go_sem] theorem ty99fs : tfields Try.prog 99 = some [(0, 3)] := by kernel_rfl
@[go_sem] theorem ty100k : tkind Try.prog 100 = some 11 := by kernel_rfl
@[go_sem] theorem ty100s : tsize Try.prog 100 = some 1 := by kernel_rfl
@[go_sem] theorem ty100b : tbytes Try.prog 100 = some 8 := by kernel_rfl
@[go_sem] theorem ty100a : tagg Try.prog 100 = some false := by kernel_rfl
@[go_sem] theorem ty100z : tzero Try.prog 100 = some (.nilFunc) := by kernel_rfl
@[go_sem] theorem ty101k : tkind Try.prog 101 = some 11 := by kernel_rfl
@[go_sem] theorem ty101s : tsize Try.prog 101 = some 1 := by kernel_rfl
@[go_sem] theorem ty101b : tbytes Try.prog 101 = some 8 := by kernel_rfl
@[go_sem] theorem ty101a : tagg Try.prog 101 = some false := by kernel_rfl
@[go_sem] theorem ty101z : tzero Try.prog 101 = some (.nilFunc) := by kernel_rfl
@[go_sem] theorem ty102k : tkind Try.prog 102 = some 0 := by kernel_rfl
@[go_sem] theorem ty102s : tsize Try.prog 102 = some 1 := by kernel_rfl
@[go_sem] theorem ty102b : tbytes Try.prog 102 = some 0 := by kernel_rfl
@[go_sem] theorem ty102a : tagg Try.prog 102 = some false := by kernel_rfl
@[go_sem] theorem ty102z : tzero Try.prog 102 = some (.tuple #[.slice none 0 0, .bool false]) := by kernel_rfl
@[go_sem] theorem ty103k : tkind Try.prog 103 = some 11 := by kernel_rfl
@[go_sem] theorem ty103s : tsize Try.prog 103 = some 1 := by kernel_rfl
@[go_sem] theorem ty103b : tbytes Try.prog 103 = some 8 := by kernel_rfl
@[go_sem] theorem ty103a : tagg Try.prog 103 = some false := by kernel_rfl
@[go_sem] theorem ty103z : tzero Try.prog 103 = some (.nilFunc) := by kernel_rfl
@[go_sem] theorem ty104k : tkind Try.prog 104 = some 2 := by kernel_rfl
@[go_sem] theorem ty104s : tsize Try.prog 104 = some 8 := by kernel_rfl
@[go_sem] theorem ty104b : tbytes Try.prog 104 = some 32 := by kernel_rfl
@[go_sem] theorem ty104a : tagg Try.prog 104 = some true := by kernel_rfl
@[go_sem] theorem ty104z : tzero Try.prog 104 = some (.agg #[.int .i32 0, .int .i32 0, .int .i32 0, .int .i32 0, .int .i32 0, .int .i32 0, .int .i32 0, .int .i32 0]) := by kernel_rfl
@[go_sem] theorem ty104ar : tarr Try.prog 104 = some (8, 1) := by kernel_rfl
@[go_sem] theorem ty104sa : tsizeA Try.prog 104 = some 8 := by kernel_rfl
@[go_sem] theorem ty104e : telem Try.prog 104 = some 21 := by kernel_rfl
@[go_sem] theorem ty104l : tlen Try.prog 104 = some 8 := by kernel_rfl
@[go_sem] theorem ty105k : tkind Try.prog 105 = some 11 := by kernel_rfl
@[go_sem] theorem ty105s : tsize Try.prog 105 = some 1 := by kernel_rfl
@[go_sem] theorem ty105b : tbytes Try.prog 105 = some 8 := by kernel_rfl
@[go_sem] theorem ty105a : tagg Try.prog 105 = some false := by kernel_rfl
@[go_sem] theorem ty105z : tzero Try.prog 105 = some (.nilFunc) := by kernel_rfl
@[go_sem] theorem ty106k : tkind Try.prog 106 = some 11 := by kernel_rfl
@[go_sem] theorem ty106s : tsize Try.prog 106 = some 1 := by kernel_rfl
@[go_sem] theorem ty106b : tbytes Try.prog 106 = some 8 := by kernel_rfl
@[go_sem] theorem ty106a : tagg Try.prog 106 = some false := by kernel_rfl
@[go_sem] theorem ty106z : tzero Try.prog 106 = some (.nilFunc) := by kernel_rfl
@[go_sem] theorem ty107k : tkind Try.prog 107 = some 0 := by kernel_rfl
@[go_sem] theorem ty107s : tsize Try.prog 107 = some 1 := by kernel_rfl
@[go_sem] theorem ty107b : tbytes Try.prog 107 = some 0 := by kernel_rfl
@[go_sem] theorem ty107a : tagg Try.prog 107 = some false := by kernel_rfl
@[go_sem] theorem ty107z : tzero Try.prog 107 = some (.tuple #[.int .i64 0, .int .i64 0]) := by kernel_rfl
@[go_sem] theorem ty108k : tkind Try.prog 108 = some 11 := by kernel_rfl
@[go_sem] theorem ty108s : tsize Try.prog 108 = some 1 := by kernel_rfl
@[go_sem] theorem ty108b : tbytes Try.prog 108 = some 8 := by kernel_rfl
@[go_sem] theorem ty108a : tagg Try.prog 108 = some false := by kernel_rfl
@[go_sem] theorem ty108z : tzero Try.prog 108 = some (.nilFunc) := by kernel_rfl
@[go_sem] theorem ty109k : tkind Try.prog 109 = some 11 := by kernel_rfl
@[go_sem] theorem ty109s : tsize Try.prog 109 = some 1 := by kernel_rfl
@[go_sem] theorem ty109b : tbytes Try.prog 109 = some 8 := by kernel_rfl
@[go_sem] theorem ty109a : tagg Try.prog 109 = some false := by kernel_rfl
@[go_sem] theorem ty109z : tzero Try.prog 109 = some (.nilFunc) := by kernel_rfl
@[go_sem] theorem ty110k : tkind Try.prog 110 = some 11 := by kernel_rfl
@[go_sem] theorem ty110s : tsize Try.prog 110 = some 1 := by kernel_rfl
@[go_sem] theorem ty110b : tbytes Try.prog 110 = some 8 := by kernel_rfl
@[go_sem] theorem ty110a : tagg Try.prog 110 = some false := by kernel_rfl
@[go_sem] theorem ty110z : tzero Try.prog 110 = some (.nilFunc) := by kernel_rfl
@[go_sem] theorem ty111k : tkind Try.prog 111 = some 11 := by kernel_rfl
@[go_sem] theorem ty111s : tsize Try.prog 111 = some 1 := by kernel_rfl
@[go_sem] theorem ty111b : tbytes Try.prog 111 = some 8 := by kernel_rfl
@[go_sem] theorem ty111a : tagg Try.prog 111 = some false := by kernel_rfl
@[go_sem] theorem ty111z : tzero Try.prog 111 = some (.nilFunc) := by kernel_rfl
@[go_sem] theorem ty112k : tkind Try.prog 112 = some 11 := by kernel_rfl
@[go_sem] theorem ty112s : tsize Try.prog 112 = some 1 := by kernel_rfl
@[go_sem] theorem ty112b : tbytes Try.prog 112 = some 8 := by kernel_rfl
@[go_sem] theorem ty112a : tagg Try.prog 112 = some false := by kernel_rfl
@[go_sem] theorem ty112z : tzero Try.prog 112 = some (.nilFunc) := by kernel_rfl
@[go_sem] theorem ty113k : tkind Try.prog 113 = some 1 := by kernel_rfl
@[go_sem] theorem ty113s : tsize Try.prog 113 = some 1 := by kernel_rfl
@[go_sem] theorem ty113b : tbytes Try.prog 113 = some 24 := by kernel_rfl
@[go_sem] theorem ty113a : tagg Try.prog 113 = some false := by kernel_rfl
@[go_sem] theorem ty113z : tzero Try.prog 113 = some (.slice none 0 0) := by kernel_rfl
@[go_sem] theorem ty113sl : tslice Try.prog 113 = some 1 := by kernel_rfl
@[go_sem] theorem ty113ap : tapp Try.prog 113 = some (9, 1, 16) := by kernel_rfl
@[go_sem] theorem ty113bs : tbs Try.prog 113 = some (9, 1, [.string ⟨#[]⟩]) := by kernel_rfl
@[go_sem] theorem ty113mk : tmk Try.prog 113 = some (9, 1, [.string ⟨#[]⟩], 16) := by kernel_rfl
@[go_sem] theorem ty113e : telem Try.prog 113 = some 9 := by kernel_rfl
@[go_sem] theorem ty114k : tkind Try.prog 114 = some 11 := by kernel_rfl
@[go_sem] theorem ty114s : tsize Try.prog 114 = some 1 := by kernel_rfl
@[go_sem] theorem ty114b : tbytes Try.prog 114 = some 8 := by kernel_rfl
@[go_sem] theorem ty114a : tagg Try.prog 114 = some false := by kernel_rfl
@[go_sem] theorem ty114z : tzero Try.prog 114 = some (.nilFunc) := by kernel_rfl
@[go_sem] theorem ty115k : tkind Try.prog 115 = some 11 := by kernel_rfl
@[go_sem] theorem ty115s : tsize Try.prog 115 = some 1 := by kernel_rfl
@[go_sem] theorem ty115b : tbytes Try.prog 115 = some 8 := by kernel_rfl
@[go_sem] theorem ty115a : tagg Try.prog 115 = some false := by kernel_rfl
@[go_sem] theorem ty115z : tzero Try.prog 115 = some (.nilFunc) := by kernel_rfl
@[go_sem] theorem ty116k : tkind Try.prog 116 = some 11 := by kernel_rfl
@[go_sem] theorem ty116s : tsize Try.prog 116 = some 1 := by kernel_rfl
@[go_sem] theorem ty116b : tbytes Try.prog 116 = some 8 := by kernel_rfl
@[go_sem] theorem ty116a : tagg Try.prog 116 = some false := by kernel_rfl
@[go_sem] theorem ty116z : tzero Try.prog 116 = some (.nilFunc) := by kernel_rfl
@[go_sem] theorem ty117k : tkind Try.prog 117 = some 11 := by kernel_rfl
@[go_sem] theorem ty117s : tsize Try.prog 117 = some 1 := by kernel_rfl
@[go_sem] theorem ty117b : tbytes Try.prog 117 = some 8 := by kernel_rfl
@[go_sem] theorem ty117a : tagg Try.prog 117 = some false := by kernel_rfl
@[go_sem] theorem ty117z : tzero Try.prog 117 = some (.nilFunc) := by kernel_rfl
@[go_sem] theorem ty118k : tkind Try.prog 118 = some 2 := by kernel_rfl
@[go_sem] theorem ty118s : tsize Try.prog 118 = some 4 := by kernel_rfl
@[go_sem] theorem ty118b : tbytes Try.prog 118 = some 16 := by kernel_rfl
@[go_sem] theorem ty118a : tagg Try.prog 118 = some true := by kernel_rfl
@[go_sem] theorem ty118z : tzero Try.prog 118 = some (.agg #[.int .i32 0, .int .i32 0, .int .i32 0, .int .i32 0]) := by kernel_rfl
@[go_sem] theorem ty118ar : tarr Try.prog 118 = some (4, 1) := by kernel_rfl
@[go_sem] theorem ty118sa : tsizeA Try.prog 118 = some 4 := by kernel_rfl
@[go_sem] theorem ty118e : telem Try.prog 118 = some 21 := by kernel_rfl
@[go_sem] theorem ty118l : tlen Try.prog 118 = some 4 := by kernel_rfl
@[go_sem] theorem ty119k : tkind Try.prog 119 = some 8 := by kernel_rfl
@[go_sem] theorem ty119s : tsize Try.prog 119 = some 1 := by kernel_rfl
@[go_sem] theorem ty119b : tbytes Try.prog 119 = some 8 := by kernel_rfl
@[go_sem] theorem ty119a : tagg Try.prog 119 = some false := by kernel_rfl
@[go_sem] theorem ty119z : tzero Try.prog 119 = some (.int .u64 0) := by kernel_rfl
@[go_sem] theorem ty119i : tint Try.prog 119 = some .u64 := by kernel_rfl
@[go_sem] theorem ty120k : tkind Try.prog 120 = some 11 := by kernel_rfl
@[go_sem] theorem ty120s : tsize Try.prog 120 = some 1 := by kernel_rfl
@[go_sem] theorem ty120b : tbytes Try.prog 120 = some 8 := by kernel_rfl
@[go_sem] theorem ty120a : tagg Try.prog 120 = some false := by kernel_rfl
@[go_sem] theorem ty120z : tzero Try.prog 120 = some (.nilFunc) := by kernel_rfl
@[go_sem] theorem ty121k : tkind Try.prog 121 = some 11 := by kernel_rfl
@[go_sem] theorem ty121s : tsize Try.prog 121 = some 1 := by kernel_rfl
@[go_sem] theorem ty121b : tbytes Try.prog 121 = some 8 := by kernel_rfl
@[go_sem] theorem ty121a : tagg Try.prog 121 = some false := by kernel_rfl
@[go_sem] theorem ty121z : tzero Try.prog 121 = some (.nilFunc) := by kernel_rfl
@[go_sem] theorem ty122k : tkind Try.prog 122 = some 11 := by kernel_rfl
@[go_sem] theorem ty122s : tsize Try.prog 122 = some 1 := by kernel_rfl
@[go_sem] theorem ty122b : tbytes Try.prog 122 = some 8 := by kernel_rfl
@[go_sem] theorem ty122a : tagg Try.prog 122 = some false := by kernel_rfl
@[go_sem] theorem ty122z : tzero Try.prog 122 = some (.nilFunc) := by kernel_rfl
@[go_sem] theorem ty123k : tkind Try.prog 123 = some 11 := by kernel_rfl
@[go_sem] theorem ty123s : tsize Try.prog 123 = some 1 := by kernel_rfl
@[go_sem] theorem ty123b : tbytes Try.prog 123 = some 8 := by kernel_rfl
@[go_sem] theorem ty123a : tagg Try.prog 123 = some false := by kernel_rfl
@[go_sem] theorem ty123z : tzero Try.prog 123 = some (.nilFunc) := by kernel_rfl
@[go_sem] theorem ty124k : tkind Try.prog 124 = some 11 := by kernel_rfl
@[go_sem] theorem ty124s : tsize Try.prog 124 = some 1 := by kernel_rfl
@[go_sem] theorem ty124b : tbytes Try.prog 124 = some 8 := by kernel_rfl
@[go_sem] theorem ty124a : tagg Try.prog 124 = some false := by kernel_rfl
@[go_sem] theorem ty124z : tzero Try.prog 124 = some (.nilFunc) := by kernel_rfl
@[go_sem] theorem ty125k : tkind Try.prog 125 = some 11 := by kernel_rfl
@[go_sem] theorem ty125s : tsize Try.prog 125 = some 1 := by kernel_rfl
@[go_sem] theorem ty125b : tbytes Try.prog 125 = some 8 := by kernel_rfl
@[go_sem] theorem ty125a : tagg Try.prog 125 = some false := by kernel_rfl
@[go_sem] theorem ty125z : tzero Try.prog 125 = some (.nilFunc) := by kernel_rfl
@[go_sem] theorem ty126k : tkind Try.prog 126 = some 11 := by kernel_rfl
@[go_sem] theorem ty126s : tsize Try.prog 126 = some 1 := by kernel_rfl
@[go_sem] theorem ty126b : tbytes Try.prog 126 = some 8 := by kernel_rfl
@[go_sem] theorem ty126a : tagg Try.prog 126 = some false := by kernel_rfl
@[go_sem] theorem ty126z : tzero Try.prog 126 = some (.nilFunc) := by kernel_rfl
@[go_sem] theorem ty127k : tkind Try.prog 127 = some 11 := by kernel_rfl
@[go_sem] theorem ty127s : tsize Try.prog 127 = some 1 := by kernel_rfl
@[go_sem] theorem ty127b : tbytes Try.prog 127 = some 8 := by kernel_rfl
@[go_sem] theorem ty127a : tagg Try.prog 127 = some false := by kernel_rfl
@[go_sem] theorem ty127z : tzero Try.prog 127 = some (.nilFunc) := by kernel_rfl
@[go_sem] theorem ty128k : tkind Try.prog 128 = some 11 := by kernel_rfl
@[go_sem] theorem ty128s : tsize Try.prog 128 = some 1 := by kernel_rfl
@[go_sem] theorem ty128b : tbytes Try.prog 128 = some 8 := by kernel_rfl
@[go_sem] theorem ty128a : tagg Try.prog 128 = some false := by kernel_rfl
@[go_sem] theorem ty128z : tzero Try.prog 128 = some (.nilFunc) := by kernel_rfl
@[go_sem] theorem ty129k : tkind Try.prog 129 = some 1 := by kernel_rfl
@[go_sem] theorem ty129s : tsize Try.prog 129 = some 1 := by kernel_rfl
@[go_sem] theorem ty129b : tbytes Try.prog 129 = some 24 := by kernel_rfl
@[go_sem] theorem ty129a : tagg Try.prog 129 = some false := by kernel_rfl
@[go_sem] theorem ty129z : tzero Try.prog 129 = some (.slice none 0 0) := by kernel_rfl
@[go_sem] theorem ty129sl : tslice Try.prog 129 = some 1 := by kernel_rfl
@[go_sem] theorem ty129ap : tapp Try.prog 129 = some (21, 1, 4) := by kernel_rfl
@[go_sem] theorem ty129bs : tbs Try.prog 129 = some (21, 1, [.int .i32 0]) := by kernel_rfl
@[go_sem] theorem ty129mk : tmk Try.prog 129 = some (21, 1, [.int .i32 0], 4) := by kernel_rfl
@[go_sem] theorem ty129e : telem Try.prog 129 = some 21 := by kernel_rfl
@[go_sem] theorem ty130k : tkind Try.prog 130 = some 11 := by kernel_rfl
@[go_sem] theorem ty130s : tsize Try.prog 130 = some 1 := by kernel_rfl
@[go_sem] theorem ty130b : tbytes Try.prog 130 = some 8 := by kernel_rfl
@[go_sem] theorem ty130a : tagg Try.prog 130 = some false := by kernel_rfl
@[go_sem] theorem ty130z : tzero Try.prog 130 = some (.nilFunc) := by kernel_rfl
@[go_sem] theorem ty131k : tkind Try.prog 131 = some 4 := by kernel_rfl
@[go_sem] theorem ty131s : tsize Try.prog 131 = some 1 := by kernel_rfl
@[go_sem] theorem ty131b : tbytes Try.prog 131 = some 8 := by kernel_rfl
@[go_sem] theorem ty131a : tagg Try.prog 131 = some false := by kernel_rfl
@[go_sem] theorem ty131z : tzero Try.prog 131 = some (.pointer none) := by kernel_rfl
@[go_sem] theorem ty131e : telem Try.prog 131 = some 97 := by kernel_rfl
@[go_sem] theorem ty132k : tkind Try.prog 132 = some 11 := by kernel_rfl
@[go_sem] theorem ty132s : tsize Try.prog 132 = some 1 := by kernel_rfl
@[go_sem] theorem ty132b : tbytes Try.prog 132 = some 8 := by kernel_rfl
@[go_sem] theorem ty132a : tagg Try.prog 132 = some false := by kernel_rfl
@[go_sem] theorem ty132z : tzero Try.prog 132 = some (.nilFunc) := by kernel_rfl
@[go_sem] theorem ty133k : tkind Try.prog 133 = some 11 := by kernel_rfl
@[go_sem] theorem ty133s : tsize Try.prog 133 = some 1 := by kernel_rfl
@[go_sem] theorem ty133b : tbytes Try.prog 133 = some 8 := by kernel_rfl
@[go_sem] theorem ty133a : tagg Try.prog 133 = some false := by kernel_rfl
@[go_sem] theorem ty133z : tzero Try.prog 133 = some (.nilFunc) := by kernel_rfl
@[go_sem] theorem ty134k : tkind Try.prog 134 = some 11 := by kernel_rfl
@[go_sem] theorem ty134s : tsize Try.prog 134 = some 1 := by kernel_rfl
@[go_sem] theorem ty134b : tbytes Try.prog 134 = some 8 := by kernel_rfl
@[go_sem] theorem ty134a : tagg Try.prog 134 = some false := by kernel_rfl
@[go_sem] theorem ty134z : tzero Try.prog 134 = some (.nilFunc) := by kernel_rfl
@[go_sem] theorem ty135k : tkind Try.prog 135 = some 2 := by kernel_rfl
@[go_sem] theorem ty135s : tsize Try.prog 135 = some 16 := by kernel_rfl
@[go_sem] theorem ty135b : tbytes Try.prog 135 = some 64 := by kernel_rfl
@[go_sem] theorem ty135a : tagg Try.prog 135 = some true := by kernel_rfl
@[go_sem] theorem ty135z : tzero Try.prog 135 = some (.agg #[.int .i32 0, .int .i32 0, .int .i32 0, .int .i32 0, .int .i32 0, .int .i32 0, .int .i32 0, .int .i32 0, .int .i32 0, .int .i32 0, .int .i32 0, .int .i32 0, .int .i32 0, .int .i32 0, .int .i32 0, .int .i32 0]) := by kernel_rfl
@[go_sem] theorem ty135ar : tarr Try.prog 135 = some (16, 1) := by kernel_rfl
@[go_sem] theorem ty135sa : tsizeA Try.prog 135 = some 16 := by kernel_rfl
@[go_sem] theorem ty135e : telem Try.prog 135 = some 21 := by kernel_rfl
@[go_sem] theorem ty135l : tlen Try.prog 135 = some 16 := by kernel_rfl
@[go_sem] theorem ty136k : tkind Try.prog 136 = some 1 := by kernel_rfl
@[go_sem] theorem ty136s : tsize Try.prog 136 = some 1 := by kernel_rfl
@[go_sem] theorem ty136b : tbytes Try.prog 136 = some 24 := by kernel_rfl
@[go_sem] theorem ty136a : tagg Try.prog 136 = some false := by kernel_rfl
@[go_sem] theorem ty136z : tzero Try.prog 136 = some (.slice none 0 0) := by kernel_rfl
@[go_sem] theorem ty136sl : tslice Try.prog 136 = some 1 := by kernel_rfl
@[go_sem] theorem ty136ap : tapp Try.prog 136 = some (4, 1, 1) := by kernel_rfl
@[go_sem] theorem ty136bs : tbs Try.prog 136 = some (4, 1, [.bool false]) := by kernel_rfl
@[go_sem] theorem ty136mk : tmk Try.prog 136 = some (4, 1, [.bool false], 1) := by kernel_rfl
@[go_sem] theorem ty136e : telem Try.prog 136 = some 4 := by kernel_rfl
@[go_sem] theorem ty137k : tkind Try.prog 137 = some 11 := by kernel_rfl
@[go_sem] theorem ty137s : tsize Try.prog 137 = some 1 := by kernel_rfl
@[go_sem] theorem ty137b : tbytes Try.prog 137 = some 8 := by kernel_rfl
@[go_sem] theorem ty137a : tagg Try.prog 137 = some false := by kernel_rfl
@[go_sem] theorem ty137z : tzero Try.prog 137 = some (.nilFunc) := by kernel_rfl
@[go_sem] theorem ty138k : tkind Try.prog 138 = some 11 := by kernel_rfl
@[go_sem] theorem ty138s : tsize Try.prog 138 = some 1 := by kernel_rfl
@[go_sem] theorem ty138b : tbytes Try.prog 138 = some 8 := by kernel_rfl
@[go_sem] theorem ty138a : tagg Try.prog 138 = some false := by kernel_rfl
@[go_sem] theorem ty138z : tzero Try.prog 138 = some (.nilFunc) := by kernel_rfl
@[go_sem] theorem ty139k : tkind Try.prog 139 = some 11 := by kernel_rfl
@[go_sem] theorem ty139s : tsize Try.prog 139 = some 1 := by kernel_rfl
@[go_sem] theorem ty139b : tbytes Try.prog 139 = some 8 := by kernel_rfl
@[go_sem] theorem ty139a : tagg Try.prog 139 = some false := by kernel_rfl
@[go_sem] theorem ty139z : tzero Try.prog 139 = some (.nilFunc) := by kernel_rfl
@[go_sem] theorem ty140k : tkind Try.prog 140 = some 1 := by kernel_rfl
@[go_sem] theorem ty140s : tsize Try.prog 140 = some 1 := by kernel_rfl
@[go_sem] theorem ty140b : tbytes Try.prog 140 = some 24 := by kernel_rfl
@[go_sem] theorem ty140a : tagg Try.prog 140 = some false := by kernel_rfl
@[go_sem] theorem ty140z : tzero Try.prog 140 = some (.slice none 0 0) := by kernel_rfl
@[go_sem] theorem ty140sl : tslice Try.prog 140 = some 1 := by kernel_rfl
@[go_sem] theorem ty140ap : tapp Try.prog 140 = some (5, 1, 1) := by kernel_rfl
@[go_sem] theorem ty140bs : tbs Try.prog 140 = some (5, 1, [.int .u8 0]) := by kernel_rfl
@[go_sem] theorem ty140mk : tmk Try.prog 140 = some (5, 1, [.int .u8 0], 1) := by kernel_rfl
@[go_sem] theorem ty140e : telem Try.prog 140 = some 5 := by kernel_rfl
@[go_sem] theorem ty141k : tkind Try.prog 141 = some 11 := by kernel_rfl
@[go_sem] theorem ty141s : tsize Try.prog 141 = some 1 := by kernel_rfl
@[go_sem] theorem ty141b : tbytes Try.prog 141 = some 8 := by kernel_rfl
@[go_sem] theorem ty141a : tagg Try.prog 141 = some false := by kernel_rfl
@[go_sem] theorem ty141z : tzero Try.prog 141 = some (.nilFunc) := by kernel_rfl
@[go_sem] theorem ty142k : tkind Try.prog 142 = some 11 := by kernel_rfl
@[go_sem] theorem ty142s : tsize Try.prog 142 = some 1 := by kernel_rfl
@[go_sem] theorem ty142b : tbytes Try.prog 142 = some 8 := by kernel_rfl
@[go_sem] theorem ty142a : tagg Try.prog 142 = some false := by kernel_rfl
@[go_sem] theorem ty142z : tzero Try.prog 142 = some (.nilFunc) := by kernel_rfl
@[go_sem] theorem ty143k : tkind Try.prog 143 = some 11 := by kernel_rfl
@[go_sem] theorem ty143s : tsize Try.prog 143 = some 1 := by kernel_rfl
@[go_sem] theorem ty143b : tbytes Try.prog 143 = some 8 := by kernel_rfl
@[go_sem] theorem ty143a : tagg Try.prog 143 = some false := by kernel_rfl
@[go_sem] theorem ty143z : tzero Try.prog 143 = some (.nilFunc) := by kernel_rfl
@[go_sem] theorem ty144k : tkind Try.prog 144 = some 0 := by kernel_rfl
@[go_sem] theorem ty144s : tsize Try.prog 144 = some 1 := by kernel_rfl
@[go_sem] theorem ty144b : tbytes Try.prog 144 = some 0 := by kernel_rfl
@[go_sem] theorem ty144a : tagg Try.prog 144 = some false := by kernel_rfl
@[go_sem] theorem ty144z : tzero Try.prog 144 = some (.tuple #[.int .u64 0, .int .u64 0]) := by kernel_rfl
@[go_sem] theorem ty145k : tkind Try.prog 145 = some 11 := by kernel_rfl
@[go_sem] theorem ty145s : tsize Try.prog 145 = some 1 := by kernel_rfl
@[go_sem] theorem ty145b : tbytes Try.prog 145 = some 8 := by kernel_rfl
@[go_sem] theorem ty145a : tagg Try.prog 145 = some false := by kernel_rfl
@[go_sem] theorem ty145z : tzero Try.prog 145 = some (.nilFunc) := by kernel_rfl
@[go_sem] theorem ty146k : tkind Try.prog 146 = some 11 := by kernel_rfl
@[go_sem] theorem ty146s : tsize Try.prog 146 = some 1 := by kernel_rfl
@[go_sem] theorem ty146b : tbytes Try.prog 146 = some 8 := by kernel_rfl
@[go_sem] theorem ty146a : tagg Try.prog 146 = some false := by kernel_rfl
@[go_sem] theorem ty146z : tzero Try.prog 146 = some (.nilFunc) := by kernel_rfl
@[go_sem] theorem ty147k : tkind Try.prog 147 = some 11 := by kernel_rfl
@[go_sem] theorem ty147s : tsize Try.prog 147 = some 1 := by kernel_rfl
@[go_sem] theorem ty147b : tbytes Try.prog 147 = some 8 := by kernel_rfl
@[go_sem] theorem ty147a : tagg Try.prog 147 = some false := by kernel_rfl
@[go_sem] theorem ty147z : tzero Try.prog 147 = some (.nilFunc) := by kernel_rfl
@[go_sem] theorem ty148k : tkind Try.prog 148 = some 11 := by kernel_rfl
@[go_sem] theorem ty148s : tsize Try.prog 148 = some 1 := by kernel_rfl
@[go_sem] theorem ty148b : tbytes Try.prog 148 = some 8 := by kernel_rfl
@[go_sem] theorem ty148a : tagg Try.prog 148 = some false := by kernel_rfl
@[go_sem] theorem ty148z : tzero Try.prog 148 = some (.nilFunc) := by kernel_rfl
@[go_sem] theorem ty149k : tkind Try.prog 149 = some 7 := by kernel_rfl
@[go_sem] theorem ty149s : tsize Try.prog 149 = some 3 := by kernel_rfl
@[go_sem] theorem ty149b : tbytes Try.prog 149 = some 16 := by kernel_rfl
@[go_sem] theorem ty149a : tagg Try.prog 149 = some true := by kernel_rfl
@[go_sem] theorem ty149z : tzero Try.prog 149 = some (.agg #[.int .i32 0, .int .i32 0, .int .i64 0]) := by kernel_rfl
@[go_sem] theorem ty149sa : tsizeA Try.prog 149 = some 3 := by kernel_rfl
@[go_sem] theorem ty149f0 : tfield Try.prog 149 0 = some (0, 1) := by kernel_rfl
@[go_sem] theorem ty149o0 : tfo Try.prog 149 0 = some 0 := by kernel_rfl
@[go_sem] theorem ty149f1 : tfield Try.prog 149 1 = some (1, 1) := by kernel_rfl
@[go_sem] theorem ty149o1 : tfo Try.prog 149 1 = some 1 := by kernel_rfl
@[go_sem] theorem ty149f2 : tfield Try.prog 149 2 = some (2, 1) := by kernel_rfl
@[go_sem] theorem ty149o2 : tfo Try.prog 149 2 = some 2 := by kernel_rfl
@[go_sem] theorem ty149fs : tfields Try.prog 149 = some [(0, 1), (1, 1), (2, 1)] := by kernel_rfl
@[go_sem] theorem ty150k : tkind Try.prog 150 = some 7 := by kernel_rfl
@[go_sem] theorem ty150s : tsize Try.prog 150 = some 3 := by kernel_rfl
@[go_sem] theorem ty150b : tbytes Try.prog 150 = some 16 := by kernel_rfl
@[go_sem] theorem ty150a : tagg Try.prog 150 = some true := by kernel_rfl
@[go_sem] theorem ty150z : tzero Try.prog 150 = some (.agg #[.int .i32 0, .int .i32 0, .int .i64 0]) := by kernel_rfl
@[go_sem] theorem ty150fl : tflat Try.prog 150 = some [(0, 8), (1, 8), (2, 8)] := by kernel_rfl
@[go_sem] theorem ty150sa : tsizeA Try.prog 150 = some 3 := by kernel_rfl
@[go_sem] theorem ty150f0 : tfield Try.prog 150 0 = some (0, 1) := by kernel_rfl
@[go_sem] theorem ty150o0 : tfo Try.prog 150 0 = some 0 := by kernel_rfl
@[go_sem] theorem ty150f1 : tfield Try.prog 150 1 = some (1, 1) := by kernel_rfl
@[go_sem] theorem ty150o1 : tfo Try.prog 150 1 = some 1 := by kernel_rfl
@[go_sem] theorem ty150f2 : tfield Try.prog 150 2 = some (2, 1) := by kernel_rfl
@[go_sem] theorem ty150o2 : tfo Try.prog 150 2 = some 2 := by kernel_rfl
@[go_sem] theorem ty150fs : tfields Try.prog 150 = some [(0, 1), (1, 1), (2, 1)] := by kernel_rfl
@[go_sem] theorem ty151k : tkind Try.prog 151 = some 2 := by kernel_rfl
@[go_sem] theorem ty151s : tsize Try.prog 151 = some 48 := by kernel_rfl
@[go_sem] theorem ty151b : tbytes Try.prog 151 = some 256 := by kernel_rfl
@[go_sem] theorem ty151a : tagg Try.prog 151 = some true := by kernel_rfl
@[go_sem] theorem ty151z : tzero Try.prog 151 = some (.agg #[.int .i32 0, .int .i32 0, .int .i64 0, .int .i32 0, .int .i32 0, .int .i64 0, .int .i32 0, .int .i32 0, .int .i64 0, .int .i32 0, .int .i32 0, .int .i64 0, .int .i32 0, .int .i32 0, .int .i64 0, .int .i32 0, .int .i32 0, .int .i64 0, .int .i32 0, .int .i32 0, .int .i64 0, .int .i32 0, .int .i32 0, .int .i64 0, .int .i32 0, .int .i32 0, .int .i64 0, .int .i32 0, .int .i32 0, .int .i64 0, .int .i32 0, .int .i32 0, .int .i64 0, .int .i32 0, .int .i32 0, .int .i64 0, .int .i32 0, .int .i32 0, .int .i64 0, .int .i32 0, .int .i32 0, .int .i64 0, .int .i32 0, .int .i32 0, .int .i64 0, .int .i32 0, .int .i32 0, .int .i64 0]) := by kernel_rfl
@[go_sem] theorem ty151ar : tarr Try.prog 151 = some (16, 3) := by kernel_rfl
@[go_sem] theorem ty151sa : tsizeA Try.prog 151 = some 48 := by kernel_rfl
@[go_sem] theorem ty151e : telem Try.prog 151 = some 150 := by kernel_rfl
@[go_sem] theorem ty151l : tlen Try.prog 151 = some 16 := by kernel_rfl
@[go_sem] theorem ty152k : tkind Try.prog 152 = some 8 := by kernel_rfl
@[go_sem] theorem ty152s : tsize Try.prog 152 = some 1 := by kernel_rfl
@[go_sem] theorem ty152b : tbytes Try.prog 152 = some 4 := by kernel_rfl
@[go_sem] theorem ty152a : tagg Try.prog 152 = some false := by kernel_rfl
@[go_sem] theorem ty152z : tzero Try.prog 152 = some (.int .u32 0) := by kernel_rfl
@[go_sem] theorem ty152i : tint Try.prog 152 = some .u32 := by kernel_rfl
@[go_sem] theorem ty153k : tkind Try.prog 153 = some 0 := by kernel_rfl
@[go_sem] theorem ty153s : tsize Try.prog 153 = some 1 := by kernel_rfl
@[go_sem] theorem ty153b : tbytes Try.prog 153 = some 0 := by kernel_rfl
@[go_sem] theorem ty153a : tagg Try.prog 153 = some false := by kernel_rfl
@[go_sem] theorem ty153z : tzero Try.prog 153 = some (.tuple #[.int .u32 0, .int .u32 0]) := by kernel_rfl
@[go_sem] theorem ty154k : tkind Try.prog 154 = some 11 := by kernel_rfl
@[go_sem] theorem ty154s : tsize Try.prog 154 = some 1 := by kernel_rfl
@[go_sem] theorem ty154b : tbytes Try.prog 154 = some 8 := by kernel_rfl
@[go_sem] theorem ty154a : tagg Try.prog 154 = some false := by kernel_rfl
@[go_sem] theorem ty154z : tzero Try.prog 154 = some (.nilFunc) := by kernel_rfl
@[go_sem] theorem ty155k : tkind Try.prog 155 = some 8 := by kernel_rfl
@[go_sem] theorem ty155s : tsize Try.prog 155 = some 1 := by kernel_rfl
@[go_sem] theorem ty155b : tbytes Try.prog 155 = some 8 := by kernel_rfl
@[go_sem] theorem ty155a : tagg Try.prog 155 = some false := by kernel_rfl
@[go_sem] theorem ty155z : tzero Try.prog 155 = some (.int .u64 0) := by kernel_rfl
@[go_sem] theorem ty155i : tint Try.prog 155 = some .u64 := by kernel_rfl
@[go_sem] theorem ty156k : tkind Try.prog 156 = some 0 := by kernel_rfl
@[go_sem] theorem ty156s : tsize Try.prog 156 = some 1 := by kernel_rfl
@[go_sem] theorem ty156b : tbytes Try.prog 156 = some 0 := by kernel_rfl
@[go_sem] theorem ty156a : tagg Try.prog 156 = some false := by kernel_rfl
@[go_sem] theorem ty156z : tzero Try.prog 156 = some (.tuple #[.int .u64 0, .int .u64 0]) := by kernel_rfl
@[go_sem] theorem ty157k : tkind Try.prog 157 = some 11 := by kernel_rfl
@[go_sem] theorem ty157s : tsize Try.prog 157 = some 1 := by kernel_rfl
@[go_sem] theorem ty157b : tbytes Try.prog 157 = some 8 := by kernel_rfl
@[go_sem] theorem ty157a : tagg Try.prog 157 = some false := by kernel_rfl
@[go_sem] theorem ty157z : tzero Try.prog 157 = some (.nilFunc) := by kernel_rfl
@[go_sem] theorem ty158k : tkind Try.prog 158 = some 11 := by kernel_rfl
@[go_sem] theorem ty158s : tsize Try.prog 158 = some 1 := by kernel_rfl
@[go_sem] theorem ty158b : tbytes Try.prog 158 = some 8 := by kernel_rfl
@[go_sem] theorem ty158a : tagg Try.prog 158 = some false := by kernel_rfl
@[go_sem] theorem ty158z : tzero Try.prog 158 = some (.nilFunc) := by kernel_rfl
@[go_sem] theorem ty159k : tkind Try.prog 159 = some 8 := by kernel_rfl
@[go_sem] theorem ty159s : tsize Try.prog 159 = some 1 := by kernel_rfl
@[go_sem] theorem ty159b : tbytes Try.prog 159 = some 8 := by kernel_rfl
@[go_sem] theorem ty159a : tagg Try.prog 159 = some false := by kernel_rfl
@[go_sem] theorem ty159z : tzero Try.prog 159 = some (.int .i64 0) := by kernel_rfl
@[go_sem] theorem ty159i : tint Try.prog 159 = some .i64 := by kernel_rfl
@[go_sem] theorem ty160k : tkind Try.prog 160 = some 0 := by kernel_rfl
@[go_sem] theorem ty160s : tsize Try.prog 160 = some 1 := by kernel_rfl
@[go_sem] theorem ty160b : tbytes Try.prog 160 = some 0 := by kernel_rfl
@[go_sem] theorem ty160a : tagg Try.prog 160 = some false := by kernel_rfl
@[go_sem] theorem ty160z : tzero Try.prog 160 = some (.tuple #[.int .i64 0, .int .i64 0]) := by kernel_rfl
@[go_sem] theorem ty161k : tkind Try.prog 161 = some 11 := by kernel_rfl
@[go_sem] theorem ty161s : tsize Try.prog 161 = some 1 := by kernel_rfl
@[go_sem] theorem ty161b : tbytes Try.prog 161 = some 8 := by kernel_rfl
@[go_sem] theorem ty161a : tagg Try.prog 161 = some false := by kernel_rfl
@[go_sem] theorem ty161z : tzero Try.prog 161 = some (.nilFunc) := by kernel_rfl
@[go_sem] theorem ty162k : tkind Try.prog 162 = some 11 := by kernel_rfl
@[go_sem] theorem ty162s : tsize Try.prog 162 = some 1 := by kernel_rfl
@[go_sem] theorem ty162b : tbytes Try.prog 162 = some 8 := by kernel_rfl
@[go_sem] theorem ty162a : tagg Try.prog 162 = some false := by kernel_rfl
@[go_sem] theorem ty162z : tzero Try.prog 162 = some (.nilFunc) := by kernel_rfl
@[go_sem] theorem ty163k : tkind Try.prog 163 = some 0 := by kernel_rfl
@[go_sem] theorem ty163s : tsize Try.prog 163 = some 1 := by kernel_rfl
@[go_sem] theorem ty163b : tbytes Try.prog 163 = some 0 := by kernel_rfl
@[go_sem] theorem ty163a : tagg Try.prog 163 = some false := by kernel_rfl
@[go_sem] theorem ty163z : tzero Try.prog 163 = some (.tuple #[.int .i64 0, .bool false]) := by kernel_rfl
@[go_sem] theorem ty164k : tkind Try.prog 164 = some 11 := by kernel_rfl
@[go_sem] theorem ty164s : tsize Try.prog 164 = some 1 := by kernel_rfl
@[go_sem] theorem ty164b : tbytes Try.prog 164 = some 8 := by kernel_rfl
@[go_sem] theorem ty164a : tagg Try.prog 164 = some false := by kernel_rfl
@[go_sem] theorem ty164z : tzero Try.prog 164 = some (.nilFunc) := by kernel_rfl
@[go_sem] theorem ty165k : tkind Try.prog 165 = some 11 := by kernel_rfl
@[go_sem] theorem ty165s : tsize Try.prog 165 = some 1 := by kernel_rfl
@[go_sem] theorem ty165b : tbytes Try.prog 165 = some 8 := by kernel_rfl
@[go_sem] theorem ty165a : tagg Try.prog 165 = some false := by kernel_rfl
@[go_sem] theorem ty165z : tzero Try.prog 165 = some (.nilFunc) := by kernel_rfl
@[go_sem] theorem ty166k : tkind Try.prog 166 = some 11 := by kernel_rfl
@[go_sem] theorem ty166s : tsize Try.prog 166 = some 1 := by kernel_rfl
@[go_sem] theorem ty166b : tbytes Try.prog 166 = some 8 := by kernel_rfl
@[go_sem] theorem ty166a : tagg Try.prog 166 = some false := by kernel_rfl
@[go_sem] theorem ty166z : tzero Try.prog 166 = some (.nilFunc) := by kernel_rfl
@[go_sem] theorem ty167k : tkind Try.prog 167 = some 8 := by kernel_rfl
@[go_sem] theorem ty167s : tsize Try.prog 167 = some 1 := by kernel_rfl
@[go_sem] theorem ty167b : tbytes Try.prog 167 = some 8 := by kernel_rfl
@[go_sem] theorem ty167a : tagg Try.prog 167 = some false := by kernel_rfl
@[go_sem] theorem ty167z : tzero Try.prog 167 = some (.int .u64 0) := by kernel_rfl
@[go_sem] theorem ty167i : tint Try.prog 167 = some .u64 := by kernel_rfl
@[go_sem] theorem ty168k : tkind Try.prog 168 = some 11 := by kernel_rfl
@[go_sem] theorem ty168s : tsize Try.prog 168 = some 1 := by kernel_rfl
@[go_sem] theorem ty168b : tbytes Try.prog 168 = some 8 := by kernel_rfl
@[go_sem] theorem ty168a : tagg Try.prog 168 = some false := by kernel_rfl
@[go_sem] theorem ty168z : tzero Try.prog 168 = some (.nilFunc) := by kernel_rfl
@[go_sem] theorem ty169k : tkind Try.prog 169 = some 11 := by kernel_rfl
@[go_sem] theorem ty169s : tsize Try.prog 169 = some 1 := by kernel_rfl
@[go_sem] theorem ty169b : tbytes Try.prog 169 = some 8 := by kernel_rfl
@[go_sem] theorem ty169a : tagg Try.prog 169 = some false := by kernel_rfl
@[go_sem] theorem ty169z : tzero Try.prog 169 = some (.nilFunc) := by kernel_rfl
@[go_sem] theorem ty170k : tkind Try.prog 170 = some 11 := by kernel_rfl
@[go_sem] theorem ty170s : tsize Try.prog 170 = some 1 := by kernel_rfl
@[go_sem] theorem ty170b : tbytes Try.prog 170 = some 8 := by kernel_rfl
@[go_sem] theorem ty170a : tagg Try.prog 170 = some false := by kernel_rfl
@[go_sem] theorem ty170z : tzero Try.prog 170 = some (.nilFunc) := by kernel_rfl
@[go_sem] theorem ty171k : tkind Try.prog 171 = some 4 := by kernel_rfl
@[go_sem] theorem ty171s : tsize Try.prog 171 = some 1 := by kernel_rfl
@[go_sem] theorem ty171b : tbytes Try.prog 171 = some 8 := by kernel_rfl
@[go_sem] theorem ty171a : tagg Try.prog 171 = some false := by kernel_rfl
@[go_sem] theorem ty171z : tzero Try.prog 171 = some (.pointer none) := by kernel_rfl
@[go_sem] theorem ty171e : telem Try.prog 171 = some 3 := by kernel_rfl
@[go_sem] theorem ty172k : tkind Try.prog 172 = some 11 := by kernel_rfl
@[go_sem] theorem ty172s : tsize Try.prog 172 = some 1 := by kernel_rfl
@[go_sem] theorem ty172b : tbytes Try.prog 172 = some 8 := by kernel_rfl
@[go_sem] theorem ty172a : tagg Try.prog 172 = some false := by kernel_rfl
@[go_sem] theorem ty172z : tzero Try.prog 172 = some (.nilFunc) := by kernel_rfl
@[go_sem] theorem ty173k : tkind Try.prog 173 = some 4 := by kernel_rfl
@[go_sem] theorem ty173s : tsize Try.prog 173 = some 1 := by kernel_rfl
@[go_sem] theorem ty173b : tbytes Try.prog 173 = some 8 := by kernel_rfl
@[go_sem] theorem ty173a : tagg Try.prog 173 = some false := by kernel_rfl
@[go_sem] theorem ty173z : tzero Try.prog 173 = some (.pointer none) := by kernel_rfl
@[go_sem] theorem ty173e : telem Try.prog 173 = some 167 := by kernel_rfl
@[go_sem] theorem ty174k : tkind Try.prog 174 = some 11 := by kernel_rfl
@[go_sem] theorem ty174s : tsize Try.prog 174 = some 1 := by kernel_rfl
@[go_sem] theorem ty174b : tbytes Try.prog 174 = some 8 := by kernel_rfl
@[go_sem] theorem ty174a : tagg Try.prog 174 = some false := by kernel_rfl
@[go_sem] theorem ty174z : tzero Try.prog 174 = some (.nilFunc) := by kernel_rfl
@[go_sem] theorem ty175k : tkind Try.prog 175 = some 11 := by kernel_rfl
@[go_sem] theorem ty175s : tsize Try.prog 175 = some 1 := by kernel_rfl
@[go_sem] theorem ty175b : tbytes Try.prog 175 = some 8 := by kernel_rfl
@[go_sem] theorem ty175a : tagg Try.prog 175 = some false := by kernel_rfl
@[go_sem] theorem ty175z : tzero Try.prog 175 = some (.nilFunc) := by kernel_rfl
@[go_sem] theorem ty176k : tkind Try.prog 176 = some 7 := by kernel_rfl
@[go_sem] theorem ty176s : tsize Try.prog 176 = some 4 := by kernel_rfl
@[go_sem] theorem ty176b : tbytes Try.prog 176 = some 40 := by kernel_rfl
@[go_sem] theorem ty176a : tagg Try.prog 176 = some true := by kernel_rfl
@[go_sem] theorem ty176z : tzero Try.prog 176 = some (.agg #[.pointer none, .pointer none, .pointer none, .string ⟨#[]⟩]) := by kernel_rfl
@[go_sem] theorem ty176sa : tsizeA Try.prog 176 = some 4 := by kernel_rfl
@[go_sem] theorem ty176f0 : tfield Try.prog 176 0 = some (0, 1) := by kernel_rfl
@[go_sem] theorem ty176o0 : tfo Try.prog 176 0 = some 0 := by kernel_rfl
@[go_sem] theorem ty176f1 : tfield Try.prog 176 1 = some (1, 1) := by kernel_rfl
@[go_sem] theorem ty176o1 : tfo Try.prog 176 1 = some 1 := by kernel_rfl
@[go_sem] theorem ty176f2 : tfield Try.prog 176 2 = some (2, 1) := by kernel_rfl
@[go_sem] theorem ty176o2 : tfo Try.prog 176 2 = some 2 := by kernel_rfl
@[go_sem] theorem ty176f3 : tfield Try.prog 176 3 = some (3, 1) := by kernel_rfl
@[go_sem] theorem ty176o3 : tfo Try.prog 176 3 = some 3 := by kernel_rfl
@[go_sem] theorem ty176fs : tfields Try.prog 176 = some [(0, 1), (1, 1), (2, 1), (3, 1)] := by kernel_rfl
@[go_sem] theorem ty177k : tkind Try.prog 177 = some 7 := by kernel_rfl
@[go_sem] theorem ty177s : tsize Try.prog 177 = some 4 := by kernel_rfl
@[go_sem] theorem ty177b : tbytes Try.prog 177 = some 40 := by kernel_rfl
@[go_sem] theorem ty177a : tagg Try.prog 177 = some true := by kernel_rfl
@[go_sem] theorem ty177z : tzero Try.prog 177 = some (.agg #[.pointer none, .pointer none, .pointer none, .string ⟨#[]⟩]) := by kernel_rfl
@[go_sem] theorem ty177sa : tsizeA Try.prog 177 = some 4 := by kernel_rfl
@[go_sem] theorem ty177f0 : tfield Try.prog 177 0 = some (0, 1) := by kernel_rfl
@[go_sem] theorem ty177o0 : tfo Try.prog 177 0 = some 0 := by kernel_rfl
@[go_sem] theorem ty177f1 : tfield Try.prog 177 1 = some (1, 1) := by kernel_rfl
@[go_sem] theorem ty177o1 : tfo Try.prog 177 1 = some 1 := by kernel_rfl
@[go_sem] theorem ty177f2 : tfield Try.prog 177 2 = some (2, 1) := by kernel_rfl
@[go_sem] theorem ty177o2 : tfo Try.prog 177 2 = some 2 := by kernel_rfl
@[go_sem] theorem ty177f3 : tfield Try.prog 177 3 = some (3, 1) := by kernel_rfl
@[go_sem] theorem ty177o3 : tfo Try.prog 177 3 = some 3 := by kernel_rfl
@[go_sem] theorem ty177fs : tfields Try.prog 177 = some [(0, 1), (1, 1), (2, 1), (3, 1)] := by kernel_rfl
@[go_sem] theorem ty178k : tkind Try.prog 178 = some 2 := by kernel_rfl
@[go_sem] theorem ty178s : tsize Try.prog 178 = some 0 := by kernel_rfl
@[go_sem] theorem ty178b : tbytes Try.prog 178 = some 0 := by kernel_rfl
@[go_sem] theorem ty178a : tagg Try.prog 178 = some true := by kernel_rfl
@[go_sem] theorem ty178z : tzero Try.prog 178 = some (.agg #[]) := by kernel_rfl
@[go_sem] theorem ty178ar : tarr Try.prog 178 = some (0, 1) := by kernel_rfl
@[go_sem] theorem ty178sa : tsizeA Try.prog 178 = some 0 := by kernel_rfl
@[go_sem] theorem ty178e : telem Try.prog 178 = some 16 := by kernel_rfl
@[go_sem] theorem ty178l : tlen Try.prog 178 = some 0 := by kernel_rfl
@[go_sem] theorem ty179k : tkind Try.prog 179 = some 7 := by kernel_rfl
@[go_sem] theorem ty179s : tsize Try.prog 179 = some 0 := by kernel_rfl
@[go_sem] theorem ty179b : tbytes Try.prog 179 = some 0 := by kernel_rfl
@[go_sem] theorem ty179a : tagg Try.prog 179 = some true := by kernel_rfl
@[go_sem] theorem ty179z : tzero Try.prog 179 = some (.agg #[]) := by kernel_rfl
@[go_sem] theorem ty179sa : tsizeA Try.prog 179 = some 0 := by kernel_rfl
@[go_sem] theorem ty179f0 : tfield Try.prog 179 0 = some (0, 0) := by kernel_rfl
@[go_sem] theorem ty179fs : tfields Try.prog 179 = some [(0, 0)] := by kernel_rfl
@[go_sem] theorem ty180k : tkind Try.prog 180 = some 7 := by kernel_rfl
@[go_sem] theorem ty180s : tsize Try.prog 180 = some 0 := by kernel_rfl
@[go_sem] theorem ty180b : tbytes Try.prog 180 = some 0 := by kernel_rfl
@[go_sem] theorem ty180a : tagg Try.prog 180 = some true := by kernel_rfl
@[go_sem] theorem ty180z : tzero Try.prog 180 = some (.agg #[]) := by kernel_rfl
@[go_sem] theorem ty180sa : tsizeA Try.prog 180 = some 0 := by kernel_rfl
@[go_sem] theorem ty180f0 : tfield Try.prog 180 0 = some (0, 0) := by kernel_rfl
@[go_sem] theorem ty180fs : tfields Try.prog 180 = some [(0, 0)] := by kernel_rfl
@[go_sem] theorem ty181k : tkind Try.prog 181 = some 8 := by kernel_rfl
@[go_sem] theorem ty181s : tsize Try.prog 181 = some 1 := by kernel_rfl
@[go_sem] theorem ty181b : tbytes Try.prog 181 = some 1 := by kernel_rfl
@[go_sem] theorem ty181a : tagg Try.prog 181 = some false := by kernel_rfl
@[go_sem] theorem ty181z : tzero Try.prog 181 = some (.int .u8 0) := by kernel_rfl
@[go_sem] theorem ty181i : tint Try.prog 181 = some .u8 := by kernel_rfl
@[go_sem] theorem ty182k : tkind Try.prog 182 = some 8 := by kernel_rfl
@[go_sem] theorem ty182s : tsize Try.prog 182 = some 1 := by kernel_rfl
@[go_sem] theorem ty182b : tbytes Try.prog 182 = some 1 := by kernel_rfl
@[go_sem] theorem ty182a : tagg Try.prog 182 = some false := by kernel_rfl
@[go_sem] theorem ty182z : tzero Try.prog 182 = some (.int .u8 0) := by kernel_rfl
@[go_sem] theorem ty182i : tint Try.prog 182 = some .u8 := by kernel_rfl
@[go_sem] theorem ty183k : tkind Try.prog 183 = some 11 := by kernel_rfl
@[go_sem] theorem ty183s : tsize Try.prog 183 = some 1 := by kernel_rfl
@[go_sem] theorem ty183b : tbytes Try.prog 183 = some 8 := by kernel_rfl
@[go_sem] theorem ty183a : tagg Try.prog 183 = some false := by kernel_rfl
@[go_sem] theorem ty183z : tzero Try.prog 183 = some (.nilFunc) := by kernel_rfl
@[go_sem] theorem ty184k : tkind Try.prog 184 = some 4 := by kernel_rfl
@[go_sem] theorem ty184s : tsize Try.prog 184 = some 1 := by kernel_rfl
@[go_sem] theorem ty184b : tbytes Try.prog 184 = some 8 := by kernel_rfl
@[go_sem] theorem ty184a : tagg Try.prog 184 = some false := by kernel_rfl
@[go_sem] theorem ty184z : tzero Try.prog 184 = some (.pointer none) := by kernel_rfl
@[go_sem] theorem ty184e : telem Try.prog 184 = some 5 := by kernel_rfl
@[go_sem] theorem ty185k : tkind Try.prog 185 = some 8 := by kernel_rfl
@[go_sem] theorem ty185s : tsize Try.prog 185 = some 1 := by kernel_rfl
@[go_sem] theorem ty185b : tbytes Try.prog 185 = some 4 := by kernel_rfl
@[go_sem] theorem ty185a : tagg Try.prog 185 = some false := by kernel_rfl
@[go_sem] theorem ty185z : tzero Try.prog 185 = some (.int .i32 0) := by kernel_rfl
@[go_sem] theorem ty185i : tint Try.prog 185 = some .i32 := by kernel_rfl
@[go_sem] theorem ty186k : tkind Try.prog 186 = some 8 := by kernel_rfl
@[go_sem] theorem ty186s : tsize Try.prog 186 = some 1 := by kernel_rfl
@[go_sem] theorem ty186b : tbytes Try.prog 186 = some 4 := by kernel_rfl
@[go_sem] theorem ty186a : tagg Try.prog 186 = some false := by kernel_rfl
@[go_sem] theorem ty186z : tzero Try.prog 186 = some (.int .i32 0) := by kernel_rfl
@[go_sem] theorem ty186i : tint Try.prog 186 = some .i32 := by kernel_rfl
@[go_sem] theorem ty187k : tkind Try.prog 187 = some 7 := by kernel_rfl
@[go_sem] theorem ty187s : tsize Try.prog 187 = some 11 := by kernel_rfl
@[go_sem] theorem ty187b : tbytes Try.prog 187 = some 48 := by kernel_rfl
@[go_sem] theorem ty187a : tagg Try.prog 187 = some true := by kernel_rfl
@[go_sem] theorem ty187z : tzero Try.prog 187 = some (.agg #[.int .u64 0, .int .u64 0, .int .u32 0, .int .u8 0, .int .u8 0, .int .u8 0, .int .u8 0, .nilFunc, .pointer none, .int .i32 0, .int .i32 0]) := by kernel_rfl
@[go_sem] theorem ty187sa : tsizeA Try.prog 187 = some 11 := by kernel_rfl
@[go_sem] theorem ty187f0 : tfield Try.prog 187 0 = some (0, 1) := by kernel_rfl
@[go_sem] theorem ty187o0 : tfo Try.prog 187 0 = some 0 := by kernel_rfl
@[go_sem] theorem ty187f1 : tfield Try.prog 187 1 = some (1, 1) := by kernel_rfl
@[go_sem] theorem ty187o1 : tfo Try.prog 187 1 = some 1 := by kernel_rfl
@[go_sem] theorem ty187f2 : tfield Try.prog 187 2 = some (2, 1) := by kernel_rfl
@[go_sem] theorem ty187o2 : tfo Try.prog 187 2 = some 2 := by kernel_rfl
@[go_sem] theorem ty187f3 : tfield Try.prog 187 3 = some (3, 1) := by kernel_rfl
@[go_sem] theorem ty187o3 : tfo Try.prog 187 3 = some 3 := by kernel_rfl
@[go_sem] theorem ty187f4 : tfield Try.prog 187 4 = some (4, 1) := by kernel_rfl
@[go_sem] theorem ty187o4 : tfo Try.prog 187 4 = some 4 := by kernel_rfl
@[go_sem] theorem ty187f5 : tfield Try.prog 187 5 = some (5, 1) := by kernel_rfl
@[go_sem] theorem ty187o5 : tfo Try.prog 187 5 = some 5 := by kernel_rfl
@[go_sem] theorem ty187f6 : tfield Try.prog 187 6 = some (6, 1) := by kernel_rfl
@[go_sem] theorem ty187o6 : tfo Try.prog 187 6 = some 6 := by kernel_rfl
@[go_sem] theorem ty187f7 : tfield Try.prog 187 7 = some (7, 1) := by kernel_rfl
@[go_sem] theorem ty187o7 : tfo Try.prog 187 7 = some 7 := by kernel_rfl
@[go_sem] theorem ty187f8 : tfield Try.prog 187 8 = some (8, 1) := by kernel_rfl
@[go_sem] theorem ty187o8 : tfo Try.prog 187 8 = some 8 := by kernel_rfl
@[go_sem] theorem ty187f9 : tfield Try.prog 187 9 = some (9, 1) := by kernel_rfl
@[go_sem] theorem ty187o9 : tfo Try.prog 187 9 = some 9 := by kernel_rfl
@[go_sem] theorem ty187f10 : tfield Try.prog 187 10 = some (10, 1) := by kernel_rfl
@[go_sem] theorem ty187o10 : tfo Try.prog 187 10 = some 10 := by kernel_rfl
@[go_sem] theorem ty187fs : tfields Try.prog 187 = some [(0, 1), (1, 1), (2, 1), (3, 1), (4, 1), (5, 1), (6, 1), (7, 1), (8, 1), (9, 1), (10, 1)] := by kernel_rfl
@[go_sem] theorem ty188k : tkind Try.prog 188 = some 7 := by kernel_rfl
@[go_sem] theorem ty188s : tsize Try.prog 188 = some 11 := by kernel_rfl
@[go_sem] theorem ty188b : tbytes Try.prog 188 = some 48 := by kernel_rfl
@[go_sem] theorem ty188a : tagg Try.prog 188 = some true := by kernel_rfl
@[go_sem] theorem ty188z : tzero Try.prog 188 = some (.agg #[.int .u64 0, .int .u64 0, .int .u32 0, .int .u8 0, .int .u8 0, .int .u8 0, .int .u8 0, .nilFunc, .pointer none, .int .i32 0, .int .i32 0]) := by kernel_rfl
@[go_sem] theorem ty188sa : tsizeA Try.prog 188 = some 11 := by kernel_rfl
@[go_sem] theorem ty188f0 : tfield Try.prog 188 0 = some (0, 1) := by kernel_rfl
@[go_sem] theorem ty188o0 : tfo Try.prog 188 0 = some 0 := by kernel_rfl
@[go_sem] theorem ty188f1 : tfield Try.prog 188 1 = some (1, 1) := by kernel_rfl
@[go_sem] theorem ty188o1 : tfo Try.prog 188 1 = some 1 := by kernel_rfl
@[go_sem] theorem ty188f2 : tfield Try.prog 188 2 = some (2, 1) := by kernel_rfl
@[go_sem] theorem ty188o2 : tfo Try.prog 188 2 = some 2 := by kernel_rfl
@[go_sem] theorem ty188f3 : tfield Try.prog 188 3 = some (3, 1) := by kernel_rfl
@[go_sem] theorem ty188o3 : tfo Try.prog 188 3 = some 3 := by kernel_rfl
@[go_sem] theorem ty188f4 : tfield Try.prog 188 4 = some (4, 1) := by kernel_rfl
@[go_sem] theorem ty188o4 : tfo Try.prog 188 4 = some 4 := by kernel_rfl
@[go_sem] theorem ty188f5 : tfield Try.prog 188 5 = some (5, 1) := by kernel_rfl
@[go_sem] theorem ty188o5 : tfo Try.prog 188 5 = some 5 := by kernel_rfl
@[go_sem] theorem ty188f6 : tfield Try.prog 188 6 = some (6, 1) := by kernel_rfl
@[go_sem] theorem ty188o6 : tfo Try.prog 188 6 = some 6 := by kernel_rfl
@[go_sem] theorem ty188f7 : tfield Try.prog 188 7 = some (7, 1) := by kernel_rfl
@[go_sem] theorem ty188o7 : tfo Try.prog 188 7 = some 7 := by kernel_rfl
@[go_sem] theorem ty188f8 : tfield Try.prog 188 8 = some (8, 1) := by kernel_rfl
@[go_sem] theorem ty188o8 : tfo Try.prog 188 8 = some 8 := by kernel_rfl
@[go_sem] theorem ty188f9 : tfield Try.prog 188 9 = some (9, 1) := by kernel_rfl
@[go_sem] theorem ty188o9 : tfo Try.prog 188 9 = some 9 := by kernel_rfl
@[go_sem] theorem ty188f10 : tfield Try.prog 188 10 = some (10, 1) := by kernel_rfl
@[go_sem] theorem ty188o10 : tfo Try.prog 188 10 = some 10 := by kernel_rfl
@[go_sem] theorem ty188fs : tfields Try.prog 188 = some [(0, 1), (1, 1), (2, 1), (3, 1), (4, 1), (5, 1), (6, 1), (7, 1), (8, 1), (9, 1), (10, 1)] := by kernel_rfl
@[go_sem] theorem ty189k : tkind Try.prog 189 = some 0 := by kernel_rfl
@[go_sem] theorem ty189s : tsize Try.prog 189 = some 1 := by kernel_rfl
@[go_sem] theorem ty189b : tbytes Try.prog 189 = some 8 := by kernel_rfl
@[go_sem] theorem ty189a : tagg Try.prog 189 = some false := by kernel_rfl
@[go_sem] theorem ty189z : tzero Try.prog 189 = some (.pointer none) := by kernel_rfl
end Go.Proofs.Ytdjdeahmhenchaa
