/- What the abstract layer asks of the types. -/
import Derived.Test.YtjpmldfmgogheaaProg
import Derived.Test.YtjpmldfmgogheaaAbP
import Derived.ProofKit
namespace Go.Proofs.Ytjpmldfmgogheaa.Ab
theorem tsz2 : tsz Try.prog 2 = 1 := by kernel_rfl
theorem tud2 : (Try.prog.underlying 2).isSome = true := by kernel_rfl
theorem tun2 : Try.prog.underlying 2 = some (.int .i64) := by kernel_rfl
theorem tin2 : (Try.prog.info? 2).isSome = true := by kernel_rfl
theorem tag2 : tagg Try.prog 2 = false := by kernel_rfl
theorem tsl2 : selem Try.prog 2 = none := by kernel_rfl
theorem tby2 : tby Try.prog 2 = 8 := by kernel_rfl
theorem tze2 : tzero Try.prog 2 = some (.int .i64 0) := by kernel_rfl
theorem tsz3 : tsz Try.prog 3 = 1 := by kernel_rfl
theorem tud3 : (Try.prog.underlying 3).isSome = true := by kernel_rfl
theorem tun3 : Try.prog.underlying 3 = some (.int .i64) := by kernel_rfl
theorem tin3 : (Try.prog.info? 3).isSome = true := by kernel_rfl
theorem tag3 : tagg Try.prog 3 = false := by kernel_rfl
theorem tsl3 : selem Try.prog 3 = none := by kernel_rfl
theorem tby3 : tby Try.prog 3 = 8 := by kernel_rfl
theorem tze3 : tzero Try.prog 3 = some (.int .i64 0) := by kernel_rfl
theorem tsz4 : tsz Try.prog 4 = 1 := by kernel_rfl
theorem tud4 : (Try.prog.underlying 4).isSome = true := by kernel_rfl
theorem tun4 : Try.prog.underlying 4 = some .bool := by kernel_rfl
theorem tin4 : (Try.prog.info? 4).isSome = true := by kernel_rfl
theorem tag4 : tagg Try.prog 4 = false := by kernel_rfl
theorem tsl4 : selem Try.prog 4 = none := by kernel_rfl
theorem tby4 : tby Try.prog 4 = 1 := by kernel_rfl
theorem tze4 : tzero Try.prog 4 = some (.bool false) := by kernel_rfl
theorem tsz5 : tsz Try.prog 5 = 1 := by kernel_rfl
theorem tud5 : (Try.prog.underlying 5).isSome = true := by kernel_rfl
theorem tun5 : Try.prog.underlying 5 = some (.int .u8) := by kernel_rfl
theorem tin5 : (Try.prog.info? 5).isSome = true := by kernel_rfl
theorem tag5 : tagg Try.prog 5 = false := by kernel_rfl
theorem tsl5 : selem Try.prog 5 = none := by kernel_rfl
theorem tby5 : tby Try.prog 5 = 1 := by kernel_rfl
theorem tze5 : tzero Try.prog 5 = some (.int .u8 0) := by kernel_rfl
theorem tsz9 : tsz Try.prog 9 = 1 := by kernel_rfl
theorem tud9 : (Try.prog.underlying 9).isSome = true := by kernel_rfl
theorem tun9 : Try.prog.underlying 9 = some .string := by kernel_rfl
theorem tin9 : (Try.prog.info? 9).isSome = true := by kernel_rfl
theorem tag9 : tagg Try.prog 9 = false := by kernel_rfl
theorem tsl9 : selem Try.prog 9 = none := by kernel_rfl
theorem tby9 : tby Try.prog 9 = 16 := by kernel_rfl
theorem tze9 : tzero Try.prog 9 = some (.string ⟨#[]⟩) := by kernel_rfl
theorem tsz12 : tsz Try.prog 12 = 1 := by kernel_rfl
theorem tud12 : (Try.prog.underlying 12).isSome = true := by kernel_rfl
theorem tun12 : Try.prog.underlying 12 = some (.int .u64) := by kernel_rfl
theorem tin12 : (Try.prog.info? 12).isSome = true := by kernel_rfl
theorem tag12 : tagg Try.prog 12 = false := by kernel_rfl
theorem tsl12 : selem Try.prog 12 = none := by kernel_rfl
theorem tby12 : tby Try.prog 12 = 8 := by kernel_rfl
theorem tze12 : tzero Try.prog 12 = some (.int .u64 0) := by kernel_rfl
theorem tsz20 : tsz Try.prog 20 = 1 := by kernel_rfl
theorem tud20 : (Try.prog.underlying 20).isSome = true := by kernel_rfl
theorem tin20 : (Try.prog.info? 20).isSome = true := by kernel_rfl
theorem tag20 : tagg Try.prog 20 = false := by kernel_rfl
theorem tsl20 : selem Try.prog 20 = none := by kernel_rfl
theorem tby20 : tby Try.prog 20 = 16 := by kernel_rfl
theorem tze20 : tzero Try.prog 20 = some (.nilIface) := by kernel_rfl
theorem tsz21 : tsz Try.prog 21 = 1 := by kernel_rfl
theorem tud21 : (Try.prog.underlying 21).isSome = true := by kernel_rfl
theorem tun21 : Try.prog.underlying 21 = some (.int .i32) := by kernel_rfl
theorem tin21 : (Try.prog.info? 21).isSome = true := by kernel_rfl
theorem tag21 : tagg Try.prog 21 = false := by kernel_rfl
theorem tsl21 : selem Try.prog 21 = none := by kernel_rfl
theorem tby21 : tby Try.prog 21 = 4 := by kernel_rfl
theorem tze21 : tzero Try.prog 21 = some (.int .i32 0) := by kernel_rfl
theorem tsz22 : tsz Try.prog 22 = 1 := by kernel_rfl
theorem tud22 : (Try.prog.underlying 22).isSome = true := by kernel_rfl
theorem tin22 : (Try.prog.info? 22).isSome = true := by kernel_rfl
theorem tag22 : tagg Try.prog 22 = false := by kernel_rfl
theorem tsl22 : selem Try.prog 22 = some 42 := by kernel_rfl
theorem tby22 : tby Try.prog 22 = 24 := by kernel_rfl
theorem tze22 : tzero Try.prog 22 = some (.slice none 0 0) := by kernel_rfl
theorem tsz23 : tsz Try.prog 23 = 1 := by kernel_rfl
theorem tud23 : (Try.prog.underlying 23).isSome = true := by kernel_rfl
theorem tin23 : (Try.prog.info? 23).isSome = true := by kernel_rfl
theorem tag23 : tagg Try.prog 23 = false := by kernel_rfl
theorem tsl23 : selem Try.prog 23 = some 3 := by kernel_rfl
theorem tby23 : tby Try.prog 23 = 24 := by kernel_rfl
theorem tze23 : tzero Try.prog 23 = some (.slice none 0 0) := by kernel_rfl
theorem tsz25 : tsz Try.prog 25 = 1 := by kernel_rfl
theorem tud25 : (Try.prog.underlying 25).isSome = true := by kernel_rfl
theorem tun25 : Try.prog.underlying 25 = some (.int .i64) := by kernel_rfl
theorem tin25 : (Try.prog.info? 25).isSome = true := by kernel_rfl
theorem tag25 : tagg Try.prog 25 = false := by kernel_rfl
theorem tsl25 : selem Try.prog 25 = none := by kernel_rfl
theorem tby25 : tby Try.prog 25 = 8 := by kernel_rfl
theorem tze25 : tzero Try.prog 25 = some (.int .i64 0) := by kernel_rfl
theorem tsz38 : tsz Try.prog 38 = 5 := by kernel_rfl
theorem tud38 : (Try.prog.underlying 38).isSome = true := by kernel_rfl
theorem tin38 : (Try.prog.info? 38).isSome = true := by kernel_rfl
theorem tag38 : tagg Try.prog 38 = true := by kernel_rfl
theorem tsl38 : selem Try.prog 38 = none := by kernel_rfl
theorem tar38 : aelem Try.prog 38 = some (5, 3) := by kernel_rfl
theorem teq38 : eqf Try.prog 38 = some [(0, 0), (0, 1), (0, 2), (0, 3), (0, 4)] := by kernel_rfl
theorem tby38 : tby Try.prog 38 = 40 := by kernel_rfl
theorem tze38 : tzero Try.prog 38 = some (.agg #[.int .i64 0, .int .i64 0, .int .i64 0, .int .i64 0, .int .i64 0]) := by kernel_rfl
theorem tsz41 : tsz Try.prog 41 = 3 := by kernel_rfl
theorem tud41 : (Try.prog.underlying 41).isSome = true := by kernel_rfl
theorem tin41 : (Try.prog.info? 41).isSome = true := by kernel_rfl
theorem tag41 : tagg Try.prog 41 = true := by kernel_rfl
theorem tsl41 : selem Try.prog 41 = none := by kernel_rfl
theorem teq41 : eqf Try.prog 41 = some [(0, 0), (0, 1), (2, 2)] := by kernel_rfl
theorem tby41 : tby Try.prog 41 = 32 := by kernel_rfl
theorem tfo41_0 : foff Try.prog 41 0 = some 0 := by kernel_rfl
theorem tft41_0 : ftype Try.prog 41 0 = some (3, 0) := by kernel_rfl
theorem tfo41_1 : foff Try.prog 41 1 = some 1 := by kernel_rfl
theorem tft41_1 : ftype Try.prog 41 1 = some (3, 1) := by kernel_rfl
theorem tfo41_2 : foff Try.prog 41 2 = some 2 := by kernel_rfl
theorem tft41_2 : ftype Try.prog 41 2 = some (9, 2) := by kernel_rfl
theorem tpl41 : splaces Try.prog 41 = some [(0, 1), (1, 1), (2, 1)] := by kernel_rfl
theorem tze41 : tzero Try.prog 41 = some (.agg #[.int .i64 0, .int .i64 0, .string ⟨#[]⟩]) := by kernel_rfl
theorem tsz42 : tsz Try.prog 42 = 3 := by kernel_rfl
theorem tud42 : (Try.prog.underlying 42).isSome = true := by kernel_rfl
theorem tin42 : (Try.prog.info? 42).isSome = true := by kernel_rfl
theorem tag42 : tagg Try.prog 42 = true := by kernel_rfl
theorem tsl42 : selem Try.prog 42 = none := by kernel_rfl
theorem teq42 : eqf Try.prog 42 = some [(0, 0), (0, 1), (2, 2)] := by kernel_rfl
theorem tby42 : tby Try.prog 42 = 32 := by kernel_rfl
theorem tfo42_0 : foff Try.prog 42 0 = some 0 := by kernel_rfl
theorem tft42_0 : ftype Try.prog 42 0 = some (3, 0) := by kernel_rfl
theorem tfo42_1 : foff Try.prog 42 1 = some 1 := by kernel_rfl
theorem tft42_1 : ftype Try.prog 42 1 = some (3, 1) := by kernel_rfl
theorem tfo42_2 : foff Try.prog 42 2 = some 2 := by kernel_rfl
theorem tft42_2 : ftype Try.prog 42 2 = some (9, 2) := by kernel_rfl
theorem tpl42 : splaces Try.prog 42 = some [(0, 1), (1, 1), (2, 1)] := by kernel_rfl
theorem tze42 : tzero Try.prog 42 = some (.agg #[.int .i64 0, .int .i64 0, .string ⟨#[]⟩]) := by kernel_rfl
theorem tsz54 : tsz Try.prog 54 = 1 := by kernel_rfl
theorem tud54 : (Try.prog.underlying 54).isSome = true := by kernel_rfl
theorem tin54 : (Try.prog.info? 54).isSome = true := by kernel_rfl
theorem tag54 : tagg Try.prog 54 = false := by kernel_rfl
theorem tsl54 : selem Try.prog 54 = some 4 := by kernel_rfl
theorem tby54 : tby Try.prog 54 = 24 := by kernel_rfl
theorem tze54 : tzero Try.prog 54 = some (.slice none 0 0) := by kernel_rfl
theorem tsz56 : tsz Try.prog 56 = 1 := by kernel_rfl
theorem tud56 : (Try.prog.underlying 56).isSome = true := by kernel_rfl
theorem tun56 : Try.prog.underlying 56 = some (.int .u64) := by kernel_rfl
theorem tin56 : (Try.prog.info? 56).isSome = true := by kernel_rfl
theorem tag56 : tagg Try.prog 56 = false := by kernel_rfl
theorem tsl56 : selem Try.prog 56 = none := by kernel_rfl
theorem tby56 : tby Try.prog 56 = 8 := by kernel_rfl
theorem tze56 : tzero Try.prog 56 = some (.int .u64 0) := by kernel_rfl
theorem tsz57 : tsz Try.prog 57 = 4 := by kernel_rfl
theorem tud57 : (Try.prog.underlying 57).isSome = true := by kernel_rfl
theorem tin57 : (Try.prog.info? 57).isSome = true := by kernel_rfl
theorem tag57 : tagg Try.prog 57 = true := by kernel_rfl
theorem tsl57 : selem Try.prog 57 = none := by kernel_rfl
theorem tar57 : aelem Try.prog 57 = some (4, 56) := by kernel_rfl
theorem teq57 : eqf Try.prog 57 = some [(0, 0), (0, 1), (0, 2), (0, 3)] := by kernel_rfl
theorem tby57 : tby Try.prog 57 = 32 := by kernel_rfl
theorem tze57 : tzero Try.prog 57 = some (.agg #[.int .u64 0, .int .u64 0, .int .u64 0, .int .u64 0]) := by kernel_rfl
theorem tsz58 : tsz Try.prog 58 = 4 := by kernel_rfl
theorem tud58 : (Try.prog.underlying 58).isSome = true := by kernel_rfl
theorem tin58 : (Try.prog.info? 58).isSome = true := by kernel_rfl
theorem tag58 : tagg Try.prog 58 = true := by kernel_rfl
theorem tsl58 : selem Try.prog 58 = none := by kernel_rfl
theorem tar58 : aelem Try.prog 58 = some (4, 56) := by kernel_rfl
theorem teq58 : eqf Try.prog 58 = some [(0, 0), (0, 1), (0, 2), (0, 3)] := by kernel_rfl
theorem tby58 : tby Try.prog 58 = 32 := by kernel_rfl
theorem tze58 : tzero Try.prog 58 = some (.agg #[.int .u64 0, .int .u64 0, .int .u64 0, .int .u64 0]) := by kernel_rfl
theorem tsz72 : tsz Try.prog 72 = 1 := by kernel_rfl
theorem tud72 : (Try.prog.underlying 72).isSome = true := by kernel_rfl
theorem tun72 : Try.prog.underlying 72 = some (.int .u64) := by kernel_rfl
theorem tin72 : (Try.prog.info? 72).isSome = true := by kernel_rfl
theorem tag72 : tagg Try.prog 72 = false := by kernel_rfl
theorem tsl72 : selem Try.prog 72 = none := by kernel_rfl
theorem tby72 : tby Try.prog 72 = 8 := by kernel_rfl
theorem tze72 : tzero Try.prog 72 = some (.int .u64 0) := by kernel_rfl
theorem tsz81 : tsz Try.prog 81 = 1 := by kernel_rfl
theorem tud81 : (Try.prog.underlying 81).isSome = true := by kernel_rfl
theorem tun81 : Try.prog.underlying 81 = some (.int .u32) := by kernel_rfl
theorem tin81 : (Try.prog.info? 81).isSome = true := by kernel_rfl
theorem tag81 : tagg Try.prog 81 = false := by kernel_rfl
theorem tsl81 : selem Try.prog 81 = none := by kernel_rfl
theorem tby81 : tby Try.prog 81 = 4 := by kernel_rfl
theorem tze81 : tzero Try.prog 81 = some (.int .u32 0) := by kernel_rfl
theorem tsz85 : tsz Try.prog 85 = 1 := by kernel_rfl
theorem tud85 : (Try.prog.underlying 85).isSome = true := by kernel_rfl
theorem tin85 : (Try.prog.info? 85).isSome = true := by kernel_rfl
theorem tag85 : tagg Try.prog 85 = false := by kernel_rfl
theorem tsl85 : selem Try.prog 85 = none := by kernel_rfl
theorem tby85 : tby Try.prog 85 = 8 := by kernel_rfl
theorem tze85 : tzero Try.prog 85 = some (.pointer none) := by kernel_rfl
theorem tsz91 : tsz Try.prog 91 = 1 := by kernel_rfl
theorem tud91 : (Try.prog.underlying 91).isSome = true := by kernel_rfl
theorem tin91 : (Try.prog.info? 91).isSome = true := by kernel_rfl
theorem tag91 : tagg Try.prog 91 = false := by kernel_rfl
theorem tsl91 : selem Try.prog 91 = none := by kernel_rfl
theorem tby91 : tby Try.prog 91 = 8 := by kernel_rfl
theorem tze91 : tzero Try.prog 91 = some (.pointer none) := by kernel_rfl
attribute [go_sem] tsz2 tud2 tun2 tin2 tag2 tsl2 tby2 tze2 tsz3 tud3 tun3 tin3 tag3 tsl3 tby3 tze3 tsz4 tud4 tun4 tin4 tag4 tsl4 tby4 tze4 tsz5 tud5 tun5 tin5 tag5 tsl5 tby5 tze5 tsz9 tud9 tun9 tin9 tag9 tsl9 tby9 tze9 tsz12 tud12 tun12 tin12 tag12 tsl12 tby12 tze12 tsz20 tud20 tin20 tag20 tsl20 tby20 tze20 tsz21 tud21 tun21 tin21 tag21 tsl21 tby21 tze21 tsz22 tud22 tin22 tag22 tsl22 tby22 tze22 tsz23 tud23 tin23 tag23 tsl23 tby23 tze23 tsz25 tud25 tun25 tin25 tag25 tsl25 tby25 tze25 tsz38 tud38 tin38 tag38 tsl38 tar38 teq38 tby38 tze38 tsz41 tud41 tin41 tag41 tsl41 teq41 tby41 tfo41_0 tft41_0 tfo41_1 tft41_1 tfo41_2 tft41_2 tpl41 tze41 tsz42 tud42 tin42 tag42 tsl42 teq42 tby42 tfo42_0 tft42_0 tfo42_1 tft42_1 tfo42_2 tft42_2 tpl42 tze42 tsz54 tud54 tin54 tag54 tsl54 tby54 tze54 tsz56 tud56 tun56 tin56 tag56 tsl56 tby56 tze56 tsz57 tud57 tin57 tag57 tsl57 tar57 teq57 tby57 tze57 tsz58 tud58 tin58 tag58 tsl58 tar58 teq58 tby58 tze58 tsz72 tud72 tun72 tin72 tag72 tsl72 tby72 tze72 tsz81 tud81 tun81 tin81 tag81 tsl81 tby81 tze81 tsz85 tud85 tin85 tag85 tsl85 tby85 tze85 tsz91 tud91 tin91 tag91 tsl91 tby91 tze91
end Go.Proofs.Ytjpmldfmgogheaa.Ab
