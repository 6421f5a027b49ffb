/- What the abstract layer asks of the types. -/
import Derived.Test.YtnkcenafpigmbaaProg
import Derived.Test.YtnkcenafpigmbaaAb3
import Derived.ProofKit
namespace Go.Proofs.Ytnkcenafpigmbaa.Ab
theorem tsz2 : tsz Try.prog 2 = 1 := by kernel_rfl
theorem tud2 : (Try.prog.underlying 2).isSome = true := by kernel_rfl
theorem tun2 : Try.prog.underlying 2 = some (.int .i64) := by kernel_rfl
theorem tin2 : (Try.prog.info? 2).isSome = true := by kernel_rfl
theorem tag2 : tagg Try.prog 2 = false := by kernel_rfl
theorem tsl2 : selem Try.prog 2 = none := by kernel_rfl
theorem tby2 : tby Try.prog 2 = 8 := by kernel_rfl
theorem tze2 : tzero Try.prog 2 = some (.int .i64 0) := by kernel_rfl
theorem tsz3 : tsz Try.prog 3 = 1 := by kernel_rfl
theorem tud3 : (Try.prog.underlying 3).isSome = true := by kernel_rfl
theorem tun3 : Try.prog.underlying 3 = some (.int .i64) := by kernel_rfl
theorem tin3 : (Try.prog.info? 3).isSome = true := by kernel_rfl
theorem tag3 : tagg Try.prog 3 = false := by kernel_rfl
theorem tsl3 : selem Try.prog 3 = none := by kernel_rfl
theorem tby3 : tby Try.prog 3 = 8 := by kernel_rfl
theorem tze3 : tzero Try.prog 3 = some (.int .i64 0) := by kernel_rfl
theorem tsz4 : tsz Try.prog 4 = 1 := by kernel_rfl
theorem tud4 : (Try.prog.underlying 4).isSome = true := by kernel_rfl
theorem tun4 : Try.prog.underlying 4 = some .bool := by kernel_rfl
theorem tin4 : (Try.prog.info? 4).isSome = true := by kernel_rfl
theorem tag4 : tagg Try.prog 4 = false := by kernel_rfl
theorem tsl4 : selem Try.prog 4 = none := by kernel_rfl
theorem tby4 : tby Try.prog 4 = 1 := by kernel_rfl
theorem tze4 : tzero Try.prog 4 = some (.bool false) := by kernel_rfl
theorem tsz5 : tsz Try.prog 5 = 1 := by kernel_rfl
theorem tud5 : (Try.prog.underlying 5).isSome = true := by kernel_rfl
theorem tun5 : Try.prog.underlying 5 = some (.int .u8) := by kernel_rfl
theorem tin5 : (Try.prog.info? 5).isSome = true := by kernel_rfl
theorem tag5 : tagg Try.prog 5 = false := by kernel_rfl
theorem tsl5 : selem Try.prog 5 = none := by kernel_rfl
theorem tby5 : tby Try.prog 5 = 1 := by kernel_rfl
theorem tze5 : tzero Try.prog 5 = some (.int .u8 0) := by kernel_rfl
theorem tsz9 : tsz Try.prog 9 = 1 := by kernel_rfl
theorem tud9 : (Try.prog.underlying 9).isSome = true := by kernel_rfl
theorem tun9 : Try.prog.underlying 9 = some .string := by kernel_rfl
theorem tin9 : (Try.prog.info? 9).isSome = true := by kernel_rfl
theorem tag9 : tagg Try.prog 9 = false := by kernel_rfl
theorem tsl9 : selem Try.prog 9 = none := by kernel_rfl
theorem tby9 : tby Try.prog 9 = 16 := by kernel_rfl
theorem tze9 : tzero Try.prog 9 = some (.string ⟨#[]⟩) := by kernel_rfl
theorem tsz12 : tsz Try.prog 12 = 1 := by kernel_rfl
theorem tud12 : (Try.prog.underlying 12).isSome = true := by kernel_rfl
theorem tun12 : Try.prog.underlying 12 = some (.int .u64) := by kernel_rfl
theorem tin12 : (Try.prog.info? 12).isSome = true := by kernel_rfl
theorem tag12 : tagg Try.prog 12 = false := by kernel_rfl
theorem tsl12 : selem Try.prog 12 = none := by kernel_rfl
theorem tby12 : tby Try.prog 12 = 8 := by kernel_rfl
theorem tze12 : tzero Try.prog 12 = some (.int .u64 0) := by kernel_rfl
theorem tsz20 : tsz Try.prog 20 = 1 := by kernel_rfl
theorem tud20 : (Try.prog.underlying 20).isSome = true := by kernel_rfl
theorem tin20 : (Try.prog.info? 20).isSome = true := by kernel_rfl
theorem tag20 : tagg Try.prog 20 = false := by kernel_rfl
theorem tsl20 : selem Try.prog 20 = none := by kernel_rfl
theorem tby20 : tby Try.prog 20 = 16 := by kernel_rfl
theorem tze20 : tzero Try.prog 20 = some (.nilIface) := by kernel_rfl
theorem tsz21 : tsz Try.prog 21 = 1 := by kernel_rfl
theorem tud21 : (Try.prog.underlying 21).isSome = true := by kernel_rfl
theorem tun21 : Try.prog.underlying 21 = some (.int .i32) := by kernel_rfl
theorem tin21 : (Try.prog.info? 21).isSome = true := by kernel_rfl
theorem tag21 : tagg Try.prog 21 = false := by kernel_rfl
theorem tsl21 : selem Try.prog 21 = none := by kernel_rfl
theorem tby21 : tby Try.prog 21 = 4 := by kernel_rfl
theorem tze21 : tzero Try.prog 21 = some (.int .i32 0) := by kernel_rfl
theorem tsz22 : tsz Try.prog 22 = 1 := by kernel_rfl
theorem tud22 : (Try.prog.underlying 22).isSome = true := by kernel_rfl
theorem tin22 : (Try.prog.info? 22).isSome = true := by kernel_rfl
theorem tag22 : tagg Try.prog 22 = false := by kernel_rfl
theorem tsl22 : selem Try.prog 22 = some 30 := by kernel_rfl
theorem tby22 : tby Try.prog 22 = 24 := by kernel_rfl
theorem tze22 : tzero Try.prog 22 = some (.slice none 0 0) := by kernel_rfl
theorem tsz25 : tsz Try.prog 25 = 7 := by kernel_rfl
theorem tud25 : (Try.prog.underlying 25).isSome = true := by kernel_rfl
theorem tin25 : (Try.prog.info? 25).isSome = true := by kernel_rfl
theorem tag25 : tagg Try.prog 25 = true := by kernel_rfl
theorem tsl25 : selem Try.prog 25 = none := by kernel_rfl
theorem tpl25 : splaces Try.prog 25 = none := by kernel_rfl
theorem tar25 : aelem Try.prog 25 = some (7, 3) := by kernel_rfl
theorem teq25 : eqf Try.prog 25 = some [(0, 0), (0, 1), (0, 2), (0, 3), (0, 4), (0, 5), (0, 6)] := by kernel_rfl
theorem tby25 : tby Try.prog 25 = 56 := by kernel_rfl
theorem tze25 : tzero Try.prog 25 = some (.agg #[.int .i64 0, .int .i64 0, .int .i64 0, .int .i64 0, .int .i64 0, .int .i64 0, .int .i64 0]) := by kernel_rfl
theorem tsz26 : tsz Try.prog 26 = 7 := by kernel_rfl
theorem tud26 : (Try.prog.underlying 26).isSome = true := by kernel_rfl
theorem tin26 : (Try.prog.info? 26).isSome = true := by kernel_rfl
theorem tag26 : tagg Try.prog 26 = true := by kernel_rfl
theorem tsl26 : selem Try.prog 26 = none := by kernel_rfl
theorem teq26 : eqf Try.prog 26 = some [(0, 0), (0, 1), (0, 2), (2, 3), (1, 4), (0, 5), (0, 6)] := by kernel_rfl
theorem tby26 : tby Try.prog 26 = 64 := by kernel_rfl
theorem tfo26_0 : foff Try.prog 26 0 = some 0 := by kernel_rfl
theorem tft26_0 : ftype Try.prog 26 0 = some (3, 0) := by kernel_rfl
theorem tfo26_1 : foff Try.prog 26 1 = some 1 := by kernel_rfl
theorem tft26_1 : ftype Try.prog 26 1 = some (3, 1) := by kernel_rfl
theorem tfo26_2 : foff Try.prog 26 2 = some 2 := by kernel_rfl
theorem tft26_2 : ftype Try.prog 26 2 = some (3, 2) := by kernel_rfl
theorem tfo26_3 : foff Try.prog 26 3 = some 3 := by kernel_rfl
theorem tft26_3 : ftype Try.prog 26 3 = some (9, 3) := by kernel_rfl
theorem tfo26_4 : foff Try.prog 26 4 = some 4 := by kernel_rfl
theorem tft26_4 : ftype Try.prog 26 4 = some (4, 4) := by kernel_rfl
theorem tfo26_5 : foff Try.prog 26 5 = some 5 := by kernel_rfl
theorem tft26_5 : ftype Try.prog 26 5 = some (2, 5) := by kernel_rfl
theorem tfo26_6 : foff Try.prog 26 6 = some 6 := by kernel_rfl
theorem tft26_6 : ftype Try.prog 26 6 = some (3, 6) := by kernel_rfl
theorem tpl26 : splaces Try.prog 26 = some [(0, 1), (1, 1), (2, 1), (3, 1), (4, 1), (5, 1), (6, 1)] := by kernel_rfl
theorem tze26 : tzero Try.prog 26 = some (.agg #[.int .i64 0, .int .i64 0, .int .i64 0, .string ⟨#[]⟩, .bool false, .int .i64 0, .int .i64 0]) := by kernel_rfl
theorem tsz27 : tsz Try.prog 27 = 7 := by kernel_rfl
theorem tud27 : (Try.prog.underlying 27).isSome = true := by kernel_rfl
theorem tin27 : (Try.prog.info? 27).isSome = true := by kernel_rfl
theorem tag27 : tagg Try.prog 27 = true := by kernel_rfl
theorem tsl27 : selem Try.prog 27 = none := by kernel_rfl
theorem teq27 : eqf Try.prog 27 = some [(0, 0), (0, 1), (0, 2), (2, 3), (1, 4), (0, 5), (0, 6)] := by kernel_rfl
theorem tby27 : tby Try.prog 27 = 64 := by kernel_rfl
theorem tfo27_0 : foff Try.prog 27 0 = some 0 := by kernel_rfl
theorem tft27_0 : ftype Try.prog 27 0 = some (3, 0) := by kernel_rfl
theorem tfo27_1 : foff Try.prog 27 1 = some 1 := by kernel_rfl
theorem tft27_1 : ftype Try.prog 27 1 = some (3, 1) := by kernel_rfl
theorem tfo27_2 : foff Try.prog 27 2 = some 2 := by kernel_rfl
theorem tft27_2 : ftype Try.prog 27 2 = some (3, 2) := by kernel_rfl
theorem tfo27_3 : foff Try.prog 27 3 = some 3 := by kernel_rfl
theorem tft27_3 : ftype Try.prog 27 3 = some (9, 3) := by kernel_rfl
theorem tfo27_4 : foff Try.prog 27 4 = some 4 := by kernel_rfl
theorem tft27_4 : ftype Try.prog 27 4 = some (4, 4) := by kernel_rfl
theorem tfo27_5 : foff Try.prog 27 5 = some 5 := by kernel_rfl
theorem tft27_5 : ftype Try.prog 27 5 = some (2, 5) := by kernel_rfl
theorem tfo27_6 : foff Try.prog 27 6 = some 6 := by kernel_rfl
theorem tft27_6 : ftype Try.prog 27 6 = some (3, 6) := by kernel_rfl
theorem tpl27 : splaces Try.prog 27 = some [(0, 1), (1, 1), (2, 1), (3, 1), (4, 1), (5, 1), (6, 1)] := by kernel_rfl
theorem tze27 : tzero Try.prog 27 = some (.agg #[.int .i64 0, .int .i64 0, .int .i64 0, .string ⟨#[]⟩, .bool false, .int .i64 0, .int .i64 0]) := by kernel_rfl
theorem tsz28 : tsz Try.prog 28 = 1 := by kernel_rfl
theorem tud28 : (Try.prog.underlying 28).isSome = true := by kernel_rfl
theorem tin28 : (Try.prog.info? 28).isSome = true := by kernel_rfl
theorem tag28 : tagg Try.prog 28 = false := by kernel_rfl
theorem tsl28 : selem Try.prog 28 = some 3 := by kernel_rfl
theorem tby28 : tby Try.prog 28 = 24 := by kernel_rfl
theorem tze28 : tzero Try.prog 28 = some (.slice none 0 0) := by kernel_rfl
theorem tsz29 : tsz Try.prog 29 = 13 := by kernel_rfl
theorem tud29 : (Try.prog.underlying 29).isSome = true := by kernel_rfl
theorem tin29 : (Try.prog.info? 29).isSome = true := by kernel_rfl
theorem tag29 : tagg Try.prog 29 = true := by kernel_rfl
theorem tsl29 : selem Try.prog 29 = none := by kernel_rfl
theorem tby29 : tby Try.prog 29 = 128 := by kernel_rfl
theorem tfo29_0 : foff Try.prog 29 0 = some 0 := by kernel_rfl
theorem tft29_0 : ftype Try.prog 29 0 = some (3, 0) := by kernel_rfl
theorem tfo29_1 : foff Try.prog 29 1 = some 1 := by kernel_rfl
theorem tft29_1 : ftype Try.prog 29 1 = some (27, 1) := by kernel_rfl
theorem tfo29_2 : foff Try.prog 29 2 = some 8 := by kernel_rfl
theorem tft29_2 : ftype Try.prog 29 2 = some (28, 8) := by kernel_rfl
theorem tfo29_3 : foff Try.prog 29 3 = some 9 := by kernel_rfl
theorem tft29_3 : ftype Try.prog 29 3 = some (3, 9) := by kernel_rfl
theorem tfo29_4 : foff Try.prog 29 4 = some 10 := by kernel_rfl
theorem tft29_4 : ftype Try.prog 29 4 = some (2, 10) := by kernel_rfl
theorem tfo29_5 : foff Try.prog 29 5 = some 11 := by kernel_rfl
theorem tft29_5 : ftype Try.prog 29 5 = some (2, 11) := by kernel_rfl
theorem tfo29_6 : foff Try.prog 29 6 = some 12 := by kernel_rfl
theorem tft29_6 : ftype Try.prog 29 6 = some (2, 12) := by kernel_rfl
theorem tpl29 : splaces Try.prog 29 = some [(0, 1), (1, 7), (8, 1), (9, 1), (10, 1), (11, 1), (12, 1)] := by kernel_rfl
theorem tze29 : tzero Try.prog 29 = some (.agg #[.int .i64 0, .int .i64 0, .int .i64 0, .int .i64 0, .string ⟨#[]⟩, .bool false, .int .i64 0, .int .i64 0, .slice none 0 0, .int .i64 0, .int .i64 0, .int .i64 0, .int .i64 0]) := by kernel_rfl
theorem tsz30 : tsz Try.prog 30 = 13 := by kernel_rfl
theorem tud30 : (Try.prog.underlying 30).isSome = true := by kernel_rfl
theorem tin30 : (Try.prog.info? 30).isSome = true := by kernel_rfl
theorem tag30 : tagg Try.prog 30 = true := by kernel_rfl
theorem tsl30 : selem Try.prog 30 = none := by kernel_rfl
theorem tby30 : tby Try.prog 30 = 128 := by kernel_rfl
theorem tfo30_0 : foff Try.prog 30 0 = some 0 := by kernel_rfl
theorem tft30_0 : ftype Try.prog 30 0 = some (3, 0) := by kernel_rfl
theorem tfo30_1 : foff Try.prog 30 1 = some 1 := by kernel_rfl
theorem tft30_1 : ftype Try.prog 30 1 = some (27, 1) := by kernel_rfl
theorem tfo30_2 : foff Try.prog 30 2 = some 8 := by kernel_rfl
theorem tft30_2 : ftype Try.prog 30 2 = some (28, 8) := by kernel_rfl
theorem tfo30_3 : foff Try.prog 30 3 = some 9 := by kernel_rfl
theorem tft30_3 : ftype Try.prog 30 3 = some (3, 9) := by kernel_rfl
theorem tfo30_4 : foff Try.prog 30 4 = some 10 := by kernel_rfl
theorem tft30_4 : ftype Try.prog 30 4 = some (2, 10) := by kernel_rfl
theorem tfo30_5 : foff Try.prog 30 5 = some 11 := by kernel_rfl
theorem tft30_5 : ftype Try.prog 30 5 = some (2, 11) := by kernel_rfl
theorem tfo30_6 : foff Try.prog 30 6 = some 12 := by kernel_rfl
theorem tft30_6 : ftype Try.prog 30 6 = some (2, 12) := by kernel_rfl
theorem tpl30 : splaces Try.prog 30 = some [(0, 1), (1, 7), (8, 1), (9, 1), (10, 1), (11, 1), (12, 1)] := by kernel_rfl
theorem tze30 : tzero Try.prog 30 = some (.agg #[.int .i64 0, .int .i64 0, .int .i64 0, .int .i64 0, .string ⟨#[]⟩, .bool false, .int .i64 0, .int .i64 0, .slice none 0 0, .int .i64 0, .int .i64 0, .int .i64 0, .int .i64 0]) := by kernel_rfl
theorem tsz36 : tsz Try.prog 36 = 1 := by kernel_rfl
theorem tud36 : (Try.prog.underlying 36).isSome = true := by kernel_rfl
theorem tin36 : (Try.prog.info? 36).isSome = true := by kernel_rfl
theorem tag36 : tagg Try.prog 36 = false := by kernel_rfl
theorem tsl36 : selem Try.prog 36 = some 38 := by kernel_rfl
theorem tby36 : tby Try.prog 36 = 24 := by kernel_rfl
theorem tze36 : tzero Try.prog 36 = some (.slice none 0 0) := by kernel_rfl
theorem tsz37 : tsz Try.prog 37 = 11 := by kernel_rfl
theorem tud37 : (Try.prog.underlying 37).isSome = true := by kernel_rfl
theorem tin37 : (Try.prog.info? 37).isSome = true := by kernel_rfl
theorem tag37 : tagg Try.prog 37 = true := by kernel_rfl
theorem tsl37 : selem Try.prog 37 = none := by kernel_rfl
theorem tby37 : tby Try.prog 37 = 88 := by kernel_rfl
theorem tfo37_0 : foff Try.prog 37 0 = some 0 := by kernel_rfl
theorem tft37_0 : ftype Try.prog 37 0 = some (3, 0) := by kernel_rfl
theorem tfo37_1 : foff Try.prog 37 1 = some 1 := by kernel_rfl
theorem tft37_1 : ftype Try.prog 37 1 = some (5, 1) := by kernel_rfl
theorem tfo37_2 : foff Try.prog 37 2 = some 2 := by kernel_rfl
theorem tft37_2 : ftype Try.prog 37 2 = some (27, 2) := by kernel_rfl
theorem tfo37_3 : foff Try.prog 37 3 = some 9 := by kernel_rfl
theorem tft37_3 : ftype Try.prog 37 3 = some (5, 9) := by kernel_rfl
theorem tfo37_4 : foff Try.prog 37 4 = some 10 := by kernel_rfl
theorem tft37_4 : ftype Try.prog 37 4 = some (5, 10) := by kernel_rfl
theorem tpl37 : splaces Try.prog 37 = some [(0, 1), (1, 1), (2, 7), (9, 1), (10, 1)] := by kernel_rfl
theorem tze37 : tzero Try.prog 37 = some (.agg #[.int .i64 0, .int .u8 0, .int .i64 0, .int .i64 0, .int .i64 0, .string ⟨#[]⟩, .bool false, .int .i64 0, .int .i64 0, .int .u8 0, .int .u8 0]) := by kernel_rfl
theorem tsz38 : tsz Try.prog 38 = 11 := by kernel_rfl
theorem tud38 : (Try.prog.underlying 38).isSome = true := by kernel_rfl
theorem tin38 : (Try.prog.info? 38).isSome = true := by kernel_rfl
theorem tag38 : tagg Try.prog 38 = true := by kernel_rfl
theorem tsl38 : selem Try.prog 38 = none := by kernel_rfl
theorem tby38 : tby Try.prog 38 = 88 := by kernel_rfl
theorem tfo38_0 : foff Try.prog 38 0 = some 0 := by kernel_rfl
theorem tft38_0 : ftype Try.prog 38 0 = some (3, 0) := by kernel_rfl
theorem tfo38_1 : foff Try.prog 38 1 = some 1 := by kernel_rfl
theorem tft38_1 : ftype Try.prog 38 1 = some (5, 1) := by kernel_rfl
theorem tfo38_2 : foff Try.prog 38 2 = some 2 := by kernel_rfl
theorem tft38_2 : ftype Try.prog 38 2 = some (27, 2) := by kernel_rfl
theorem tfo38_3 : foff Try.prog 38 3 = some 9 := by kernel_rfl
theorem tft38_3 : ftype Try.prog 38 3 = some (5, 9) := by kernel_rfl
theorem tfo38_4 : foff Try.prog 38 4 = some 10 := by kernel_rfl
theorem tft38_4 : ftype Try.prog 38 4 = some (5, 10) := by kernel_rfl
theorem tpl38 : splaces Try.prog 38 = some [(0, 1), (1, 1), (2, 7), (9, 1), (10, 1)] := by kernel_rfl
theorem tze38 : tzero Try.prog 38 = some (.agg #[.int .i64 0, .int .u8 0, .int .i64 0, .int .i64 0, .int .i64 0, .string ⟨#[]⟩, .bool false, .int .i64 0, .int .i64 0, .int .u8 0, .int .u8 0]) := by kernel_rfl
theorem tsz39 : tsz Try.prog 39 = 1 := by kernel_rfl
theorem tud39 : (Try.prog.underlying 39).isSome = true := by kernel_rfl
theorem tun39 : Try.prog.underlying 39 = some (.int .i64) := by kernel_rfl
theorem tin39 : (Try.prog.info? 39).isSome = true := by kernel_rfl
theorem tag39 : tagg Try.prog 39 = false := by kernel_rfl
theorem tsl39 : selem Try.prog 39 = none := by kernel_rfl
theorem tby39 : tby Try.prog 39 = 8 := by kernel_rfl
theorem tze39 : tzero Try.prog 39 = some (.int .i64 0) := by kernel_rfl
theorem tsz49 : tsz Try.prog 49 = 1 := by kernel_rfl
theorem tud49 : (Try.prog.underlying 49).isSome = true := by kernel_rfl
theorem tin49 : (Try.prog.info? 49).isSome = true := by kernel_rfl
theorem tag49 : tagg Try.prog 49 = false := by kernel_rfl
theorem tsl49 : selem Try.prog 49 = some 56 := by kernel_rfl
theorem tby49 : tby Try.prog 49 = 24 := by kernel_rfl
theorem tze49 : tzero Try.prog 49 = some (.slice none 0 0) := by kernel_rfl
theorem tsz50 : tsz Try.prog 50 = 1 := by kernel_rfl
theorem tud50 : (Try.prog.underlying 50).isSome = true := by kernel_rfl
theorem tin50 : (Try.prog.info? 50).isSome = true := by kernel_rfl
theorem tag50 : tagg Try.prog 50 = false := by kernel_rfl
theorem tsl50 : selem Try.prog 50 = some 64 := by kernel_rfl
theorem tby50 : tby Try.prog 50 = 24 := by kernel_rfl
theorem tze50 : tzero Try.prog 50 = some (.slice none 0 0) := by kernel_rfl
theorem tsz55 : tsz Try.prog 55 = 2 := by kernel_rfl
theorem tud55 : (Try.prog.underlying 55).isSome = true := by kernel_rfl
theorem tin55 : (Try.prog.info? 55).isSome = true := by kernel_rfl
theorem tag55 : tagg Try.prog 55 = true := by kernel_rfl
theorem tsl55 : selem Try.prog 55 = none := by kernel_rfl
theorem teq55 : eqf Try.prog 55 = some [(0, 0), (0, 1)] := by kernel_rfl
theorem tby55 : tby Try.prog 55 = 16 := by kernel_rfl
theorem tfo55_0 : foff Try.prog 55 0 = some 0 := by kernel_rfl
theorem tft55_0 : ftype Try.prog 55 0 = some (3, 0) := by kernel_rfl
theorem tfo55_1 : foff Try.prog 55 1 = some 1 := by kernel_rfl
theorem tft55_1 : ftype Try.prog 55 1 = some (3, 1) := by kernel_rfl
theorem tpl55 : splaces Try.prog 55 = some [(0, 1), (1, 1)] := by kernel_rfl
theorem tze55 : tzero Try.prog 55 = some (.agg #[.int .i64 0, .int .i64 0]) := by kernel_rfl
theorem tsz56 : tsz Try.prog 56 = 2 := by kernel_rfl
theorem tud56 : (Try.prog.underlying 56).isSome = true := by kernel_rfl
theorem tin56 : (Try.prog.info? 56).isSome = true := by kernel_rfl
theorem tag56 : tagg Try.prog 56 = true := by kernel_rfl
theorem tsl56 : selem Try.prog 56 = none := by kernel_rfl
theorem teq56 : eqf Try.prog 56 = some [(0, 0), (0, 1)] := by kernel_rfl
theorem tby56 : tby Try.prog 56 = 16 := by kernel_rfl
theorem tfo56_0 : foff Try.prog 56 0 = some 0 := by kernel_rfl
theorem tft56_0 : ftype Try.prog 56 0 = some (3, 0) := by kernel_rfl
theorem tfo56_1 : foff Try.prog 56 1 = some 1 := by kernel_rfl
theorem tft56_1 : ftype Try.prog 56 1 = some (3, 1) := by kernel_rfl
theorem tpl56 : splaces Try.prog 56 = some [(0, 1), (1, 1)] := by kernel_rfl
theorem tze56 : tzero Try.prog 56 = some (.agg #[.int .i64 0, .int .i64 0]) := by kernel_rfl
theorem tsz57 : tsz Try.prog 57 = 1 := by kernel_rfl
theorem tud57 : (Try.prog.underlying 57).isSome = true := by kernel_rfl
theorem tun57 : Try.prog.underlying 57 = some (.int .u16) := by kernel_rfl
theorem tin57 : (Try.prog.info? 57).isSome = true := by kernel_rfl
theorem tag57 : tagg Try.prog 57 = false := by kernel_rfl
theorem tsl57 : selem Try.prog 57 = none := by kernel_rfl
theorem tby57 : tby Try.prog 57 = 2 := by kernel_rfl
theorem tze57 : tzero Try.prog 57 = some (.int .u16 0) := by kernel_rfl
theorem tsz58 : tsz Try.prog 58 = 1 := by kernel_rfl
theorem tud58 : (Try.prog.underlying 58).isSome = true := by kernel_rfl
theorem tun58 : Try.prog.underlying 58 = some (.int .u32) := by kernel_rfl
theorem tin58 : (Try.prog.info? 58).isSome = true := by kernel_rfl
theorem tag58 : tagg Try.prog 58 = false := by kernel_rfl
theorem tsl58 : selem Try.prog 58 = none := by kernel_rfl
theorem tby58 : tby Try.prog 58 = 4 := by kernel_rfl
theorem tze58 : tzero Try.prog 58 = some (.int .u32 0) := by kernel_rfl
theorem tsz61 : tsz Try.prog 61 = 1 := by kernel_rfl
theorem tud61 : (Try.prog.underlying 61).isSome = true := by kernel_rfl
theorem tin61 : (Try.prog.info? 61).isSome = true := by kernel_rfl
theorem tag61 : tagg Try.prog 61 = false := by kernel_rfl
theorem tsl61 : selem Try.prog 61 = none := by kernel_rfl
theorem tby61 : tby Try.prog 61 = 8 := by kernel_rfl
theorem tze61 : tzero Try.prog 61 = some (.float .f64 0) := by kernel_rfl
theorem tsz63 : tsz Try.prog 63 = 3 := by kernel_rfl
theorem tud63 : (Try.prog.underlying 63).isSome = true := by kernel_rfl
theorem tin63 : (Try.prog.info? 63).isSome = true := by kernel_rfl
theorem tag63 : tagg Try.prog 63 = true := by kernel_rfl
theorem tsl63 : selem Try.prog 63 = none := by kernel_rfl
theorem tby63 : tby Try.prog 63 = 24 := by kernel_rfl
theorem tfo63_0 : foff Try.prog 63 0 = some 0 := by kernel_rfl
theorem tft63_0 : ftype Try.prog 63 0 = some (3, 0) := by kernel_rfl
theorem tfo63_1 : foff Try.prog 63 1 = some 1 := by kernel_rfl
theorem tft63_1 : ftype Try.prog 63 1 = some (61, 1) := by kernel_rfl
theorem tfo63_2 : foff Try.prog 63 2 = some 2 := by kernel_rfl
theorem tft63_2 : ftype Try.prog 63 2 = some (61, 2) := by kernel_rfl
theorem tpl63 : splaces Try.prog 63 = some [(0, 1), (1, 1), (2, 1)] := by kernel_rfl
theorem tze63 : tzero Try.prog 63 = some (.agg #[.int .i64 0, .float .f64 0, .float .f64 0]) := by kernel_rfl
theorem tsz64 : tsz Try.prog 64 = 3 := by kernel_rfl
theorem tud64 : (Try.prog.underlying 64).isSome = true := by kernel_rfl
theorem tin64 : (Try.prog.info? 64).isSome = true := by kernel_rfl
theorem tag64 : tagg Try.prog 64 = true := by kernel_rfl
theorem tsl64 : selem Try.prog 64 = none := by kernel_rfl
theorem tby64 : tby Try.prog 64 = 24 := by kernel_rfl
theorem tfo64_0 : foff Try.prog 64 0 = some 0 := by kernel_rfl
theorem tft64_0 : ftype Try.prog 64 0 = some (3, 0) := by kernel_rfl
theorem tfo64_1 : foff Try.prog 64 1 = some 1 := by kernel_rfl
theorem tft64_1 : ftype Try.prog 64 1 = some (61, 1) := by kernel_rfl
theorem tfo64_2 : foff Try.prog 64 2 = some 2 := by kernel_rfl
theorem tft64_2 : ftype Try.prog 64 2 = some (61, 2) := by kernel_rfl
theorem tpl64 : splaces Try.prog 64 = some [(0, 1), (1, 1), (2, 1)] := by kernel_rfl
theorem tze64 : tzero Try.prog 64 = some (.agg #[.int .i64 0, .float .f64 0, .float .f64 0]) := by kernel_rfl
theorem tsz73 : tsz Try.prog 73 = 1 := by kernel_rfl
theorem tud73 : (Try.prog.underlying 73).isSome = true := by kernel_rfl
theorem tin73 : (Try.prog.info? 73).isSome = true := by kernel_rfl
theorem tag73 : tagg Try.prog 73 = false := by kernel_rfl
theorem tsl73 : selem Try.prog 73 = some 4 := by kernel_rfl
theorem tby73 : tby Try.prog 73 = 24 := by kernel_rfl
theorem tze73 : tzero Try.prog 73 = some (.slice none 0 0) := by kernel_rfl
theorem tsz87 : tsz Try.prog 87 = 1 := by kernel_rfl
theorem tud87 : (Try.prog.underlying 87).isSome = true := by kernel_rfl
theorem tin87 : (Try.prog.info? 87).isSome = true := by kernel_rfl
theorem tag87 : tagg Try.prog 87 = false := by kernel_rfl
theorem tsl87 : selem Try.prog 87 = none := by kernel_rfl
theorem tby87 : tby Try.prog 87 = 8 := by kernel_rfl
theorem tze87 : tzero Try.prog 87 = some (.map none) := by kernel_rfl
theorem tsz88 : tsz Try.prog 88 = 1 := by kernel_rfl
theorem tud88 : (Try.prog.underlying 88).isSome = true := by kernel_rfl
theorem tin88 : (Try.prog.info? 88).isSome = true := by kernel_rfl
theorem tag88 : tagg Try.prog 88 = false := by kernel_rfl
theorem tsl88 : selem Try.prog 88 = some 90 := by kernel_rfl
theorem tby88 : tby Try.prog 88 = 24 := by kernel_rfl
theorem tze88 : tzero Try.prog 88 = some (.slice none 0 0) := by kernel_rfl
theorem tsz89 : tsz Try.prog 89 = 2 := by kernel_rfl
theorem tud89 : (Try.prog.underlying 89).isSome = true := by kernel_rfl
theorem tin89 : (Try.prog.info? 89).isSome = true := by kernel_rfl
theorem tag89 : tagg Try.prog 89 = true := by kernel_rfl
theorem tsl89 : selem Try.prog 89 = none := by kernel_rfl
theorem teq89 : eqf Try.prog 89 = some [(0, 0), (0, 1)] := by kernel_rfl
theorem tby89 : tby Try.prog 89 = 16 := by kernel_rfl
theorem tfo89_0 : foff Try.prog 89 0 = some 0 := by kernel_rfl
theorem tft89_0 : ftype Try.prog 89 0 = some (3, 0) := by kernel_rfl
theorem tfo89_1 : foff Try.prog 89 1 = some 1 := by kernel_rfl
theorem tft89_1 : ftype Try.prog 89 1 = some (3, 1) := by kernel_rfl
theorem tpl89 : splaces Try.prog 89 = some [(0, 1), (1, 1)] := by kernel_rfl
theorem tze89 : tzero Try.prog 89 = some (.agg #[.int .i64 0, .int .i64 0]) := by kernel_rfl
theorem tsz90 : tsz Try.prog 90 = 2 := by kernel_rfl
theorem tud90 : (Try.prog.underlying 90).isSome = true := by kernel_rfl
theorem tin90 : (Try.prog.info? 90).isSome = true := by kernel_rfl
theorem tag90 : tagg Try.prog 90 = true := by kernel_rfl
theorem tsl90 : selem Try.prog 90 = none := by kernel_rfl
theorem teq90 : eqf Try.prog 90 = some [(0, 0), (0, 1)] := by kernel_rfl
theorem tby90 : tby Try.prog 90 = 16 := by kernel_rfl
theorem tfo90_0 : foff Try.prog 90 0 = some 0 := by kernel_rfl
theorem tft90_0 : ftype Try.prog 90 0 = some (3, 0) := by kernel_rfl
theorem tfo90_1 : foff Try.prog 90 1 = some 1 := by kernel_rfl
theorem tft90_1 : ftype Try.prog 90 1 = some (3, 1) := by kernel_rfl
theorem tpl90 : splaces Try.prog 90 = some [(0, 1), (1, 1)] := by kernel_rfl
theorem tze90 : tzero Try.prog 90 = some (.agg #[.int .i64 0, .int .i64 0]) := by kernel_rfl
theorem tsz98 : tsz Try.prog 98 = 1 := by kernel_rfl
theorem tud98 : (Try.prog.underlying 98).isSome = true := by kernel_rfl
theorem tin98 : (Try.prog.info? 98).isSome = true := by kernel_rfl
theorem tag98 : tagg Try.prog 98 = false := by kernel_rfl
theorem tsl98 : selem Try.prog 98 = some 61 := by kernel_rfl
theorem tby98 : tby Try.prog 98 = 24 := by kernel_rfl
theorem tze98 : tzero Try.prog 98 = some (.slice none 0 0) := by kernel_rfl
theorem tsz110 : tsz Try.prog 110 = 1 := by kernel_rfl
theorem tud110 : (Try.prog.underlying 110).isSome = true := by kernel_rfl
theorem tun110 : Try.prog.underlying 110 = some (.int .u64) := by kernel_rfl
theorem tin110 : (Try.prog.info? 110).isSome = true := by kernel_rfl
theorem tag110 : tagg Try.prog 110 = false := by kernel_rfl
theorem tsl110 : selem Try.prog 110 = none := by kernel_rfl
theorem tby110 : tby Try.prog 110 = 8 := by kernel_rfl
theorem tze110 : tzero Try.prog 110 = some (.int .u64 0) := by kernel_rfl
theorem tsz121 : tsz Try.prog 121 = 1 := by kernel_rfl
theorem tud121 : (Try.prog.underlying 121).isSome = true := by kernel_rfl
theorem tun121 : Try.prog.underlying 121 = some (.int .i64) := by kernel_rfl
theorem tin121 : (Try.prog.info? 121).isSome = true := by kernel_rfl
theorem tag121 : tagg Try.prog 121 = false := by kernel_rfl
theorem tsl121 : selem Try.prog 121 = none := by kernel_rfl
theorem tby121 : tby Try.prog 121 = 8 := by kernel_rfl
theorem tze121 : tzero Try.prog 121 = some (.int .i64 0) := by kernel_rfl
theorem tsz129 : tsz Try.prog 129 = 1 := by kernel_rfl
theorem tud129 : (Try.prog.underlying 129).isSome = true := by kernel_rfl
theorem tun129 : Try.prog.underlying 129 = some (.int .u64) := by kernel_rfl
theorem tin129 : (Try.prog.info? 129).isSome = true := by kernel_rfl
theorem tag129 : tagg Try.prog 129 = false := by kernel_rfl
theorem tsl129 : selem Try.prog 129 = none := by kernel_rfl
theorem tby129 : tby Try.prog 129 = 8 := by kernel_rfl
theorem tze129 : tzero Try.prog 129 = some (.int .u64 0) := by kernel_rfl
theorem tsz132 : tsz Try.prog 132 = 1 := by kernel_rfl
theorem tud132 : (Try.prog.underlying 132).isSome = true := by kernel_rfl
theorem tun132 : Try.prog.underlying 132 = some (.int .u64) := by kernel_rfl
theorem tin132 : (Try.prog.info? 132).isSome = true := by kernel_rfl
theorem tag132 : tagg Try.prog 132 = false := by kernel_rfl
theorem tsl132 : selem Try.prog 132 = none := by kernel_rfl
theorem tby132 : tby Try.prog 132 = 8 := by kernel_rfl
theorem tze132 : tzero Try.prog 132 = some (.int .u64 0) := by kernel_rfl
theorem tsz136 : tsz Try.prog 136 = 1 := by kernel_rfl
theorem tud136 : (Try.prog.underlying 136).isSome = true := by kernel_rfl
theorem tin136 : (Try.prog.info? 136).isSome = true := by kernel_rfl
theorem tag136 : tagg Try.prog 136 = false := by kernel_rfl
theorem tsl136 : selem Try.prog 136 = none := by kernel_rfl
theorem tby136 : tby Try.prog 136 = 8 := by kernel_rfl
theorem tze136 : tzero Try.prog 136 = some (.pointer none) := by kernel_rfl
theorem tsz146 : tsz Try.prog 146 = 1 := by kernel_rfl
theorem tud146 : (Try.prog.underlying 146).isSome = true := by kernel_rfl
theorem tin146 : (Try.prog.info? 146).isSome = true := by kernel_rfl
theorem tag146 : tagg Try.prog 146 = false := by kernel_rfl
theorem tsl146 : selem Try.prog 146 = none := by kernel_rfl
theorem tby146 : tby Try.prog 146 = 8 := by kernel_rfl
theorem tze146 : tzero Try.prog 146 = some (.pointer none) := by kernel_rfl
theorem tsz159 : tsz Try.prog 159 = 1 := by kernel_rfl
theorem tud159 : (Try.prog.underlying 159).isSome = true := by kernel_rfl
theorem tin159 : (Try.prog.info? 159).isSome = true := by kernel_rfl
theorem tag159 : tagg Try.prog 159 = false := by kernel_rfl
theorem tsl159 : selem Try.prog 159 = none := by kernel_rfl
theorem tby159 : tby Try.prog 159 = 8 := by kernel_rfl
theorem tze159 : tzero Try.prog 159 = some (.pointer none) := by kernel_rfl
theorem tsz164 : tsz Try.prog 164 = 1 := by kernel_rfl
theorem tud164 : (Try.prog.underlying 164).isSome = true := by kernel_rfl
theorem tin164 : (Try.prog.info? 164).isSome = true := by kernel_rfl
theorem tag164 : tagg Try.prog 164 = false := by kernel_rfl
theorem tsl164 : selem Try.prog 164 = none := by kernel_rfl
theorem tby164 : tby Try.prog 164 = 8 := by kernel_rfl
theorem tze164 : tzero Try.prog 164 = some (.pointer none) := by kernel_rfl
attribute [go_sem] tsz2 tud2 tun2 tin2 tag2 tsl2 tby2 tze2 tsz3 tud3 tun3 tin3 tag3 tsl3 tby3 tze3 tsz4 tud4 tun4 tin4 tag4 tsl4 tby4 tze4 tsz5 tud5 tun5 tin5 tag5 tsl5 tby5 tze5 tsz9 tud9 tun9 tin9 tag9 tsl9 tby9 tze9 tsz12 tud12 tun12 tin12 tag12 tsl12 tby12 tze12 tsz20 tud20 tin20 tag20 tsl20 tby20 tze20 tsz21 tud21 tun21 tin21 tag21 tsl21 tby21 tze21 tsz22 tud22 tin22 tag22 tsl22 tby22 tze22 tsz25 tud25 tin25 tag25 tsl25 tpl25 tar25 teq25 tby25 tze25 tsz26 tud26 tin26 tag26 tsl26 teq26 tby26 tfo26_0 tft26_0 tfo26_1 tft26_1 tfo26_2 tft26_2 tfo26_3 tft26_3 tfo26_4 tft26_4 tfo26_5 tft26_5 tfo26_6 tft26_6 tpl26 tze26 tsz27 tud27 tin27 tag27 tsl27 teq27 tby27 tfo27_0 tft27_0 tfo27_1 tft27_1 tfo27_2 tft27_2 tfo27_3 tft27_3 tfo27_4 tft27_4 tfo27_5 tft27_5 tfo27_6 tft27_6 tpl27 tze27 tsz28 tud28 tin28 tag28 tsl28 tby28 tze28 tsz29 tud29 tin29 tag29 tsl29 tby29 tfo29_0 tft29_0 tfo29_1 tft29_1 tfo29_2 tft29_2 tfo29_3 tft29_3 tfo29_4 tft29_4 tfo29_5 tft29_5 tfo29_6 tft29_6 tpl29 tze29 tsz30 tud30 tin30 tag30 tsl30 tby30 tfo30_0 tft30_0 tfo30_1 tft30_1 tfo30_2 tft30_2 tfo30_3 tft30_3 tfo30_4 tft30_4 tfo30_5 tft30_5 tfo30_6 tft30_6 tpl30 tze30 tsz36 tud36 tin36 tag36 tsl36 tby36 tze36 tsz37 tud37 tin37 tag37 tsl37 tby37 tfo37_0 tft37_0 tfo37_1 tft37_1 tfo37_2 tft37_2 tfo37_3 tft37_3 tfo37_4 tft37_4 tpl37 tze37 tsz38 tud38 tin38 tag38 tsl38 tby38 tfo38_0 tft38_0 tfo38_1 tft38_1 tfo38_2 tft38_2 tfo38_3 tft38_3 tfo38_4 tft38_4 tpl38 tze38 tsz39 tud39 tun39 tin39 tag39 tsl39 tby39 tze39 tsz49 tud49 tin49 tag49 tsl49 tby49 tze49 tsz50 tud50 tin50 tag50 tsl50 tby50 tze50 tsz55 tud55 tin55 tag55 tsl55 teq55 tby55 tfo55_0 tft55_0 tfo55_1 tft55_1 tpl55 tze55 tsz56 tud56 tin56 tag56 tsl56 teq56 tby56 tfo56_0 tft56_0 tfo56_1 tft56_1 tpl56 tze56 tsz57 tud57 tun57 tin57 tag57 tsl57 tby57 tze57 tsz58 tud58 tun58 tin58 tag58 tsl58 tby58 tze58 tsz61 tud61 tin61 tag61 tsl61 tby61 tze61 tsz63 tud63 tin63 tag63 tsl63 tby63 tfo63_0 tft63_0 tfo63_1 tft63_1 tfo63_2 tft63_2 tpl63 tze63 tsz64 tud64 tin64 tag64 tsl64 tby64 tfo64_0 tft64_0 tfo64_1 tft64_1 tfo64_2 tft64_2 tpl64 tze64 tsz73 tud73 tin73 tag73 tsl73 tby73 tze73 tsz87 tud87 tin87 tag87 tsl87 tby87 tze87 tsz88 tud88 tin88 tag88 tsl88 tby88 tze88 tsz89 tud89 tin89 tag89 tsl89 teq89 tby89 tfo89_0 tft89_0 tfo89_1 tft89_1 tpl89 tze89 tsz90 tud90 tin90 tag90 tsl90 teq90 tby90 tfo90_0 tft90_0 tfo90_1 tft90_1 tpl90 tze90 tsz98 tud98 tin98 tag98 tsl98 tby98 tze98 tsz110 tud110 tun110 tin110 tag110 tsl110 tby110 tze110 tsz121 tud121 tun121 tin121 tag121 tsl121 tby121 tze121 tsz129 tud129 tun129 tin129 tag129 tsl129 tby129 tze129 tsz132 tud132 tun132 tin132 tag132 tsl132 tby132 tze132 tsz136 tud136 tin136 tag136 tsl136 tby136 tze136 tsz146 tud146 tin146 tag146 tsl146 tby146 tze146 tsz159 tud159 tin159 tag159 tsl159 tby159 tze159 tsz164 tud164 tin164 tag164 tsl164 tby164 tze164
end Go.Proofs.Ytnkcenafpigmbaa.Ab
