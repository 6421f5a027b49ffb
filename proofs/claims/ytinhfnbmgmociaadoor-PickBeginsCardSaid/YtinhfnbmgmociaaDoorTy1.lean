/- What the abstract layer asks of the types. -/
import Derived.Test.YtinhfnbmgmociaaDoorProg
import Derived.Test.YtinhfnbmgmociaaDoorAb3
import Derived.ProofKit
namespace Go.Proofs.YtinhfnbmgmociaaDoor.Ab
theorem tsz2 : tsz Tryd.prog 2 = 1 := by kernel_rfl
theorem tud2 : (Tryd.prog.underlying 2).isSome = true := by kernel_rfl
theorem tun2 : Tryd.prog.underlying 2 = some (.int .i64) := by kernel_rfl
theorem tin2 : (Tryd.prog.info? 2).isSome = true := by kernel_rfl
theorem tag2 : tagg Tryd.prog 2 = false := by kernel_rfl
theorem tsl2 : selem Tryd.prog 2 = none := by kernel_rfl
theorem tby2 : tby Tryd.prog 2 = 8 := by kernel_rfl
theorem tze2 : tzero Tryd.prog 2 = some (.int .i64 0) := by kernel_rfl
theorem tsz3 : tsz Tryd.prog 3 = 1 := by kernel_rfl
theorem tud3 : (Tryd.prog.underlying 3).isSome = true := by kernel_rfl
theorem tun3 : Tryd.prog.underlying 3 = some (.int .i64) := by kernel_rfl
theorem tin3 : (Tryd.prog.info? 3).isSome = true := by kernel_rfl
theorem tag3 : tagg Tryd.prog 3 = false := by kernel_rfl
theorem tsl3 : selem Tryd.prog 3 = none := by kernel_rfl
theorem tby3 : tby Tryd.prog 3 = 8 := by kernel_rfl
theorem tze3 : tzero Tryd.prog 3 = some (.int .i64 0) := by kernel_rfl
theorem tsz4 : tsz Tryd.prog 4 = 1 := by kernel_rfl
theorem tud4 : (Tryd.prog.underlying 4).isSome = true := by kernel_rfl
theorem tun4 : Tryd.prog.underlying 4 = some .bool := by kernel_rfl
theorem tin4 : (Tryd.prog.info? 4).isSome = true := by kernel_rfl
theorem tag4 : tagg Tryd.prog 4 = false := by kernel_rfl
theorem tsl4 : selem Tryd.prog 4 = none := by kernel_rfl
theorem tby4 : tby Tryd.prog 4 = 1 := by kernel_rfl
theorem tze4 : tzero Tryd.prog 4 = some (.bool false) := by kernel_rfl
theorem tsz5 : tsz Tryd.prog 5 = 1 := by kernel_rfl
theorem tud5 : (Tryd.prog.underlying 5).isSome = true := by kernel_rfl
theorem tun5 : Tryd.prog.underlying 5 = some (.int .u8) := by kernel_rfl
theorem tin5 : (Tryd.prog.info? 5).isSome = true := by kernel_rfl
theorem tag5 : tagg Tryd.prog 5 = false := by kernel_rfl
theorem tsl5 : selem Tryd.prog 5 = none := by kernel_rfl
theorem tby5 : tby Tryd.prog 5 = 1 := by kernel_rfl
theorem tze5 : tzero Tryd.prog 5 = some (.int .u8 0) := by kernel_rfl
theorem tsz9 : tsz Tryd.prog 9 = 1 := by kernel_rfl
theorem tud9 : (Tryd.prog.underlying 9).isSome = true := by kernel_rfl
theorem tun9 : Tryd.prog.underlying 9 = some .string := by kernel_rfl
theorem tin9 : (Tryd.prog.info? 9).isSome = true := by kernel_rfl
theorem tag9 : tagg Tryd.prog 9 = false := by kernel_rfl
theorem tsl9 : selem Tryd.prog 9 = none := by kernel_rfl
theorem tby9 : tby Tryd.prog 9 = 16 := by kernel_rfl
theorem tze9 : tzero Tryd.prog 9 = some (.string ⟨#[]⟩) := by kernel_rfl
theorem tsz12 : tsz Tryd.prog 12 = 1 := by kernel_rfl
theorem tud12 : (Tryd.prog.underlying 12).isSome = true := by kernel_rfl
theorem tun12 : Tryd.prog.underlying 12 = some (.int .u64) := by kernel_rfl
theorem tin12 : (Tryd.prog.info? 12).isSome = true := by kernel_rfl
theorem tag12 : tagg Tryd.prog 12 = false := by kernel_rfl
theorem tsl12 : selem Tryd.prog 12 = none := by kernel_rfl
theorem tby12 : tby Tryd.prog 12 = 8 := by kernel_rfl
theorem tze12 : tzero Tryd.prog 12 = some (.int .u64 0) := by kernel_rfl
theorem tsz20 : tsz Tryd.prog 20 = 1 := by kernel_rfl
theorem tud20 : (Tryd.prog.underlying 20).isSome = true := by kernel_rfl
theorem tin20 : (Tryd.prog.info? 20).isSome = true := by kernel_rfl
theorem tag20 : tagg Tryd.prog 20 = false := by kernel_rfl
theorem tsl20 : selem Tryd.prog 20 = none := by kernel_rfl
theorem tby20 : tby Tryd.prog 20 = 16 := by kernel_rfl
theorem tze20 : tzero Tryd.prog 20 = some (.nilIface) := by kernel_rfl
theorem tsz21 : tsz Tryd.prog 21 = 1 := by kernel_rfl
theorem tud21 : (Tryd.prog.underlying 21).isSome = true := by kernel_rfl
theorem tun21 : Tryd.prog.underlying 21 = some (.int .i32) := by kernel_rfl
theorem tin21 : (Tryd.prog.info? 21).isSome = true := by kernel_rfl
theorem tag21 : tagg Tryd.prog 21 = false := by kernel_rfl
theorem tsl21 : selem Tryd.prog 21 = none := by kernel_rfl
theorem tby21 : tby Tryd.prog 21 = 4 := by kernel_rfl
theorem tze21 : tzero Tryd.prog 21 = some (.int .i32 0) := by kernel_rfl
theorem tsz22 : tsz Tryd.prog 22 = 1 := by kernel_rfl
theorem tud22 : (Tryd.prog.underlying 22).isSome = true := by kernel_rfl
theorem tin22 : (Tryd.prog.info? 22).isSome = true := by kernel_rfl
theorem tag22 : tagg Tryd.prog 22 = false := by kernel_rfl
theorem tsl22 : selem Tryd.prog 22 = some 66 := by kernel_rfl
theorem tby22 : tby Tryd.prog 22 = 24 := by kernel_rfl
theorem tze22 : tzero Tryd.prog 22 = some (.slice none 0 0) := by kernel_rfl
theorem tsz23 : tsz Tryd.prog 23 = 1 := by kernel_rfl
theorem tud23 : (Tryd.prog.underlying 23).isSome = true := by kernel_rfl
theorem tin23 : (Tryd.prog.info? 23).isSome = true := by kernel_rfl
theorem tag23 : tagg Tryd.prog 23 = false := by kernel_rfl
theorem tsl23 : selem Tryd.prog 23 = some 3 := by kernel_rfl
theorem tby23 : tby Tryd.prog 23 = 24 := by kernel_rfl
theorem tze23 : tzero Tryd.prog 23 = some (.slice none 0 0) := by kernel_rfl
theorem tsz24 : tsz Tryd.prog 24 = 1 := by kernel_rfl
theorem tud24 : (Tryd.prog.underlying 24).isSome = true := by kernel_rfl
theorem tin24 : (Tryd.prog.info? 24).isSome = true := by kernel_rfl
theorem tag24 : tagg Tryd.prog 24 = false := by kernel_rfl
theorem tsl24 : selem Tryd.prog 24 = some 46 := by kernel_rfl
theorem tby24 : tby Tryd.prog 24 = 24 := by kernel_rfl
theorem tze24 : tzero Tryd.prog 24 = some (.slice none 0 0) := by kernel_rfl
theorem tsz25 : tsz Tryd.prog 25 = 7 := by kernel_rfl
theorem tud25 : (Tryd.prog.underlying 25).isSome = true := by kernel_rfl
theorem tin25 : (Tryd.prog.info? 25).isSome = true := by kernel_rfl
theorem tag25 : tagg Tryd.prog 25 = true := by kernel_rfl
theorem tsl25 : selem Tryd.prog 25 = none := by kernel_rfl
theorem teq25 : eqf Tryd.prog 25 = some [(0, 0), (0, 1), (0, 2), (2, 3), (1, 4), (0, 5), (0, 6)] := by kernel_rfl
theorem tby25 : tby Tryd.prog 25 = 64 := by kernel_rfl
theorem tfo25_0 : foff Tryd.prog 25 0 = some 0 := by kernel_rfl
theorem tft25_0 : ftype Tryd.prog 25 0 = some (3, 0) := by kernel_rfl
theorem tfo25_1 : foff Tryd.prog 25 1 = some 1 := by kernel_rfl
theorem tft25_1 : ftype Tryd.prog 25 1 = some (3, 1) := by kernel_rfl
theorem tfo25_2 : foff Tryd.prog 25 2 = some 2 := by kernel_rfl
theorem tft25_2 : ftype Tryd.prog 25 2 = some (3, 2) := by kernel_rfl
theorem tfo25_3 : foff Tryd.prog 25 3 = some 3 := by kernel_rfl
theorem tft25_3 : ftype Tryd.prog 25 3 = some (9, 3) := by kernel_rfl
theorem tfo25_4 : foff Tryd.prog 25 4 = some 4 := by kernel_rfl
theorem tft25_4 : ftype Tryd.prog 25 4 = some (4, 4) := by kernel_rfl
theorem tfo25_5 : foff Tryd.prog 25 5 = some 5 := by kernel_rfl
theorem tft25_5 : ftype Tryd.prog 25 5 = some (2, 5) := by kernel_rfl
theorem tfo25_6 : foff Tryd.prog 25 6 = some 6 := by kernel_rfl
theorem tft25_6 : ftype Tryd.prog 25 6 = some (3, 6) := by kernel_rfl
theorem tpl25 : splaces Tryd.prog 25 = some [(0, 1), (1, 1), (2, 1), (3, 1), (4, 1), (5, 1), (6, 1)] := by kernel_rfl
theorem tze25 : tzero Tryd.prog 25 = some (.agg #[.int .i64 0, .int .i64 0, .int .i64 0, .string ⟨#[]⟩, .bool false, .int .i64 0, .int .i64 0]) := by kernel_rfl
theorem tsz26 : tsz Tryd.prog 26 = 7 := by kernel_rfl
theorem tud26 : (Tryd.prog.underlying 26).isSome = true := by kernel_rfl
theorem tin26 : (Tryd.prog.info? 26).isSome = true := by kernel_rfl
theorem tag26 : tagg Tryd.prog 26 = true := by kernel_rfl
theorem tsl26 : selem Tryd.prog 26 = none := by kernel_rfl
theorem teq26 : eqf Tryd.prog 26 = some [(0, 0), (0, 1), (0, 2), (2, 3), (1, 4), (0, 5), (0, 6)] := by kernel_rfl
theorem tby26 : tby Tryd.prog 26 = 64 := by kernel_rfl
theorem tfo26_0 : foff Tryd.prog 26 0 = some 0 := by kernel_rfl
theorem tft26_0 : ftype Tryd.prog 26 0 = some (3, 0) := by kernel_rfl
theorem tfo26_1 : foff Tryd.prog 26 1 = some 1 := by kernel_rfl
theorem tft26_1 : ftype Tryd.prog 26 1 = some (3, 1) := by kernel_rfl
theorem tfo26_2 : foff Tryd.prog 26 2 = some 2 := by kernel_rfl
theorem tft26_2 : ftype Tryd.prog 26 2 = some (3, 2) := by kernel_rfl
theorem tfo26_3 : foff Tryd.prog 26 3 = some 3 := by kernel_rfl
theorem tft26_3 : ftype Tryd.prog 26 3 = some (9, 3) := by kernel_rfl
theorem tfo26_4 : foff Tryd.prog 26 4 = some 4 := by kernel_rfl
theorem tft26_4 : ftype Tryd.prog 26 4 = some (4, 4) := by kernel_rfl
theorem tfo26_5 : foff Tryd.prog 26 5 = some 5 := by kernel_rfl
theorem tft26_5 : ftype Tryd.prog 26 5 = some (2, 5) := by kernel_rfl
theorem tfo26_6 : foff Tryd.prog 26 6 = some 6 := by kernel_rfl
theorem tft26_6 : ftype Tryd.prog 26 6 = some (3, 6) := by kernel_rfl
theorem tpl26 : splaces Tryd.prog 26 = some [(0, 1), (1, 1), (2, 1), (3, 1), (4, 1), (5, 1), (6, 1)] := by kernel_rfl
theorem tze26 : tzero Tryd.prog 26 = some (.agg #[.int .i64 0, .int .i64 0, .int .i64 0, .string ⟨#[]⟩, .bool false, .int .i64 0, .int .i64 0]) := by kernel_rfl
theorem tsz27 : tsz Tryd.prog 27 = 1 := by kernel_rfl
theorem tud27 : (Tryd.prog.underlying 27).isSome = true := by kernel_rfl
theorem tun27 : Tryd.prog.underlying 27 = some (.int .u32) := by kernel_rfl
theorem tin27 : (Tryd.prog.info? 27).isSome = true := by kernel_rfl
theorem tag27 : tagg Tryd.prog 27 = false := by kernel_rfl
theorem tsl27 : selem Tryd.prog 27 = none := by kernel_rfl
theorem tby27 : tby Tryd.prog 27 = 4 := by kernel_rfl
theorem tze27 : tzero Tryd.prog 27 = some (.int .u32 0) := by kernel_rfl
theorem tsz39 : tsz Tryd.prog 39 = 1 := by kernel_rfl
theorem tud39 : (Tryd.prog.underlying 39).isSome = true := by kernel_rfl
theorem tin39 : (Tryd.prog.info? 39).isSome = true := by kernel_rfl
theorem tag39 : tagg Tryd.prog 39 = false := by kernel_rfl
theorem tsl39 : selem Tryd.prog 39 = some 41 := by kernel_rfl
theorem tby39 : tby Tryd.prog 39 = 24 := by kernel_rfl
theorem tze39 : tzero Tryd.prog 39 = some (.slice none 0 0) := by kernel_rfl
theorem tsz40 : tsz Tryd.prog 40 = 8 := by kernel_rfl
theorem tud40 : (Tryd.prog.underlying 40).isSome = true := by kernel_rfl
theorem tin40 : (Tryd.prog.info? 40).isSome = true := by kernel_rfl
theorem tag40 : tagg Tryd.prog 40 = true := by kernel_rfl
theorem tsl40 : selem Tryd.prog 40 = none := by kernel_rfl
theorem tby40 : tby Tryd.prog 40 = 72 := by kernel_rfl
theorem tfo40_0 : foff Tryd.prog 40 0 = some 0 := by kernel_rfl
theorem tft40_0 : ftype Tryd.prog 40 0 = some (3, 0) := by kernel_rfl
theorem tfo40_1 : foff Tryd.prog 40 1 = some 1 := by kernel_rfl
theorem tft40_1 : ftype Tryd.prog 40 1 = some (26, 1) := by kernel_rfl
theorem tpl40 : splaces Tryd.prog 40 = some [(0, 1), (1, 7)] := by kernel_rfl
theorem tze40 : tzero Tryd.prog 40 = some (.agg #[.int .i64 0, .int .i64 0, .int .i64 0, .int .i64 0, .string ⟨#[]⟩, .bool false, .int .i64 0, .int .i64 0]) := by kernel_rfl
theorem tsz41 : tsz Tryd.prog 41 = 8 := by kernel_rfl
theorem tud41 : (Tryd.prog.underlying 41).isSome = true := by kernel_rfl
theorem tin41 : (Tryd.prog.info? 41).isSome = true := by kernel_rfl
theorem tag41 : tagg Tryd.prog 41 = true := by kernel_rfl
theorem tsl41 : selem Tryd.prog 41 = none := by kernel_rfl
theorem tby41 : tby Tryd.prog 41 = 72 := by kernel_rfl
theorem tfo41_0 : foff Tryd.prog 41 0 = some 0 := by kernel_rfl
theorem tft41_0 : ftype Tryd.prog 41 0 = some (3, 0) := by kernel_rfl
theorem tfo41_1 : foff Tryd.prog 41 1 = some 1 := by kernel_rfl
theorem tft41_1 : ftype Tryd.prog 41 1 = some (26, 1) := by kernel_rfl
theorem tpl41 : splaces Tryd.prog 41 = some [(0, 1), (1, 7)] := by kernel_rfl
theorem tze41 : tzero Tryd.prog 41 = some (.agg #[.int .i64 0, .int .i64 0, .int .i64 0, .int .i64 0, .string ⟨#[]⟩, .bool false, .int .i64 0, .int .i64 0]) := by kernel_rfl
theorem tsz42 : tsz Tryd.prog 42 = 1 := by kernel_rfl
theorem tud42 : (Tryd.prog.underlying 42).isSome = true := by kernel_rfl
theorem tun42 : Tryd.prog.underlying 42 = some (.int .i64) := by kernel_rfl
theorem tin42 : (Tryd.prog.info? 42).isSome = true := by kernel_rfl
theorem tag42 : tagg Tryd.prog 42 = false := by kernel_rfl
theorem tsl42 : selem Tryd.prog 42 = none := by kernel_rfl
theorem tby42 : tby Tryd.prog 42 = 8 := by kernel_rfl
theorem tze42 : tzero Tryd.prog 42 = some (.int .i64 0) := by kernel_rfl
theorem tsz45 : tsz Tryd.prog 45 = 4 := by kernel_rfl
theorem tud45 : (Tryd.prog.underlying 45).isSome = true := by kernel_rfl
theorem tin45 : (Tryd.prog.info? 45).isSome = true := by kernel_rfl
theorem tag45 : tagg Tryd.prog 45 = true := by kernel_rfl
theorem tsl45 : selem Tryd.prog 45 = none := by kernel_rfl
theorem tby45 : tby Tryd.prog 45 = 48 := by kernel_rfl
theorem tfo45_0 : foff Tryd.prog 45 0 = some 0 := by kernel_rfl
theorem tft45_0 : ftype Tryd.prog 45 0 = some (3, 0) := by kernel_rfl
theorem tfo45_1 : foff Tryd.prog 45 1 = some 1 := by kernel_rfl
theorem tft45_1 : ftype Tryd.prog 45 1 = some (23, 1) := by kernel_rfl
theorem tfo45_2 : foff Tryd.prog 45 2 = some 2 := by kernel_rfl
theorem tft45_2 : ftype Tryd.prog 45 2 = some (2, 2) := by kernel_rfl
theorem tfo45_3 : foff Tryd.prog 45 3 = some 3 := by kernel_rfl
theorem tft45_3 : ftype Tryd.prog 45 3 = some (2, 3) := by kernel_rfl
theorem tpl45 : splaces Tryd.prog 45 = some [(0, 1), (1, 1), (2, 1), (3, 1)] := by kernel_rfl
theorem tze45 : tzero Tryd.prog 45 = some (.agg #[.int .i64 0, .slice none 0 0, .int .i64 0, .int .i64 0]) := by kernel_rfl
theorem tsz46 : tsz Tryd.prog 46 = 4 := by kernel_rfl
theorem tud46 : (Tryd.prog.underlying 46).isSome = true := by kernel_rfl
theorem tin46 : (Tryd.prog.info? 46).isSome = true := by kernel_rfl
theorem tag46 : tagg Tryd.prog 46 = true := by kernel_rfl
theorem tsl46 : selem Tryd.prog 46 = none := by kernel_rfl
theorem tby46 : tby Tryd.prog 46 = 48 := by kernel_rfl
theorem tfo46_0 : foff Tryd.prog 46 0 = some 0 := by kernel_rfl
theorem tft46_0 : ftype Tryd.prog 46 0 = some (3, 0) := by kernel_rfl
theorem tfo46_1 : foff Tryd.prog 46 1 = some 1 := by kernel_rfl
theorem tft46_1 : ftype Tryd.prog 46 1 = some (23, 1) := by kernel_rfl
theorem tfo46_2 : foff Tryd.prog 46 2 = some 2 := by kernel_rfl
theorem tft46_2 : ftype Tryd.prog 46 2 = some (2, 2) := by kernel_rfl
theorem tfo46_3 : foff Tryd.prog 46 3 = some 3 := by kernel_rfl
theorem tft46_3 : ftype Tryd.prog 46 3 = some (2, 3) := by kernel_rfl
theorem tpl46 : splaces Tryd.prog 46 = some [(0, 1), (1, 1), (2, 1), (3, 1)] := by kernel_rfl
theorem tze46 : tzero Tryd.prog 46 = some (.agg #[.int .i64 0, .slice none 0 0, .int .i64 0, .int .i64 0]) := by kernel_rfl
theorem tsz58 : tsz Tryd.prog 58 = 1 := by kernel_rfl
theorem tud58 : (Tryd.prog.underlying 58).isSome = true := by kernel_rfl
theorem tin58 : (Tryd.prog.info? 58).isSome = true := by kernel_rfl
theorem tag58 : tagg Tryd.prog 58 = false := by kernel_rfl
theorem tsl58 : selem Tryd.prog 58 = some 2 := by kernel_rfl
theorem tby58 : tby Tryd.prog 58 = 24 := by kernel_rfl
theorem tze58 : tzero Tryd.prog 58 = some (.slice none 0 0) := by kernel_rfl
theorem tsz65 : tsz Tryd.prog 65 = 3 := by kernel_rfl
theorem tud65 : (Tryd.prog.underlying 65).isSome = true := by kernel_rfl
theorem tin65 : (Tryd.prog.info? 65).isSome = true := by kernel_rfl
theorem tag65 : tagg Tryd.prog 65 = true := by kernel_rfl
theorem tsl65 : selem Tryd.prog 65 = none := by kernel_rfl
theorem teq65 : eqf Tryd.prog 65 = some [(0, 0), (0, 1), (2, 2)] := by kernel_rfl
theorem tby65 : tby Tryd.prog 65 = 32 := by kernel_rfl
theorem tfo65_0 : foff Tryd.prog 65 0 = some 0 := by kernel_rfl
theorem tft65_0 : ftype Tryd.prog 65 0 = some (3, 0) := by kernel_rfl
theorem tfo65_1 : foff Tryd.prog 65 1 = some 1 := by kernel_rfl
theorem tft65_1 : ftype Tryd.prog 65 1 = some (3, 1) := by kernel_rfl
theorem tfo65_2 : foff Tryd.prog 65 2 = some 2 := by kernel_rfl
theorem tft65_2 : ftype Tryd.prog 65 2 = some (9, 2) := by kernel_rfl
theorem tpl65 : splaces Tryd.prog 65 = some [(0, 1), (1, 1), (2, 1)] := by kernel_rfl
theorem tze65 : tzero Tryd.prog 65 = some (.agg #[.int .i64 0, .int .i64 0, .string ⟨#[]⟩]) := by kernel_rfl
theorem tsz66 : tsz Tryd.prog 66 = 3 := by kernel_rfl
theorem tud66 : (Tryd.prog.underlying 66).isSome = true := by kernel_rfl
theorem tin66 : (Tryd.prog.info? 66).isSome = true := by kernel_rfl
theorem tag66 : tagg Tryd.prog 66 = true := by kernel_rfl
theorem tsl66 : selem Tryd.prog 66 = none := by kernel_rfl
theorem teq66 : eqf Tryd.prog 66 = some [(0, 0), (0, 1), (2, 2)] := by kernel_rfl
theorem tby66 : tby Tryd.prog 66 = 32 := by kernel_rfl
theorem tfo66_0 : foff Tryd.prog 66 0 = some 0 := by kernel_rfl
theorem tft66_0 : ftype Tryd.prog 66 0 = some (3, 0) := by kernel_rfl
theorem tfo66_1 : foff Tryd.prog 66 1 = some 1 := by kernel_rfl
theorem tft66_1 : ftype Tryd.prog 66 1 = some (3, 1) := by kernel_rfl
theorem tfo66_2 : foff Tryd.prog 66 2 = some 2 := by kernel_rfl
theorem tft66_2 : ftype Tryd.prog 66 2 = some (9, 2) := by kernel_rfl
theorem tpl66 : splaces Tryd.prog 66 = some [(0, 1), (1, 1), (2, 1)] := by kernel_rfl
theorem tze66 : tzero Tryd.prog 66 = some (.agg #[.int .i64 0, .int .i64 0, .string ⟨#[]⟩]) := by kernel_rfl
theorem tsz67 : tsz Tryd.prog 67 = 1 := by kernel_rfl
theorem tud67 : (Tryd.prog.underlying 67).isSome = true := by kernel_rfl
theorem tun67 : Tryd.prog.underlying 67 = some (.int .u64) := by kernel_rfl
theorem tin67 : (Tryd.prog.info? 67).isSome = true := by kernel_rfl
theorem tag67 : tagg Tryd.prog 67 = false := by kernel_rfl
theorem tsl67 : selem Tryd.prog 67 = none := by kernel_rfl
theorem tby67 : tby Tryd.prog 67 = 8 := by kernel_rfl
theorem tze67 : tzero Tryd.prog 67 = some (.int .u64 0) := by kernel_rfl
theorem tsz68 : tsz Tryd.prog 68 = 4 := by kernel_rfl
theorem tud68 : (Tryd.prog.underlying 68).isSome = true := by kernel_rfl
theorem tin68 : (Tryd.prog.info? 68).isSome = true := by kernel_rfl
theorem tag68 : tagg Tryd.prog 68 = true := by kernel_rfl
theorem tsl68 : selem Tryd.prog 68 = none := by kernel_rfl
theorem tpl68 : splaces Tryd.prog 68 = none := by kernel_rfl
theorem tar68 : aelem Tryd.prog 68 = some (4, 67) := by kernel_rfl
theorem teq68 : eqf Tryd.prog 68 = some [(0, 0), (0, 1), (0, 2), (0, 3)] := by kernel_rfl
theorem tby68 : tby Tryd.prog 68 = 32 := by kernel_rfl
theorem tze68 : tzero Tryd.prog 68 = some (.agg #[.int .u64 0, .int .u64 0, .int .u64 0, .int .u64 0]) := by kernel_rfl
theorem tsz69 : tsz Tryd.prog 69 = 4 := by kernel_rfl
theorem tud69 : (Tryd.prog.underlying 69).isSome = true := by kernel_rfl
theorem tin69 : (Tryd.prog.info? 69).isSome = true := by kernel_rfl
theorem tag69 : tagg Tryd.prog 69 = true := by kernel_rfl
theorem tsl69 : selem Tryd.prog 69 = none := by kernel_rfl
theorem tpl69 : splaces Tryd.prog 69 = none := by kernel_rfl
theorem tar69 : aelem Tryd.prog 69 = some (4, 67) := by kernel_rfl
theorem teq69 : eqf Tryd.prog 69 = some [(0, 0), (0, 1), (0, 2), (0, 3)] := by kernel_rfl
theorem tby69 : tby Tryd.prog 69 = 32 := by kernel_rfl
theorem tze69 : tzero Tryd.prog 69 = some (.agg #[.int .u64 0, .int .u64 0, .int .u64 0, .int .u64 0]) := by kernel_rfl
theorem tsz108 : tsz Tryd.prog 108 = 1 := by kernel_rfl
theorem tud108 : (Tryd.prog.underlying 108).isSome = true := by kernel_rfl
theorem tun108 : Tryd.prog.underlying 108 = some (.int .u64) := by kernel_rfl
theorem tin108 : (Tryd.prog.info? 108).isSome = true := by kernel_rfl
theorem tag108 : tagg Tryd.prog 108 = false := by kernel_rfl
theorem tsl108 : selem Tryd.prog 108 = none := by kernel_rfl
theorem tby108 : tby Tryd.prog 108 = 8 := by kernel_rfl
theorem tze108 : tzero Tryd.prog 108 = some (.int .u64 0) := by kernel_rfl
theorem tsz109 : tsz Tryd.prog 109 = 1 := by kernel_rfl
theorem tud109 : (Tryd.prog.underlying 109).isSome = true := by kernel_rfl
theorem tin109 : (Tryd.prog.info? 109).isSome = true := by kernel_rfl
theorem tag109 : tagg Tryd.prog 109 = false := by kernel_rfl
theorem tsl109 : selem Tryd.prog 109 = none := by kernel_rfl
theorem tby109 : tby Tryd.prog 109 = 8 := by kernel_rfl
theorem tze109 : tzero Tryd.prog 109 = some (.pointer none) := by kernel_rfl
theorem tsz113 : tsz Tryd.prog 113 = 1 := by kernel_rfl
theorem tud113 : (Tryd.prog.underlying 113).isSome = true := by kernel_rfl
theorem tin113 : (Tryd.prog.info? 113).isSome = true := by kernel_rfl
theorem tag113 : tagg Tryd.prog 113 = false := by kernel_rfl
theorem tsl113 : selem Tryd.prog 113 = some 4 := by kernel_rfl
theorem tby113 : tby Tryd.prog 113 = 24 := by kernel_rfl
theorem tze113 : tzero Tryd.prog 113 = some (.slice none 0 0) := by kernel_rfl
theorem tsz122 : tsz Tryd.prog 122 = 1 := by kernel_rfl
theorem tud122 : (Tryd.prog.underlying 122).isSome = true := by kernel_rfl
theorem tun122 : Tryd.prog.underlying 122 = some (.int .i64) := by kernel_rfl
theorem tin122 : (Tryd.prog.info? 122).isSome = true := by kernel_rfl
theorem tag122 : tagg Tryd.prog 122 = false := by kernel_rfl
theorem tsl122 : selem Tryd.prog 122 = none := by kernel_rfl
theorem tby122 : tby Tryd.prog 122 = 8 := by kernel_rfl
theorem tze122 : tzero Tryd.prog 122 = some (.int .i64 0) := by kernel_rfl
theorem tsz130 : tsz Tryd.prog 130 = 1 := by kernel_rfl
theorem tud130 : (Tryd.prog.underlying 130).isSome = true := by kernel_rfl
theorem tin130 : (Tryd.prog.info? 130).isSome = true := by kernel_rfl
theorem tag130 : tagg Tryd.prog 130 = false := by kernel_rfl
theorem tsl130 : selem Tryd.prog 130 = some 23 := by kernel_rfl
theorem tby130 : tby Tryd.prog 130 = 24 := by kernel_rfl
theorem tze130 : tzero Tryd.prog 130 = some (.slice none 0 0) := by kernel_rfl
theorem tsz131 : tsz Tryd.prog 131 = 10 := by kernel_rfl
theorem tud131 : (Tryd.prog.underlying 131).isSome = true := by kernel_rfl
theorem tin131 : (Tryd.prog.info? 131).isSome = true := by kernel_rfl
theorem tag131 : tagg Tryd.prog 131 = true := by kernel_rfl
theorem tsl131 : selem Tryd.prog 131 = none := by kernel_rfl
theorem tby131 : tby Tryd.prog 131 = 136 := by kernel_rfl
theorem tfo131_0 : foff Tryd.prog 131 0 = some 0 := by kernel_rfl
theorem tft131_0 : ftype Tryd.prog 131 0 = some (22, 0) := by kernel_rfl
theorem tfo131_1 : foff Tryd.prog 131 1 = some 1 := by kernel_rfl
theorem tft131_1 : ftype Tryd.prog 131 1 = some (113, 1) := by kernel_rfl
theorem tfo131_2 : foff Tryd.prog 131 2 = some 2 := by kernel_rfl
theorem tft131_2 : ftype Tryd.prog 131 2 = some (130, 2) := by kernel_rfl
theorem tfo131_3 : foff Tryd.prog 131 3 = some 3 := by kernel_rfl
theorem tft131_3 : ftype Tryd.prog 131 3 = some (26, 3) := by kernel_rfl
theorem tpl131 : splaces Tryd.prog 131 = some [(0, 1), (1, 1), (2, 1), (3, 7)] := by kernel_rfl
theorem tze131 : tzero Tryd.prog 131 = some (.agg #[.slice none 0 0, .slice none 0 0, .slice none 0 0, .int .i64 0, .int .i64 0, .int .i64 0, .string ⟨#[]⟩, .bool false, .int .i64 0, .int .i64 0]) := by kernel_rfl
theorem tsz132 : tsz Tryd.prog 132 = 10 := by kernel_rfl
theorem tud132 : (Tryd.prog.underlying 132).isSome = true := by kernel_rfl
theorem tin132 : (Tryd.prog.info? 132).isSome = true := by kernel_rfl
theorem tag132 : tagg Tryd.prog 132 = true := by kernel_rfl
theorem tsl132 : selem Tryd.prog 132 = none := by kernel_rfl
theorem tby132 : tby Tryd.prog 132 = 136 := by kernel_rfl
theorem tfo132_0 : foff Tryd.prog 132 0 = some 0 := by kernel_rfl
theorem tft132_0 : ftype Tryd.prog 132 0 = some (22, 0) := by kernel_rfl
theorem tfo132_1 : foff Tryd.prog 132 1 = some 1 := by kernel_rfl
theorem tft132_1 : ftype Tryd.prog 132 1 = some (113, 1) := by kernel_rfl
theorem tfo132_2 : foff Tryd.prog 132 2 = some 2 := by kernel_rfl
theorem tft132_2 : ftype Tryd.prog 132 2 = some (130, 2) := by kernel_rfl
theorem tfo132_3 : foff Tryd.prog 132 3 = some 3 := by kernel_rfl
theorem tft132_3 : ftype Tryd.prog 132 3 = some (26, 3) := by kernel_rfl
theorem tpl132 : splaces Tryd.prog 132 = some [(0, 1), (1, 1), (2, 1), (3, 7)] := by kernel_rfl
theorem tze132 : tzero Tryd.prog 132 = some (.agg #[.slice none 0 0, .slice none 0 0, .slice none 0 0, .int .i64 0, .int .i64 0, .int .i64 0, .string ⟨#[]⟩, .bool false, .int .i64 0, .int .i64 0]) := by kernel_rfl
theorem tsz134 : tsz Tryd.prog 134 = 64 := by kernel_rfl
theorem tud134 : (Tryd.prog.underlying 134).isSome = true := by kernel_rfl
theorem tin134 : (Tryd.prog.info? 134).isSome = true := by kernel_rfl
theorem tag134 : tagg Tryd.prog 134 = true := by kernel_rfl
theorem tsl134 : selem Tryd.prog 134 = none := by kernel_rfl
theorem tpl134 : splaces Tryd.prog 134 = none := by kernel_rfl
theorem tar134 : aelem Tryd.prog 134 = some (64, 5) := by kernel_rfl
theorem teq134 : eqf Tryd.prog 134 = some [(0, 0), (0, 1), (0, 2), (0, 3), (0, 4), (0, 5), (0, 6), (0, 7), (0, 8), (0, 9), (0, 10), (0, 11), (0, 12), (0, 13), (0, 14), (0, 15), (0, 16), (0, 17), (0, 18), (0, 19), (0, 20), (0, 21), (0, 22), (0, 23), (0, 24), (0, 25), (0, 26), (0, 27), (0, 28), (0, 29), (0, 30), (0, 31), (0, 32), (0, 33), (0, 34), (0, 35), (0, 36), (0, 37), (0, 38), (0, 39), (0, 40), (0, 41), (0, 42), (0, 43), (0, 44), (0, 45), (0, 46), (0, 47), (0, 48), (0, 49), (0, 50), (0, 51), (0, 52), (0, 53), (0, 54), (0, 55), (0, 56), (0, 57), (0, 58), (0, 59), (0, 60), (0, 61), (0, 62), (0, 63)] := by kernel_rfl
theorem tby134 : tby Tryd.prog 134 = 64 := by kernel_rfl
theorem tze134 : tzero Tryd.prog 134 = some (.agg #[.int .u8 0, .int .u8 0, .int .u8 0, .int .u8 0, .int .u8 0, .int .u8 0, .int .u8 0, .int .u8 0, .int .u8 0, .int .u8 0, .int .u8 0, .int .u8 0, .int .u8 0, .int .u8 0, .int .u8 0, .int .u8 0, .int .u8 0, .int .u8 0, .int .u8 0, .int .u8 0, .int .u8 0, .int .u8 0, .int .u8 0, .int .u8 0, .int .u8 0, .int .u8 0, .int .u8 0, .int .u8 0, .int .u8 0, .int .u8 0, .int .u8 0, .int .u8 0, .int .u8 0, .int .u8 0, .int .u8 0, .int .u8 0, .int .u8 0, .int .u8 0, .int .u8 0, .int .u8 0, .int .u8 0, .int .u8 0, .int .u8 0, .int .u8 0, .int .u8 0, .int .u8 0, .int .u8 0, .int .u8 0, .int .u8 0, .int .u8 0, .int .u8 0, .int .u8 0, .int .u8 0, .int .u8 0, .int .u8 0, .int .u8 0, .int .u8 0, .int .u8 0, .int .u8 0, .int .u8 0, .int .u8 0, .int .u8 0, .int .u8 0, .int .u8 0]) := by kernel_rfl
theorem tsz139 : tsz Tryd.prog 139 = 1 := by kernel_rfl
theorem tud139 : (Tryd.prog.underlying 139).isSome = true := by kernel_rfl
theorem tun139 : Tryd.prog.underlying 139 = some (.int .u64) := by kernel_rfl
theorem tin139 : (Tryd.prog.info? 139).isSome = true := by kernel_rfl
theorem tag139 : tagg Tryd.prog 139 = false := by kernel_rfl
theorem tsl139 : selem Tryd.prog 139 = none := by kernel_rfl
theorem tby139 : tby Tryd.prog 139 = 8 := by kernel_rfl
theorem tze139 : tzero Tryd.prog 139 = some (.int .u64 0) := by kernel_rfl
theorem tsz143 : tsz Tryd.prog 143 = 1 := by kernel_rfl
theorem tud143 : (Tryd.prog.underlying 143).isSome = true := by kernel_rfl
theorem tin143 : (Tryd.prog.info? 143).isSome = true := by kernel_rfl
theorem tag143 : tagg Tryd.prog 143 = false := by kernel_rfl
theorem tsl143 : selem Tryd.prog 143 = none := by kernel_rfl
theorem tby143 : tby Tryd.prog 143 = 8 := by kernel_rfl
theorem tze143 : tzero Tryd.prog 143 = some (.pointer none) := by kernel_rfl
theorem tsz150 : tsz Tryd.prog 150 = 1 := by kernel_rfl
theorem tud150 : (Tryd.prog.underlying 150).isSome = true := by kernel_rfl
theorem tin150 : (Tryd.prog.info? 150).isSome = true := by kernel_rfl
theorem tag150 : tagg Tryd.prog 150 = false := by kernel_rfl
theorem tsl150 : selem Tryd.prog 150 = none := by kernel_rfl
theorem tby150 : tby Tryd.prog 150 = 8 := by kernel_rfl
theorem tze150 : tzero Tryd.prog 150 = some (.pointer none) := by kernel_rfl
theorem tsz163 : tsz Tryd.prog 163 = 1 := by kernel_rfl
theorem tud163 : (Tryd.prog.underlying 163).isSome = true := by kernel_rfl
theorem tin163 : (Tryd.prog.info? 163).isSome = true := by kernel_rfl
theorem tag163 : tagg Tryd.prog 163 = false := by kernel_rfl
theorem tsl163 : selem Tryd.prog 163 = none := by kernel_rfl
theorem tby163 : tby Tryd.prog 163 = 8 := by kernel_rfl
theorem tze163 : tzero Tryd.prog 163 = some (.pointer none) := by kernel_rfl
theorem tsz168 : tsz Tryd.prog 168 = 1 := by kernel_rfl
theorem tud168 : (Tryd.prog.underlying 168).isSome = true := by kernel_rfl
theorem tin168 : (Tryd.prog.info? 168).isSome = true := by kernel_rfl
theorem tag168 : tagg Tryd.prog 168 = false := by kernel_rfl
theorem tsl168 : selem Tryd.prog 168 = none := by kernel_rfl
theorem tby168 : tby Tryd.prog 168 = 8 := by kernel_rfl
theorem tze168 : tzero Tryd.prog 168 = some (.pointer none) := by kernel_rfl
attribute [go_sem] tsz2 tud2 tun2 tin2 tag2 tsl2 tby2 tze2 tsz3 tud3 tun3 tin3 tag3 tsl3 tby3 tze3 tsz4 tud4 tun4 tin4 tag4 tsl4 tby4 tze4 tsz5 tud5 tun5 tin5 tag5 tsl5 tby5 tze5 tsz9 tud9 tun9 tin9 tag9 tsl9 tby9 tze9 tsz12 tud12 tun12 tin12 tag12 tsl12 tby12 tze12 tsz20 tud20 tin20 tag20 tsl20 tby20 tze20 tsz21 tud21 tun21 tin21 tag21 tsl21 tby21 tze21 tsz22 tud22 tin22 tag22 tsl22 tby22 tze22 tsz23 tud23 tin23 tag23 tsl23 tby23 tze23 tsz24 tud24 tin24 tag24 tsl24 tby24 tze24 tsz25 tud25 tin25 tag25 tsl25 teq25 tby25 tfo25_0 tft25_0 tfo25_1 tft25_1 tfo25_2 tft25_2 tfo25_3 tft25_3 tfo25_4 tft25_4 tfo25_5 tft25_5 tfo25_6 tft25_6 tpl25 tze25 tsz26 tud26 tin26 tag26 tsl26 teq26 tby26 tfo26_0 tft26_0 tfo26_1 tft26_1 tfo26_2 tft26_2 tfo26_3 tft26_3 tfo26_4 tft26_4 tfo26_5 tft26_5 tfo26_6 tft26_6 tpl26 tze26 tsz27 tud27 tun27 tin27 tag27 tsl27 tby27 tze27 tsz39 tud39 tin39 tag39 tsl39 tby39 tze39 tsz40 tud40 tin40 tag40 tsl40 tby40 tfo40_0 tft40_0 tfo40_1 tft40_1 tpl40 tze40 tsz41 tud41 tin41 tag41 tsl41 tby41 tfo41_0 tft41_0 tfo41_1 tft41_1 tpl41 tze41 tsz42 tud42 tun42 tin42 tag42 tsl42 tby42 tze42 tsz45 tud45 tin45 tag45 tsl45 tby45 tfo45_0 tft45_0 tfo45_1 tft45_1 tfo45_2 tft45_2 tfo45_3 tft45_3 tpl45 tze45 tsz46 tud46 tin46 tag46 tsl46 tby46 tfo46_0 tft46_0 tfo46_1 tft46_1 tfo46_2 tft46_2 tfo46_3 tft46_3 tpl46 tze46 tsz58 tud58 tin58 tag58 tsl58 tby58 tze58 tsz65 tud65 tin65 tag65 tsl65 teq65 tby65 tfo65_0 tft65_0 tfo65_1 tft65_1 tfo65_2 tft65_2 tpl65 tze65 tsz66 tud66 tin66 tag66 tsl66 teq66 tby66 tfo66_0 tft66_0 tfo66_1 tft66_1 tfo66_2 tft66_2 tpl66 tze66 tsz67 tud67 tun67 tin67 tag67 tsl67 tby67 tze67 tsz68 tud68 tin68 tag68 tsl68 tpl68 tar68 teq68 tby68 tze68 tsz69 tud69 tin69 tag69 tsl69 tpl69 tar69 teq69 tby69 tze69 tsz108 tud108 tun108 tin108 tag108 tsl108 tby108 tze108 tsz109 tud109 tin109 tag109 tsl109 tby109 tze109 tsz113 tud113 tin113 tag113 tsl113 tby113 tze113 tsz122 tud122 tun122 tin122 tag122 tsl122 tby122 tze122 tsz130 tud130 tin130 tag130 tsl130 tby130 tze130 tsz131 tud131 tin131 tag131 tsl131 tby131 tfo131_0 tft131_0 tfo131_1 tft131_1 tfo131_2 tft131_2 tfo131_3 tft131_3 tpl131 tze131 tsz132 tud132 tin132 tag132 tsl132 tby132 tfo132_0 tft132_0 tfo132_1 tft132_1 tfo132_2 tft132_2 tfo132_3 tft132_3 tpl132 tze132 tsz134 tud134 tin134 tag134 tsl134 tpl134 tar134 teq134 tby134 tze134 tsz139 tud139 tun139 tin139 tag139 tsl139 tby139 tze139 tsz143 tud143 tin143 tag143 tsl143 tby143 tze143 tsz150 tud150 tin150 tag150 tsl150 tby150 tze150 tsz163 tud163 tin163 tag163 tsl163 tby163 tze163 tsz168 tud168 tin168 tag168 tsl168 tby168 tze168
end Go.Proofs.YtinhfnbmgmociaaDoor.Ab
