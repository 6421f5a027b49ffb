/- What the abstract layer asks of the types. -/
import Derived.Test.YtnkcenafpigmbaaGreatProg
import Derived.Test.YtnkcenafpigmbaaGreatAb3
import Derived.ProofKit
namespace Go.Proofs.YtnkcenafpigmbaaGreat.Ab
theorem tsz2 : tsz Tryz.prog 2 = 1 := by kernel_rfl
theorem tud2 : (Tryz.prog.underlying 2).isSome = true := by kernel_rfl
theorem tun2 : Tryz.prog.underlying 2 = some (.int .i64) := by kernel_rfl
theorem tin2 : (Tryz.prog.info? 2).isSome = true := by kernel_rfl
theorem tag2 : tagg Tryz.prog 2 = false := by kernel_rfl
theorem tsl2 : selem Tryz.prog 2 = none := by kernel_rfl
theorem tby2 : tby Tryz.prog 2 = 8 := by kernel_rfl
theorem tze2 : tzero Tryz.prog 2 = some (.int .i64 0) := by kernel_rfl
theorem tsz3 : tsz Tryz.prog 3 = 1 := by kernel_rfl
theorem tud3 : (Tryz.prog.underlying 3).isSome = true := by kernel_rfl
theorem tun3 : Tryz.prog.underlying 3 = some (.int .i64) := by kernel_rfl
theorem tin3 : (Tryz.prog.info? 3).isSome = true := by kernel_rfl
theorem tag3 : tagg Tryz.prog 3 = false := by kernel_rfl
theorem tsl3 : selem Tryz.prog 3 = none := by kernel_rfl
theorem tby3 : tby Tryz.prog 3 = 8 := by kernel_rfl
theorem tze3 : tzero Tryz.prog 3 = some (.int .i64 0) := by kernel_rfl
theorem tsz4 : tsz Tryz.prog 4 = 1 := by kernel_rfl
theorem tud4 : (Tryz.prog.underlying 4).isSome = true := by kernel_rfl
theorem tun4 : Tryz.prog.underlying 4 = some .bool := by kernel_rfl
theorem tin4 : (Tryz.prog.info? 4).isSome = true := by kernel_rfl
theorem tag4 : tagg Tryz.prog 4 = false := by kernel_rfl
theorem tsl4 : selem Tryz.prog 4 = none := by kernel_rfl
theorem tby4 : tby Tryz.prog 4 = 1 := by kernel_rfl
theorem tze4 : tzero Tryz.prog 4 = some (.bool false) := by kernel_rfl
theorem tsz5 : tsz Tryz.prog 5 = 1 := by kernel_rfl
theorem tud5 : (Tryz.prog.underlying 5).isSome = true := by kernel_rfl
theorem tun5 : Tryz.prog.underlying 5 = some (.int .u8) := by kernel_rfl
theorem tin5 : (Tryz.prog.info? 5).isSome = true := by kernel_rfl
theorem tag5 : tagg Tryz.prog 5 = false := by kernel_rfl
theorem tsl5 : selem Tryz.prog 5 = none := by kernel_rfl
theorem tby5 : tby Tryz.prog 5 = 1 := by kernel_rfl
theorem tze5 : tzero Tryz.prog 5 = some (.int .u8 0) := by kernel_rfl
theorem tsz9 : tsz Tryz.prog 9 = 1 := by kernel_rfl
theorem tud9 : (Tryz.prog.underlying 9).isSome = true := by kernel_rfl
theorem tun9 : Tryz.prog.underlying 9 = some .string := by kernel_rfl
theorem tin9 : (Tryz.prog.info? 9).isSome = true := by kernel_rfl
theorem tag9 : tagg Tryz.prog 9 = false := by kernel_rfl
theorem tsl9 : selem Tryz.prog 9 = none := by kernel_rfl
theorem tby9 : tby Tryz.prog 9 = 16 := by kernel_rfl
theorem tze9 : tzero Tryz.prog 9 = some (.string ⟨#[]⟩) := by kernel_rfl
theorem tsz12 : tsz Tryz.prog 12 = 1 := by kernel_rfl
theorem tud12 : (Tryz.prog.underlying 12).isSome = true := by kernel_rfl
theorem tun12 : Tryz.prog.underlying 12 = some (.int .u64) := by kernel_rfl
theorem tin12 : (Tryz.prog.info? 12).isSome = true := by kernel_rfl
theorem tag12 : tagg Tryz.prog 12 = false := by kernel_rfl
theorem tsl12 : selem Tryz.prog 12 = none := by kernel_rfl
theorem tby12 : tby Tryz.prog 12 = 8 := by kernel_rfl
theorem tze12 : tzero Tryz.prog 12 = some (.int .u64 0) := by kernel_rfl
theorem tsz20 : tsz Tryz.prog 20 = 1 := by kernel_rfl
theorem tud20 : (Tryz.prog.underlying 20).isSome = true := by kernel_rfl
theorem tin20 : (Tryz.prog.info? 20).isSome = true := by kernel_rfl
theorem tag20 : tagg Tryz.prog 20 = false := by kernel_rfl
theorem tsl20 : selem Tryz.prog 20 = none := by kernel_rfl
theorem tby20 : tby Tryz.prog 20 = 16 := by kernel_rfl
theorem tze20 : tzero Tryz.prog 20 = some (.nilIface) := by kernel_rfl
theorem tsz21 : tsz Tryz.prog 21 = 1 := by kernel_rfl
theorem tud21 : (Tryz.prog.underlying 21).isSome = true := by kernel_rfl
theorem tun21 : Tryz.prog.underlying 21 = some (.int .i32) := by kernel_rfl
theorem tin21 : (Tryz.prog.info? 21).isSome = true := by kernel_rfl
theorem tag21 : tagg Tryz.prog 21 = false := by kernel_rfl
theorem tsl21 : selem Tryz.prog 21 = none := by kernel_rfl
theorem tby21 : tby Tryz.prog 21 = 4 := by kernel_rfl
theorem tze21 : tzero Tryz.prog 21 = some (.int .i32 0) := by kernel_rfl
theorem tsz22 : tsz Tryz.prog 22 = 1 := by kernel_rfl
theorem tud22 : (Tryz.prog.underlying 22).isSome = true := by kernel_rfl
theorem tin22 : (Tryz.prog.info? 22).isSome = true := by kernel_rfl
theorem tag22 : tagg Tryz.prog 22 = false := by kernel_rfl
theorem tsl22 : selem Tryz.prog 22 = some 42 := by kernel_rfl
theorem tby22 : tby Tryz.prog 22 = 24 := by kernel_rfl
theorem tze22 : tzero Tryz.prog 22 = some (.slice none 0 0) := by kernel_rfl
theorem tsz28 : tsz Tryz.prog 28 = 7 := by kernel_rfl
theorem tud28 : (Tryz.prog.underlying 28).isSome = true := by kernel_rfl
theorem tin28 : (Tryz.prog.info? 28).isSome = true := by kernel_rfl
theorem tag28 : tagg Tryz.prog 28 = true := by kernel_rfl
theorem tsl28 : selem Tryz.prog 28 = none := by kernel_rfl
theorem teq28 : eqf Tryz.prog 28 = some [(0, 0), (0, 1), (0, 2), (2, 3), (1, 4), (0, 5), (0, 6)] := by kernel_rfl
theorem tby28 : tby Tryz.prog 28 = 64 := by kernel_rfl
theorem tfo28_0 : foff Tryz.prog 28 0 = some 0 := by kernel_rfl
theorem tft28_0 : ftype Tryz.prog 28 0 = some (3, 0) := by kernel_rfl
theorem tfo28_1 : foff Tryz.prog 28 1 = some 1 := by kernel_rfl
theorem tft28_1 : ftype Tryz.prog 28 1 = some (3, 1) := by kernel_rfl
theorem tfo28_2 : foff Tryz.prog 28 2 = some 2 := by kernel_rfl
theorem tft28_2 : ftype Tryz.prog 28 2 = some (3, 2) := by kernel_rfl
theorem tfo28_3 : foff Tryz.prog 28 3 = some 3 := by kernel_rfl
theorem tft28_3 : ftype Tryz.prog 28 3 = some (9, 3) := by kernel_rfl
theorem tfo28_4 : foff Tryz.prog 28 4 = some 4 := by kernel_rfl
theorem tft28_4 : ftype Tryz.prog 28 4 = some (4, 4) := by kernel_rfl
theorem tfo28_5 : foff Tryz.prog 28 5 = some 5 := by kernel_rfl
theorem tft28_5 : ftype Tryz.prog 28 5 = some (2, 5) := by kernel_rfl
theorem tfo28_6 : foff Tryz.prog 28 6 = some 6 := by kernel_rfl
theorem tft28_6 : ftype Tryz.prog 28 6 = some (3, 6) := by kernel_rfl
theorem tpl28 : splaces Tryz.prog 28 = some [(0, 1), (1, 1), (2, 1), (3, 1), (4, 1), (5, 1), (6, 1)] := by kernel_rfl
theorem tze28 : tzero Tryz.prog 28 = some (.agg #[.int .i64 0, .int .i64 0, .int .i64 0, .string ⟨#[]⟩, .bool false, .int .i64 0, .int .i64 0]) := by kernel_rfl
theorem tsz29 : tsz Tryz.prog 29 = 7 := by kernel_rfl
theorem tud29 : (Tryz.prog.underlying 29).isSome = true := by kernel_rfl
theorem tin29 : (Tryz.prog.info? 29).isSome = true := by kernel_rfl
theorem tag29 : tagg Tryz.prog 29 = true := by kernel_rfl
theorem tsl29 : selem Tryz.prog 29 = none := by kernel_rfl
theorem teq29 : eqf Tryz.prog 29 = some [(0, 0), (0, 1), (0, 2), (2, 3), (1, 4), (0, 5), (0, 6)] := by kernel_rfl
theorem tby29 : tby Tryz.prog 29 = 64 := by kernel_rfl
theorem tfo29_0 : foff Tryz.prog 29 0 = some 0 := by kernel_rfl
theorem tft29_0 : ftype Tryz.prog 29 0 = some (3, 0) := by kernel_rfl
theorem tfo29_1 : foff Tryz.prog 29 1 = some 1 := by kernel_rfl
theorem tft29_1 : ftype Tryz.prog 29 1 = some (3, 1) := by kernel_rfl
theorem tfo29_2 : foff Tryz.prog 29 2 = some 2 := by kernel_rfl
theorem tft29_2 : ftype Tryz.prog 29 2 = some (3, 2) := by kernel_rfl
theorem tfo29_3 : foff Tryz.prog 29 3 = some 3 := by kernel_rfl
theorem tft29_3 : ftype Tryz.prog 29 3 = some (9, 3) := by kernel_rfl
theorem tfo29_4 : foff Tryz.prog 29 4 = some 4 := by kernel_rfl
theorem tft29_4 : ftype Tryz.prog 29 4 = some (4, 4) := by kernel_rfl
theorem tfo29_5 : foff Tryz.prog 29 5 = some 5 := by kernel_rfl
theorem tft29_5 : ftype Tryz.prog 29 5 = some (2, 5) := by kernel_rfl
theorem tfo29_6 : foff Tryz.prog 29 6 = some 6 := by kernel_rfl
theorem tft29_6 : ftype Tryz.prog 29 6 = some (3, 6) := by kernel_rfl
theorem tpl29 : splaces Tryz.prog 29 = some [(0, 1), (1, 1), (2, 1), (3, 1), (4, 1), (5, 1), (6, 1)] := by kernel_rfl
theorem tze29 : tzero Tryz.prog 29 = some (.agg #[.int .i64 0, .int .i64 0, .int .i64 0, .string ⟨#[]⟩, .bool false, .int .i64 0, .int .i64 0]) := by kernel_rfl
theorem tsz30 : tsz Tryz.prog 30 = 1 := by kernel_rfl
theorem tud30 : (Tryz.prog.underlying 30).isSome = true := by kernel_rfl
theorem tin30 : (Tryz.prog.info? 30).isSome = true := by kernel_rfl
theorem tag30 : tagg Tryz.prog 30 = false := by kernel_rfl
theorem tsl30 : selem Tryz.prog 30 = some 53 := by kernel_rfl
theorem tby30 : tby Tryz.prog 30 = 24 := by kernel_rfl
theorem tze30 : tzero Tryz.prog 30 = some (.slice none 0 0) := by kernel_rfl
theorem tsz31 : tsz Tryz.prog 31 = 1 := by kernel_rfl
theorem tud31 : (Tryz.prog.underlying 31).isSome = true := by kernel_rfl
theorem tun31 : Tryz.prog.underlying 31 = some (.int .i64) := by kernel_rfl
theorem tin31 : (Tryz.prog.info? 31).isSome = true := by kernel_rfl
theorem tag31 : tagg Tryz.prog 31 = false := by kernel_rfl
theorem tsl31 : selem Tryz.prog 31 = none := by kernel_rfl
theorem tby31 : tby Tryz.prog 31 = 8 := by kernel_rfl
theorem tze31 : tzero Tryz.prog 31 = some (.int .i64 0) := by kernel_rfl
theorem tsz35 : tsz Tryz.prog 35 = 1 := by kernel_rfl
theorem tud35 : (Tryz.prog.underlying 35).isSome = true := by kernel_rfl
theorem tin35 : (Tryz.prog.info? 35).isSome = true := by kernel_rfl
theorem tag35 : tagg Tryz.prog 35 = false := by kernel_rfl
theorem tsl35 : selem Tryz.prog 35 = some 3 := by kernel_rfl
theorem tby35 : tby Tryz.prog 35 = 24 := by kernel_rfl
theorem tze35 : tzero Tryz.prog 35 = some (.slice none 0 0) := by kernel_rfl
theorem tsz37 : tsz Tryz.prog 37 = 2 := by kernel_rfl
theorem tud37 : (Tryz.prog.underlying 37).isSome = true := by kernel_rfl
theorem tin37 : (Tryz.prog.info? 37).isSome = true := by kernel_rfl
theorem tag37 : tagg Tryz.prog 37 = true := by kernel_rfl
theorem tsl37 : selem Tryz.prog 37 = none := by kernel_rfl
theorem teq37 : eqf Tryz.prog 37 = some [(0, 0), (0, 1)] := by kernel_rfl
theorem tby37 : tby Tryz.prog 37 = 16 := by kernel_rfl
theorem tfo37_0 : foff Tryz.prog 37 0 = some 0 := by kernel_rfl
theorem tft37_0 : ftype Tryz.prog 37 0 = some (3, 0) := by kernel_rfl
theorem tfo37_1 : foff Tryz.prog 37 1 = some 1 := by kernel_rfl
theorem tft37_1 : ftype Tryz.prog 37 1 = some (3, 1) := by kernel_rfl
theorem tpl37 : splaces Tryz.prog 37 = some [(0, 1), (1, 1)] := by kernel_rfl
theorem tze37 : tzero Tryz.prog 37 = some (.agg #[.int .i64 0, .int .i64 0]) := by kernel_rfl
theorem tsz38 : tsz Tryz.prog 38 = 2 := by kernel_rfl
theorem tud38 : (Tryz.prog.underlying 38).isSome = true := by kernel_rfl
theorem tin38 : (Tryz.prog.info? 38).isSome = true := by kernel_rfl
theorem tag38 : tagg Tryz.prog 38 = true := by kernel_rfl
theorem tsl38 : selem Tryz.prog 38 = none := by kernel_rfl
theorem teq38 : eqf Tryz.prog 38 = some [(0, 0), (0, 1)] := by kernel_rfl
theorem tby38 : tby Tryz.prog 38 = 16 := by kernel_rfl
theorem tfo38_0 : foff Tryz.prog 38 0 = some 0 := by kernel_rfl
theorem tft38_0 : ftype Tryz.prog 38 0 = some (3, 0) := by kernel_rfl
theorem tfo38_1 : foff Tryz.prog 38 1 = some 1 := by kernel_rfl
theorem tft38_1 : ftype Tryz.prog 38 1 = some (3, 1) := by kernel_rfl
theorem tpl38 : splaces Tryz.prog 38 = some [(0, 1), (1, 1)] := by kernel_rfl
theorem tze38 : tzero Tryz.prog 38 = some (.agg #[.int .i64 0, .int .i64 0]) := by kernel_rfl
theorem tsz39 : tsz Tryz.prog 39 = 1 := by kernel_rfl
theorem tud39 : (Tryz.prog.underlying 39).isSome = true := by kernel_rfl
theorem tin39 : (Tryz.prog.info? 39).isSome = true := by kernel_rfl
theorem tag39 : tagg Tryz.prog 39 = false := by kernel_rfl
theorem tsl39 : selem Tryz.prog 39 = some 38 := by kernel_rfl
theorem tby39 : tby Tryz.prog 39 = 24 := by kernel_rfl
theorem tze39 : tzero Tryz.prog 39 = some (.slice none 0 0) := by kernel_rfl
theorem tsz40 : tsz Tryz.prog 40 = 1 := by kernel_rfl
theorem tud40 : (Tryz.prog.underlying 40).isSome = true := by kernel_rfl
theorem tin40 : (Tryz.prog.info? 40).isSome = true := by kernel_rfl
theorem tag40 : tagg Tryz.prog 40 = false := by kernel_rfl
theorem tsl40 : selem Tryz.prog 40 = none := by kernel_rfl
theorem tby40 : tby Tryz.prog 40 = 8 := by kernel_rfl
theorem tze40 : tzero Tryz.prog 40 = some (.float .f64 0) := by kernel_rfl
theorem tsz41 : tsz Tryz.prog 41 = 3 := by kernel_rfl
theorem tud41 : (Tryz.prog.underlying 41).isSome = true := by kernel_rfl
theorem tin41 : (Tryz.prog.info? 41).isSome = true := by kernel_rfl
theorem tag41 : tagg Tryz.prog 41 = true := by kernel_rfl
theorem tsl41 : selem Tryz.prog 41 = none := by kernel_rfl
theorem tby41 : tby Tryz.prog 41 = 24 := by kernel_rfl
theorem tfo41_0 : foff Tryz.prog 41 0 = some 0 := by kernel_rfl
theorem tft41_0 : ftype Tryz.prog 41 0 = some (3, 0) := by kernel_rfl
theorem tfo41_1 : foff Tryz.prog 41 1 = some 1 := by kernel_rfl
theorem tft41_1 : ftype Tryz.prog 41 1 = some (40, 1) := by kernel_rfl
theorem tfo41_2 : foff Tryz.prog 41 2 = some 2 := by kernel_rfl
theorem tft41_2 : ftype Tryz.prog 41 2 = some (40, 2) := by kernel_rfl
theorem tpl41 : splaces Tryz.prog 41 = some [(0, 1), (1, 1), (2, 1)] := by kernel_rfl
theorem tze41 : tzero Tryz.prog 41 = some (.agg #[.int .i64 0, .float .f64 0, .float .f64 0]) := by kernel_rfl
theorem tsz42 : tsz Tryz.prog 42 = 3 := by kernel_rfl
theorem tud42 : (Tryz.prog.underlying 42).isSome = true := by kernel_rfl
theorem tin42 : (Tryz.prog.info? 42).isSome = true := by kernel_rfl
theorem tag42 : tagg Tryz.prog 42 = true := by kernel_rfl
theorem tsl42 : selem Tryz.prog 42 = none := by kernel_rfl
theorem tby42 : tby Tryz.prog 42 = 24 := by kernel_rfl
theorem tfo42_0 : foff Tryz.prog 42 0 = some 0 := by kernel_rfl
theorem tft42_0 : ftype Tryz.prog 42 0 = some (3, 0) := by kernel_rfl
theorem tfo42_1 : foff Tryz.prog 42 1 = some 1 := by kernel_rfl
theorem tft42_1 : ftype Tryz.prog 42 1 = some (40, 1) := by kernel_rfl
theorem tfo42_2 : foff Tryz.prog 42 2 = some 2 := by kernel_rfl
theorem tft42_2 : ftype Tryz.prog 42 2 = some (40, 2) := by kernel_rfl
theorem tpl42 : splaces Tryz.prog 42 = some [(0, 1), (1, 1), (2, 1)] := by kernel_rfl
theorem tze42 : tzero Tryz.prog 42 = some (.agg #[.int .i64 0, .float .f64 0, .float .f64 0]) := by kernel_rfl
theorem tsz49 : tsz Tryz.prog 49 = 1 := by kernel_rfl
theorem tud49 : (Tryz.prog.underlying 49).isSome = true := by kernel_rfl
theorem tin49 : (Tryz.prog.info? 49).isSome = true := by kernel_rfl
theorem tag49 : tagg Tryz.prog 49 = false := by kernel_rfl
theorem tsl49 : selem Tryz.prog 49 = some 40 := by kernel_rfl
theorem tby49 : tby Tryz.prog 49 = 24 := by kernel_rfl
theorem tze49 : tzero Tryz.prog 49 = some (.slice none 0 0) := by kernel_rfl
theorem tsz52 : tsz Tryz.prog 52 = 13 := by kernel_rfl
theorem tud52 : (Tryz.prog.underlying 52).isSome = true := by kernel_rfl
theorem tin52 : (Tryz.prog.info? 52).isSome = true := by kernel_rfl
theorem tag52 : tagg Tryz.prog 52 = true := by kernel_rfl
theorem tsl52 : selem Tryz.prog 52 = none := by kernel_rfl
theorem tby52 : tby Tryz.prog 52 = 128 := by kernel_rfl
theorem tfo52_0 : foff Tryz.prog 52 0 = some 0 := by kernel_rfl
theorem tft52_0 : ftype Tryz.prog 52 0 = some (3, 0) := by kernel_rfl
theorem tfo52_1 : foff Tryz.prog 52 1 = some 1 := by kernel_rfl
theorem tft52_1 : ftype Tryz.prog 52 1 = some (29, 1) := by kernel_rfl
theorem tfo52_2 : foff Tryz.prog 52 2 = some 8 := by kernel_rfl
theorem tft52_2 : ftype Tryz.prog 52 2 = some (35, 8) := by kernel_rfl
theorem tfo52_3 : foff Tryz.prog 52 3 = some 9 := by kernel_rfl
theorem tft52_3 : ftype Tryz.prog 52 3 = some (3, 9) := by kernel_rfl
theorem tfo52_4 : foff Tryz.prog 52 4 = some 10 := by kernel_rfl
theorem tft52_4 : ftype Tryz.prog 52 4 = some (2, 10) := by kernel_rfl
theorem tfo52_5 : foff Tryz.prog 52 5 = some 11 := by kernel_rfl
theorem tft52_5 : ftype Tryz.prog 52 5 = some (2, 11) := by kernel_rfl
theorem tfo52_6 : foff Tryz.prog 52 6 = some 12 := by kernel_rfl
theorem tft52_6 : ftype Tryz.prog 52 6 = some (2, 12) := by kernel_rfl
theorem tpl52 : splaces Tryz.prog 52 = some [(0, 1), (1, 7), (8, 1), (9, 1), (10, 1), (11, 1), (12, 1)] := by kernel_rfl
theorem tze52 : tzero Tryz.prog 52 = some (.agg #[.int .i64 0, .int .i64 0, .int .i64 0, .int .i64 0, .string ⟨#[]⟩, .bool false, .int .i64 0, .int .i64 0, .slice none 0 0, .int .i64 0, .int .i64 0, .int .i64 0, .int .i64 0]) := by kernel_rfl
theorem tsz53 : tsz Tryz.prog 53 = 13 := by kernel_rfl
theorem tud53 : (Tryz.prog.underlying 53).isSome = true := by kernel_rfl
theorem tin53 : (Tryz.prog.info? 53).isSome = true := by kernel_rfl
theorem tag53 : tagg Tryz.prog 53 = true := by kernel_rfl
theorem tsl53 : selem Tryz.prog 53 = none := by kernel_rfl
theorem tby53 : tby Tryz.prog 53 = 128 := by kernel_rfl
theorem tfo53_0 : foff Tryz.prog 53 0 = some 0 := by kernel_rfl
theorem tft53_0 : ftype Tryz.prog 53 0 = some (3, 0) := by kernel_rfl
theorem tfo53_1 : foff Tryz.prog 53 1 = some 1 := by kernel_rfl
theorem tft53_1 : ftype Tryz.prog 53 1 = some (29, 1) := by kernel_rfl
theorem tfo53_2 : foff Tryz.prog 53 2 = some 8 := by kernel_rfl
theorem tft53_2 : ftype Tryz.prog 53 2 = some (35, 8) := by kernel_rfl
theorem tfo53_3 : foff Tryz.prog 53 3 = some 9 := by kernel_rfl
theorem tft53_3 : ftype Tryz.prog 53 3 = some (3, 9) := by kernel_rfl
theorem tfo53_4 : foff Tryz.prog 53 4 = some 10 := by kernel_rfl
theorem tft53_4 : ftype Tryz.prog 53 4 = some (2, 10) := by kernel_rfl
theorem tfo53_5 : foff Tryz.prog 53 5 = some 11 := by kernel_rfl
theorem tft53_5 : ftype Tryz.prog 53 5 = some (2, 11) := by kernel_rfl
theorem tfo53_6 : foff Tryz.prog 53 6 = some 12 := by kernel_rfl
theorem tft53_6 : ftype Tryz.prog 53 6 = some (2, 12) := by kernel_rfl
theorem tpl53 : splaces Tryz.prog 53 = some [(0, 1), (1, 7), (8, 1), (9, 1), (10, 1), (11, 1), (12, 1)] := by kernel_rfl
theorem tze53 : tzero Tryz.prog 53 = some (.agg #[.int .i64 0, .int .i64 0, .int .i64 0, .int .i64 0, .string ⟨#[]⟩, .bool false, .int .i64 0, .int .i64 0, .slice none 0 0, .int .i64 0, .int .i64 0, .int .i64 0, .int .i64 0]) := by kernel_rfl
theorem tsz61 : tsz Tryz.prog 61 = 1 := by kernel_rfl
theorem tud61 : (Tryz.prog.underlying 61).isSome = true := by kernel_rfl
theorem tin61 : (Tryz.prog.info? 61).isSome = true := by kernel_rfl
theorem tag61 : tagg Tryz.prog 61 = false := by kernel_rfl
theorem tsl61 : selem Tryz.prog 61 = none := by kernel_rfl
theorem tby61 : tby Tryz.prog 61 = 8 := by kernel_rfl
theorem tze61 : tzero Tryz.prog 61 = some (.map none) := by kernel_rfl
theorem tsz62 : tsz Tryz.prog 62 = 1 := by kernel_rfl
theorem tud62 : (Tryz.prog.underlying 62).isSome = true := by kernel_rfl
theorem tin62 : (Tryz.prog.info? 62).isSome = true := by kernel_rfl
theorem tag62 : tagg Tryz.prog 62 = false := by kernel_rfl
theorem tsl62 : selem Tryz.prog 62 = some 68 := by kernel_rfl
theorem tby62 : tby Tryz.prog 62 = 24 := by kernel_rfl
theorem tze62 : tzero Tryz.prog 62 = some (.slice none 0 0) := by kernel_rfl
theorem tsz67 : tsz Tryz.prog 67 = 2 := by kernel_rfl
theorem tud67 : (Tryz.prog.underlying 67).isSome = true := by kernel_rfl
theorem tin67 : (Tryz.prog.info? 67).isSome = true := by kernel_rfl
theorem tag67 : tagg Tryz.prog 67 = true := by kernel_rfl
theorem tsl67 : selem Tryz.prog 67 = none := by kernel_rfl
theorem teq67 : eqf Tryz.prog 67 = some [(0, 0), (0, 1)] := by kernel_rfl
theorem tby67 : tby Tryz.prog 67 = 16 := by kernel_rfl
theorem tfo67_0 : foff Tryz.prog 67 0 = some 0 := by kernel_rfl
theorem tft67_0 : ftype Tryz.prog 67 0 = some (3, 0) := by kernel_rfl
theorem tfo67_1 : foff Tryz.prog 67 1 = some 1 := by kernel_rfl
theorem tft67_1 : ftype Tryz.prog 67 1 = some (3, 1) := by kernel_rfl
theorem tpl67 : splaces Tryz.prog 67 = some [(0, 1), (1, 1)] := by kernel_rfl
theorem tze67 : tzero Tryz.prog 67 = some (.agg #[.int .i64 0, .int .i64 0]) := by kernel_rfl
theorem tsz68 : tsz Tryz.prog 68 = 2 := by kernel_rfl
theorem tud68 : (Tryz.prog.underlying 68).isSome = true := by kernel_rfl
theorem tin68 : (Tryz.prog.info? 68).isSome = true := by kernel_rfl
theorem tag68 : tagg Tryz.prog 68 = true := by kernel_rfl
theorem tsl68 : selem Tryz.prog 68 = none := by kernel_rfl
theorem teq68 : eqf Tryz.prog 68 = some [(0, 0), (0, 1)] := by kernel_rfl
theorem tby68 : tby Tryz.prog 68 = 16 := by kernel_rfl
theorem tfo68_0 : foff Tryz.prog 68 0 = some 0 := by kernel_rfl
theorem tft68_0 : ftype Tryz.prog 68 0 = some (3, 0) := by kernel_rfl
theorem tfo68_1 : foff Tryz.prog 68 1 = some 1 := by kernel_rfl
theorem tft68_1 : ftype Tryz.prog 68 1 = some (3, 1) := by kernel_rfl
theorem tpl68 : splaces Tryz.prog 68 = some [(0, 1), (1, 1)] := by kernel_rfl
theorem tze68 : tzero Tryz.prog 68 = some (.agg #[.int .i64 0, .int .i64 0]) := by kernel_rfl
theorem tsz75 : tsz Tryz.prog 75 = 1 := by kernel_rfl
theorem tud75 : (Tryz.prog.underlying 75).isSome = true := by kernel_rfl
theorem tun75 : Tryz.prog.underlying 75 = some (.int .u64) := by kernel_rfl
theorem tin75 : (Tryz.prog.info? 75).isSome = true := by kernel_rfl
theorem tag75 : tagg Tryz.prog 75 = false := by kernel_rfl
theorem tsl75 : selem Tryz.prog 75 = none := by kernel_rfl
theorem tby75 : tby Tryz.prog 75 = 8 := by kernel_rfl
theorem tze75 : tzero Tryz.prog 75 = some (.int .u64 0) := by kernel_rfl
theorem tsz94 : tsz Tryz.prog 94 = 1 := by kernel_rfl
theorem tud94 : (Tryz.prog.underlying 94).isSome = true := by kernel_rfl
theorem tun94 : Tryz.prog.underlying 94 = some (.int .u64) := by kernel_rfl
theorem tin94 : (Tryz.prog.info? 94).isSome = true := by kernel_rfl
theorem tag94 : tagg Tryz.prog 94 = false := by kernel_rfl
theorem tsl94 : selem Tryz.prog 94 = none := by kernel_rfl
theorem tby94 : tby Tryz.prog 94 = 8 := by kernel_rfl
theorem tze94 : tzero Tryz.prog 94 = some (.int .u64 0) := by kernel_rfl
theorem tsz102 : tsz Tryz.prog 102 = 1 := by kernel_rfl
theorem tud102 : (Tryz.prog.underlying 102).isSome = true := by kernel_rfl
theorem tun102 : Tryz.prog.underlying 102 = some (.int .i64) := by kernel_rfl
theorem tin102 : (Tryz.prog.info? 102).isSome = true := by kernel_rfl
theorem tag102 : tagg Tryz.prog 102 = false := by kernel_rfl
theorem tsl102 : selem Tryz.prog 102 = none := by kernel_rfl
theorem tby102 : tby Tryz.prog 102 = 8 := by kernel_rfl
theorem tze102 : tzero Tryz.prog 102 = some (.int .i64 0) := by kernel_rfl
theorem tsz109 : tsz Tryz.prog 109 = 1 := by kernel_rfl
theorem tud109 : (Tryz.prog.underlying 109).isSome = true := by kernel_rfl
theorem tun109 : Tryz.prog.underlying 109 = some (.int .u32) := by kernel_rfl
theorem tin109 : (Tryz.prog.info? 109).isSome = true := by kernel_rfl
theorem tag109 : tagg Tryz.prog 109 = false := by kernel_rfl
theorem tsl109 : selem Tryz.prog 109 = none := by kernel_rfl
theorem tby109 : tby Tryz.prog 109 = 4 := by kernel_rfl
theorem tze109 : tzero Tryz.prog 109 = some (.int .u32 0) := by kernel_rfl
theorem tsz118 : tsz Tryz.prog 118 = 1 := by kernel_rfl
theorem tud118 : (Tryz.prog.underlying 118).isSome = true := by kernel_rfl
theorem tun118 : Tryz.prog.underlying 118 = some (.int .u64) := by kernel_rfl
theorem tin118 : (Tryz.prog.info? 118).isSome = true := by kernel_rfl
theorem tag118 : tagg Tryz.prog 118 = false := by kernel_rfl
theorem tsl118 : selem Tryz.prog 118 = none := by kernel_rfl
theorem tby118 : tby Tryz.prog 118 = 8 := by kernel_rfl
theorem tze118 : tzero Tryz.prog 118 = some (.int .u64 0) := by kernel_rfl
theorem tsz122 : tsz Tryz.prog 122 = 1 := by kernel_rfl
theorem tud122 : (Tryz.prog.underlying 122).isSome = true := by kernel_rfl
theorem tin122 : (Tryz.prog.info? 122).isSome = true := by kernel_rfl
theorem tag122 : tagg Tryz.prog 122 = false := by kernel_rfl
theorem tsl122 : selem Tryz.prog 122 = none := by kernel_rfl
theorem tby122 : tby Tryz.prog 122 = 8 := by kernel_rfl
theorem tze122 : tzero Tryz.prog 122 = some (.pointer none) := by kernel_rfl
theorem tsz128 : tsz Tryz.prog 128 = 1 := by kernel_rfl
theorem tud128 : (Tryz.prog.underlying 128).isSome = true := by kernel_rfl
theorem tin128 : (Tryz.prog.info? 128).isSome = true := by kernel_rfl
theorem tag128 : tagg Tryz.prog 128 = false := by kernel_rfl
theorem tsl128 : selem Tryz.prog 128 = none := by kernel_rfl
theorem tby128 : tby Tryz.prog 128 = 8 := by kernel_rfl
theorem tze128 : tzero Tryz.prog 128 = some (.pointer none) := by kernel_rfl
theorem tsz141 : tsz Tryz.prog 141 = 1 := by kernel_rfl
theorem tud141 : (Tryz.prog.underlying 141).isSome = true := by kernel_rfl
theorem tin141 : (Tryz.prog.info? 141).isSome = true := by kernel_rfl
theorem tag141 : tagg Tryz.prog 141 = false := by kernel_rfl
theorem tsl141 : selem Tryz.prog 141 = none := by kernel_rfl
theorem tby141 : tby Tryz.prog 141 = 8 := by kernel_rfl
theorem tze141 : tzero Tryz.prog 141 = some (.pointer none) := by kernel_rfl
theorem tsz146 : tsz Tryz.prog 146 = 1 := by kernel_rfl
theorem tud146 : (Tryz.prog.underlying 146).isSome = true := by kernel_rfl
theorem tin146 : (Tryz.prog.info? 146).isSome = true := by kernel_rfl
theorem tag146 : tagg Tryz.prog 146 = false := by kernel_rfl
theorem tsl146 : selem Tryz.prog 146 = none := by kernel_rfl
theorem tby146 : tby Tryz.prog 146 = 8 := by kernel_rfl
theorem tze146 : tzero Tryz.prog 146 = some (.pointer none) := by kernel_rfl
attribute [go_sem] tsz2 tud2 tun2 tin2 tag2 tsl2 tby2 tze2 tsz3 tud3 tun3 tin3 tag3 tsl3 tby3 tze3 tsz4 tud4 tun4 tin4 tag4 tsl4 tby4 tze4 tsz5 tud5 tun5 tin5 tag5 tsl5 tby5 tze5 tsz9 tud9 tun9 tin9 tag9 tsl9 tby9 tze9 tsz12 tud12 tun12 tin12 tag12 tsl12 tby12 tze12 tsz20 tud20 tin20 tag20 tsl20 tby20 tze20 tsz21 tud21 tun21 tin21 tag21 tsl21 tby21 tze21 tsz22 tud22 tin22 tag22 tsl22 tby22 tze22 tsz28 tud28 tin28 tag28 tsl28 teq28 tby28 tfo28_0 tft28_0 tfo28_1 tft28_1 tfo28_2 tft28_2 tfo28_3 tft28_3 tfo28_4 tft28_4 tfo28_5 tft28_5 tfo28_6 tft28_6 tpl28 tze28 tsz29 tud29 tin29 tag29 tsl29 teq29 tby29 tfo29_0 tft29_0 tfo29_1 tft29_1 tfo29_2 tft29_2 tfo29_3 tft29_3 tfo29_4 tft29_4 tfo29_5 tft29_5 tfo29_6 tft29_6 tpl29 tze29 tsz30 tud30 tin30 tag30 tsl30 tby30 tze30 tsz31 tud31 tun31 tin31 tag31 tsl31 tby31 tze31 tsz35 tud35 tin35 tag35 tsl35 tby35 tze35 tsz37 tud37 tin37 tag37 tsl37 teq37 tby37 tfo37_0 tft37_0 tfo37_1 tft37_1 tpl37 tze37 tsz38 tud38 tin38 tag38 tsl38 teq38 tby38 tfo38_0 tft38_0 tfo38_1 tft38_1 tpl38 tze38 tsz39 tud39 tin39 tag39 tsl39 tby39 tze39 tsz40 tud40 tin40 tag40 tsl40 tby40 tze40 tsz41 tud41 tin41 tag41 tsl41 tby41 tfo41_0 tft41_0 tfo41_1 tft41_1 tfo41_2 tft41_2 tpl41 tze41 tsz42 tud42 tin42 tag42 tsl42 tby42 tfo42_0 tft42_0 tfo42_1 tft42_1 tfo42_2 tft42_2 tpl42 tze42 tsz49 tud49 tin49 tag49 tsl49 tby49 tze49 tsz52 tud52 tin52 tag52 tsl52 tby52 tfo52_0 tft52_0 tfo52_1 tft52_1 tfo52_2 tft52_2 tfo52_3 tft52_3 tfo52_4 tft52_4 tfo52_5 tft52_5 tfo52_6 tft52_6 tpl52 tze52 tsz53 tud53 tin53 tag53 tsl53 tby53 tfo53_0 tft53_0 tfo53_1 tft53_1 tfo53_2 tft53_2 tfo53_3 tft53_3 tfo53_4 tft53_4 tfo53_5 tft53_5 tfo53_6 tft53_6 tpl53 tze53 tsz61 tud61 tin61 tag61 tsl61 tby61 tze61 tsz62 tud62 tin62 tag62 tsl62 tby62 tze62 tsz67 tud67 tin67 tag67 tsl67 teq67 tby67 tfo67_0 tft67_0 tfo67_1 tft67_1 tpl67 tze67 tsz68 tud68 tin68 tag68 tsl68 teq68 tby68 tfo68_0 tft68_0 tfo68_1 tft68_1 tpl68 tze68 tsz75 tud75 tun75 tin75 tag75 tsl75 tby75 tze75 tsz94 tud94 tun94 tin94 tag94 tsl94 tby94 tze94 tsz102 tud102 tun102 tin102 tag102 tsl102 tby102 tze102 tsz109 tud109 tun109 tin109 tag109 tsl109 tby109 tze109 tsz118 tud118 tun118 tin118 tag118 tsl118 tby118 tze118 tsz122 tud122 tin122 tag122 tsl122 tby122 tze122 tsz128 tud128 tin128 tag128 tsl128 tby128 tze128 tsz141 tud141 tin141 tag141 tsl141 tby141 tze141 tsz146 tud146 tin146 tag146 tsl146 tby146 tze146
end Go.Proofs.YtnkcenafpigmbaaGreat.Ab
