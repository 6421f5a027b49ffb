/- What the abstract layer asks of the types. -/
import Derived.Test.YtfcojlagmmgagaaDoorProg
import Derived.Test.YtfcojlagmmgagaaDoorAb3
import Derived.ProofKit
namespace Go.Proofs.YtfcojlagmmgagaaDoor.Ab
theorem tsz2 : tsz Tryd.prog 2 = 1 := by kernel_rfl
theorem tud2 : (Tryd.prog.underlying 2).isSome = true := by kernel_rfl
theorem tun2 : Tryd.prog.underlying 2 = some (.int .i64) := by kernel_rfl
theorem tin2 : (Tryd.prog.info? 2).isSome = true := by kernel_rfl
theorem tag2 : tagg Tryd.prog 2 = false := by kernel_rfl
theorem tsl2 : selem Tryd.prog 2 = none := by kernel_rfl
theorem tby2 : tby Tryd.prog 2 = 8 := by kernel_rfl
theorem tze2 : tzero Tryd.prog 2 = some (.int .i64 0) := by kernel_rfl
theorem tsz3 : tsz Tryd.prog 3 = 1 := by kernel_rfl
theorem tud3 : (Tryd.prog.underlying 3).isSome = true := by kernel_rfl
theorem tun3 : Tryd.prog.underlying 3 = some (.int .i64) := by kernel_rfl
theorem tin3 : (Tryd.prog.info? 3).isSome = true := by kernel_rfl
theorem tag3 : tagg Tryd.prog 3 = false := by kernel_rfl
theorem tsl3 : selem Tryd.prog 3 = none := by kernel_rfl
theorem tby3 : tby Tryd.prog 3 = 8 := by kernel_rfl
theorem tze3 : tzero Tryd.prog 3 = some (.int .i64 0) := by kernel_rfl
theorem tsz4 : tsz Tryd.prog 4 = 1 := by kernel_rfl
theorem tud4 : (Tryd.prog.underlying 4).isSome = true := by kernel_rfl
theorem tun4 : Tryd.prog.underlying 4 = some .bool := by kernel_rfl
theorem tin4 : (Tryd.prog.info? 4).isSome = true := by kernel_rfl
theorem tag4 : tagg Tryd.prog 4 = false := by kernel_rfl
theorem tsl4 : selem Tryd.prog 4 = none := by kernel_rfl
theorem tby4 : tby Tryd.prog 4 = 1 := by kernel_rfl
theorem tze4 : tzero Tryd.prog 4 = some (.bool false) := by kernel_rfl
theorem tsz5 : tsz Tryd.prog 5 = 1 := by kernel_rfl
theorem tud5 : (Tryd.prog.underlying 5).isSome = true := by kernel_rfl
theorem tun5 : Tryd.prog.underlying 5 = some (.int .u8) := by kernel_rfl
theorem tin5 : (Tryd.prog.info? 5).isSome = true := by kernel_rfl
theorem tag5 : tagg Tryd.prog 5 = false := by kernel_rfl
theorem tsl5 : selem Tryd.prog 5 = none := by kernel_rfl
theorem tby5 : tby Tryd.prog 5 = 1 := by kernel_rfl
theorem tze5 : tzero Tryd.prog 5 = some (.int .u8 0) := by kernel_rfl
theorem tsz9 : tsz Tryd.prog 9 = 1 := by kernel_rfl
theorem tud9 : (Tryd.prog.underlying 9).isSome = true := by kernel_rfl
theorem tun9 : Tryd.prog.underlying 9 = some .string := by kernel_rfl
theorem tin9 : (Tryd.prog.info? 9).isSome = true := by kernel_rfl
theorem tag9 : tagg Tryd.prog 9 = false := by kernel_rfl
theorem tsl9 : selem Tryd.prog 9 = none := by kernel_rfl
theorem tby9 : tby Tryd.prog 9 = 16 := by kernel_rfl
theorem tze9 : tzero Tryd.prog 9 = some (.string ⟨#[]⟩) := by kernel_rfl
theorem tsz12 : tsz Tryd.prog 12 = 1 := by kernel_rfl
theorem tud12 : (Tryd.prog.underlying 12).isSome = true := by kernel_rfl
theorem tun12 : Tryd.prog.underlying 12 = some (.int .u64) := by kernel_rfl
theorem tin12 : (Tryd.prog.info? 12).isSome = true := by kernel_rfl
theorem tag12 : tagg Tryd.prog 12 = false := by kernel_rfl
theorem tsl12 : selem Tryd.prog 12 = none := by kernel_rfl
theorem tby12 : tby Tryd.prog 12 = 8 := by kernel_rfl
theorem tze12 : tzero Tryd.prog 12 = some (.int .u64 0) := by kernel_rfl
theorem tsz20 : tsz Tryd.prog 20 = 1 := by kernel_rfl
theorem tud20 : (Tryd.prog.underlying 20).isSome = true := by kernel_rfl
theorem tin20 : (Tryd.prog.info? 20).isSome = true := by kernel_rfl
theorem tag20 : tagg Tryd.prog 20 = false := by kernel_rfl
theorem tsl20 : selem Tryd.prog 20 = none := by kernel_rfl
theorem tby20 : tby Tryd.prog 20 = 16 := by kernel_rfl
theorem tze20 : tzero Tryd.prog 20 = some (.nilIface) := by kernel_rfl
theorem tsz21 : tsz Tryd.prog 21 = 1 := by kernel_rfl
theorem tud21 : (Tryd.prog.underlying 21).isSome = true := by kernel_rfl
theorem tun21 : Tryd.prog.underlying 21 = some (.int .i32) := by kernel_rfl
theorem tin21 : (Tryd.prog.info? 21).isSome = true := by kernel_rfl
theorem tag21 : tagg Tryd.prog 21 = false := by kernel_rfl
theorem tsl21 : selem Tryd.prog 21 = none := by kernel_rfl
theorem tby21 : tby Tryd.prog 21 = 4 := by kernel_rfl
theorem tze21 : tzero Tryd.prog 21 = some (.int .i32 0) := by kernel_rfl
theorem tsz22 : tsz Tryd.prog 22 = 1 := by kernel_rfl
theorem tud22 : (Tryd.prog.underlying 22).isSome = true := by kernel_rfl
theorem tin22 : (Tryd.prog.info? 22).isSome = true := by kernel_rfl
theorem tag22 : tagg Tryd.prog 22 = false := by kernel_rfl
theorem tsl22 : selem Tryd.prog 22 = some 36 := by kernel_rfl
theorem tby22 : tby Tryd.prog 22 = 24 := by kernel_rfl
theorem tze22 : tzero Tryd.prog 22 = some (.slice none 0 0) := by kernel_rfl
theorem tsz23 : tsz Tryd.prog 23 = 1 := by kernel_rfl
theorem tud23 : (Tryd.prog.underlying 23).isSome = true := by kernel_rfl
theorem tin23 : (Tryd.prog.info? 23).isSome = true := by kernel_rfl
theorem tag23 : tagg Tryd.prog 23 = false := by kernel_rfl
theorem tsl23 : selem Tryd.prog 23 = some 3 := by kernel_rfl
theorem tby23 : tby Tryd.prog 23 = 24 := by kernel_rfl
theorem tze23 : tzero Tryd.prog 23 = some (.slice none 0 0) := by kernel_rfl
theorem tsz24 : tsz Tryd.prog 24 = 7 := by kernel_rfl
theorem tud24 : (Tryd.prog.underlying 24).isSome = true := by kernel_rfl
theorem tin24 : (Tryd.prog.info? 24).isSome = true := by kernel_rfl
theorem tag24 : tagg Tryd.prog 24 = true := by kernel_rfl
theorem tsl24 : selem Tryd.prog 24 = none := by kernel_rfl
theorem teq24 : eqf Tryd.prog 24 = some [(0, 0), (0, 1), (0, 2), (2, 3), (1, 4), (0, 5), (0, 6)] := by kernel_rfl
theorem tby24 : tby Tryd.prog 24 = 64 := by kernel_rfl
theorem tfo24_0 : foff Tryd.prog 24 0 = some 0 := by kernel_rfl
theorem tft24_0 : ftype Tryd.prog 24 0 = some (3, 0) := by kernel_rfl
theorem tfo24_1 : foff Tryd.prog 24 1 = some 1 := by kernel_rfl
theorem tft24_1 : ftype Tryd.prog 24 1 = some (3, 1) := by kernel_rfl
theorem tfo24_2 : foff Tryd.prog 24 2 = some 2 := by kernel_rfl
theorem tft24_2 : ftype Tryd.prog 24 2 = some (3, 2) := by kernel_rfl
theorem tfo24_3 : foff Tryd.prog 24 3 = some 3 := by kernel_rfl
theorem tft24_3 : ftype Tryd.prog 24 3 = some (9, 3) := by kernel_rfl
theorem tfo24_4 : foff Tryd.prog 24 4 = some 4 := by kernel_rfl
theorem tft24_4 : ftype Tryd.prog 24 4 = some (4, 4) := by kernel_rfl
theorem tfo24_5 : foff Tryd.prog 24 5 = some 5 := by kernel_rfl
theorem tft24_5 : ftype Tryd.prog 24 5 = some (2, 5) := by kernel_rfl
theorem tfo24_6 : foff Tryd.prog 24 6 = some 6 := by kernel_rfl
theorem tft24_6 : ftype Tryd.prog 24 6 = some (3, 6) := by kernel_rfl
theorem tpl24 : splaces Tryd.prog 24 = some [(0, 1), (1, 1), (2, 1), (3, 1), (4, 1), (5, 1), (6, 1)] := by kernel_rfl
theorem tze24 : tzero Tryd.prog 24 = some (.agg #[.int .i64 0, .int .i64 0, .int .i64 0, .string ⟨#[]⟩, .bool false, .int .i64 0, .int .i64 0]) := by kernel_rfl
theorem tsz25 : tsz Tryd.prog 25 = 7 := by kernel_rfl
theorem tud25 : (Tryd.prog.underlying 25).isSome = true := by kernel_rfl
theorem tin25 : (Tryd.prog.info? 25).isSome = true := by kernel_rfl
theorem tag25 : tagg Tryd.prog 25 = true := by kernel_rfl
theorem tsl25 : selem Tryd.prog 25 = none := by kernel_rfl
theorem teq25 : eqf Tryd.prog 25 = some [(0, 0), (0, 1), (0, 2), (2, 3), (1, 4), (0, 5), (0, 6)] := by kernel_rfl
theorem tby25 : tby Tryd.prog 25 = 64 := by kernel_rfl
theorem tfo25_0 : foff Tryd.prog 25 0 = some 0 := by kernel_rfl
theorem tft25_0 : ftype Tryd.prog 25 0 = some (3, 0) := by kernel_rfl
theorem tfo25_1 : foff Tryd.prog 25 1 = some 1 := by kernel_rfl
theorem tft25_1 : ftype Tryd.prog 25 1 = some (3, 1) := by kernel_rfl
theorem tfo25_2 : foff Tryd.prog 25 2 = some 2 := by kernel_rfl
theorem tft25_2 : ftype Tryd.prog 25 2 = some (3, 2) := by kernel_rfl
theorem tfo25_3 : foff Tryd.prog 25 3 = some 3 := by kernel_rfl
theorem tft25_3 : ftype Tryd.prog 25 3 = some (9, 3) := by kernel_rfl
theorem tfo25_4 : foff Tryd.prog 25 4 = some 4 := by kernel_rfl
theorem tft25_4 : ftype Tryd.prog 25 4 = some (4, 4) := by kernel_rfl
theorem tfo25_5 : foff Tryd.prog 25 5 = some 5 := by kernel_rfl
theorem tft25_5 : ftype Tryd.prog 25 5 = some (2, 5) := by kernel_rfl
theorem tfo25_6 : foff Tryd.prog 25 6 = some 6 := by kernel_rfl
theorem tft25_6 : ftype Tryd.prog 25 6 = some (3, 6) := by kernel_rfl
theorem tpl25 : splaces Tryd.prog 25 = some [(0, 1), (1, 1), (2, 1), (3, 1), (4, 1), (5, 1), (6, 1)] := by kernel_rfl
theorem tze25 : tzero Tryd.prog 25 = some (.agg #[.int .i64 0, .int .i64 0, .int .i64 0, .string ⟨#[]⟩, .bool false, .int .i64 0, .int .i64 0]) := by kernel_rfl
theorem tsz35 : tsz Tryd.prog 35 = 3 := by kernel_rfl
theorem tud35 : (Tryd.prog.underlying 35).isSome = true := by kernel_rfl
theorem tin35 : (Tryd.prog.info? 35).isSome = true := by kernel_rfl
theorem tag35 : tagg Tryd.prog 35 = true := by kernel_rfl
theorem tsl35 : selem Tryd.prog 35 = none := by kernel_rfl
theorem teq35 : eqf Tryd.prog 35 = some [(0, 0), (0, 1), (2, 2)] := by kernel_rfl
theorem tby35 : tby Tryd.prog 35 = 32 := by kernel_rfl
theorem tfo35_0 : foff Tryd.prog 35 0 = some 0 := by kernel_rfl
theorem tft35_0 : ftype Tryd.prog 35 0 = some (3, 0) := by kernel_rfl
theorem tfo35_1 : foff Tryd.prog 35 1 = some 1 := by kernel_rfl
theorem tft35_1 : ftype Tryd.prog 35 1 = some (3, 1) := by kernel_rfl
theorem tfo35_2 : foff Tryd.prog 35 2 = some 2 := by kernel_rfl
theorem tft35_2 : ftype Tryd.prog 35 2 = some (9, 2) := by kernel_rfl
theorem tpl35 : splaces Tryd.prog 35 = some [(0, 1), (1, 1), (2, 1)] := by kernel_rfl
theorem tze35 : tzero Tryd.prog 35 = some (.agg #[.int .i64 0, .int .i64 0, .string ⟨#[]⟩]) := by kernel_rfl
theorem tsz36 : tsz Tryd.prog 36 = 3 := by kernel_rfl
theorem tud36 : (Tryd.prog.underlying 36).isSome = true := by kernel_rfl
theorem tin36 : (Tryd.prog.info? 36).isSome = true := by kernel_rfl
theorem tag36 : tagg Tryd.prog 36 = true := by kernel_rfl
theorem tsl36 : selem Tryd.prog 36 = none := by kernel_rfl
theorem teq36 : eqf Tryd.prog 36 = some [(0, 0), (0, 1), (2, 2)] := by kernel_rfl
theorem tby36 : tby Tryd.prog 36 = 32 := by kernel_rfl
theorem tfo36_0 : foff Tryd.prog 36 0 = some 0 := by kernel_rfl
theorem tft36_0 : ftype Tryd.prog 36 0 = some (3, 0) := by kernel_rfl
theorem tfo36_1 : foff Tryd.prog 36 1 = some 1 := by kernel_rfl
theorem tft36_1 : ftype Tryd.prog 36 1 = some (3, 1) := by kernel_rfl
theorem tfo36_2 : foff Tryd.prog 36 2 = some 2 := by kernel_rfl
theorem tft36_2 : ftype Tryd.prog 36 2 = some (9, 2) := by kernel_rfl
theorem tpl36 : splaces Tryd.prog 36 = some [(0, 1), (1, 1), (2, 1)] := by kernel_rfl
theorem tze36 : tzero Tryd.prog 36 = some (.agg #[.int .i64 0, .int .i64 0, .string ⟨#[]⟩]) := by kernel_rfl
theorem tsz43 : tsz Tryd.prog 43 = 5 := by kernel_rfl
theorem tud43 : (Tryd.prog.underlying 43).isSome = true := by kernel_rfl
theorem tin43 : (Tryd.prog.info? 43).isSome = true := by kernel_rfl
theorem tag43 : tagg Tryd.prog 43 = true := by kernel_rfl
theorem tsl43 : selem Tryd.prog 43 = none := by kernel_rfl
theorem tpl43 : splaces Tryd.prog 43 = none := by kernel_rfl
theorem tar43 : aelem Tryd.prog 43 = some (5, 3) := by kernel_rfl
theorem teq43 : eqf Tryd.prog 43 = some [(0, 0), (0, 1), (0, 2), (0, 3), (0, 4)] := by kernel_rfl
theorem tby43 : tby Tryd.prog 43 = 40 := by kernel_rfl
theorem tze43 : tzero Tryd.prog 43 = some (.agg #[.int .i64 0, .int .i64 0, .int .i64 0, .int .i64 0, .int .i64 0]) := by kernel_rfl
theorem tsz45 : tsz Tryd.prog 45 = 1 := by kernel_rfl
theorem tud45 : (Tryd.prog.underlying 45).isSome = true := by kernel_rfl
theorem tin45 : (Tryd.prog.info? 45).isSome = true := by kernel_rfl
theorem tag45 : tagg Tryd.prog 45 = false := by kernel_rfl
theorem tsl45 : selem Tryd.prog 45 = some 47 := by kernel_rfl
theorem tby45 : tby Tryd.prog 45 = 24 := by kernel_rfl
theorem tze45 : tzero Tryd.prog 45 = some (.slice none 0 0) := by kernel_rfl
theorem tsz46 : tsz Tryd.prog 46 = 4 := by kernel_rfl
theorem tud46 : (Tryd.prog.underlying 46).isSome = true := by kernel_rfl
theorem tin46 : (Tryd.prog.info? 46).isSome = true := by kernel_rfl
theorem tag46 : tagg Tryd.prog 46 = true := by kernel_rfl
theorem tsl46 : selem Tryd.prog 46 = none := by kernel_rfl
theorem tby46 : tby Tryd.prog 46 = 48 := by kernel_rfl
theorem tfo46_0 : foff Tryd.prog 46 0 = some 0 := by kernel_rfl
theorem tft46_0 : ftype Tryd.prog 46 0 = some (3, 0) := by kernel_rfl
theorem tfo46_1 : foff Tryd.prog 46 1 = some 1 := by kernel_rfl
theorem tft46_1 : ftype Tryd.prog 46 1 = some (23, 1) := by kernel_rfl
theorem tfo46_2 : foff Tryd.prog 46 2 = some 2 := by kernel_rfl
theorem tft46_2 : ftype Tryd.prog 46 2 = some (2, 2) := by kernel_rfl
theorem tfo46_3 : foff Tryd.prog 46 3 = some 3 := by kernel_rfl
theorem tft46_3 : ftype Tryd.prog 46 3 = some (2, 3) := by kernel_rfl
theorem tpl46 : splaces Tryd.prog 46 = some [(0, 1), (1, 1), (2, 1), (3, 1)] := by kernel_rfl
theorem tze46 : tzero Tryd.prog 46 = some (.agg #[.int .i64 0, .slice none 0 0, .int .i64 0, .int .i64 0]) := by kernel_rfl
theorem tsz47 : tsz Tryd.prog 47 = 4 := by kernel_rfl
theorem tud47 : (Tryd.prog.underlying 47).isSome = true := by kernel_rfl
theorem tin47 : (Tryd.prog.info? 47).isSome = true := by kernel_rfl
theorem tag47 : tagg Tryd.prog 47 = true := by kernel_rfl
theorem tsl47 : selem Tryd.prog 47 = none := by kernel_rfl
theorem tby47 : tby Tryd.prog 47 = 48 := by kernel_rfl
theorem tfo47_0 : foff Tryd.prog 47 0 = some 0 := by kernel_rfl
theorem tft47_0 : ftype Tryd.prog 47 0 = some (3, 0) := by kernel_rfl
theorem tfo47_1 : foff Tryd.prog 47 1 = some 1 := by kernel_rfl
theorem tft47_1 : ftype Tryd.prog 47 1 = some (23, 1) := by kernel_rfl
theorem tfo47_2 : foff Tryd.prog 47 2 = some 2 := by kernel_rfl
theorem tft47_2 : ftype Tryd.prog 47 2 = some (2, 2) := by kernel_rfl
theorem tfo47_3 : foff Tryd.prog 47 3 = some 3 := by kernel_rfl
theorem tft47_3 : ftype Tryd.prog 47 3 = some (2, 3) := by kernel_rfl
theorem tpl47 : splaces Tryd.prog 47 = some [(0, 1), (1, 1), (2, 1), (3, 1)] := by kernel_rfl
theorem tze47 : tzero Tryd.prog 47 = some (.agg #[.int .i64 0, .slice none 0 0, .int .i64 0, .int .i64 0]) := by kernel_rfl
theorem tsz52 : tsz Tryd.prog 52 = 1 := by kernel_rfl
theorem tud52 : (Tryd.prog.underlying 52).isSome = true := by kernel_rfl
theorem tun52 : Tryd.prog.underlying 52 = some (.int .i64) := by kernel_rfl
theorem tin52 : (Tryd.prog.info? 52).isSome = true := by kernel_rfl
theorem tag52 : tagg Tryd.prog 52 = false := by kernel_rfl
theorem tsl52 : selem Tryd.prog 52 = none := by kernel_rfl
theorem tby52 : tby Tryd.prog 52 = 8 := by kernel_rfl
theorem tze52 : tzero Tryd.prog 52 = some (.int .i64 0) := by kernel_rfl
theorem tsz64 : tsz Tryd.prog 64 = 1 := by kernel_rfl
theorem tud64 : (Tryd.prog.underlying 64).isSome = true := by kernel_rfl
theorem tin64 : (Tryd.prog.info? 64).isSome = true := by kernel_rfl
theorem tag64 : tagg Tryd.prog 64 = false := by kernel_rfl
theorem tsl64 : selem Tryd.prog 64 = some 2 := by kernel_rfl
theorem tby64 : tby Tryd.prog 64 = 24 := by kernel_rfl
theorem tze64 : tzero Tryd.prog 64 = some (.slice none 0 0) := by kernel_rfl
theorem tsz79 : tsz Tryd.prog 79 = 1 := by kernel_rfl
theorem tud79 : (Tryd.prog.underlying 79).isSome = true := by kernel_rfl
theorem tin79 : (Tryd.prog.info? 79).isSome = true := by kernel_rfl
theorem tag79 : tagg Tryd.prog 79 = false := by kernel_rfl
theorem tsl79 : selem Tryd.prog 79 = none := by kernel_rfl
theorem tby79 : tby Tryd.prog 79 = 8 := by kernel_rfl
theorem tze79 : tzero Tryd.prog 79 = some (.pointer none) := by kernel_rfl
theorem tsz89 : tsz Tryd.prog 89 = 1 := by kernel_rfl
theorem tud89 : (Tryd.prog.underlying 89).isSome = true := by kernel_rfl
theorem tin89 : (Tryd.prog.info? 89).isSome = true := by kernel_rfl
theorem tag89 : tagg Tryd.prog 89 = false := by kernel_rfl
theorem tsl89 : selem Tryd.prog 89 = some 4 := by kernel_rfl
theorem tby89 : tby Tryd.prog 89 = 24 := by kernel_rfl
theorem tze89 : tzero Tryd.prog 89 = some (.slice none 0 0) := by kernel_rfl
theorem tsz90 : tsz Tryd.prog 90 = 1 := by kernel_rfl
theorem tud90 : (Tryd.prog.underlying 90).isSome = true := by kernel_rfl
theorem tun90 : Tryd.prog.underlying 90 = some (.int .u64) := by kernel_rfl
theorem tin90 : (Tryd.prog.info? 90).isSome = true := by kernel_rfl
theorem tag90 : tagg Tryd.prog 90 = false := by kernel_rfl
theorem tsl90 : selem Tryd.prog 90 = none := by kernel_rfl
theorem tby90 : tby Tryd.prog 90 = 8 := by kernel_rfl
theorem tze90 : tzero Tryd.prog 90 = some (.int .u64 0) := by kernel_rfl
theorem tsz91 : tsz Tryd.prog 91 = 4 := by kernel_rfl
theorem tud91 : (Tryd.prog.underlying 91).isSome = true := by kernel_rfl
theorem tin91 : (Tryd.prog.info? 91).isSome = true := by kernel_rfl
theorem tag91 : tagg Tryd.prog 91 = true := by kernel_rfl
theorem tsl91 : selem Tryd.prog 91 = none := by kernel_rfl
theorem tpl91 : splaces Tryd.prog 91 = none := by kernel_rfl
theorem tar91 : aelem Tryd.prog 91 = some (4, 90) := by kernel_rfl
theorem teq91 : eqf Tryd.prog 91 = some [(0, 0), (0, 1), (0, 2), (0, 3)] := by kernel_rfl
theorem tby91 : tby Tryd.prog 91 = 32 := by kernel_rfl
theorem tze91 : tzero Tryd.prog 91 = some (.agg #[.int .u64 0, .int .u64 0, .int .u64 0, .int .u64 0]) := by kernel_rfl
theorem tsz92 : tsz Tryd.prog 92 = 4 := by kernel_rfl
theorem tud92 : (Tryd.prog.underlying 92).isSome = true := by kernel_rfl
theorem tin92 : (Tryd.prog.info? 92).isSome = true := by kernel_rfl
theorem tag92 : tagg Tryd.prog 92 = true := by kernel_rfl
theorem tsl92 : selem Tryd.prog 92 = none := by kernel_rfl
theorem tpl92 : splaces Tryd.prog 92 = none := by kernel_rfl
theorem tar92 : aelem Tryd.prog 92 = some (4, 90) := by kernel_rfl
theorem teq92 : eqf Tryd.prog 92 = some [(0, 0), (0, 1), (0, 2), (0, 3)] := by kernel_rfl
theorem tby92 : tby Tryd.prog 92 = 32 := by kernel_rfl
theorem tze92 : tzero Tryd.prog 92 = some (.agg #[.int .u64 0, .int .u64 0, .int .u64 0, .int .u64 0]) := by kernel_rfl
theorem tsz109 : tsz Tryd.prog 109 = 1 := by kernel_rfl
theorem tud109 : (Tryd.prog.underlying 109).isSome = true := by kernel_rfl
theorem tin109 : (Tryd.prog.info? 109).isSome = true := by kernel_rfl
theorem tag109 : tagg Tryd.prog 109 = false := by kernel_rfl
theorem tsl109 : selem Tryd.prog 109 = some 23 := by kernel_rfl
theorem tby109 : tby Tryd.prog 109 = 24 := by kernel_rfl
theorem tze109 : tzero Tryd.prog 109 = some (.slice none 0 0) := by kernel_rfl
theorem tsz110 : tsz Tryd.prog 110 = 10 := by kernel_rfl
theorem tud110 : (Tryd.prog.underlying 110).isSome = true := by kernel_rfl
theorem tin110 : (Tryd.prog.info? 110).isSome = true := by kernel_rfl
theorem tag110 : tagg Tryd.prog 110 = true := by kernel_rfl
theorem tsl110 : selem Tryd.prog 110 = none := by kernel_rfl
theorem tby110 : tby Tryd.prog 110 = 136 := by kernel_rfl
theorem tfo110_0 : foff Tryd.prog 110 0 = some 0 := by kernel_rfl
theorem tft110_0 : ftype Tryd.prog 110 0 = some (22, 0) := by kernel_rfl
theorem tfo110_1 : foff Tryd.prog 110 1 = some 1 := by kernel_rfl
theorem tft110_1 : ftype Tryd.prog 110 1 = some (89, 1) := by kernel_rfl
theorem tfo110_2 : foff Tryd.prog 110 2 = some 2 := by kernel_rfl
theorem tft110_2 : ftype Tryd.prog 110 2 = some (109, 2) := by kernel_rfl
theorem tfo110_3 : foff Tryd.prog 110 3 = some 3 := by kernel_rfl
theorem tft110_3 : ftype Tryd.prog 110 3 = some (25, 3) := by kernel_rfl
theorem tpl110 : splaces Tryd.prog 110 = some [(0, 1), (1, 1), (2, 1), (3, 7)] := by kernel_rfl
theorem tze110 : tzero Tryd.prog 110 = some (.agg #[.slice none 0 0, .slice none 0 0, .slice none 0 0, .int .i64 0, .int .i64 0, .int .i64 0, .string ⟨#[]⟩, .bool false, .int .i64 0, .int .i64 0]) := by kernel_rfl
theorem tsz111 : tsz Tryd.prog 111 = 10 := by kernel_rfl
theorem tud111 : (Tryd.prog.underlying 111).isSome = true := by kernel_rfl
theorem tin111 : (Tryd.prog.info? 111).isSome = true := by kernel_rfl
theorem tag111 : tagg Tryd.prog 111 = true := by kernel_rfl
theorem tsl111 : selem Tryd.prog 111 = none := by kernel_rfl
theorem tby111 : tby Tryd.prog 111 = 136 := by kernel_rfl
theorem tfo111_0 : foff Tryd.prog 111 0 = some 0 := by kernel_rfl
theorem tft111_0 : ftype Tryd.prog 111 0 = some (22, 0) := by kernel_rfl
theorem tfo111_1 : foff Tryd.prog 111 1 = some 1 := by kernel_rfl
theorem tft111_1 : ftype Tryd.prog 111 1 = some (89, 1) := by kernel_rfl
theorem tfo111_2 : foff Tryd.prog 111 2 = some 2 := by kernel_rfl
theorem tft111_2 : ftype Tryd.prog 111 2 = some (109, 2) := by kernel_rfl
theorem tfo111_3 : foff Tryd.prog 111 3 = some 3 := by kernel_rfl
theorem tft111_3 : ftype Tryd.prog 111 3 = some (25, 3) := by kernel_rfl
theorem tpl111 : splaces Tryd.prog 111 = some [(0, 1), (1, 1), (2, 1), (3, 7)] := by kernel_rfl
theorem tze111 : tzero Tryd.prog 111 = some (.agg #[.slice none 0 0, .slice none 0 0, .slice none 0 0, .int .i64 0, .int .i64 0, .int .i64 0, .string ⟨#[]⟩, .bool false, .int .i64 0, .int .i64 0]) := by kernel_rfl
theorem tsz126 : tsz Tryd.prog 126 = 1 := by kernel_rfl
theorem tud126 : (Tryd.prog.underlying 126).isSome = true := by kernel_rfl
theorem tun126 : Tryd.prog.underlying 126 = some (.int .u64) := by kernel_rfl
theorem tin126 : (Tryd.prog.info? 126).isSome = true := by kernel_rfl
theorem tag126 : tagg Tryd.prog 126 = false := by kernel_rfl
theorem tsl126 : selem Tryd.prog 126 = none := by kernel_rfl
theorem tby126 : tby Tryd.prog 126 = 8 := by kernel_rfl
theorem tze126 : tzero Tryd.prog 126 = some (.int .u64 0) := by kernel_rfl
theorem tsz133 : tsz Tryd.prog 133 = 1 := by kernel_rfl
theorem tud133 : (Tryd.prog.underlying 133).isSome = true := by kernel_rfl
theorem tun133 : Tryd.prog.underlying 133 = some (.int .i64) := by kernel_rfl
theorem tin133 : (Tryd.prog.info? 133).isSome = true := by kernel_rfl
theorem tag133 : tagg Tryd.prog 133 = false := by kernel_rfl
theorem tsl133 : selem Tryd.prog 133 = none := by kernel_rfl
theorem tby133 : tby Tryd.prog 133 = 8 := by kernel_rfl
theorem tze133 : tzero Tryd.prog 133 = some (.int .i64 0) := by kernel_rfl
theorem tsz141 : tsz Tryd.prog 141 = 1 := by kernel_rfl
theorem tud141 : (Tryd.prog.underlying 141).isSome = true := by kernel_rfl
theorem tun141 : Tryd.prog.underlying 141 = some (.int .u32) := by kernel_rfl
theorem tin141 : (Tryd.prog.info? 141).isSome = true := by kernel_rfl
theorem tag141 : tagg Tryd.prog 141 = false := by kernel_rfl
theorem tsl141 : selem Tryd.prog 141 = none := by kernel_rfl
theorem tby141 : tby Tryd.prog 141 = 4 := by kernel_rfl
theorem tze141 : tzero Tryd.prog 141 = some (.int .u32 0) := by kernel_rfl
theorem tsz146 : tsz Tryd.prog 146 = 64 := by kernel_rfl
theorem tud146 : (Tryd.prog.underlying 146).isSome = true := by kernel_rfl
theorem tin146 : (Tryd.prog.info? 146).isSome = true := by kernel_rfl
theorem tag146 : tagg Tryd.prog 146 = true := by kernel_rfl
theorem tsl146 : selem Tryd.prog 146 = none := by kernel_rfl
theorem tpl146 : splaces Tryd.prog 146 = none := by kernel_rfl
theorem tar146 : aelem Tryd.prog 146 = some (64, 5) := by kernel_rfl
theorem teq146 : eqf Tryd.prog 146 = some [(0, 0), (0, 1), (0, 2), (0, 3), (0, 4), (0, 5), (0, 6), (0, 7), (0, 8), (0, 9), (0, 10), (0, 11), (0, 12), (0, 13), (0, 14), (0, 15), (0, 16), (0, 17), (0, 18), (0, 19), (0, 20), (0, 21), (0, 22), (0, 23), (0, 24), (0, 25), (0, 26), (0, 27), (0, 28), (0, 29), (0, 30), (0, 31), (0, 32), (0, 33), (0, 34), (0, 35), (0, 36), (0, 37), (0, 38), (0, 39), (0, 40), (0, 41), (0, 42), (0, 43), (0, 44), (0, 45), (0, 46), (0, 47), (0, 48), (0, 49), (0, 50), (0, 51), (0, 52), (0, 53), (0, 54), (0, 55), (0, 56), (0, 57), (0, 58), (0, 59), (0, 60), (0, 61), (0, 62), (0, 63)] := by kernel_rfl
theorem tby146 : tby Tryd.prog 146 = 64 := by kernel_rfl
theorem tze146 : tzero Tryd.prog 146 = some (.agg #[.int .u8 0, .int .u8 0, .int .u8 0, .int .u8 0, .int .u8 0, .int .u8 0, .int .u8 0, .int .u8 0, .int .u8 0, .int .u8 0, .int .u8 0, .int .u8 0, .int .u8 0, .int .u8 0, .int .u8 0, .int .u8 0, .int .u8 0, .int .u8 0, .int .u8 0, .int .u8 0, .int .u8 0, .int .u8 0, .int .u8 0, .int .u8 0, .int .u8 0, .int .u8 0, .int .u8 0, .int .u8 0, .int .u8 0, .int .u8 0, .int .u8 0, .int .u8 0, .int .u8 0, .int .u8 0, .int .u8 0, .int .u8 0, .int .u8 0, .int .u8 0, .int .u8 0, .int .u8 0, .int .u8 0, .int .u8 0, .int .u8 0, .int .u8 0, .int .u8 0, .int .u8 0, .int .u8 0, .int .u8 0, .int .u8 0, .int .u8 0, .int .u8 0, .int .u8 0, .int .u8 0, .int .u8 0, .int .u8 0, .int .u8 0, .int .u8 0, .int .u8 0, .int .u8 0, .int .u8 0, .int .u8 0, .int .u8 0, .int .u8 0, .int .u8 0]) := by kernel_rfl
theorem tsz148 : tsz Tryd.prog 148 = 1 := by kernel_rfl
theorem tud148 : (Tryd.prog.underlying 148).isSome = true := by kernel_rfl
theorem tun148 : Tryd.prog.underlying 148 = some (.int .u64) := by kernel_rfl
theorem tin148 : (Tryd.prog.info? 148).isSome = true := by kernel_rfl
theorem tag148 : tagg Tryd.prog 148 = false := by kernel_rfl
theorem tsl148 : selem Tryd.prog 148 = none := by kernel_rfl
theorem tby148 : tby Tryd.prog 148 = 8 := by kernel_rfl
theorem tze148 : tzero Tryd.prog 148 = some (.int .u64 0) := by kernel_rfl
theorem tsz152 : tsz Tryd.prog 152 = 1 := by kernel_rfl
theorem tud152 : (Tryd.prog.underlying 152).isSome = true := by kernel_rfl
theorem tin152 : (Tryd.prog.info? 152).isSome = true := by kernel_rfl
theorem tag152 : tagg Tryd.prog 152 = false := by kernel_rfl
theorem tsl152 : selem Tryd.prog 152 = none := by kernel_rfl
theorem tby152 : tby Tryd.prog 152 = 8 := by kernel_rfl
theorem tze152 : tzero Tryd.prog 152 = some (.pointer none) := by kernel_rfl
theorem tsz154 : tsz Tryd.prog 154 = 1 := by kernel_rfl
theorem tud154 : (Tryd.prog.underlying 154).isSome = true := by kernel_rfl
theorem tin154 : (Tryd.prog.info? 154).isSome = true := by kernel_rfl
theorem tag154 : tagg Tryd.prog 154 = false := by kernel_rfl
theorem tsl154 : selem Tryd.prog 154 = none := by kernel_rfl
theorem tby154 : tby Tryd.prog 154 = 8 := by kernel_rfl
theorem tze154 : tzero Tryd.prog 154 = some (.pointer none) := by kernel_rfl
theorem tsz167 : tsz Tryd.prog 167 = 1 := by kernel_rfl
theorem tud167 : (Tryd.prog.underlying 167).isSome = true := by kernel_rfl
theorem tin167 : (Tryd.prog.info? 167).isSome = true := by kernel_rfl
theorem tag167 : tagg Tryd.prog 167 = false := by kernel_rfl
theorem tsl167 : selem Tryd.prog 167 = none := by kernel_rfl
theorem tby167 : tby Tryd.prog 167 = 8 := by kernel_rfl
theorem tze167 : tzero Tryd.prog 167 = some (.pointer none) := by kernel_rfl
theorem tsz172 : tsz Tryd.prog 172 = 1 := by kernel_rfl
theorem tud172 : (Tryd.prog.underlying 172).isSome = true := by kernel_rfl
theorem tin172 : (Tryd.prog.info? 172).isSome = true := by kernel_rfl
theorem tag172 : tagg Tryd.prog 172 = false := by kernel_rfl
theorem tsl172 : selem Tryd.prog 172 = none := by kernel_rfl
theorem tby172 : tby Tryd.prog 172 = 8 := by kernel_rfl
theorem tze172 : tzero Tryd.prog 172 = some (.pointer none) := by kernel_rfl
attribute [go_sem] tsz2 tud2 tun2 tin2 tag2 tsl2 tby2 tze2 tsz3 tud3 tun3 tin3 tag3 tsl3 tby3 tze3 tsz4 tud4 tun4 tin4 tag4 tsl4 tby4 tze4 tsz5 tud5 tun5 tin5 tag5 tsl5 tby5 tze5 tsz9 tud9 tun9 tin9 tag9 tsl9 tby9 tze9 tsz12 tud12 tun12 tin12 tag12 tsl12 tby12 tze12 tsz20 tud20 tin20 tag20 tsl20 tby20 tze20 tsz21 tud21 tun21 tin21 tag21 tsl21 tby21 tze21 tsz22 tud22 tin22 tag22 tsl22 tby22 tze22 tsz23 tud23 tin23 tag23 tsl23 tby23 tze23 tsz24 tud24 tin24 tag24 tsl24 teq24 tby24 tfo24_0 tft24_0 tfo24_1 tft24_1 tfo24_2 tft24_2 tfo24_3 tft24_3 tfo24_4 tft24_4 tfo24_5 tft24_5 tfo24_6 tft24_6 tpl24 tze24 tsz25 tud25 tin25 tag25 tsl25 teq25 tby25 tfo25_0 tft25_0 tfo25_1 tft25_1 tfo25_2 tft25_2 tfo25_3 tft25_3 tfo25_4 tft25_4 tfo25_5 tft25_5 tfo25_6 tft25_6 tpl25 tze25 tsz35 tud35 tin35 tag35 tsl35 teq35 tby35 tfo35_0 tft35_0 tfo35_1 tft35_1 tfo35_2 tft35_2 tpl35 tze35 tsz36 tud36 tin36 tag36 tsl36 teq36 tby36 tfo36_0 tft36_0 tfo36_1 tft36_1 tfo36_2 tft36_2 tpl36 tze36 tsz43 tud43 tin43 tag43 tsl43 tpl43 tar43 teq43 tby43 tze43 tsz45 tud45 tin45 tag45 tsl45 tby45 tze45 tsz46 tud46 tin46 tag46 tsl46 tby46 tfo46_0 tft46_0 tfo46_1 tft46_1 tfo46_2 tft46_2 tfo46_3 tft46_3 tpl46 tze46 tsz47 tud47 tin47 tag47 tsl47 tby47 tfo47_0 tft47_0 tfo47_1 tft47_1 tfo47_2 tft47_2 tfo47_3 tft47_3 tpl47 tze47 tsz52 tud52 tun52 tin52 tag52 tsl52 tby52 tze52 tsz64 tud64 tin64 tag64 tsl64 tby64 tze64 tsz79 tud79 tin79 tag79 tsl79 tby79 tze79 tsz89 tud89 tin89 tag89 tsl89 tby89 tze89 tsz90 tud90 tun90 tin90 tag90 tsl90 tby90 tze90 tsz91 tud91 tin91 tag91 tsl91 tpl91 tar91 teq91 tby91 tze91 tsz92 tud92 tin92 tag92 tsl92 tpl92 tar92 teq92 tby92 tze92 tsz109 tud109 tin109 tag109 tsl109 tby109 tze109 tsz110 tud110 tin110 tag110 tsl110 tby110 tfo110_0 tft110_0 tfo110_1 tft110_1 tfo110_2 tft110_2 tfo110_3 tft110_3 tpl110 tze110 tsz111 tud111 tin111 tag111 tsl111 tby111 tfo111_0 tft111_0 tfo111_1 tft111_1 tfo111_2 tft111_2 tfo111_3 tft111_3 tpl111 tze111 tsz126 tud126 tun126 tin126 tag126 tsl126 tby126 tze126 tsz133 tud133 tun133 tin133 tag133 tsl133 tby133 tze133 tsz141 tud141 tun141 tin141 tag141 tsl141 tby141 tze141 tsz146 tud146 tin146 tag146 tsl146 tpl146 tar146 teq146 tby146 tze146 tsz148 tud148 tun148 tin148 tag148 tsl148 tby148 tze148 tsz152 tud152 tin152 tag152 tsl152 tby152 tze152 tsz154 tud154 tin154 tag154 tsl154 tby154 tze154 tsz167 tud167 tin167 tag167 tsl167 tby167 tze167 tsz172 tud172 tin172 tag172 tsl172 tby172 tze172
end Go.Proofs.YtfcojlagmmgagaaDoor.Ab
