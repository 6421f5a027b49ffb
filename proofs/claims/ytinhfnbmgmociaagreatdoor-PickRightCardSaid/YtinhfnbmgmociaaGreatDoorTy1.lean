/- What the abstract layer asks of the types. -/
import Derived.Test.YtinhfnbmgmociaaGreatDoorProg
import Derived.Test.YtinhfnbmgmociaaGreatDoorAb3
import Derived.ProofKit
namespace Go.Proofs.YtinhfnbmgmociaaGreatDoor.Ab
theorem tsz2 : tsz Tryz.prog 2 = 1 := by kernel_rfl
theorem tud2 : (Tryz.prog.underlying 2).isSome = true := by kernel_rfl
theorem tun2 : Tryz.prog.underlying 2 = some (.int .i64) := by kernel_rfl
theorem tin2 : (Tryz.prog.info? 2).isSome = true := by kernel_rfl
theorem tag2 : tagg Tryz.prog 2 = false := by kernel_rfl
theorem tsl2 : selem Tryz.prog 2 = none := by kernel_rfl
theorem tby2 : tby Tryz.prog 2 = 8 := by kernel_rfl
theorem tze2 : tzero Tryz.prog 2 = some (.int .i64 0) := by kernel_rfl
theorem tsz3 : tsz Tryz.prog 3 = 1 := by kernel_rfl
theorem tud3 : (Tryz.prog.underlying 3).isSome = true := by kernel_rfl
theorem tun3 : Tryz.prog.underlying 3 = some (.int .i64) := by kernel_rfl
theorem tin3 : (Tryz.prog.info? 3).isSome = true := by kernel_rfl
theorem tag3 : tagg Tryz.prog 3 = false := by kernel_rfl
theorem tsl3 : selem Tryz.prog 3 = none := by kernel_rfl
theorem tby3 : tby Tryz.prog 3 = 8 := by kernel_rfl
theorem tze3 : tzero Tryz.prog 3 = some (.int .i64 0) := by kernel_rfl
theorem tsz4 : tsz Tryz.prog 4 = 1 := by kernel_rfl
theorem tud4 : (Tryz.prog.underlying 4).isSome = true := by kernel_rfl
theorem tun4 : Tryz.prog.underlying 4 = some .bool := by kernel_rfl
theorem tin4 : (Tryz.prog.info? 4).isSome = true := by kernel_rfl
theorem tag4 : tagg Tryz.prog 4 = false := by kernel_rfl
theorem tsl4 : selem Tryz.prog 4 = none := by kernel_rfl
theorem tby4 : tby Tryz.prog 4 = 1 := by kernel_rfl
theorem tze4 : tzero Tryz.prog 4 = some (.bool false) := by kernel_rfl
theorem tsz5 : tsz Tryz.prog 5 = 1 := by kernel_rfl
theorem tud5 : (Tryz.prog.underlying 5).isSome = true := by kernel_rfl
theorem tun5 : Tryz.prog.underlying 5 = some (.int .u8) := by kernel_rfl
theorem tin5 : (Tryz.prog.info? 5).isSome = true := by kernel_rfl
theorem tag5 : tagg Tryz.prog 5 = false := by kernel_rfl
theorem tsl5 : selem Tryz.prog 5 = none := by kernel_rfl
theorem tby5 : tby Tryz.prog 5 = 1 := by kernel_rfl
theorem tze5 : tzero Tryz.prog 5 = some (.int .u8 0) := by kernel_rfl
theorem tsz9 : tsz Tryz.prog 9 = 1 := by kernel_rfl
theorem tud9 : (Tryz.prog.underlying 9).isSome = true := by kernel_rfl
theorem tun9 : Tryz.prog.underlying 9 = some .string := by kernel_rfl
theorem tin9 : (Tryz.prog.info? 9).isSome = true := by kernel_rfl
theorem tag9 : tagg Tryz.prog 9 = false := by kernel_rfl
theorem tsl9 : selem Tryz.prog 9 = none := by kernel_rfl
theorem tby9 : tby Tryz.prog 9 = 16 := by kernel_rfl
theorem tze9 : tzero Tryz.prog 9 = some (.string ⟨#[]⟩) := by kernel_rfl
theorem tsz12 : tsz Tryz.prog 12 = 1 := by kernel_rfl
theorem tud12 : (Tryz.prog.underlying 12).isSome = true := by kernel_rfl
theorem tun12 : Tryz.prog.underlying 12 = some (.int .u64) := by kernel_rfl
theorem tin12 : (Tryz.prog.info? 12).isSome = true := by kernel_rfl
theorem tag12 : tagg Tryz.prog 12 = false := by kernel_rfl
theorem tsl12 : selem Tryz.prog 12 = none := by kernel_rfl
theorem tby12 : tby Tryz.prog 12 = 8 := by kernel_rfl
theorem tze12 : tzero Tryz.prog 12 = some (.int .u64 0) := by kernel_rfl
theorem tsz20 : tsz Tryz.prog 20 = 1 := by kernel_rfl
theorem tud20 : (Tryz.prog.underlying 20).isSome = true := by kernel_rfl
theorem tin20 : (Tryz.prog.info? 20).isSome = true := by kernel_rfl
theorem tag20 : tagg Tryz.prog 20 = false := by kernel_rfl
theorem tsl20 : selem Tryz.prog 20 = none := by kernel_rfl
theorem tby20 : tby Tryz.prog 20 = 16 := by kernel_rfl
theorem tze20 : tzero Tryz.prog 20 = some (.nilIface) := by kernel_rfl
theorem tsz21 : tsz Tryz.prog 21 = 1 := by kernel_rfl
theorem tud21 : (Tryz.prog.underlying 21).isSome = true := by kernel_rfl
theorem tun21 : Tryz.prog.underlying 21 = some (.int .i32) := by kernel_rfl
theorem tin21 : (Tryz.prog.info? 21).isSome = true := by kernel_rfl
theorem tag21 : tagg Tryz.prog 21 = false := by kernel_rfl
theorem tsl21 : selem Tryz.prog 21 = none := by kernel_rfl
theorem tby21 : tby Tryz.prog 21 = 4 := by kernel_rfl
theorem tze21 : tzero Tryz.prog 21 = some (.int .i32 0) := by kernel_rfl
theorem tsz22 : tsz Tryz.prog 22 = 1 := by kernel_rfl
theorem tud22 : (Tryz.prog.underlying 22).isSome = true := by kernel_rfl
theorem tin22 : (Tryz.prog.info? 22).isSome = true := by kernel_rfl
theorem tag22 : tagg Tryz.prog 22 = false := by kernel_rfl
theorem tsl22 : selem Tryz.prog 22 = some 46 := by kernel_rfl
theorem tby22 : tby Tryz.prog 22 = 24 := by kernel_rfl
theorem tze22 : tzero Tryz.prog 22 = some (.slice none 0 0) := by kernel_rfl
theorem tsz23 : tsz Tryz.prog 23 = 1 := by kernel_rfl
theorem tud23 : (Tryz.prog.underlying 23).isSome = true := by kernel_rfl
theorem tin23 : (Tryz.prog.info? 23).isSome = true := by kernel_rfl
theorem tag23 : tagg Tryz.prog 23 = false := by kernel_rfl
theorem tsl23 : selem Tryz.prog 23 = some 3 := by kernel_rfl
theorem tby23 : tby Tryz.prog 23 = 24 := by kernel_rfl
theorem tze23 : tzero Tryz.prog 23 = some (.slice none 0 0) := by kernel_rfl
theorem tsz24 : tsz Tryz.prog 24 = 1 := by kernel_rfl
theorem tud24 : (Tryz.prog.underlying 24).isSome = true := by kernel_rfl
theorem tin24 : (Tryz.prog.info? 24).isSome = true := by kernel_rfl
theorem tag24 : tagg Tryz.prog 24 = false := by kernel_rfl
theorem tsl24 : selem Tryz.prog 24 = some 48 := by kernel_rfl
theorem tby24 : tby Tryz.prog 24 = 24 := by kernel_rfl
theorem tze24 : tzero Tryz.prog 24 = some (.slice none 0 0) := by kernel_rfl
theorem tsz25 : tsz Tryz.prog 25 = 1 := by kernel_rfl
theorem tud25 : (Tryz.prog.underlying 25).isSome = true := by kernel_rfl
theorem tin25 : (Tryz.prog.info? 25).isSome = true := by kernel_rfl
theorem tag25 : tagg Tryz.prog 25 = false := by kernel_rfl
theorem tsl25 : selem Tryz.prog 25 = some 52 := by kernel_rfl
theorem tby25 : tby Tryz.prog 25 = 24 := by kernel_rfl
theorem tze25 : tzero Tryz.prog 25 = some (.slice none 0 0) := by kernel_rfl
theorem tsz29 : tsz Tryz.prog 29 = 1 := by kernel_rfl
theorem tud29 : (Tryz.prog.underlying 29).isSome = true := by kernel_rfl
theorem tun29 : Tryz.prog.underlying 29 = some (.int .i64) := by kernel_rfl
theorem tin29 : (Tryz.prog.info? 29).isSome = true := by kernel_rfl
theorem tag29 : tagg Tryz.prog 29 = false := by kernel_rfl
theorem tsl29 : selem Tryz.prog 29 = none := by kernel_rfl
theorem tby29 : tby Tryz.prog 29 = 8 := by kernel_rfl
theorem tze29 : tzero Tryz.prog 29 = some (.int .i64 0) := by kernel_rfl
theorem tsz36 : tsz Tryz.prog 36 = 7 := by kernel_rfl
theorem tud36 : (Tryz.prog.underlying 36).isSome = true := by kernel_rfl
theorem tin36 : (Tryz.prog.info? 36).isSome = true := by kernel_rfl
theorem tag36 : tagg Tryz.prog 36 = true := by kernel_rfl
theorem tsl36 : selem Tryz.prog 36 = none := by kernel_rfl
theorem teq36 : eqf Tryz.prog 36 = some [(0, 0), (0, 1), (0, 2), (2, 3), (1, 4), (0, 5), (0, 6)] := by kernel_rfl
theorem tby36 : tby Tryz.prog 36 = 64 := by kernel_rfl
theorem tfo36_0 : foff Tryz.prog 36 0 = some 0 := by kernel_rfl
theorem tft36_0 : ftype Tryz.prog 36 0 = some (3, 0) := by kernel_rfl
theorem tfo36_1 : foff Tryz.prog 36 1 = some 1 := by kernel_rfl
theorem tft36_1 : ftype Tryz.prog 36 1 = some (3, 1) := by kernel_rfl
theorem tfo36_2 : foff Tryz.prog 36 2 = some 2 := by kernel_rfl
theorem tft36_2 : ftype Tryz.prog 36 2 = some (3, 2) := by kernel_rfl
theorem tfo36_3 : foff Tryz.prog 36 3 = some 3 := by kernel_rfl
theorem tft36_3 : ftype Tryz.prog 36 3 = some (9, 3) := by kernel_rfl
theorem tfo36_4 : foff Tryz.prog 36 4 = some 4 := by kernel_rfl
theorem tft36_4 : ftype Tryz.prog 36 4 = some (4, 4) := by kernel_rfl
theorem tfo36_5 : foff Tryz.prog 36 5 = some 5 := by kernel_rfl
theorem tft36_5 : ftype Tryz.prog 36 5 = some (2, 5) := by kernel_rfl
theorem tfo36_6 : foff Tryz.prog 36 6 = some 6 := by kernel_rfl
theorem tft36_6 : ftype Tryz.prog 36 6 = some (3, 6) := by kernel_rfl
theorem tpl36 : splaces Tryz.prog 36 = some [(0, 1), (1, 1), (2, 1), (3, 1), (4, 1), (5, 1), (6, 1)] := by kernel_rfl
theorem tze36 : tzero Tryz.prog 36 = some (.agg #[.int .i64 0, .int .i64 0, .int .i64 0, .string ⟨#[]⟩, .bool false, .int .i64 0, .int .i64 0]) := by kernel_rfl
theorem tsz37 : tsz Tryz.prog 37 = 7 := by kernel_rfl
theorem tud37 : (Tryz.prog.underlying 37).isSome = true := by kernel_rfl
theorem tin37 : (Tryz.prog.info? 37).isSome = true := by kernel_rfl
theorem tag37 : tagg Tryz.prog 37 = true := by kernel_rfl
theorem tsl37 : selem Tryz.prog 37 = none := by kernel_rfl
theorem teq37 : eqf Tryz.prog 37 = some [(0, 0), (0, 1), (0, 2), (2, 3), (1, 4), (0, 5), (0, 6)] := by kernel_rfl
theorem tby37 : tby Tryz.prog 37 = 64 := by kernel_rfl
theorem tfo37_0 : foff Tryz.prog 37 0 = some 0 := by kernel_rfl
theorem tft37_0 : ftype Tryz.prog 37 0 = some (3, 0) := by kernel_rfl
theorem tfo37_1 : foff Tryz.prog 37 1 = some 1 := by kernel_rfl
theorem tft37_1 : ftype Tryz.prog 37 1 = some (3, 1) := by kernel_rfl
theorem tfo37_2 : foff Tryz.prog 37 2 = some 2 := by kernel_rfl
theorem tft37_2 : ftype Tryz.prog 37 2 = some (3, 2) := by kernel_rfl
theorem tfo37_3 : foff Tryz.prog 37 3 = some 3 := by kernel_rfl
theorem tft37_3 : ftype Tryz.prog 37 3 = some (9, 3) := by kernel_rfl
theorem tfo37_4 : foff Tryz.prog 37 4 = some 4 := by kernel_rfl
theorem tft37_4 : ftype Tryz.prog 37 4 = some (4, 4) := by kernel_rfl
theorem tfo37_5 : foff Tryz.prog 37 5 = some 5 := by kernel_rfl
theorem tft37_5 : ftype Tryz.prog 37 5 = some (2, 5) := by kernel_rfl
theorem tfo37_6 : foff Tryz.prog 37 6 = some 6 := by kernel_rfl
theorem tft37_6 : ftype Tryz.prog 37 6 = some (3, 6) := by kernel_rfl
theorem tpl37 : splaces Tryz.prog 37 = some [(0, 1), (1, 1), (2, 1), (3, 1), (4, 1), (5, 1), (6, 1)] := by kernel_rfl
theorem tze37 : tzero Tryz.prog 37 = some (.agg #[.int .i64 0, .int .i64 0, .int .i64 0, .string ⟨#[]⟩, .bool false, .int .i64 0, .int .i64 0]) := by kernel_rfl
theorem tsz45 : tsz Tryz.prog 45 = 3 := by kernel_rfl
theorem tud45 : (Tryz.prog.underlying 45).isSome = true := by kernel_rfl
theorem tin45 : (Tryz.prog.info? 45).isSome = true := by kernel_rfl
theorem tag45 : tagg Tryz.prog 45 = true := by kernel_rfl
theorem tsl45 : selem Tryz.prog 45 = none := by kernel_rfl
theorem teq45 : eqf Tryz.prog 45 = some [(0, 0), (0, 1), (2, 2)] := by kernel_rfl
theorem tby45 : tby Tryz.prog 45 = 32 := by kernel_rfl
theorem tfo45_0 : foff Tryz.prog 45 0 = some 0 := by kernel_rfl
theorem tft45_0 : ftype Tryz.prog 45 0 = some (3, 0) := by kernel_rfl
theorem tfo45_1 : foff Tryz.prog 45 1 = some 1 := by kernel_rfl
theorem tft45_1 : ftype Tryz.prog 45 1 = some (3, 1) := by kernel_rfl
theorem tfo45_2 : foff Tryz.prog 45 2 = some 2 := by kernel_rfl
theorem tft45_2 : ftype Tryz.prog 45 2 = some (9, 2) := by kernel_rfl
theorem tpl45 : splaces Tryz.prog 45 = some [(0, 1), (1, 1), (2, 1)] := by kernel_rfl
theorem tze45 : tzero Tryz.prog 45 = some (.agg #[.int .i64 0, .int .i64 0, .string ⟨#[]⟩]) := by kernel_rfl
theorem tsz46 : tsz Tryz.prog 46 = 3 := by kernel_rfl
theorem tud46 : (Tryz.prog.underlying 46).isSome = true := by kernel_rfl
theorem tin46 : (Tryz.prog.info? 46).isSome = true := by kernel_rfl
theorem tag46 : tagg Tryz.prog 46 = true := by kernel_rfl
theorem tsl46 : selem Tryz.prog 46 = none := by kernel_rfl
theorem teq46 : eqf Tryz.prog 46 = some [(0, 0), (0, 1), (2, 2)] := by kernel_rfl
theorem tby46 : tby Tryz.prog 46 = 32 := by kernel_rfl
theorem tfo46_0 : foff Tryz.prog 46 0 = some 0 := by kernel_rfl
theorem tft46_0 : ftype Tryz.prog 46 0 = some (3, 0) := by kernel_rfl
theorem tfo46_1 : foff Tryz.prog 46 1 = some 1 := by kernel_rfl
theorem tft46_1 : ftype Tryz.prog 46 1 = some (3, 1) := by kernel_rfl
theorem tfo46_2 : foff Tryz.prog 46 2 = some 2 := by kernel_rfl
theorem tft46_2 : ftype Tryz.prog 46 2 = some (9, 2) := by kernel_rfl
theorem tpl46 : splaces Tryz.prog 46 = some [(0, 1), (1, 1), (2, 1)] := by kernel_rfl
theorem tze46 : tzero Tryz.prog 46 = some (.agg #[.int .i64 0, .int .i64 0, .string ⟨#[]⟩]) := by kernel_rfl
theorem tsz47 : tsz Tryz.prog 47 = 4 := by kernel_rfl
theorem tud47 : (Tryz.prog.underlying 47).isSome = true := by kernel_rfl
theorem tin47 : (Tryz.prog.info? 47).isSome = true := by kernel_rfl
theorem tag47 : tagg Tryz.prog 47 = true := by kernel_rfl
theorem tsl47 : selem Tryz.prog 47 = none := by kernel_rfl
theorem tby47 : tby Tryz.prog 47 = 48 := by kernel_rfl
theorem tfo47_0 : foff Tryz.prog 47 0 = some 0 := by kernel_rfl
theorem tft47_0 : ftype Tryz.prog 47 0 = some (3, 0) := by kernel_rfl
theorem tfo47_1 : foff Tryz.prog 47 1 = some 1 := by kernel_rfl
theorem tft47_1 : ftype Tryz.prog 47 1 = some (23, 1) := by kernel_rfl
theorem tfo47_2 : foff Tryz.prog 47 2 = some 2 := by kernel_rfl
theorem tft47_2 : ftype Tryz.prog 47 2 = some (2, 2) := by kernel_rfl
theorem tfo47_3 : foff Tryz.prog 47 3 = some 3 := by kernel_rfl
theorem tft47_3 : ftype Tryz.prog 47 3 = some (2, 3) := by kernel_rfl
theorem tpl47 : splaces Tryz.prog 47 = some [(0, 1), (1, 1), (2, 1), (3, 1)] := by kernel_rfl
theorem tze47 : tzero Tryz.prog 47 = some (.agg #[.int .i64 0, .slice none 0 0, .int .i64 0, .int .i64 0]) := by kernel_rfl
theorem tsz48 : tsz Tryz.prog 48 = 4 := by kernel_rfl
theorem tud48 : (Tryz.prog.underlying 48).isSome = true := by kernel_rfl
theorem tin48 : (Tryz.prog.info? 48).isSome = true := by kernel_rfl
theorem tag48 : tagg Tryz.prog 48 = true := by kernel_rfl
theorem tsl48 : selem Tryz.prog 48 = none := by kernel_rfl
theorem tby48 : tby Tryz.prog 48 = 48 := by kernel_rfl
theorem tfo48_0 : foff Tryz.prog 48 0 = some 0 := by kernel_rfl
theorem tft48_0 : ftype Tryz.prog 48 0 = some (3, 0) := by kernel_rfl
theorem tfo48_1 : foff Tryz.prog 48 1 = some 1 := by kernel_rfl
theorem tft48_1 : ftype Tryz.prog 48 1 = some (23, 1) := by kernel_rfl
theorem tfo48_2 : foff Tryz.prog 48 2 = some 2 := by kernel_rfl
theorem tft48_2 : ftype Tryz.prog 48 2 = some (2, 2) := by kernel_rfl
theorem tfo48_3 : foff Tryz.prog 48 3 = some 3 := by kernel_rfl
theorem tft48_3 : ftype Tryz.prog 48 3 = some (2, 3) := by kernel_rfl
theorem tpl48 : splaces Tryz.prog 48 = some [(0, 1), (1, 1), (2, 1), (3, 1)] := by kernel_rfl
theorem tze48 : tzero Tryz.prog 48 = some (.agg #[.int .i64 0, .slice none 0 0, .int .i64 0, .int .i64 0]) := by kernel_rfl
theorem tsz51 : tsz Tryz.prog 51 = 8 := by kernel_rfl
theorem tud51 : (Tryz.prog.underlying 51).isSome = true := by kernel_rfl
theorem tin51 : (Tryz.prog.info? 51).isSome = true := by kernel_rfl
theorem tag51 : tagg Tryz.prog 51 = true := by kernel_rfl
theorem tsl51 : selem Tryz.prog 51 = none := by kernel_rfl
theorem tby51 : tby Tryz.prog 51 = 72 := by kernel_rfl
theorem tfo51_0 : foff Tryz.prog 51 0 = some 0 := by kernel_rfl
theorem tft51_0 : ftype Tryz.prog 51 0 = some (3, 0) := by kernel_rfl
theorem tfo51_1 : foff Tryz.prog 51 1 = some 1 := by kernel_rfl
theorem tft51_1 : ftype Tryz.prog 51 1 = some (37, 1) := by kernel_rfl
theorem tpl51 : splaces Tryz.prog 51 = some [(0, 1), (1, 7)] := by kernel_rfl
theorem tze51 : tzero Tryz.prog 51 = some (.agg #[.int .i64 0, .int .i64 0, .int .i64 0, .int .i64 0, .string ⟨#[]⟩, .bool false, .int .i64 0, .int .i64 0]) := by kernel_rfl
theorem tsz52 : tsz Tryz.prog 52 = 8 := by kernel_rfl
theorem tud52 : (Tryz.prog.underlying 52).isSome = true := by kernel_rfl
theorem tin52 : (Tryz.prog.info? 52).isSome = true := by kernel_rfl
theorem tag52 : tagg Tryz.prog 52 = true := by kernel_rfl
theorem tsl52 : selem Tryz.prog 52 = none := by kernel_rfl
theorem tby52 : tby Tryz.prog 52 = 72 := by kernel_rfl
theorem tfo52_0 : foff Tryz.prog 52 0 = some 0 := by kernel_rfl
theorem tft52_0 : ftype Tryz.prog 52 0 = some (3, 0) := by kernel_rfl
theorem tfo52_1 : foff Tryz.prog 52 1 = some 1 := by kernel_rfl
theorem tft52_1 : ftype Tryz.prog 52 1 = some (37, 1) := by kernel_rfl
theorem tpl52 : splaces Tryz.prog 52 = some [(0, 1), (1, 7)] := by kernel_rfl
theorem tze52 : tzero Tryz.prog 52 = some (.agg #[.int .i64 0, .int .i64 0, .int .i64 0, .int .i64 0, .string ⟨#[]⟩, .bool false, .int .i64 0, .int .i64 0]) := by kernel_rfl
theorem tsz58 : tsz Tryz.prog 58 = 1 := by kernel_rfl
theorem tud58 : (Tryz.prog.underlying 58).isSome = true := by kernel_rfl
theorem tin58 : (Tryz.prog.info? 58).isSome = true := by kernel_rfl
theorem tag58 : tagg Tryz.prog 58 = false := by kernel_rfl
theorem tsl58 : selem Tryz.prog 58 = some 2 := by kernel_rfl
theorem tby58 : tby Tryz.prog 58 = 24 := by kernel_rfl
theorem tze58 : tzero Tryz.prog 58 = some (.slice none 0 0) := by kernel_rfl
theorem tsz90 : tsz Tryz.prog 90 = 1 := by kernel_rfl
theorem tud90 : (Tryz.prog.underlying 90).isSome = true := by kernel_rfl
theorem tun90 : Tryz.prog.underlying 90 = some (.int .u64) := by kernel_rfl
theorem tin90 : (Tryz.prog.info? 90).isSome = true := by kernel_rfl
theorem tag90 : tagg Tryz.prog 90 = false := by kernel_rfl
theorem tsl90 : selem Tryz.prog 90 = none := by kernel_rfl
theorem tby90 : tby Tryz.prog 90 = 8 := by kernel_rfl
theorem tze90 : tzero Tryz.prog 90 = some (.int .u64 0) := by kernel_rfl
theorem tsz94 : tsz Tryz.prog 94 = 1 := by kernel_rfl
theorem tud94 : (Tryz.prog.underlying 94).isSome = true := by kernel_rfl
theorem tun94 : Tryz.prog.underlying 94 = some (.int .u64) := by kernel_rfl
theorem tin94 : (Tryz.prog.info? 94).isSome = true := by kernel_rfl
theorem tag94 : tagg Tryz.prog 94 = false := by kernel_rfl
theorem tsl94 : selem Tryz.prog 94 = none := by kernel_rfl
theorem tby94 : tby Tryz.prog 94 = 8 := by kernel_rfl
theorem tze94 : tzero Tryz.prog 94 = some (.int .u64 0) := by kernel_rfl
theorem tsz96 : tsz Tryz.prog 96 = 1 := by kernel_rfl
theorem tud96 : (Tryz.prog.underlying 96).isSome = true := by kernel_rfl
theorem tin96 : (Tryz.prog.info? 96).isSome = true := by kernel_rfl
theorem tag96 : tagg Tryz.prog 96 = false := by kernel_rfl
theorem tsl96 : selem Tryz.prog 96 = none := by kernel_rfl
theorem tby96 : tby Tryz.prog 96 = 8 := by kernel_rfl
theorem tze96 : tzero Tryz.prog 96 = some (.pointer none) := by kernel_rfl
theorem tsz101 : tsz Tryz.prog 101 = 4 := by kernel_rfl
theorem tud101 : (Tryz.prog.underlying 101).isSome = true := by kernel_rfl
theorem tin101 : (Tryz.prog.info? 101).isSome = true := by kernel_rfl
theorem tag101 : tagg Tryz.prog 101 = true := by kernel_rfl
theorem tsl101 : selem Tryz.prog 101 = none := by kernel_rfl
theorem tpl101 : splaces Tryz.prog 101 = none := by kernel_rfl
theorem tar101 : aelem Tryz.prog 101 = some (4, 90) := by kernel_rfl
theorem teq101 : eqf Tryz.prog 101 = some [(0, 0), (0, 1), (0, 2), (0, 3)] := by kernel_rfl
theorem tby101 : tby Tryz.prog 101 = 32 := by kernel_rfl
theorem tze101 : tzero Tryz.prog 101 = some (.agg #[.int .u64 0, .int .u64 0, .int .u64 0, .int .u64 0]) := by kernel_rfl
theorem tsz102 : tsz Tryz.prog 102 = 4 := by kernel_rfl
theorem tud102 : (Tryz.prog.underlying 102).isSome = true := by kernel_rfl
theorem tin102 : (Tryz.prog.info? 102).isSome = true := by kernel_rfl
theorem tag102 : tagg Tryz.prog 102 = true := by kernel_rfl
theorem tsl102 : selem Tryz.prog 102 = none := by kernel_rfl
theorem tpl102 : splaces Tryz.prog 102 = none := by kernel_rfl
theorem tar102 : aelem Tryz.prog 102 = some (4, 90) := by kernel_rfl
theorem teq102 : eqf Tryz.prog 102 = some [(0, 0), (0, 1), (0, 2), (0, 3)] := by kernel_rfl
theorem tby102 : tby Tryz.prog 102 = 32 := by kernel_rfl
theorem tze102 : tzero Tryz.prog 102 = some (.agg #[.int .u64 0, .int .u64 0, .int .u64 0, .int .u64 0]) := by kernel_rfl
theorem tsz114 : tsz Tryz.prog 114 = 1 := by kernel_rfl
theorem tud114 : (Tryz.prog.underlying 114).isSome = true := by kernel_rfl
theorem tun114 : Tryz.prog.underlying 114 = some (.int .i64) := by kernel_rfl
theorem tin114 : (Tryz.prog.info? 114).isSome = true := by kernel_rfl
theorem tag114 : tagg Tryz.prog 114 = false := by kernel_rfl
theorem tsl114 : selem Tryz.prog 114 = none := by kernel_rfl
theorem tby114 : tby Tryz.prog 114 = 8 := by kernel_rfl
theorem tze114 : tzero Tryz.prog 114 = some (.int .i64 0) := by kernel_rfl
theorem tsz122 : tsz Tryz.prog 122 = 1 := by kernel_rfl
theorem tud122 : (Tryz.prog.underlying 122).isSome = true := by kernel_rfl
theorem tun122 : Tryz.prog.underlying 122 = some (.int .u32) := by kernel_rfl
theorem tin122 : (Tryz.prog.info? 122).isSome = true := by kernel_rfl
theorem tag122 : tagg Tryz.prog 122 = false := by kernel_rfl
theorem tsl122 : selem Tryz.prog 122 = none := by kernel_rfl
theorem tby122 : tby Tryz.prog 122 = 4 := by kernel_rfl
theorem tze122 : tzero Tryz.prog 122 = some (.int .u32 0) := by kernel_rfl
theorem tsz125 : tsz Tryz.prog 125 = 1 := by kernel_rfl
theorem tud125 : (Tryz.prog.underlying 125).isSome = true := by kernel_rfl
theorem tin125 : (Tryz.prog.info? 125).isSome = true := by kernel_rfl
theorem tag125 : tagg Tryz.prog 125 = false := by kernel_rfl
theorem tsl125 : selem Tryz.prog 125 = some 4 := by kernel_rfl
theorem tby125 : tby Tryz.prog 125 = 24 := by kernel_rfl
theorem tze125 : tzero Tryz.prog 125 = some (.slice none 0 0) := by kernel_rfl
theorem tsz126 : tsz Tryz.prog 126 = 1 := by kernel_rfl
theorem tud126 : (Tryz.prog.underlying 126).isSome = true := by kernel_rfl
theorem tin126 : (Tryz.prog.info? 126).isSome = true := by kernel_rfl
theorem tag126 : tagg Tryz.prog 126 = false := by kernel_rfl
theorem tsl126 : selem Tryz.prog 126 = some 23 := by kernel_rfl
theorem tby126 : tby Tryz.prog 126 = 24 := by kernel_rfl
theorem tze126 : tzero Tryz.prog 126 = some (.slice none 0 0) := by kernel_rfl
theorem tsz127 : tsz Tryz.prog 127 = 10 := by kernel_rfl
theorem tud127 : (Tryz.prog.underlying 127).isSome = true := by kernel_rfl
theorem tin127 : (Tryz.prog.info? 127).isSome = true := by kernel_rfl
theorem tag127 : tagg Tryz.prog 127 = true := by kernel_rfl
theorem tsl127 : selem Tryz.prog 127 = none := by kernel_rfl
theorem tby127 : tby Tryz.prog 127 = 136 := by kernel_rfl
theorem tfo127_0 : foff Tryz.prog 127 0 = some 0 := by kernel_rfl
theorem tft127_0 : ftype Tryz.prog 127 0 = some (22, 0) := by kernel_rfl
theorem tfo127_1 : foff Tryz.prog 127 1 = some 1 := by kernel_rfl
theorem tft127_1 : ftype Tryz.prog 127 1 = some (125, 1) := by kernel_rfl
theorem tfo127_2 : foff Tryz.prog 127 2 = some 2 := by kernel_rfl
theorem tft127_2 : ftype Tryz.prog 127 2 = some (126, 2) := by kernel_rfl
theorem tfo127_3 : foff Tryz.prog 127 3 = some 3 := by kernel_rfl
theorem tft127_3 : ftype Tryz.prog 127 3 = some (37, 3) := by kernel_rfl
theorem tpl127 : splaces Tryz.prog 127 = some [(0, 1), (1, 1), (2, 1), (3, 7)] := by kernel_rfl
theorem tze127 : tzero Tryz.prog 127 = some (.agg #[.slice none 0 0, .slice none 0 0, .slice none 0 0, .int .i64 0, .int .i64 0, .int .i64 0, .string ⟨#[]⟩, .bool false, .int .i64 0, .int .i64 0]) := by kernel_rfl
theorem tsz128 : tsz Tryz.prog 128 = 10 := by kernel_rfl
theorem tud128 : (Tryz.prog.underlying 128).isSome = true := by kernel_rfl
theorem tin128 : (Tryz.prog.info? 128).isSome = true := by kernel_rfl
theorem tag128 : tagg Tryz.prog 128 = true := by kernel_rfl
theorem tsl128 : selem Tryz.prog 128 = none := by kernel_rfl
theorem tby128 : tby Tryz.prog 128 = 136 := by kernel_rfl
theorem tfo128_0 : foff Tryz.prog 128 0 = some 0 := by kernel_rfl
theorem tft128_0 : ftype Tryz.prog 128 0 = some (22, 0) := by kernel_rfl
theorem tfo128_1 : foff Tryz.prog 128 1 = some 1 := by kernel_rfl
theorem tft128_1 : ftype Tryz.prog 128 1 = some (125, 1) := by kernel_rfl
theorem tfo128_2 : foff Tryz.prog 128 2 = some 2 := by kernel_rfl
theorem tft128_2 : ftype Tryz.prog 128 2 = some (126, 2) := by kernel_rfl
theorem tfo128_3 : foff Tryz.prog 128 3 = some 3 := by kernel_rfl
theorem tft128_3 : ftype Tryz.prog 128 3 = some (37, 3) := by kernel_rfl
theorem tpl128 : splaces Tryz.prog 128 = some [(0, 1), (1, 1), (2, 1), (3, 7)] := by kernel_rfl
theorem tze128 : tzero Tryz.prog 128 = some (.agg #[.slice none 0 0, .slice none 0 0, .slice none 0 0, .int .i64 0, .int .i64 0, .int .i64 0, .string ⟨#[]⟩, .bool false, .int .i64 0, .int .i64 0]) := by kernel_rfl
theorem tsz135 : tsz Tryz.prog 135 = 1 := by kernel_rfl
theorem tud135 : (Tryz.prog.underlying 135).isSome = true := by kernel_rfl
theorem tun135 : Tryz.prog.underlying 135 = some (.int .u64) := by kernel_rfl
theorem tin135 : (Tryz.prog.info? 135).isSome = true := by kernel_rfl
theorem tag135 : tagg Tryz.prog 135 = false := by kernel_rfl
theorem tsl135 : selem Tryz.prog 135 = none := by kernel_rfl
theorem tby135 : tby Tryz.prog 135 = 8 := by kernel_rfl
theorem tze135 : tzero Tryz.prog 135 = some (.int .u64 0) := by kernel_rfl
theorem tsz139 : tsz Tryz.prog 139 = 1 := by kernel_rfl
theorem tud139 : (Tryz.prog.underlying 139).isSome = true := by kernel_rfl
theorem tin139 : (Tryz.prog.info? 139).isSome = true := by kernel_rfl
theorem tag139 : tagg Tryz.prog 139 = false := by kernel_rfl
theorem tsl139 : selem Tryz.prog 139 = none := by kernel_rfl
theorem tby139 : tby Tryz.prog 139 = 8 := by kernel_rfl
theorem tze139 : tzero Tryz.prog 139 = some (.pointer none) := by kernel_rfl
theorem tsz147 : tsz Tryz.prog 147 = 1 := by kernel_rfl
theorem tud147 : (Tryz.prog.underlying 147).isSome = true := by kernel_rfl
theorem tin147 : (Tryz.prog.info? 147).isSome = true := by kernel_rfl
theorem tag147 : tagg Tryz.prog 147 = false := by kernel_rfl
theorem tsl147 : selem Tryz.prog 147 = none := by kernel_rfl
theorem tby147 : tby Tryz.prog 147 = 8 := by kernel_rfl
theorem tze147 : tzero Tryz.prog 147 = some (.pointer none) := by kernel_rfl
theorem tsz150 : tsz Tryz.prog 150 = 64 := by kernel_rfl
theorem tud150 : (Tryz.prog.underlying 150).isSome = true := by kernel_rfl
theorem tin150 : (Tryz.prog.info? 150).isSome = true := by kernel_rfl
theorem tag150 : tagg Tryz.prog 150 = true := by kernel_rfl
theorem tsl150 : selem Tryz.prog 150 = none := by kernel_rfl
theorem tpl150 : splaces Tryz.prog 150 = none := by kernel_rfl
theorem tar150 : aelem Tryz.prog 150 = some (64, 5) := by kernel_rfl
theorem teq150 : eqf Tryz.prog 150 = some [(0, 0), (0, 1), (0, 2), (0, 3), (0, 4), (0, 5), (0, 6), (0, 7), (0, 8), (0, 9), (0, 10), (0, 11), (0, 12), (0, 13), (0, 14), (0, 15), (0, 16), (0, 17), (0, 18), (0, 19), (0, 20), (0, 21), (0, 22), (0, 23), (0, 24), (0, 25), (0, 26), (0, 27), (0, 28), (0, 29), (0, 30), (0, 31), (0, 32), (0, 33), (0, 34), (0, 35), (0, 36), (0, 37), (0, 38), (0, 39), (0, 40), (0, 41), (0, 42), (0, 43), (0, 44), (0, 45), (0, 46), (0, 47), (0, 48), (0, 49), (0, 50), (0, 51), (0, 52), (0, 53), (0, 54), (0, 55), (0, 56), (0, 57), (0, 58), (0, 59), (0, 60), (0, 61), (0, 62), (0, 63)] := by kernel_rfl
theorem tby150 : tby Tryz.prog 150 = 64 := by kernel_rfl
theorem tze150 : tzero Tryz.prog 150 = some (.agg #[.int .u8 0, .int .u8 0, .int .u8 0, .int .u8 0, .int .u8 0, .int .u8 0, .int .u8 0, .int .u8 0, .int .u8 0, .int .u8 0, .int .u8 0, .int .u8 0, .int .u8 0, .int .u8 0, .int .u8 0, .int .u8 0, .int .u8 0, .int .u8 0, .int .u8 0, .int .u8 0, .int .u8 0, .int .u8 0, .int .u8 0, .int .u8 0, .int .u8 0, .int .u8 0, .int .u8 0, .int .u8 0, .int .u8 0, .int .u8 0, .int .u8 0, .int .u8 0, .int .u8 0, .int .u8 0, .int .u8 0, .int .u8 0, .int .u8 0, .int .u8 0, .int .u8 0, .int .u8 0, .int .u8 0, .int .u8 0, .int .u8 0, .int .u8 0, .int .u8 0, .int .u8 0, .int .u8 0, .int .u8 0, .int .u8 0, .int .u8 0, .int .u8 0, .int .u8 0, .int .u8 0, .int .u8 0, .int .u8 0, .int .u8 0, .int .u8 0, .int .u8 0, .int .u8 0, .int .u8 0, .int .u8 0, .int .u8 0, .int .u8 0, .int .u8 0]) := by kernel_rfl
theorem tsz161 : tsz Tryz.prog 161 = 1 := by kernel_rfl
theorem tud161 : (Tryz.prog.underlying 161).isSome = true := by kernel_rfl
theorem tin161 : (Tryz.prog.info? 161).isSome = true := by kernel_rfl
theorem tag161 : tagg Tryz.prog 161 = false := by kernel_rfl
theorem tsl161 : selem Tryz.prog 161 = none := by kernel_rfl
theorem tby161 : tby Tryz.prog 161 = 8 := by kernel_rfl
theorem tze161 : tzero Tryz.prog 161 = some (.pointer none) := by kernel_rfl
theorem tsz166 : tsz Tryz.prog 166 = 1 := by kernel_rfl
theorem tud166 : (Tryz.prog.underlying 166).isSome = true := by kernel_rfl
theorem tin166 : (Tryz.prog.info? 166).isSome = true := by kernel_rfl
theorem tag166 : tagg Tryz.prog 166 = false := by kernel_rfl
theorem tsl166 : selem Tryz.prog 166 = none := by kernel_rfl
theorem tby166 : tby Tryz.prog 166 = 8 := by kernel_rfl
theorem tze166 : tzero Tryz.prog 166 = some (.pointer none) := by kernel_rfl
attribute [go_sem] tsz2 tud2 tun2 tin2 tag2 tsl2 tby2 tze2 tsz3 tud3 tun3 tin3 tag3 tsl3 tby3 tze3 tsz4 tud4 tun4 tin4 tag4 tsl4 tby4 tze4 tsz5 tud5 tun5 tin5 tag5 tsl5 tby5 tze5 tsz9 tud9 tun9 tin9 tag9 tsl9 tby9 tze9 tsz12 tud12 tun12 tin12 tag12 tsl12 tby12 tze12 tsz20 tud20 tin20 tag20 tsl20 tby20 tze20 tsz21 tud21 tun21 tin21 tag21 tsl21 tby21 tze21 tsz22 tud22 tin22 tag22 tsl22 tby22 tze22 tsz23 tud23 tin23 tag23 tsl23 tby23 tze23 tsz24 tud24 tin24 tag24 tsl24 tby24 tze24 tsz25 tud25 tin25 tag25 tsl25 tby25 tze25 tsz29 tud29 tun29 tin29 tag29 tsl29 tby29 tze29 tsz36 tud36 tin36 tag36 tsl36 teq36 tby36 tfo36_0 tft36_0 tfo36_1 tft36_1 tfo36_2 tft36_2 tfo36_3 tft36_3 tfo36_4 tft36_4 tfo36_5 tft36_5 tfo36_6 tft36_6 tpl36 tze36 tsz37 tud37 tin37 tag37 tsl37 teq37 tby37 tfo37_0 tft37_0 tfo37_1 tft37_1 tfo37_2 tft37_2 tfo37_3 tft37_3 tfo37_4 tft37_4 tfo37_5 tft37_5 tfo37_6 tft37_6 tpl37 tze37 tsz45 tud45 tin45 tag45 tsl45 teq45 tby45 tfo45_0 tft45_0 tfo45_1 tft45_1 tfo45_2 tft45_2 tpl45 tze45 tsz46 tud46 tin46 tag46 tsl46 teq46 tby46 tfo46_0 tft46_0 tfo46_1 tft46_1 tfo46_2 tft46_2 tpl46 tze46 tsz47 tud47 tin47 tag47 tsl47 tby47 tfo47_0 tft47_0 tfo47_1 tft47_1 tfo47_2 tft47_2 tfo47_3 tft47_3 tpl47 tze47 tsz48 tud48 tin48 tag48 tsl48 tby48 tfo48_0 tft48_0 tfo48_1 tft48_1 tfo48_2 tft48_2 tfo48_3 tft48_3 tpl48 tze48 tsz51 tud51 tin51 tag51 tsl51 tby51 tfo51_0 tft51_0 tfo51_1 tft51_1 tpl51 tze51 tsz52 tud52 tin52 tag52 tsl52 tby52 tfo52_0 tft52_0 tfo52_1 tft52_1 tpl52 tze52 tsz58 tud58 tin58 tag58 tsl58 tby58 tze58 tsz90 tud90 tun90 tin90 tag90 tsl90 tby90 tze90 tsz94 tud94 tun94 tin94 tag94 tsl94 tby94 tze94 tsz96 tud96 tin96 tag96 tsl96 tby96 tze96 tsz101 tud101 tin101 tag101 tsl101 tpl101 tar101 teq101 tby101 tze101 tsz102 tud102 tin102 tag102 tsl102 tpl102 tar102 teq102 tby102 tze102 tsz114 tud114 tun114 tin114 tag114 tsl114 tby114 tze114 tsz122 tud122 tun122 tin122 tag122 tsl122 tby122 tze122 tsz125 tud125 tin125 tag125 tsl125 tby125 tze125 tsz126 tud126 tin126 tag126 tsl126 tby126 tze126 tsz127 tud127 tin127 tag127 tsl127 tby127 tfo127_0 tft127_0 tfo127_1 tft127_1 tfo127_2 tft127_2 tfo127_3 tft127_3 tpl127 tze127 tsz128 tud128 tin128 tag128 tsl128 tby128 tfo128_0 tft128_0 tfo128_1 tft128_1 tfo128_2 tft128_2 tfo128_3 tft128_3 tpl128 tze128 tsz135 tud135 tun135 tin135 tag135 tsl135 tby135 tze135 tsz139 tud139 tin139 tag139 tsl139 tby139 tze139 tsz147 tud147 tin147 tag147 tsl147 tby147 tze147 tsz150 tud150 tin150 tag150 tsl150 tpl150 tar150 teq150 tby150 tze150 tsz161 tud161 tin161 tag161 tsl161 tby161 tze161 tsz166 tud166 tin166 tag166 tsl166 tby166 tze166
end Go.Proofs.YtinhfnbmgmociaaGreatDoor.Ab
