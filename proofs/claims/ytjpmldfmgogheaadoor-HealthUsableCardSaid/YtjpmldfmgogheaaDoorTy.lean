/- What the abstract layer asks of the types. -/
import Derived.Test.YtjpmldfmgogheaaDoorProg
import Derived.Test.YtjpmldfmgogheaaDoorAbP
import Derived.ProofKit
namespace Go.Proofs.YtjpmldfmgogheaaDoor.Ab
theorem tsz2 : tsz Tryd.prog 2 = 1 := by kernel_rfl
theorem tud2 : (Tryd.prog.underlying 2).isSome = true := by kernel_rfl
theorem tun2 : Tryd.prog.underlying 2 = some (.int .i64) := by kernel_rfl
theorem tin2 : (Tryd.prog.info? 2).isSome = true := by kernel_rfl
theorem tag2 : tagg Tryd.prog 2 = false := by kernel_rfl
theorem tsl2 : selem Tryd.prog 2 = none := by kernel_rfl
theorem tby2 : tby Tryd.prog 2 = 8 := by kernel_rfl
theorem tze2 : tzero Tryd.prog 2 = some (.int .i64 0) := by kernel_rfl
theorem tsz3 : tsz Tryd.prog 3 = 1 := by kernel_rfl
theorem tud3 : (Tryd.prog.underlying 3).isSome = true := by kernel_rfl
theorem tun3 : Tryd.prog.underlying 3 = some (.int .i64) := by kernel_rfl
theorem tin3 : (Tryd.prog.info? 3).isSome = true := by kernel_rfl
theorem tag3 : tagg Tryd.prog 3 = false := by kernel_rfl
theorem tsl3 : selem Tryd.prog 3 = none := by kernel_rfl
theorem tby3 : tby Tryd.prog 3 = 8 := by kernel_rfl
theorem tze3 : tzero Tryd.prog 3 = some (.int .i64 0) := by kernel_rfl
theorem tsz4 : tsz Tryd.prog 4 = 1 := by kernel_rfl
theorem tud4 : (Tryd.prog.underlying 4).isSome = true := by kernel_rfl
theorem tun4 : Tryd.prog.underlying 4 = some .bool := by kernel_rfl
theorem tin4 : (Tryd.prog.info? 4).isSome = true := by kernel_rfl
theorem tag4 : tagg Tryd.prog 4 = false := by kernel_rfl
theorem tsl4 : selem Tryd.prog 4 = none := by kernel_rfl
theorem tby4 : tby Tryd.prog 4 = 1 := by kernel_rfl
theorem tze4 : tzero Tryd.prog 4 = some (.bool false) := by kernel_rfl
theorem tsz5 : tsz Tryd.prog 5 = 1 := by kernel_rfl
theorem tud5 : (Tryd.prog.underlying 5).isSome = true := by kernel_rfl
theorem tun5 : Tryd.prog.underlying 5 = some (.int .u8) := by kernel_rfl
theorem tin5 : (Tryd.prog.info? 5).isSome = true := by kernel_rfl
theorem tag5 : tagg Tryd.prog 5 = false := by kernel_rfl
theorem tsl5 : selem Tryd.prog 5 = none := by kernel_rfl
theorem tby5 : tby Tryd.prog 5 = 1 := by kernel_rfl
theorem tze5 : tzero Tryd.prog 5 = some (.int .u8 0) := by kernel_rfl
theorem tsz9 : tsz Tryd.prog 9 = 1 := by kernel_rfl
theorem tud9 : (Tryd.prog.underlying 9).isSome = true := by kernel_rfl
theorem tun9 : Tryd.prog.underlying 9 = some .string := by kernel_rfl
theorem tin9 : (Tryd.prog.info? 9).isSome = true := by kernel_rfl
theorem tag9 : tagg Tryd.prog 9 = false := by kernel_rfl
theorem tsl9 : selem Tryd.prog 9 = none := by kernel_rfl
theorem tby9 : tby Tryd.prog 9 = 16 := by kernel_rfl
theorem tze9 : tzero Tryd.prog 9 = some (.string ⟨#[]⟩) := by kernel_rfl
theorem tsz12 : tsz Tryd.prog 12 = 1 := by kernel_rfl
theorem tud12 : (Tryd.prog.underlying 12).isSome = true := by kernel_rfl
theorem tun12 : Tryd.prog.underlying 12 = some (.int .u64) := by kernel_rfl
theorem tin12 : (Tryd.prog.info? 12).isSome = true := by kernel_rfl
theorem tag12 : tagg Tryd.prog 12 = false := by kernel_rfl
theorem tsl12 : selem Tryd.prog 12 = none := by kernel_rfl
theorem tby12 : tby Tryd.prog 12 = 8 := by kernel_rfl
theorem tze12 : tzero Tryd.prog 12 = some (.int .u64 0) := by kernel_rfl
theorem tsz20 : tsz Tryd.prog 20 = 1 := by kernel_rfl
theorem tud20 : (Tryd.prog.underlying 20).isSome = true := by kernel_rfl
theorem tin20 : (Tryd.prog.info? 20).isSome = true := by kernel_rfl
theorem tag20 : tagg Tryd.prog 20 = false := by kernel_rfl
theorem tsl20 : selem Tryd.prog 20 = none := by kernel_rfl
theorem tby20 : tby Tryd.prog 20 = 16 := by kernel_rfl
theorem tze20 : tzero Tryd.prog 20 = some (.nilIface) := by kernel_rfl
theorem tsz21 : tsz Tryd.prog 21 = 1 := by kernel_rfl
theorem tud21 : (Tryd.prog.underlying 21).isSome = true := by kernel_rfl
theorem tun21 : Tryd.prog.underlying 21 = some (.int .i32) := by kernel_rfl
theorem tin21 : (Tryd.prog.info? 21).isSome = true := by kernel_rfl
theorem tag21 : tagg Tryd.prog 21 = false := by kernel_rfl
theorem tsl21 : selem Tryd.prog 21 = none := by kernel_rfl
theorem tby21 : tby Tryd.prog 21 = 4 := by kernel_rfl
theorem tze21 : tzero Tryd.prog 21 = some (.int .i32 0) := by kernel_rfl
theorem tsz22 : tsz Tryd.prog 22 = 1 := by kernel_rfl
theorem tud22 : (Tryd.prog.underlying 22).isSome = true := by kernel_rfl
theorem tin22 : (Tryd.prog.info? 22).isSome = true := by kernel_rfl
theorem tag22 : tagg Tryd.prog 22 = false := by kernel_rfl
theorem tsl22 : selem Tryd.prog 22 = some 44 := by kernel_rfl
theorem tby22 : tby Tryd.prog 22 = 24 := by kernel_rfl
theorem tze22 : tzero Tryd.prog 22 = some (.slice none 0 0) := by kernel_rfl
theorem tsz23 : tsz Tryd.prog 23 = 1 := by kernel_rfl
theorem tud23 : (Tryd.prog.underlying 23).isSome = true := by kernel_rfl
theorem tin23 : (Tryd.prog.info? 23).isSome = true := by kernel_rfl
theorem tag23 : tagg Tryd.prog 23 = false := by kernel_rfl
theorem tsl23 : selem Tryd.prog 23 = some 3 := by kernel_rfl
theorem tby23 : tby Tryd.prog 23 = 24 := by kernel_rfl
theorem tze23 : tzero Tryd.prog 23 = some (.slice none 0 0) := by kernel_rfl
theorem tsz29 : tsz Tryd.prog 29 = 5 := by kernel_rfl
theorem tud29 : (Tryd.prog.underlying 29).isSome = true := by kernel_rfl
theorem tin29 : (Tryd.prog.info? 29).isSome = true := by kernel_rfl
theorem tag29 : tagg Tryd.prog 29 = true := by kernel_rfl
theorem tsl29 : selem Tryd.prog 29 = none := by kernel_rfl
theorem tpl29 : splaces Tryd.prog 29 = none := by kernel_rfl
theorem tar29 : aelem Tryd.prog 29 = some (5, 3) := by kernel_rfl
theorem teq29 : eqf Tryd.prog 29 = some [(0, 0), (0, 1), (0, 2), (0, 3), (0, 4)] := by kernel_rfl
theorem tby29 : tby Tryd.prog 29 = 40 := by kernel_rfl
theorem tze29 : tzero Tryd.prog 29 = some (.agg #[.int .i64 0, .int .i64 0, .int .i64 0, .int .i64 0, .int .i64 0]) := by kernel_rfl
theorem tsz39 : tsz Tryd.prog 39 = 1 := by kernel_rfl
theorem tud39 : (Tryd.prog.underlying 39).isSome = true := by kernel_rfl
theorem tun39 : Tryd.prog.underlying 39 = some (.int .i64) := by kernel_rfl
theorem tin39 : (Tryd.prog.info? 39).isSome = true := by kernel_rfl
theorem tag39 : tagg Tryd.prog 39 = false := by kernel_rfl
theorem tsl39 : selem Tryd.prog 39 = none := by kernel_rfl
theorem tby39 : tby Tryd.prog 39 = 8 := by kernel_rfl
theorem tze39 : tzero Tryd.prog 39 = some (.int .i64 0) := by kernel_rfl
theorem tsz43 : tsz Tryd.prog 43 = 3 := by kernel_rfl
theorem tud43 : (Tryd.prog.underlying 43).isSome = true := by kernel_rfl
theorem tin43 : (Tryd.prog.info? 43).isSome = true := by kernel_rfl
theorem tag43 : tagg Tryd.prog 43 = true := by kernel_rfl
theorem tsl43 : selem Tryd.prog 43 = none := by kernel_rfl
theorem teq43 : eqf Tryd.prog 43 = some [(0, 0), (0, 1), (2, 2)] := by kernel_rfl
theorem tby43 : tby Tryd.prog 43 = 32 := by kernel_rfl
theorem tfo43_0 : foff Tryd.prog 43 0 = some 0 := by kernel_rfl
theorem tft43_0 : ftype Tryd.prog 43 0 = some (3, 0) := by kernel_rfl
theorem tfo43_1 : foff Tryd.prog 43 1 = some 1 := by kernel_rfl
theorem tft43_1 : ftype Tryd.prog 43 1 = some (3, 1) := by kernel_rfl
theorem tfo43_2 : foff Tryd.prog 43 2 = some 2 := by kernel_rfl
theorem tft43_2 : ftype Tryd.prog 43 2 = some (9, 2) := by kernel_rfl
theorem tpl43 : splaces Tryd.prog 43 = some [(0, 1), (1, 1), (2, 1)] := by kernel_rfl
theorem tze43 : tzero Tryd.prog 43 = some (.agg #[.int .i64 0, .int .i64 0, .string ⟨#[]⟩]) := by kernel_rfl
theorem tsz44 : tsz Tryd.prog 44 = 3 := by kernel_rfl
theorem tud44 : (Tryd.prog.underlying 44).isSome = true := by kernel_rfl
theorem tin44 : (Tryd.prog.info? 44).isSome = true := by kernel_rfl
theorem tag44 : tagg Tryd.prog 44 = true := by kernel_rfl
theorem tsl44 : selem Tryd.prog 44 = none := by kernel_rfl
theorem teq44 : eqf Tryd.prog 44 = some [(0, 0), (0, 1), (2, 2)] := by kernel_rfl
theorem tby44 : tby Tryd.prog 44 = 32 := by kernel_rfl
theorem tfo44_0 : foff Tryd.prog 44 0 = some 0 := by kernel_rfl
theorem tft44_0 : ftype Tryd.prog 44 0 = some (3, 0) := by kernel_rfl
theorem tfo44_1 : foff Tryd.prog 44 1 = some 1 := by kernel_rfl
theorem tft44_1 : ftype Tryd.prog 44 1 = some (3, 1) := by kernel_rfl
theorem tfo44_2 : foff Tryd.prog 44 2 = some 2 := by kernel_rfl
theorem tft44_2 : ftype Tryd.prog 44 2 = some (9, 2) := by kernel_rfl
theorem tpl44 : splaces Tryd.prog 44 = some [(0, 1), (1, 1), (2, 1)] := by kernel_rfl
theorem tze44 : tzero Tryd.prog 44 = some (.agg #[.int .i64 0, .int .i64 0, .string ⟨#[]⟩]) := by kernel_rfl
theorem tsz47 : tsz Tryd.prog 47 = 1 := by kernel_rfl
theorem tud47 : (Tryd.prog.underlying 47).isSome = true := by kernel_rfl
theorem tin47 : (Tryd.prog.info? 47).isSome = true := by kernel_rfl
theorem tag47 : tagg Tryd.prog 47 = false := by kernel_rfl
theorem tsl47 : selem Tryd.prog 47 = some 4 := by kernel_rfl
theorem tby47 : tby Tryd.prog 47 = 24 := by kernel_rfl
theorem tze47 : tzero Tryd.prog 47 = some (.slice none 0 0) := by kernel_rfl
theorem tsz53 : tsz Tryd.prog 53 = 1 := by kernel_rfl
theorem tud53 : (Tryd.prog.underlying 53).isSome = true := by kernel_rfl
theorem tun53 : Tryd.prog.underlying 53 = some (.int .u64) := by kernel_rfl
theorem tin53 : (Tryd.prog.info? 53).isSome = true := by kernel_rfl
theorem tag53 : tagg Tryd.prog 53 = false := by kernel_rfl
theorem tsl53 : selem Tryd.prog 53 = none := by kernel_rfl
theorem tby53 : tby Tryd.prog 53 = 8 := by kernel_rfl
theorem tze53 : tzero Tryd.prog 53 = some (.int .u64 0) := by kernel_rfl
theorem tsz54 : tsz Tryd.prog 54 = 4 := by kernel_rfl
theorem tud54 : (Tryd.prog.underlying 54).isSome = true := by kernel_rfl
theorem tin54 : (Tryd.prog.info? 54).isSome = true := by kernel_rfl
theorem tag54 : tagg Tryd.prog 54 = true := by kernel_rfl
theorem tsl54 : selem Tryd.prog 54 = none := by kernel_rfl
theorem tpl54 : splaces Tryd.prog 54 = none := by kernel_rfl
theorem tar54 : aelem Tryd.prog 54 = some (4, 53) := by kernel_rfl
theorem teq54 : eqf Tryd.prog 54 = some [(0, 0), (0, 1), (0, 2), (0, 3)] := by kernel_rfl
theorem tby54 : tby Tryd.prog 54 = 32 := by kernel_rfl
theorem tze54 : tzero Tryd.prog 54 = some (.agg #[.int .u64 0, .int .u64 0, .int .u64 0, .int .u64 0]) := by kernel_rfl
theorem tsz55 : tsz Tryd.prog 55 = 4 := by kernel_rfl
theorem tud55 : (Tryd.prog.underlying 55).isSome = true := by kernel_rfl
theorem tin55 : (Tryd.prog.info? 55).isSome = true := by kernel_rfl
theorem tag55 : tagg Tryd.prog 55 = true := by kernel_rfl
theorem tsl55 : selem Tryd.prog 55 = none := by kernel_rfl
theorem tpl55 : splaces Tryd.prog 55 = none := by kernel_rfl
theorem tar55 : aelem Tryd.prog 55 = some (4, 53) := by kernel_rfl
theorem teq55 : eqf Tryd.prog 55 = some [(0, 0), (0, 1), (0, 2), (0, 3)] := by kernel_rfl
theorem tby55 : tby Tryd.prog 55 = 32 := by kernel_rfl
theorem tze55 : tzero Tryd.prog 55 = some (.agg #[.int .u64 0, .int .u64 0, .int .u64 0, .int .u64 0]) := by kernel_rfl
theorem tsz75 : tsz Tryd.prog 75 = 1 := by kernel_rfl
theorem tud75 : (Tryd.prog.underlying 75).isSome = true := by kernel_rfl
theorem tun75 : Tryd.prog.underlying 75 = some (.int .u64) := by kernel_rfl
theorem tin75 : (Tryd.prog.info? 75).isSome = true := by kernel_rfl
theorem tag75 : tagg Tryd.prog 75 = false := by kernel_rfl
theorem tsl75 : selem Tryd.prog 75 = none := by kernel_rfl
theorem tby75 : tby Tryd.prog 75 = 8 := by kernel_rfl
theorem tze75 : tzero Tryd.prog 75 = some (.int .u64 0) := by kernel_rfl
theorem tsz78 : tsz Tryd.prog 78 = 64 := by kernel_rfl
theorem tud78 : (Tryd.prog.underlying 78).isSome = true := by kernel_rfl
theorem tin78 : (Tryd.prog.info? 78).isSome = true := by kernel_rfl
theorem tag78 : tagg Tryd.prog 78 = true := by kernel_rfl
theorem tsl78 : selem Tryd.prog 78 = none := by kernel_rfl
theorem tpl78 : splaces Tryd.prog 78 = none := by kernel_rfl
theorem tar78 : aelem Tryd.prog 78 = some (64, 5) := by kernel_rfl
theorem teq78 : eqf Tryd.prog 78 = some [(0, 0), (0, 1), (0, 2), (0, 3), (0, 4), (0, 5), (0, 6), (0, 7), (0, 8), (0, 9), (0, 10), (0, 11), (0, 12), (0, 13), (0, 14), (0, 15), (0, 16), (0, 17), (0, 18), (0, 19), (0, 20), (0, 21), (0, 22), (0, 23), (0, 24), (0, 25), (0, 26), (0, 27), (0, 28), (0, 29), (0, 30), (0, 31), (0, 32), (0, 33), (0, 34), (0, 35), (0, 36), (0, 37), (0, 38), (0, 39), (0, 40), (0, 41), (0, 42), (0, 43), (0, 44), (0, 45), (0, 46), (0, 47), (0, 48), (0, 49), (0, 50), (0, 51), (0, 52), (0, 53), (0, 54), (0, 55), (0, 56), (0, 57), (0, 58), (0, 59), (0, 60), (0, 61), (0, 62), (0, 63)] := by kernel_rfl
theorem tby78 : tby Tryd.prog 78 = 64 := by kernel_rfl
theorem tze78 : tzero Tryd.prog 78 = some (.agg #[.int .u8 0, .int .u8 0, .int .u8 0, .int .u8 0, .int .u8 0, .int .u8 0, .int .u8 0, .int .u8 0, .int .u8 0, .int .u8 0, .int .u8 0, .int .u8 0, .int .u8 0, .int .u8 0, .int .u8 0, .int .u8 0, .int .u8 0, .int .u8 0, .int .u8 0, .int .u8 0, .int .u8 0, .int .u8 0, .int .u8 0, .int .u8 0, .int .u8 0, .int .u8 0, .int .u8 0, .int .u8 0, .int .u8 0, .int .u8 0, .int .u8 0, .int .u8 0, .int .u8 0, .int .u8 0, .int .u8 0, .int .u8 0, .int .u8 0, .int .u8 0, .int .u8 0, .int .u8 0, .int .u8 0, .int .u8 0, .int .u8 0, .int .u8 0, .int .u8 0, .int .u8 0, .int .u8 0, .int .u8 0, .int .u8 0, .int .u8 0, .int .u8 0, .int .u8 0, .int .u8 0, .int .u8 0, .int .u8 0, .int .u8 0, .int .u8 0, .int .u8 0, .int .u8 0, .int .u8 0, .int .u8 0, .int .u8 0, .int .u8 0, .int .u8 0]) := by kernel_rfl
theorem tsz86 : tsz Tryd.prog 86 = 1 := by kernel_rfl
theorem tud86 : (Tryd.prog.underlying 86).isSome = true := by kernel_rfl
theorem tun86 : Tryd.prog.underlying 86 = some (.int .u32) := by kernel_rfl
theorem tin86 : (Tryd.prog.info? 86).isSome = true := by kernel_rfl
theorem tag86 : tagg Tryd.prog 86 = false := by kernel_rfl
theorem tsl86 : selem Tryd.prog 86 = none := by kernel_rfl
theorem tby86 : tby Tryd.prog 86 = 4 := by kernel_rfl
theorem tze86 : tzero Tryd.prog 86 = some (.int .u32 0) := by kernel_rfl
theorem tsz90 : tsz Tryd.prog 90 = 1 := by kernel_rfl
theorem tud90 : (Tryd.prog.underlying 90).isSome = true := by kernel_rfl
theorem tin90 : (Tryd.prog.info? 90).isSome = true := by kernel_rfl
theorem tag90 : tagg Tryd.prog 90 = false := by kernel_rfl
theorem tsl90 : selem Tryd.prog 90 = none := by kernel_rfl
theorem tby90 : tby Tryd.prog 90 = 8 := by kernel_rfl
theorem tze90 : tzero Tryd.prog 90 = some (.pointer none) := by kernel_rfl
theorem tsz95 : tsz Tryd.prog 95 = 1 := by kernel_rfl
theorem tud95 : (Tryd.prog.underlying 95).isSome = true := by kernel_rfl
theorem tin95 : (Tryd.prog.info? 95).isSome = true := by kernel_rfl
theorem tag95 : tagg Tryd.prog 95 = false := by kernel_rfl
theorem tsl95 : selem Tryd.prog 95 = none := by kernel_rfl
theorem tby95 : tby Tryd.prog 95 = 8 := by kernel_rfl
theorem tze95 : tzero Tryd.prog 95 = some (.pointer none) := by kernel_rfl
attribute [go_sem] tsz2 tud2 tun2 tin2 tag2 tsl2 tby2 tze2 tsz3 tud3 tun3 tin3 tag3 tsl3 tby3 tze3 tsz4 tud4 tun4 tin4 tag4 tsl4 tby4 tze4 tsz5 tud5 tun5 tin5 tag5 tsl5 tby5 tze5 tsz9 tud9 tun9 tin9 tag9 tsl9 tby9 tze9 tsz12 tud12 tun12 tin12 tag12 tsl12 tby12 tze12 tsz20 tud20 tin20 tag20 tsl20 tby20 tze20 tsz21 tud21 tun21 tin21 tag21 tsl21 tby21 tze21 tsz22 tud22 tin22 tag22 tsl22 tby22 tze22 tsz23 tud23 tin23 tag23 tsl23 tby23 tze23 tsz29 tud29 tin29 tag29 tsl29 tpl29 tar29 teq29 tby29 tze29 tsz39 tud39 tun39 tin39 tag39 tsl39 tby39 tze39 tsz43 tud43 tin43 tag43 tsl43 teq43 tby43 tfo43_0 tft43_0 tfo43_1 tft43_1 tfo43_2 tft43_2 tpl43 tze43 tsz44 tud44 tin44 tag44 tsl44 teq44 tby44 tfo44_0 tft44_0 tfo44_1 tft44_1 tfo44_2 tft44_2 tpl44 tze44 tsz47 tud47 tin47 tag47 tsl47 tby47 tze47 tsz53 tud53 tun53 tin53 tag53 tsl53 tby53 tze53 tsz54 tud54 tin54 tag54 tsl54 tpl54 tar54 teq54 tby54 tze54 tsz55 tud55 tin55 tag55 tsl55 tpl55 tar55 teq55 tby55 tze55 tsz75 tud75 tun75 tin75 tag75 tsl75 tby75 tze75 tsz78 tud78 tin78 tag78 tsl78 tpl78 tar78 teq78 tby78 tze78 tsz86 tud86 tun86 tin86 tag86 tsl86 tby86 tze86 tsz90 tud90 tin90 tag90 tsl90 tby90 tze90 tsz95 tud95 tin95 tag95 tsl95 tby95 tze95
end Go.Proofs.YtjpmldfmgogheaaDoor.Ab
