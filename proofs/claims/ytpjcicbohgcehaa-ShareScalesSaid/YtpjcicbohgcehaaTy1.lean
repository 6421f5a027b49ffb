/- What the abstract layer asks of the types. What the abstract layer asks of the types. -/
import Derived.Test.YtpjcicbohgcehaaProg
import Derived.Test.YtpjcicbohgcehaaAb3
import Derived.ProofKit
namespace Go.Proofs.Ytpjcicbohgcehaa.Ab
theorem tsz2 : tsz Try.prog 2 = 1 := by kernel_rfl
theorem tud2 : (Try.prog.underlying 2).isSome = true := by kernel_rfl
theorem tun2 : Try.prog.underlying 2 = some (.int .i64) := by kernel_rfl
theorem tin2 : (Try.prog.info? 2).isSome = true := by kernel_rfl
theorem tag2 : tagg Try.prog 2 = false := by kernel_rfl
theorem tsl2 : selem Try.prog 2 = none := by kernel_rfl
theorem tby2 : tby Try.prog 2 = 8 := by kernel_rfl
theorem tze2 : tzero Try.prog 2 = some (.int .i64 0) := by kernel_rfl
theorem tsz3 : tsz Try.prog 3 = 1 := by kernel_rfl
theorem tud3 : (Try.prog.underlying 3).isSome = true := by kernel_rfl
theorem tun3 : Try.prog.underlying 3 = some (.int .i64) := by kernel_rfl
theorem tin3 : (Try.prog.info? 3).isSome = true := by kernel_rfl
theorem tag3 : tagg Try.prog 3 = false := by kernel_rfl
theorem tsl3 : selem Try.prog 3 = none := by kernel_rfl
theorem tby3 : tby Try.prog 3 = 8 := by kernel_rfl
theorem tze3 : tzero Try.prog 3 = some (.int .i64 0) := by kernel_rfl
theorem tsz4 : tsz Try.prog 4 = 1 := by kernel_rfl
theorem tud4 : (Try.prog.underlying 4).isSome = true := by kernel_rfl
theorem tun4 : Try.prog.underlying 4 = some .bool := by kernel_rfl
theorem tin4 : (Try.prog.info? 4).isSome = true := by kernel_rfl
theorem tag4 : tagg Try.prog 4 = false := by kernel_rfl
theorem tsl4 : selem Try.prog 4 = none := by kernel_rfl
theorem tby4 : tby Try.prog 4 = 1 := by kernel_rfl
theorem tze4 : tzero Try.prog 4 = some (.bool false) := by kernel_rfl
theorem tsz5 : tsz Try.prog 5 = 1 := by kernel_rfl
theorem tud5 : (Try.prog.underlying 5).isSome = true := by kernel_rfl
theorem tun5 : Try.prog.underlying 5 = some (.int .u8) := by kernel_rfl
theorem tin5 : (Try.prog.info? 5).isSome = true := by kernel_rfl
theorem tag5 : tagg Try.prog 5 = false := by kernel_rfl
theorem tsl5 : selem Try.prog 5 = none := by kernel_rfl
theorem tby5 : tby Try.prog 5 = 1 := by kernel_rfl
theorem tze5 : tzero Try.prog 5 = some (.int .u8 0) := by kernel_rfl
theorem tsz9 : tsz Try.prog 9 = 1 := by kernel_rfl
theorem tud9 : (Try.prog.underlying 9).isSome = true := by kernel_rfl
theorem tun9 : Try.prog.underlying 9 = some .string := by kernel_rfl
theorem tin9 : (Try.prog.info? 9).isSome = true := by kernel_rfl
theorem tag9 : tagg Try.prog 9 = false := by kernel_rfl
theorem tsl9 : selem Try.prog 9 = none := by kernel_rfl
theorem tby9 : tby Try.prog 9 = 16 := by kernel_rfl
theorem tze9 : tzero Try.prog 9 = some (.string ⟨#[]⟩) := by kernel_rfl
theorem tsz12 : tsz Try.prog 12 = 1 := by kernel_rfl
theorem tud12 : (Try.prog.underlying 12).isSome = true := by kernel_rfl
theorem tun12 : Try.prog.underlying 12 = some (.int .u64) := by kernel_rfl
theorem tin12 : (Try.prog.info? 12).isSome = true := by kernel_rfl
theorem tag12 : tagg Try.prog 12 = false := by kernel_rfl
theorem tsl12 : selem Try.prog 12 = none := by kernel_rfl
theorem tby12 : tby Try.prog 12 = 8 := by kernel_rfl
theorem tze12 : tzero Try.prog 12 = some (.int .u64 0) := by kernel_rfl
theorem tsz20 : tsz Try.prog 20 = 1 := by kernel_rfl
theorem tud20 : (Try.prog.underlying 20).isSome = true := by kernel_rfl
theorem tin20 : (Try.prog.info? 20).isSome = true := by kernel_rfl
theorem tag20 : tagg Try.prog 20 = false := by kernel_rfl
theorem tsl20 : selem Try.prog 20 = none := by kernel_rfl
theorem tby20 : tby Try.prog 20 = 16 := by kernel_rfl
theorem tze20 : tzero Try.prog 20 = some (.nilIface) := by kernel_rfl
theorem tsz21 : tsz Try.prog 21 = 1 := by kernel_rfl
theorem tud21 : (Try.prog.underlying 21).isSome = true := by kernel_rfl
theorem tun21 : Try.prog.underlying 21 = some (.int .i32) := by kernel_rfl
theorem tin21 : (Try.prog.info? 21).isSome = true := by kernel_rfl
theorem tag21 : tagg Try.prog 21 = false := by kernel_rfl
theorem tsl21 : selem Try.prog 21 = none := by kernel_rfl
theorem tby21 : tby Try.prog 21 = 4 := by kernel_rfl
theorem tze21 : tzero Try.prog 21 = some (.int .i32 0) := by kernel_rfl
theorem tsz22 : tsz Try.prog 22 = 1 := by kernel_rfl
theorem tud22 : (Try.prog.underlying 22).isSome = true := by kernel_rfl
theorem tin22 : (Try.prog.info? 22).isSome = true := by kernel_rfl
theorem tag22 : tagg Try.prog 22 = false := by kernel_rfl
theorem tsl22 : selem Try.prog 22 = some 33 := by kernel_rfl
theorem tby22 : tby Try.prog 22 = 24 := by kernel_rfl
theorem tze22 : tzero Try.prog 22 = some (.slice none 0 0) := by kernel_rfl
theorem tsz25 : tsz Try.prog 25 = 1 := by kernel_rfl
theorem tud25 : (Try.prog.underlying 25).isSome = true := by kernel_rfl
theorem tin25 : (Try.prog.info? 25).isSome = true := by kernel_rfl
theorem tag25 : tagg Try.prog 25 = false := by kernel_rfl
theorem tsl25 : selem Try.prog 25 = some 3 := by kernel_rfl
theorem tby25 : tby Try.prog 25 = 24 := by kernel_rfl
theorem tze25 : tzero Try.prog 25 = some (.slice none 0 0) := by kernel_rfl
theorem tsz29 : tsz Try.prog 29 = 1 := by kernel_rfl
theorem tud29 : (Try.prog.underlying 29).isSome = true := by kernel_rfl
theorem tin29 : (Try.prog.info? 29).isSome = true := by kernel_rfl
theorem tag29 : tagg Try.prog 29 = false := by kernel_rfl
theorem tsl29 : selem Try.prog 29 = some 4 := by kernel_rfl
theorem tby29 : tby Try.prog 29 = 24 := by kernel_rfl
theorem tze29 : tzero Try.prog 29 = some (.slice none 0 0) := by kernel_rfl
theorem tsz30 : tsz Try.prog 30 = 1 := by kernel_rfl
theorem tud30 : (Try.prog.underlying 30).isSome = true := by kernel_rfl
theorem tin30 : (Try.prog.info? 30).isSome = true := by kernel_rfl
theorem tag30 : tagg Try.prog 30 = false := by kernel_rfl
theorem tsl30 : selem Try.prog 30 = none := by kernel_rfl
theorem tby30 : tby Try.prog 30 = 8 := by kernel_rfl
theorem tze30 : tzero Try.prog 30 = some (.float .f64 0) := by kernel_rfl
theorem tsz32 : tsz Try.prog 32 = 3 := by kernel_rfl
theorem tud32 : (Try.prog.underlying 32).isSome = true := by kernel_rfl
theorem tin32 : (Try.prog.info? 32).isSome = true := by kernel_rfl
theorem tag32 : tagg Try.prog 32 = true := by kernel_rfl
theorem tsl32 : selem Try.prog 32 = none := by kernel_rfl
theorem tby32 : tby Try.prog 32 = 24 := by kernel_rfl
theorem tfo32_0 : foff Try.prog 32 0 = some 0 := by kernel_rfl
theorem tft32_0 : ftype Try.prog 32 0 = some (3, 0) := by kernel_rfl
theorem tfo32_1 : foff Try.prog 32 1 = some 1 := by kernel_rfl
theorem tft32_1 : ftype Try.prog 32 1 = some (30, 1) := by kernel_rfl
theorem tfo32_2 : foff Try.prog 32 2 = some 2 := by kernel_rfl
theorem tft32_2 : ftype Try.prog 32 2 = some (30, 2) := by kernel_rfl
theorem tpl32 : splaces Try.prog 32 = some [(0, 1), (1, 1), (2, 1)] := by kernel_rfl
theorem tze32 : tzero Try.prog 32 = some (.agg #[.int .i64 0, .float .f64 0, .float .f64 0]) := by kernel_rfl
theorem tsz33 : tsz Try.prog 33 = 3 := by kernel_rfl
theorem tud33 : (Try.prog.underlying 33).isSome = true := by kernel_rfl
theorem tin33 : (Try.prog.info? 33).isSome = true := by kernel_rfl
theorem tag33 : tagg Try.prog 33 = true := by kernel_rfl
theorem tsl33 : selem Try.prog 33 = none := by kernel_rfl
theorem tby33 : tby Try.prog 33 = 24 := by kernel_rfl
theorem tfo33_0 : foff Try.prog 33 0 = some 0 := by kernel_rfl
theorem tft33_0 : ftype Try.prog 33 0 = some (3, 0) := by kernel_rfl
theorem tfo33_1 : foff Try.prog 33 1 = some 1 := by kernel_rfl
theorem tft33_1 : ftype Try.prog 33 1 = some (30, 1) := by kernel_rfl
theorem tfo33_2 : foff Try.prog 33 2 = some 2 := by kernel_rfl
theorem tft33_2 : ftype Try.prog 33 2 = some (30, 2) := by kernel_rfl
theorem tpl33 : splaces Try.prog 33 = some [(0, 1), (1, 1), (2, 1)] := by kernel_rfl
theorem tze33 : tzero Try.prog 33 = some (.agg #[.int .i64 0, .float .f64 0, .float .f64 0]) := by kernel_rfl
theorem tsz35 : tsz Try.prog 35 = 1 := by kernel_rfl
theorem tud35 : (Try.prog.underlying 35).isSome = true := by kernel_rfl
theorem tun35 : Try.prog.underlying 35 = some (.int .u32) := by kernel_rfl
theorem tin35 : (Try.prog.info? 35).isSome = true := by kernel_rfl
theorem tag35 : tagg Try.prog 35 = false := by kernel_rfl
theorem tsl35 : selem Try.prog 35 = none := by kernel_rfl
theorem tby35 : tby Try.prog 35 = 4 := by kernel_rfl
theorem tze35 : tzero Try.prog 35 = some (.int .u32 0) := by kernel_rfl
theorem tsz38 : tsz Try.prog 38 = 1 := by kernel_rfl
theorem tud38 : (Try.prog.underlying 38).isSome = true := by kernel_rfl
theorem tin38 : (Try.prog.info? 38).isSome = true := by kernel_rfl
theorem tag38 : tagg Try.prog 38 = false := by kernel_rfl
theorem tsl38 : selem Try.prog 38 = some 30 := by kernel_rfl
theorem tby38 : tby Try.prog 38 = 24 := by kernel_rfl
theorem tze38 : tzero Try.prog 38 = some (.slice none 0 0) := by kernel_rfl
theorem tsz53 : tsz Try.prog 53 = 1 := by kernel_rfl
theorem tud53 : (Try.prog.underlying 53).isSome = true := by kernel_rfl
theorem tun53 : Try.prog.underlying 53 = some (.int .u64) := by kernel_rfl
theorem tin53 : (Try.prog.info? 53).isSome = true := by kernel_rfl
theorem tag53 : tagg Try.prog 53 = false := by kernel_rfl
theorem tsl53 : selem Try.prog 53 = none := by kernel_rfl
theorem tby53 : tby Try.prog 53 = 8 := by kernel_rfl
theorem tze53 : tzero Try.prog 53 = some (.int .u64 0) := by kernel_rfl
theorem tsz63 : tsz Try.prog 63 = 1 := by kernel_rfl
theorem tud63 : (Try.prog.underlying 63).isSome = true := by kernel_rfl
theorem tun63 : Try.prog.underlying 63 = some (.int .u64) := by kernel_rfl
theorem tin63 : (Try.prog.info? 63).isSome = true := by kernel_rfl
theorem tag63 : tagg Try.prog 63 = false := by kernel_rfl
theorem tsl63 : selem Try.prog 63 = none := by kernel_rfl
theorem tby63 : tby Try.prog 63 = 8 := by kernel_rfl
theorem tze63 : tzero Try.prog 63 = some (.int .u64 0) := by kernel_rfl
theorem tsz75 : tsz Try.prog 75 = 1 := by kernel_rfl
theorem tud75 : (Try.prog.underlying 75).isSome = true := by kernel_rfl
theorem tin75 : (Try.prog.info? 75).isSome = true := by kernel_rfl
theorem tag75 : tagg Try.prog 75 = false := by kernel_rfl
theorem tsl75 : selem Try.prog 75 = none := by kernel_rfl
theorem tby75 : tby Try.prog 75 = 8 := by kernel_rfl
theorem tze75 : tzero Try.prog 75 = some (.pointer none) := by kernel_rfl
theorem tsz80 : tsz Try.prog 80 = 1 := by kernel_rfl
theorem tud80 : (Try.prog.underlying 80).isSome = true := by kernel_rfl
theorem tin80 : (Try.prog.info? 80).isSome = true := by kernel_rfl
theorem tag80 : tagg Try.prog 80 = false := by kernel_rfl
theorem tsl80 : selem Try.prog 80 = none := by kernel_rfl
theorem tby80 : tby Try.prog 80 = 8 := by kernel_rfl
theorem tze80 : tzero Try.prog 80 = some (.pointer none) := by kernel_rfl
attribute [go_sem] tsz2 tud2 tun2 tin2 tag2 tsl2 tby2 tze2 tsz3 tud3 tun3 tin3 tag3 tsl3 tby3 tze3 tsz4 tud4 tun4 tin4 tag4 tsl4 tby4 tze4 tsz5 tud5 tun5 tin5 tag5 tsl5 tby5 tze5 tsz9 tud9 tun9 tin9 tag9 tsl9 tby9 tze9 tsz12 tud12 tun12 tin12 tag12 tsl12 tby12 tze12 tsz20 tud20 tin20 tag20 tsl20 tby20 tze20 tsz21 tud21 tun21 tin21 tag21 tsl21 tby21 tze21 tsz22 tud22 tin22 tag22 tsl22 tby22 tze22 tsz25 tud25 tin25 tag25 tsl25 tby25 tze25 tsz29 tud29 tin29 tag29 tsl29 tby29 tze29 tsz30 tud30 tin30 tag30 tsl30 tby30 tze30 tsz32 tud32 tin32 tag32 tsl32 tby32 tfo32_0 tft32_0 tfo32_1 tft32_1 tfo32_2 tft32_2 tpl32 tze32 tsz33 tud33 tin33 tag33 tsl33 tby33 tfo33_0 tft33_0 tfo33_1 tft33_1 tfo33_2 tft33_2 tpl33 tze33 tsz35 tud35 tun35 tin35 tag35 tsl35 tby35 tze35 tsz38 tud38 tin38 tag38 tsl38 tby38 tze38 tsz53 tud53 tun53 tin53 tag53 tsl53 tby53 tze53 tsz63 tud63 tun63 tin63 tag63 tsl63 tby63 tze63 tsz75 tud75 tin75 tag75 tsl75 tby75 tze75 tsz80 tud80 tin80 tag80 tsl80 tby80 tze80
end Go.Proofs.Ytpjcicbohgcehaa.Ab

namespace Go.Proofs.Ytpjcicbohgcehaa.Ab
theorem tsz1 : tsz Try.prog 1 = 1 := by kernel_rfl
theorem tud1 : (Try.prog.underlying 1).isSome = true := by kernel_rfl
theorem tin1 : (Try.prog.info? 1).isSome = true := by kernel_rfl
theorem tag1 : tagg Try.prog 1 = false := by kernel_rfl
theorem tsl1 : selem Try.prog 1 = none := by kernel_rfl
theorem tby1 : tby Try.prog 1 = 8 := by kernel_rfl
theorem tze1 : tzero Try.prog 1 = some (.nilFunc) := by kernel_rfl
theorem tsz23 : tsz Try.prog 23 = 1 := by kernel_rfl
theorem tud23 : (Try.prog.underlying 23).isSome = true := by kernel_rfl
theorem tin23 : (Try.prog.info? 23).isSome = true := by kernel_rfl
theorem tag23 : tagg Try.prog 23 = false := by kernel_rfl
theorem tsl23 : selem Try.prog 23 = none := by kernel_rfl
theorem tby23 : tby Try.prog 23 = 8 := by kernel_rfl
theorem tze23 : tzero Try.prog 23 = some (.nilFunc) := by kernel_rfl
theorem tsz24 : tsz Try.prog 24 = 1 := by kernel_rfl
theorem tud24 : (Try.prog.underlying 24).isSome = true := by kernel_rfl
theorem tin24 : (Try.prog.info? 24).isSome = true := by kernel_rfl
theorem tag24 : tagg Try.prog 24 = false := by kernel_rfl
theorem tsl24 : selem Try.prog 24 = none := by kernel_rfl
theorem tby24 : tby Try.prog 24 = 8 := by kernel_rfl
theorem tze24 : tzero Try.prog 24 = some (.nilFunc) := by kernel_rfl
theorem tsz26 : tsz Try.prog 26 = 1 := by kernel_rfl
theorem tud26 : (Try.prog.underlying 26).isSome = true := by kernel_rfl
theorem tin26 : (Try.prog.info? 26).isSome = true := by kernel_rfl
theorem tag26 : tagg Try.prog 26 = false := by kernel_rfl
theorem tsl26 : selem Try.prog 26 = none := by kernel_rfl
theorem tby26 : tby Try.prog 26 = 8 := by kernel_rfl
theorem tze26 : tzero Try.prog 26 = some (.nilFunc) := by kernel_rfl
theorem tsz27 : tsz Try.prog 27 = 1 := by kernel_rfl
theorem tud27 : (Try.prog.underlying 27).isSome = true := by kernel_rfl
theorem tin27 : (Try.prog.info? 27).isSome = true := by kernel_rfl
theorem tag27 : tagg Try.prog 27 = false := by kernel_rfl
theorem tsl27 : selem Try.prog 27 = none := by kernel_rfl
theorem tby27 : tby Try.prog 27 = 8 := by kernel_rfl
theorem tze27 : tzero Try.prog 27 = some (.nilFunc) := by kernel_rfl
theorem tsz28 : tsz Try.prog 28 = 1 := by kernel_rfl
theorem tud28 : (Try.prog.underlying 28).isSome = true := by kernel_rfl
theorem tin28 : (Try.prog.info? 28).isSome = true := by kernel_rfl
theorem tag28 : tagg Try.prog 28 = false := by kernel_rfl
theorem tsl28 : selem Try.prog 28 = none := by kernel_rfl
theorem tby28 : tby Try.prog 28 = 8 := by kernel_rfl
theorem tze28 : tzero Try.prog 28 = some (.nilFunc) := by kernel_rfl
theorem tsz31 : tsz Try.prog 31 = 1 := by kernel_rfl
theorem tud31 : (Try.prog.underlying 31).isSome = true := by kernel_rfl
theorem tin31 : (Try.prog.info? 31).isSome = true := by kernel_rfl
theorem tag31 : tagg Try.prog 31 = false := by kernel_rfl
theorem tsl31 : selem Try.prog 31 = none := by kernel_rfl
theorem tby31 : tby Try.prog 31 = 8 := by kernel_rfl
theorem tze31 : tzero Try.prog 31 = some (.nilFunc) := by kernel_rfl
theorem tsz34 : tsz Try.prog 34 = 1 := by kernel_rfl
theorem tud34 : (Try.prog.underlying 34).isSome = true := by kernel_rfl
theorem tin34 : (Try.prog.info? 34).isSome = true := by kernel_rfl
theorem tag34 : tagg Try.prog 34 = false := by kernel_rfl
theorem tsl34 : selem Try.prog 34 = none := by kernel_rfl
theorem tby34 : tby Try.prog 34 = 8 := by kernel_rfl
theorem tze34 : tzero Try.prog 34 = some (.nilFunc) := by kernel_rfl
theorem tsz36 : tsz Try.prog 36 = 1 := by kernel_rfl
theorem tud36 : (Try.prog.underlying 36).isSome = true := by kernel_rfl
theorem tin36 : (Try.prog.info? 36).isSome = true := by kernel_rfl
theorem tag36 : tagg Try.prog 36 = false := by kernel_rfl
theorem tsl36 : selem Try.prog 36 = none := by kernel_rfl
theorem tby36 : tby Try.prog 36 = 8 := by kernel_rfl
theorem tze36 : tzero Try.prog 36 = some (.nilFunc) := by kernel_rfl
theorem tsz37 : tsz Try.prog 37 = 1 := by kernel_rfl
theorem tud37 : (Try.prog.underlying 37).isSome = true := by kernel_rfl
theorem tin37 : (Try.prog.info? 37).isSome = true := by kernel_rfl
theorem tag37 : tagg Try.prog 37 = false := by kernel_rfl
theorem tsl37 : selem Try.prog 37 = none := by kernel_rfl
theorem tby37 : tby Try.prog 37 = 8 := by kernel_rfl
theorem tze37 : tzero Try.prog 37 = some (.nilFunc) := by kernel_rfl
theorem tsz39 : tsz Try.prog 39 = 1 := by kernel_rfl
theorem tud39 : (Try.prog.underlying 39).isSome = true := by kernel_rfl
theorem tin39 : (Try.prog.info? 39).isSome = true := by kernel_rfl
theorem tag39 : tagg Try.prog 39 = false := by kernel_rfl
theorem tsl39 : selem Try.prog 39 = none := by kernel_rfl
theorem tby39 : tby Try.prog 39 = 8 := by kernel_rfl
theorem tze39 : tzero Try.prog 39 = some (.nilFunc) := by kernel_rfl
theorem tsz40 : tsz Try.prog 40 = 1 := by kernel_rfl
theorem tud40 : (Try.prog.underlying 40).isSome = true := by kernel_rfl
theorem tin40 : (Try.prog.info? 40).isSome = true := by kernel_rfl
theorem tag40 : tagg Try.prog 40 = false := by kernel_rfl
theorem tsl40 : selem Try.prog 40 = none := by kernel_rfl
theorem tby40 : tby Try.prog 40 = 8 := by kernel_rfl
theorem tze40 : tzero Try.prog 40 = some (.nilFunc) := by kernel_rfl
theorem tsz41 : tsz Try.prog 41 = 1 := by kernel_rfl
theorem tud41 : (Try.prog.underlying 41).isSome = true := by kernel_rfl
theorem tin41 : (Try.prog.info? 41).isSome = true := by kernel_rfl
theorem tag41 : tagg Try.prog 41 = false := by kernel_rfl
theorem tsl41 : selem Try.prog 41 = none := by kernel_rfl
theorem tby41 : tby Try.prog 41 = 8 := by kernel_rfl
theorem tze41 : tzero Try.prog 41 = some (.nilFunc) := by kernel_rfl
theorem tsz42 : tsz Try.prog 42 = 1 := by kernel_rfl
theorem tud42 : (Try.prog.underlying 42).isSome = true := by kernel_rfl
theorem tin42 : (Try.prog.info? 42).isSome = true := by kernel_rfl
theorem tag42 : tagg Try.prog 42 = false := by kernel_rfl
theorem tsl42 : selem Try.prog 42 = none := by kernel_rfl
theorem tby42 : tby Try.prog 42 = 8 := by kernel_rfl
theorem tze42 : tzero Try.prog 42 = some (.nilFunc) := by kernel_rfl
theorem tsz43 : tsz Try.prog 43 = 1 := by kernel_rfl
theorem tud43 : (Try.prog.underlying 43).isSome = true := by kernel_rfl
theorem tin43 : (Try.prog.info? 43).isSome = true := by kernel_rfl
theorem tag43 : tagg Try.prog 43 = false := by kernel_rfl
theorem tsl43 : selem Try.prog 43 = none := by kernel_rfl
theorem tby43 : tby Try.prog 43 = 8 := by kernel_rfl
theorem tze43 : tzero Try.prog 43 = some (.nilFunc) := by kernel_rfl
theorem tsz44 : tsz Try.prog 44 = 1 := by kernel_rfl
theorem tud44 : (Try.prog.underlying 44).isSome = true := by kernel_rfl
theorem tin44 : (Try.prog.info? 44).isSome = true := by kernel_rfl
theorem tag44 : tagg Try.prog 44 = false := by kernel_rfl
theorem tsl44 : selem Try.prog 44 = none := by kernel_rfl
theorem tby44 : tby Try.prog 44 = 8 := by kernel_rfl
theorem tze44 : tzero Try.prog 44 = some (.nilFunc) := by kernel_rfl
theorem tsz45 : tsz Try.prog 45 = 1 := by kernel_rfl
theorem tud45 : (Try.prog.underlying 45).isSome = true := by kernel_rfl
theorem tin45 : (Try.prog.info? 45).isSome = true := by kernel_rfl
theorem tag45 : tagg Try.prog 45 = false := by kernel_rfl
theorem tsl45 : selem Try.prog 45 = none := by kernel_rfl
theorem tby45 : tby Try.prog 45 = 8 := by kernel_rfl
theorem tze45 : tzero Try.prog 45 = some (.nilFunc) := by kernel_rfl
theorem tsz46 : tsz Try.prog 46 = 1 := by kernel_rfl
theorem tud46 : (Try.prog.underlying 46).isSome = true := by kernel_rfl
theorem tin46 : (Try.prog.info? 46).isSome = true := by kernel_rfl
theorem tag46 : tagg Try.prog 46 = false := by kernel_rfl
theorem tsl46 : selem Try.prog 46 = none := by kernel_rfl
theorem tby46 : tby Try.prog 46 = 8 := by kernel_rfl
theorem tze46 : tzero Try.prog 46 = some (.nilFunc) := by kernel_rfl
theorem tsz47 : tsz Try.prog 47 = 1 := by kernel_rfl
theorem tud47 : (Try.prog.underlying 47).isSome = true := by kernel_rfl
theorem tin47 : (Try.prog.info? 47).isSome = true := by kernel_rfl
theorem tag47 : tagg Try.prog 47 = false := by kernel_rfl
theorem tsl47 : selem Try.prog 47 = none := by kernel_rfl
theorem tby47 : tby Try.prog 47 = 8 := by kernel_rfl
theorem tze47 : tzero Try.prog 47 = some (.nilFunc) := by kernel_rfl
theorem tsz48 : tsz Try.prog 48 = 1 := by kernel_rfl
theorem tud48 : (Try.prog.underlying 48).isSome = true := by kernel_rfl
theorem tin48 : (Try.prog.info? 48).isSome = true := by kernel_rfl
theorem tag48 : tagg Try.prog 48 = false := by kernel_rfl
theorem tsl48 : selem Try.prog 48 = none := by kernel_rfl
theorem tby48 : tby Try.prog 48 = 8 := by kernel_rfl
theorem tze48 : tzero Try.prog 48 = some (.nilFunc) := by kernel_rfl
theorem tsz49 : tsz Try.prog 49 = 1 := by kernel_rfl
theorem tud49 : (Try.prog.underlying 49).isSome = true := by kernel_rfl
theorem tin49 : (Try.prog.info? 49).isSome = true := by kernel_rfl
theorem tag49 : tagg Try.prog 49 = false := by kernel_rfl
theorem tsl49 : selem Try.prog 49 = none := by kernel_rfl
theorem tby49 : tby Try.prog 49 = 8 := by kernel_rfl
theorem tze49 : tzero Try.prog 49 = some (.nilFunc) := by kernel_rfl
theorem tsz50 : tsz Try.prog 50 = 1 := by kernel_rfl
theorem tud50 : (Try.prog.underlying 50).isSome = true := by kernel_rfl
theorem tin50 : (Try.prog.info? 50).isSome = true := by kernel_rfl
theorem tag50 : tagg Try.prog 50 = false := by kernel_rfl
theorem tsl50 : selem Try.prog 50 = none := by kernel_rfl
theorem tby50 : tby Try.prog 50 = 8 := by kernel_rfl
theorem tze50 : tzero Try.prog 50 = some (.nilFunc) := by kernel_rfl
theorem tsz51 : tsz Try.prog 51 = 1 := by kernel_rfl
theorem tud51 : (Try.prog.underlying 51).isSome = true := by kernel_rfl
theorem tin51 : (Try.prog.info? 51).isSome = true := by kernel_rfl
theorem tag51 : tagg Try.prog 51 = false := by kernel_rfl
theorem tsl51 : selem Try.prog 51 = none := by kernel_rfl
theorem tby51 : tby Try.prog 51 = 8 := by kernel_rfl
theorem tze51 : tzero Try.prog 51 = some (.nilFunc) := by kernel_rfl
theorem tsz52 : tsz Try.prog 52 = 1 := by kernel_rfl
theorem tud52 : (Try.prog.underlying 52).isSome = true := by kernel_rfl
theorem tin52 : (Try.prog.info? 52).isSome = true := by kernel_rfl
theorem tag52 : tagg Try.prog 52 = false := by kernel_rfl
theorem tsl52 : selem Try.prog 52 = none := by kernel_rfl
theorem tby52 : tby Try.prog 52 = 8 := by kernel_rfl
theorem tze52 : tzero Try.prog 52 = some (.nilFunc) := by kernel_rfl
theorem tsz54 : tsz Try.prog 54 = 1 := by kernel_rfl
theorem tud54 : (Try.prog.underlying 54).isSome = true := by kernel_rfl
theorem tin54 : (Try.prog.info? 54).isSome = true := by kernel_rfl
theorem tag54 : tagg Try.prog 54 = false := by kernel_rfl
theorem tsl54 : selem Try.prog 54 = none := by kernel_rfl
theorem tby54 : tby Try.prog 54 = 8 := by kernel_rfl
theorem tze54 : tzero Try.prog 54 = some (.nilFunc) := by kernel_rfl
theorem tsz55 : tsz Try.prog 55 = 1 := by kernel_rfl
theorem tud55 : (Try.prog.underlying 55).isSome = true := by kernel_rfl
theorem tin55 : (Try.prog.info? 55).isSome = true := by kernel_rfl
theorem tag55 : tagg Try.prog 55 = false := by kernel_rfl
theorem tsl55 : selem Try.prog 55 = none := by kernel_rfl
theorem tby55 : tby Try.prog 55 = 8 := by kernel_rfl
theorem tze55 : tzero Try.prog 55 = some (.nilFunc) := by kernel_rfl
theorem tsz57 : tsz Try.prog 57 = 1 := by kernel_rfl
theorem tud57 : (Try.prog.underlying 57).isSome = true := by kernel_rfl
theorem tin57 : (Try.prog.info? 57).isSome = true := by kernel_rfl
theorem tag57 : tagg Try.prog 57 = false := by kernel_rfl
theorem tsl57 : selem Try.prog 57 = none := by kernel_rfl
theorem tby57 : tby Try.prog 57 = 8 := by kernel_rfl
theorem tze57 : tzero Try.prog 57 = some (.nilFunc) := by kernel_rfl
theorem tsz58 : tsz Try.prog 58 = 1 := by kernel_rfl
theorem tud58 : (Try.prog.underlying 58).isSome = true := by kernel_rfl
theorem tin58 : (Try.prog.info? 58).isSome = true := by kernel_rfl
theorem tag58 : tagg Try.prog 58 = false := by kernel_rfl
theorem tsl58 : selem Try.prog 58 = none := by kernel_rfl
theorem tby58 : tby Try.prog 58 = 8 := by kernel_rfl
theorem tze58 : tzero Try.prog 58 = some (.nilFunc) := by kernel_rfl
theorem tsz59 : tsz Try.prog 59 = 1 := by kernel_rfl
theorem tud59 : (Try.prog.underlying 59).isSome = true := by kernel_rfl
theorem tin59 : (Try.prog.info? 59).isSome = true := by kernel_rfl
theorem tag59 : tagg Try.prog 59 = false := by kernel_rfl
theorem tsl59 : selem Try.prog 59 = none := by kernel_rfl
theorem tby59 : tby Try.prog 59 = 8 := by kernel_rfl
theorem tze59 : tzero Try.prog 59 = some (.nilFunc) := by kernel_rfl
theorem tsz60 : tsz Try.prog 60 = 1 := by kernel_rfl
theorem tud60 : (Try.prog.underlying 60).isSome = true := by kernel_rfl
theorem tin60 : (Try.prog.info? 60).isSome = true := by kernel_rfl
theorem tag60 : tagg Try.prog 60 = false := by kernel_rfl
theorem tsl60 : selem Try.prog 60 = none := by kernel_rfl
theorem tby60 : tby Try.prog 60 = 8 := by kernel_rfl
theorem tze60 : tzero Try.prog 60 = some (.nilFunc) := by kernel_rfl
theorem tsz61 : tsz Try.prog 61 = 1 := by kernel_rfl
theorem tud61 : (Try.prog.underlying 61).isSome = true := by kernel_rfl
theorem tin61 : (Try.prog.info? 61).isSome = true := by kernel_rfl
theorem tag61 : tagg Try.prog 61 = false := by kernel_rfl
theorem tsl61 : selem Try.prog 61 = none := by kernel_rfl
theorem tby61 : tby Try.prog 61 = 8 := by kernel_rfl
theorem tze61 : tzero Try.prog 61 = some (.nilFunc) := by kernel_rfl
theorem tsz62 : tsz Try.prog 62 = 1 := by kernel_rfl
theorem tud62 : (Try.prog.underlying 62).isSome = true := by kernel_rfl
theorem tin62 : (Try.prog.info? 62).isSome = true := by kernel_rfl
theorem tag62 : tagg Try.prog 62 = false := by kernel_rfl
theorem tsl62 : selem Try.prog 62 = none := by kernel_rfl
theorem tby62 : tby Try.prog 62 = 8 := by kernel_rfl
theorem tze62 : tzero Try.prog 62 = some (.nilFunc) := by kernel_rfl
theorem tsz64 : tsz Try.prog 64 = 1 := by kernel_rfl
theorem tud64 : (Try.prog.underlying 64).isSome = true := by kernel_rfl
theorem tin64 : (Try.prog.info? 64).isSome = true := by kernel_rfl
theorem tag64 : tagg Try.prog 64 = false := by kernel_rfl
theorem tsl64 : selem Try.prog 64 = none := by kernel_rfl
theorem tby64 : tby Try.prog 64 = 8 := by kernel_rfl
theorem tze64 : tzero Try.prog 64 = some (.nilFunc) := by kernel_rfl
theorem tsz65 : tsz Try.prog 65 = 1 := by kernel_rfl
theorem tud65 : (Try.prog.underlying 65).isSome = true := by kernel_rfl
theorem tin65 : (Try.prog.info? 65).isSome = true := by kernel_rfl
theorem tag65 : tagg Try.prog 65 = false := by kernel_rfl
theorem tsl65 : selem Try.prog 65 = none := by kernel_rfl
theorem tby65 : tby Try.prog 65 = 8 := by kernel_rfl
theorem tze65 : tzero Try.prog 65 = some (.nilFunc) := by kernel_rfl
theorem tsz71 : tsz Try.prog 71 = 1 := by kernel_rfl
theorem tud71 : (Try.prog.underlying 71).isSome = true := by kernel_rfl
theorem tin71 : (Try.prog.info? 71).isSome = true := by kernel_rfl
theorem tag71 : tagg Try.prog 71 = false := by kernel_rfl
theorem tsl71 : selem Try.prog 71 = none := by kernel_rfl
theorem tby71 : tby Try.prog 71 = 8 := by kernel_rfl
theorem tze71 : tzero Try.prog 71 = some (.nilFunc) := by kernel_rfl
theorem tsz74 : tsz Try.prog 74 = 1 := by kernel_rfl
theorem tud74 : (Try.prog.underlying 74).isSome = true := by kernel_rfl
theorem tin74 : (Try.prog.info? 74).isSome = true := by kernel_rfl
theorem tag74 : tagg Try.prog 74 = false := by kernel_rfl
theorem tsl74 : selem Try.prog 74 = none := by kernel_rfl
theorem tby74 : tby Try.prog 74 = 8 := by kernel_rfl
theorem tze74 : tzero Try.prog 74 = some (.nilFunc) := by kernel_rfl
attribute [go_sem] tsz1 tud1 tin1 tag1 tsl1 tby1 tze1 tsz23 tud23 tin23 tag23 tsl23 tby23 tze23 tsz24 tud24 tin24 tag24 tsl24 tby24 tze24 tsz26 tud26 tin26 tag26 tsl26 tby26 tze26 tsz27 tud27 tin27 tag27 tsl27 tby27 tze27 tsz28 tud28 tin28 tag28 tsl28 tby28 tze28 tsz31 tud31 tin31 tag31 tsl31 tby31 tze31 tsz34 tud34 tin34 tag34 tsl34 tby34 tze34 tsz36 tud36 tin36 tag36 tsl36 tby36 tze36 tsz37 tud37 tin37 tag37 tsl37 tby37 tze37 tsz39 tud39 tin39 tag39 tsl39 tby39 tze39 tsz40 tud40 tin40 tag40 tsl40 tby40 tze40 tsz41 tud41 tin41 tag41 tsl41 tby41 tze41 tsz42 tud42 tin42 tag42 tsl42 tby42 tze42 tsz43 tud43 tin43 tag43 tsl43 tby43 tze43 tsz44 tud44 tin44 tag44 tsl44 tby44 tze44 tsz45 tud45 tin45 tag45 tsl45 tby45 tze45 tsz46 tud46 tin46 tag46 tsl46 tby46 tze46 tsz47 tud47 tin47 tag47 tsl47 tby47 tze47 tsz48 tud48 tin48 tag48 tsl48 tby48 tze48 tsz49 tud49 tin49 tag49 tsl49 tby49 tze49 tsz50 tud50 tin50 tag50 tsl50 tby50 tze50 tsz51 tud51 tin51 tag51 tsl51 tby51 tze51 tsz52 tud52 tin52 tag52 tsl52 tby52 tze52 tsz54 tud54 tin54 tag54 tsl54 tby54 tze54 tsz55 tud55 tin55 tag55 tsl55 tby55 tze55 tsz57 tud57 tin57 tag57 tsl57 tby57 tze57 tsz58 tud58 tin58 tag58 tsl58 tby58 tze58 tsz59 tud59 tin59 tag59 tsl59 tby59 tze59 tsz60 tud60 tin60 tag60 tsl60 tby60 tze60 tsz61 tud61 tin61 tag61 tsl61 tby61 tze61 tsz62 tud62 tin62 tag62 tsl62 tby62 tze62 tsz64 tud64 tin64 tag64 tsl64 tby64 tze64 tsz65 tud65 tin65 tag65 tsl65 tby65 tze65 tsz71 tud71 tin71 tag71 tsl71 tby71 tze71 tsz74 tud74 tin74 tag74 tsl74 tby74 tze74
end Go.Proofs.Ytpjcicbohgcehaa.Ab
