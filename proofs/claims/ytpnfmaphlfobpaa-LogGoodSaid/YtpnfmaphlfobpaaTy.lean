/- What the abstract layer asks of the types. -/
import Derived.Test.YtpnfmaphlfobpaaProg
import Derived.Test.YtpnfmaphlfobpaaAbP
import Derived.ProofKit
namespace Go.Proofs.Ytpnfmaphlfobpaa.Ab
theorem tsz2 : tsz Try.prog 2 = 1 := by kernel_rfl
theorem tud2 : (Try.prog.underlying 2).isSome = true := by kernel_rfl
theorem tun2 : Try.prog.underlying 2 = some (.int .i64) := by kernel_rfl
theorem tin2 : (Try.prog.info? 2).isSome = true := by kernel_rfl
theorem tag2 : tagg Try.prog 2 = false := by kernel_rfl
theorem tsl2 : selem Try.prog 2 = none := by kernel_rfl
theorem tby2 : tby Try.prog 2 = 8 := by kernel_rfl
theorem tze2 : tzero Try.prog 2 = some (.int .i64 0) := by kernel_rfl
theorem tsz3 : tsz Try.prog 3 = 1 := by kernel_rfl
theorem tud3 : (Try.prog.underlying 3).isSome = true := by kernel_rfl
theorem tun3 : Try.prog.underlying 3 = some (.int .i64) := by kernel_rfl
theorem tin3 : (Try.prog.info? 3).isSome = true := by kernel_rfl
theorem tag3 : tagg Try.prog 3 = false := by kernel_rfl
theorem tsl3 : selem Try.prog 3 = none := by kernel_rfl
theorem tby3 : tby Try.prog 3 = 8 := by kernel_rfl
theorem tze3 : tzero Try.prog 3 = some (.int .i64 0) := by kernel_rfl
theorem tsz4 : tsz Try.prog 4 = 1 := by kernel_rfl
theorem tud4 : (Try.prog.underlying 4).isSome = true := by kernel_rfl
theorem tun4 : Try.prog.underlying 4 = some .bool := by kernel_rfl
theorem tin4 : (Try.prog.info? 4).isSome = true := by kernel_rfl
theorem tag4 : tagg Try.prog 4 = false := by kernel_rfl
theorem tsl4 : selem Try.prog 4 = none := by kernel_rfl
theorem tby4 : tby Try.prog 4 = 1 := by kernel_rfl
theorem tze4 : tzero Try.prog 4 = some (.bool false) := by kernel_rfl
theorem tsz5 : tsz Try.prog 5 = 1 := by kernel_rfl
theorem tud5 : (Try.prog.underlying 5).isSome = true := by kernel_rfl
theorem tun5 : Try.prog.underlying 5 = some (.int .u8) := by kernel_rfl
theorem tin5 : (Try.prog.info? 5).isSome = true := by kernel_rfl
theorem tag5 : tagg Try.prog 5 = false := by kernel_rfl
theorem tsl5 : selem Try.prog 5 = none := by kernel_rfl
theorem tby5 : tby Try.prog 5 = 1 := by kernel_rfl
theorem tze5 : tzero Try.prog 5 = some (.int .u8 0) := by kernel_rfl
theorem tsz9 : tsz Try.prog 9 = 1 := by kernel_rfl
theorem tud9 : (Try.prog.underlying 9).isSome = true := by kernel_rfl
theorem tun9 : Try.prog.underlying 9 = some .string := by kernel_rfl
theorem tin9 : (Try.prog.info? 9).isSome = true := by kernel_rfl
theorem tag9 : tagg Try.prog 9 = false := by kernel_rfl
theorem tsl9 : selem Try.prog 9 = none := by kernel_rfl
theorem tby9 : tby Try.prog 9 = 16 := by kernel_rfl
theorem tze9 : tzero Try.prog 9 = some (.string ⟨#[]⟩) := by kernel_rfl
theorem tsz12 : tsz Try.prog 12 = 1 := by kernel_rfl
theorem tud12 : (Try.prog.underlying 12).isSome = true := by kernel_rfl
theorem tun12 : Try.prog.underlying 12 = some (.int .u64) := by kernel_rfl
theorem tin12 : (Try.prog.info? 12).isSome = true := by kernel_rfl
theorem tag12 : tagg Try.prog 12 = false := by kernel_rfl
theorem tsl12 : selem Try.prog 12 = none := by kernel_rfl
theorem tby12 : tby Try.prog 12 = 8 := by kernel_rfl
theorem tze12 : tzero Try.prog 12 = some (.int .u64 0) := by kernel_rfl
theorem tsz20 : tsz Try.prog 20 = 1 := by kernel_rfl
theorem tud20 : (Try.prog.underlying 20).isSome = true := by kernel_rfl
theorem tin20 : (Try.prog.info? 20).isSome = true := by kernel_rfl
theorem tag20 : tagg Try.prog 20 = false := by kernel_rfl
theorem tsl20 : selem Try.prog 20 = none := by kernel_rfl
theorem tby20 : tby Try.prog 20 = 16 := by kernel_rfl
theorem tze20 : tzero Try.prog 20 = some (.nilIface) := by kernel_rfl
theorem tsz21 : tsz Try.prog 21 = 1 := by kernel_rfl
theorem tud21 : (Try.prog.underlying 21).isSome = true := by kernel_rfl
theorem tun21 : Try.prog.underlying 21 = some (.int .i32) := by kernel_rfl
theorem tin21 : (Try.prog.info? 21).isSome = true := by kernel_rfl
theorem tag21 : tagg Try.prog 21 = false := by kernel_rfl
theorem tsl21 : selem Try.prog 21 = none := by kernel_rfl
theorem tby21 : tby Try.prog 21 = 4 := by kernel_rfl
theorem tze21 : tzero Try.prog 21 = some (.int .i32 0) := by kernel_rfl
theorem tsz22 : tsz Try.prog 22 = 1 := by kernel_rfl
theorem tud22 : (Try.prog.underlying 22).isSome = true := by kernel_rfl
theorem tin22 : (Try.prog.info? 22).isSome = true := by kernel_rfl
theorem tag22 : tagg Try.prog 22 = false := by kernel_rfl
theorem tsl22 : selem Try.prog 22 = some 24 := by kernel_rfl
theorem tby22 : tby Try.prog 22 = 24 := by kernel_rfl
theorem tze22 : tzero Try.prog 22 = some (.slice none 0 0) := by kernel_rfl
theorem tsz23 : tsz Try.prog 23 = 1 := by kernel_rfl
theorem tud23 : (Try.prog.underlying 23).isSome = true := by kernel_rfl
theorem tun23 : Try.prog.underlying 23 = some (.int .u16) := by kernel_rfl
theorem tin23 : (Try.prog.info? 23).isSome = true := by kernel_rfl
theorem tag23 : tagg Try.prog 23 = false := by kernel_rfl
theorem tsl23 : selem Try.prog 23 = none := by kernel_rfl
theorem tby23 : tby Try.prog 23 = 2 := by kernel_rfl
theorem tze23 : tzero Try.prog 23 = some (.int .u16 0) := by kernel_rfl
theorem tsz24 : tsz Try.prog 24 = 1 := by kernel_rfl
theorem tud24 : (Try.prog.underlying 24).isSome = true := by kernel_rfl
theorem tin24 : (Try.prog.info? 24).isSome = true := by kernel_rfl
theorem tag24 : tagg Try.prog 24 = false := by kernel_rfl
theorem tsl24 : selem Try.prog 24 = some 5 := by kernel_rfl
theorem tby24 : tby Try.prog 24 = 24 := by kernel_rfl
theorem tze24 : tzero Try.prog 24 = some (.slice none 0 0) := by kernel_rfl
theorem tsz26 : tsz Try.prog 26 = 1 := by kernel_rfl
theorem tud26 : (Try.prog.underlying 26).isSome = true := by kernel_rfl
theorem tin26 : (Try.prog.info? 26).isSome = true := by kernel_rfl
theorem tag26 : tagg Try.prog 26 = false := by kernel_rfl
theorem tsl26 : selem Try.prog 26 = some 3 := by kernel_rfl
theorem tby26 : tby Try.prog 26 = 24 := by kernel_rfl
theorem tze26 : tzero Try.prog 26 = some (.slice none 0 0) := by kernel_rfl
theorem tsz27 : tsz Try.prog 27 = 1 := by kernel_rfl
theorem tud27 : (Try.prog.underlying 27).isSome = true := by kernel_rfl
theorem tun27 : Try.prog.underlying 27 = some (.int .i64) := by kernel_rfl
theorem tin27 : (Try.prog.info? 27).isSome = true := by kernel_rfl
theorem tag27 : tagg Try.prog 27 = false := by kernel_rfl
theorem tsl27 : selem Try.prog 27 = none := by kernel_rfl
theorem tby27 : tby Try.prog 27 = 8 := by kernel_rfl
theorem tze27 : tzero Try.prog 27 = some (.int .i64 0) := by kernel_rfl
theorem tsz42 : tsz Try.prog 42 = 1 := by kernel_rfl
theorem tud42 : (Try.prog.underlying 42).isSome = true := by kernel_rfl
theorem tun42 : Try.prog.underlying 42 = some (.int .u64) := by kernel_rfl
theorem tin42 : (Try.prog.info? 42).isSome = true := by kernel_rfl
theorem tag42 : tagg Try.prog 42 = false := by kernel_rfl
theorem tsl42 : selem Try.prog 42 = none := by kernel_rfl
theorem tby42 : tby Try.prog 42 = 8 := by kernel_rfl
theorem tze42 : tzero Try.prog 42 = some (.int .u64 0) := by kernel_rfl
theorem tsz50 : tsz Try.prog 50 = 1 := by kernel_rfl
theorem tud50 : (Try.prog.underlying 50).isSome = true := by kernel_rfl
theorem tun50 : Try.prog.underlying 50 = some (.int .u32) := by kernel_rfl
theorem tin50 : (Try.prog.info? 50).isSome = true := by kernel_rfl
theorem tag50 : tagg Try.prog 50 = false := by kernel_rfl
theorem tsl50 : selem Try.prog 50 = none := by kernel_rfl
theorem tby50 : tby Try.prog 50 = 4 := by kernel_rfl
theorem tze50 : tzero Try.prog 50 = some (.int .u32 0) := by kernel_rfl
theorem tsz54 : tsz Try.prog 54 = 1 := by kernel_rfl
theorem tud54 : (Try.prog.underlying 54).isSome = true := by kernel_rfl
theorem tin54 : (Try.prog.info? 54).isSome = true := by kernel_rfl
theorem tag54 : tagg Try.prog 54 = false := by kernel_rfl
theorem tsl54 : selem Try.prog 54 = none := by kernel_rfl
theorem tby54 : tby Try.prog 54 = 8 := by kernel_rfl
theorem tze54 : tzero Try.prog 54 = some (.pointer none) := by kernel_rfl
theorem tsz59 : tsz Try.prog 59 = 1 := by kernel_rfl
theorem tud59 : (Try.prog.underlying 59).isSome = true := by kernel_rfl
theorem tin59 : (Try.prog.info? 59).isSome = true := by kernel_rfl
theorem tag59 : tagg Try.prog 59 = false := by kernel_rfl
theorem tsl59 : selem Try.prog 59 = none := by kernel_rfl
theorem tby59 : tby Try.prog 59 = 8 := by kernel_rfl
theorem tze59 : tzero Try.prog 59 = some (.pointer none) := by kernel_rfl
attribute [go_sem] tsz2 tud2 tun2 tin2 tag2 tsl2 tby2 tze2 tsz3 tud3 tun3 tin3 tag3 tsl3 tby3 tze3 tsz4 tud4 tun4 tin4 tag4 tsl4 tby4 tze4 tsz5 tud5 tun5 tin5 tag5 tsl5 tby5 tze5 tsz9 tud9 tun9 tin9 tag9 tsl9 tby9 tze9 tsz12 tud12 tun12 tin12 tag12 tsl12 tby12 tze12 tsz20 tud20 tin20 tag20 tsl20 tby20 tze20 tsz21 tud21 tun21 tin21 tag21 tsl21 tby21 tze21 tsz22 tud22 tin22 tag22 tsl22 tby22 tze22 tsz23 tud23 tun23 tin23 tag23 tsl23 tby23 tze23 tsz24 tud24 tin24 tag24 tsl24 tby24 tze24 tsz26 tud26 tin26 tag26 tsl26 tby26 tze26 tsz27 tud27 tun27 tin27 tag27 tsl27 tby27 tze27 tsz42 tud42 tun42 tin42 tag42 tsl42 tby42 tze42 tsz50 tud50 tun50 tin50 tag50 tsl50 tby50 tze50 tsz54 tud54 tin54 tag54 tsl54 tby54 tze54 tsz59 tud59 tin59 tag59 tsl59 tby59 tze59
end Go.Proofs.Ytpnfmaphlfobpaa.Ab
