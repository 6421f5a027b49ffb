/- What the abstract layer asks of the types. -/
import Derived.Test.YtnkcenafpigmbaaGreatProg
import Derived.Test.YtnkcenafpigmbaaGreatAb3
import Derived.ProofKit
namespace Go.Proofs.YtnkcenafpigmbaaGreat.Ab
theorem tsz1 : tsz Tryz.prog 1 = 1 := by kernel_rfl
theorem tud1 : (Tryz.prog.underlying 1).isSome = true := by kernel_rfl
theorem tin1 : (Tryz.prog.info? 1).isSome = true := by kernel_rfl
theorem tag1 : tagg Tryz.prog 1 = false := by kernel_rfl
theorem tsl1 : selem Tryz.prog 1 = none := by kernel_rfl
theorem tby1 : tby Tryz.prog 1 = 8 := by kernel_rfl
theorem tze1 : tzero Tryz.prog 1 = some (.nilFunc) := by kernel_rfl
theorem tsz23 : tsz Tryz.prog 23 = 1 := by kernel_rfl
theorem tud23 : (Tryz.prog.underlying 23).isSome = true := by kernel_rfl
theorem tin23 : (Tryz.prog.info? 23).isSome = true := by kernel_rfl
theorem tag23 : tagg Tryz.prog 23 = false := by kernel_rfl
theorem tsl23 : selem Tryz.prog 23 = none := by kernel_rfl
theorem tby23 : tby Tryz.prog 23 = 8 := by kernel_rfl
theorem tze23 : tzero Tryz.prog 23 = some (.nilFunc) := by kernel_rfl
theorem tsz24 : tsz Tryz.prog 24 = 1 := by kernel_rfl
theorem tud24 : (Tryz.prog.underlying 24).isSome = true := by kernel_rfl
theorem tin24 : (Tryz.prog.info? 24).isSome = true := by kernel_rfl
theorem tag24 : tagg Tryz.prog 24 = false := by kernel_rfl
theorem tsl24 : selem Tryz.prog 24 = none := by kernel_rfl
theorem tby24 : tby Tryz.prog 24 = 8 := by kernel_rfl
theorem tze24 : tzero Tryz.prog 24 = some (.nilFunc) := by kernel_rfl
theorem tsz25 : tsz Tryz.prog 25 = 1 := by kernel_rfl
theorem tud25 : (Tryz.prog.underlying 25).isSome = true := by kernel_rfl
theorem tin25 : (Tryz.prog.info? 25).isSome = true := by kernel_rfl
theorem tag25 : tagg Tryz.prog 25 = false := by kernel_rfl
theorem tsl25 : selem Tryz.prog 25 = none := by kernel_rfl
theorem tby25 : tby Tryz.prog 25 = 8 := by kernel_rfl
theorem tze25 : tzero Tryz.prog 25 = some (.nilFunc) := by kernel_rfl
theorem tsz26 : tsz Tryz.prog 26 = 1 := by kernel_rfl
theorem tud26 : (Tryz.prog.underlying 26).isSome = true := by kernel_rfl
theorem tin26 : (Tryz.prog.info? 26).isSome = true := by kernel_rfl
theorem tag26 : tagg Tryz.prog 26 = false := by kernel_rfl
theorem tsl26 : selem Tryz.prog 26 = none := by kernel_rfl
theorem tby26 : tby Tryz.prog 26 = 8 := by kernel_rfl
theorem tze26 : tzero Tryz.prog 26 = some (.nilFunc) := by kernel_rfl
theorem tsz27 : tsz Tryz.prog 27 = 1 := by kernel_rfl
theorem tud27 : (Tryz.prog.underlying 27).isSome = true := by kernel_rfl
theorem tin27 : (Tryz.prog.info? 27).isSome = true := by kernel_rfl
theorem tag27 : tagg Tryz.prog 27 = false := by kernel_rfl
theorem tsl27 : selem Tryz.prog 27 = none := by kernel_rfl
theorem tby27 : tby Tryz.prog 27 = 8 := by kernel_rfl
theorem tze27 : tzero Tryz.prog 27 = some (.nilFunc) := by kernel_rfl
theorem tsz33 : tsz Tryz.prog 33 = 1 := by kernel_rfl
theorem tud33 : (Tryz.prog.underlying 33).isSome = true := by kernel_rfl
theorem tin33 : (Tryz.prog.info? 33).isSome = true := by kernel_rfl
theorem tag33 : tagg Tryz.prog 33 = false := by kernel_rfl
theorem tsl33 : selem Tryz.prog 33 = none := by kernel_rfl
theorem tby33 : tby Tryz.prog 33 = 8 := by kernel_rfl
theorem tze33 : tzero Tryz.prog 33 = some (.nilFunc) := by kernel_rfl
theorem tsz34 : tsz Tryz.prog 34 = 1 := by kernel_rfl
theorem tud34 : (Tryz.prog.underlying 34).isSome = true := by kernel_rfl
theorem tin34 : (Tryz.prog.info? 34).isSome = true := by kernel_rfl
theorem tag34 : tagg Tryz.prog 34 = false := by kernel_rfl
theorem tsl34 : selem Tryz.prog 34 = none := by kernel_rfl
theorem tby34 : tby Tryz.prog 34 = 8 := by kernel_rfl
theorem tze34 : tzero Tryz.prog 34 = some (.nilFunc) := by kernel_rfl
theorem tsz36 : tsz Tryz.prog 36 = 1 := by kernel_rfl
theorem tud36 : (Tryz.prog.underlying 36).isSome = true := by kernel_rfl
theorem tin36 : (Tryz.prog.info? 36).isSome = true := by kernel_rfl
theorem tag36 : tagg Tryz.prog 36 = false := by kernel_rfl
theorem tsl36 : selem Tryz.prog 36 = none := by kernel_rfl
theorem tby36 : tby Tryz.prog 36 = 8 := by kernel_rfl
theorem tze36 : tzero Tryz.prog 36 = some (.nilFunc) := by kernel_rfl
theorem tsz43 : tsz Tryz.prog 43 = 1 := by kernel_rfl
theorem tud43 : (Tryz.prog.underlying 43).isSome = true := by kernel_rfl
theorem tin43 : (Tryz.prog.info? 43).isSome = true := by kernel_rfl
theorem tag43 : tagg Tryz.prog 43 = false := by kernel_rfl
theorem tsl43 : selem Tryz.prog 43 = none := by kernel_rfl
theorem tby43 : tby Tryz.prog 43 = 8 := by kernel_rfl
theorem tze43 : tzero Tryz.prog 43 = some (.nilFunc) := by kernel_rfl
theorem tsz44 : tsz Tryz.prog 44 = 1 := by kernel_rfl
theorem tud44 : (Tryz.prog.underlying 44).isSome = true := by kernel_rfl
theorem tin44 : (Tryz.prog.info? 44).isSome = true := by kernel_rfl
theorem tag44 : tagg Tryz.prog 44 = false := by kernel_rfl
theorem tsl44 : selem Tryz.prog 44 = none := by kernel_rfl
theorem tby44 : tby Tryz.prog 44 = 8 := by kernel_rfl
theorem tze44 : tzero Tryz.prog 44 = some (.nilFunc) := by kernel_rfl
theorem tsz45 : tsz Tryz.prog 45 = 1 := by kernel_rfl
theorem tud45 : (Tryz.prog.underlying 45).isSome = true := by kernel_rfl
theorem tin45 : (Tryz.prog.info? 45).isSome = true := by kernel_rfl
theorem tag45 : tagg Tryz.prog 45 = false := by kernel_rfl
theorem tsl45 : selem Tryz.prog 45 = none := by kernel_rfl
theorem tby45 : tby Tryz.prog 45 = 8 := by kernel_rfl
theorem tze45 : tzero Tryz.prog 45 = some (.nilFunc) := by kernel_rfl
theorem tsz46 : tsz Tryz.prog 46 = 1 := by kernel_rfl
theorem tud46 : (Tryz.prog.underlying 46).isSome = true := by kernel_rfl
theorem tin46 : (Tryz.prog.info? 46).isSome = true := by kernel_rfl
theorem tag46 : tagg Tryz.prog 46 = false := by kernel_rfl
theorem tsl46 : selem Tryz.prog 46 = none := by kernel_rfl
theorem tby46 : tby Tryz.prog 46 = 8 := by kernel_rfl
theorem tze46 : tzero Tryz.prog 46 = some (.nilFunc) := by kernel_rfl
theorem tsz47 : tsz Tryz.prog 47 = 1 := by kernel_rfl
theorem tud47 : (Tryz.prog.underlying 47).isSome = true := by kernel_rfl
theorem tin47 : (Tryz.prog.info? 47).isSome = true := by kernel_rfl
theorem tag47 : tagg Tryz.prog 47 = false := by kernel_rfl
theorem tsl47 : selem Tryz.prog 47 = none := by kernel_rfl
theorem tby47 : tby Tryz.prog 47 = 8 := by kernel_rfl
theorem tze47 : tzero Tryz.prog 47 = some (.nilFunc) := by kernel_rfl
theorem tsz48 : tsz Tryz.prog 48 = 1 := by kernel_rfl
theorem tud48 : (Tryz.prog.underlying 48).isSome = true := by kernel_rfl
theorem tin48 : (Tryz.prog.info? 48).isSome = true := by kernel_rfl
theorem tag48 : tagg Tryz.prog 48 = false := by kernel_rfl
theorem tsl48 : selem Tryz.prog 48 = none := by kernel_rfl
theorem tby48 : tby Tryz.prog 48 = 8 := by kernel_rfl
theorem tze48 : tzero Tryz.prog 48 = some (.nilFunc) := by kernel_rfl
theorem tsz50 : tsz Tryz.prog 50 = 1 := by kernel_rfl
theorem tud50 : (Tryz.prog.underlying 50).isSome = true := by kernel_rfl
theorem tin50 : (Tryz.prog.info? 50).isSome = true := by kernel_rfl
theorem tag50 : tagg Tryz.prog 50 = false := by kernel_rfl
theorem tsl50 : selem Tryz.prog 50 = none := by kernel_rfl
theorem tby50 : tby Tryz.prog 50 = 8 := by kernel_rfl
theorem tze50 : tzero Tryz.prog 50 = some (.nilFunc) := by kernel_rfl
theorem tsz51 : tsz Tryz.prog 51 = 1 := by kernel_rfl
theorem tud51 : (Tryz.prog.underlying 51).isSome = true := by kernel_rfl
theorem tin51 : (Tryz.prog.info? 51).isSome = true := by kernel_rfl
theorem tag51 : tagg Tryz.prog 51 = false := by kernel_rfl
theorem tsl51 : selem Tryz.prog 51 = none := by kernel_rfl
theorem tby51 : tby Tryz.prog 51 = 8 := by kernel_rfl
theorem tze51 : tzero Tryz.prog 51 = some (.nilFunc) := by kernel_rfl
theorem tsz54 : tsz Tryz.prog 54 = 1 := by kernel_rfl
theorem tud54 : (Tryz.prog.underlying 54).isSome = true := by kernel_rfl
theorem tin54 : (Tryz.prog.info? 54).isSome = true := by kernel_rfl
theorem tag54 : tagg Tryz.prog 54 = false := by kernel_rfl
theorem tsl54 : selem Tryz.prog 54 = none := by kernel_rfl
theorem tby54 : tby Tryz.prog 54 = 8 := by kernel_rfl
theorem tze54 : tzero Tryz.prog 54 = some (.nilFunc) := by kernel_rfl
theorem tsz55 : tsz Tryz.prog 55 = 1 := by kernel_rfl
theorem tud55 : (Tryz.prog.underlying 55).isSome = true := by kernel_rfl
theorem tin55 : (Tryz.prog.info? 55).isSome = true := by kernel_rfl
theorem tag55 : tagg Tryz.prog 55 = false := by kernel_rfl
theorem tsl55 : selem Tryz.prog 55 = none := by kernel_rfl
theorem tby55 : tby Tryz.prog 55 = 8 := by kernel_rfl
theorem tze55 : tzero Tryz.prog 55 = some (.nilFunc) := by kernel_rfl
theorem tsz56 : tsz Tryz.prog 56 = 1 := by kernel_rfl
theorem tud56 : (Tryz.prog.underlying 56).isSome = true := by kernel_rfl
theorem tin56 : (Tryz.prog.info? 56).isSome = true := by kernel_rfl
theorem tag56 : tagg Tryz.prog 56 = false := by kernel_rfl
theorem tsl56 : selem Tryz.prog 56 = none := by kernel_rfl
theorem tby56 : tby Tryz.prog 56 = 8 := by kernel_rfl
theorem tze56 : tzero Tryz.prog 56 = some (.nilFunc) := by kernel_rfl
theorem tsz57 : tsz Tryz.prog 57 = 1 := by kernel_rfl
theorem tud57 : (Tryz.prog.underlying 57).isSome = true := by kernel_rfl
theorem tin57 : (Tryz.prog.info? 57).isSome = true := by kernel_rfl
theorem tag57 : tagg Tryz.prog 57 = false := by kernel_rfl
theorem tsl57 : selem Tryz.prog 57 = none := by kernel_rfl
theorem tby57 : tby Tryz.prog 57 = 8 := by kernel_rfl
theorem tze57 : tzero Tryz.prog 57 = some (.nilFunc) := by kernel_rfl
theorem tsz59 : tsz Tryz.prog 59 = 1 := by kernel_rfl
theorem tud59 : (Tryz.prog.underlying 59).isSome = true := by kernel_rfl
theorem tin59 : (Tryz.prog.info? 59).isSome = true := by kernel_rfl
theorem tag59 : tagg Tryz.prog 59 = false := by kernel_rfl
theorem tsl59 : selem Tryz.prog 59 = none := by kernel_rfl
theorem tby59 : tby Tryz.prog 59 = 8 := by kernel_rfl
theorem tze59 : tzero Tryz.prog 59 = some (.nilFunc) := by kernel_rfl
theorem tsz60 : tsz Tryz.prog 60 = 1 := by kernel_rfl
theorem tud60 : (Tryz.prog.underlying 60).isSome = true := by kernel_rfl
theorem tin60 : (Tryz.prog.info? 60).isSome = true := by kernel_rfl
theorem tag60 : tagg Tryz.prog 60 = false := by kernel_rfl
theorem tsl60 : selem Tryz.prog 60 = none := by kernel_rfl
theorem tby60 : tby Tryz.prog 60 = 8 := by kernel_rfl
theorem tze60 : tzero Tryz.prog 60 = some (.nilFunc) := by kernel_rfl
theorem tsz63 : tsz Tryz.prog 63 = 1 := by kernel_rfl
theorem tud63 : (Tryz.prog.underlying 63).isSome = true := by kernel_rfl
theorem tin63 : (Tryz.prog.info? 63).isSome = true := by kernel_rfl
theorem tag63 : tagg Tryz.prog 63 = false := by kernel_rfl
theorem tsl63 : selem Tryz.prog 63 = none := by kernel_rfl
theorem tby63 : tby Tryz.prog 63 = 8 := by kernel_rfl
theorem tze63 : tzero Tryz.prog 63 = some (.nilFunc) := by kernel_rfl
theorem tsz65 : tsz Tryz.prog 65 = 1 := by kernel_rfl
theorem tud65 : (Tryz.prog.underlying 65).isSome = true := by kernel_rfl
theorem tin65 : (Tryz.prog.info? 65).isSome = true := by kernel_rfl
theorem tag65 : tagg Tryz.prog 65 = false := by kernel_rfl
theorem tsl65 : selem Tryz.prog 65 = none := by kernel_rfl
theorem tby65 : tby Tryz.prog 65 = 8 := by kernel_rfl
theorem tze65 : tzero Tryz.prog 65 = some (.nilFunc) := by kernel_rfl
theorem tsz66 : tsz Tryz.prog 66 = 1 := by kernel_rfl
theorem tud66 : (Tryz.prog.underlying 66).isSome = true := by kernel_rfl
theorem tin66 : (Tryz.prog.info? 66).isSome = true := by kernel_rfl
theorem tag66 : tagg Tryz.prog 66 = false := by kernel_rfl
theorem tsl66 : selem Tryz.prog 66 = none := by kernel_rfl
theorem tby66 : tby Tryz.prog 66 = 8 := by kernel_rfl
theorem tze66 : tzero Tryz.prog 66 = some (.nilFunc) := by kernel_rfl
theorem tsz69 : tsz Tryz.prog 69 = 1 := by kernel_rfl
theorem tud69 : (Tryz.prog.underlying 69).isSome = true := by kernel_rfl
theorem tin69 : (Tryz.prog.info? 69).isSome = true := by kernel_rfl
theorem tag69 : tagg Tryz.prog 69 = false := by kernel_rfl
theorem tsl69 : selem Tryz.prog 69 = none := by kernel_rfl
theorem tby69 : tby Tryz.prog 69 = 8 := by kernel_rfl
theorem tze69 : tzero Tryz.prog 69 = some (.nilFunc) := by kernel_rfl
theorem tsz70 : tsz Tryz.prog 70 = 1 := by kernel_rfl
theorem tud70 : (Tryz.prog.underlying 70).isSome = true := by kernel_rfl
theorem tin70 : (Tryz.prog.info? 70).isSome = true := by kernel_rfl
theorem tag70 : tagg Tryz.prog 70 = false := by kernel_rfl
theorem tsl70 : selem Tryz.prog 70 = none := by kernel_rfl
theorem tby70 : tby Tryz.prog 70 = 8 := by kernel_rfl
theorem tze70 : tzero Tryz.prog 70 = some (.nilFunc) := by kernel_rfl
theorem tsz71 : tsz Tryz.prog 71 = 1 := by kernel_rfl
theorem tud71 : (Tryz.prog.underlying 71).isSome = true := by kernel_rfl
theorem tin71 : (Tryz.prog.info? 71).isSome = true := by kernel_rfl
theorem tag71 : tagg Tryz.prog 71 = false := by kernel_rfl
theorem tsl71 : selem Tryz.prog 71 = none := by kernel_rfl
theorem tby71 : tby Tryz.prog 71 = 8 := by kernel_rfl
theorem tze71 : tzero Tryz.prog 71 = some (.nilFunc) := by kernel_rfl
theorem tsz72 : tsz Tryz.prog 72 = 1 := by kernel_rfl
theorem tud72 : (Tryz.prog.underlying 72).isSome = true := by kernel_rfl
theorem tin72 : (Tryz.prog.info? 72).isSome = true := by kernel_rfl
theorem tag72 : tagg Tryz.prog 72 = false := by kernel_rfl
theorem tsl72 : selem Tryz.prog 72 = none := by kernel_rfl
theorem tby72 : tby Tryz.prog 72 = 8 := by kernel_rfl
theorem tze72 : tzero Tryz.prog 72 = some (.nilFunc) := by kernel_rfl
theorem tsz73 : tsz Tryz.prog 73 = 1 := by kernel_rfl
theorem tud73 : (Tryz.prog.underlying 73).isSome = true := by kernel_rfl
theorem tin73 : (Tryz.prog.info? 73).isSome = true := by kernel_rfl
theorem tag73 : tagg Tryz.prog 73 = false := by kernel_rfl
theorem tsl73 : selem Tryz.prog 73 = none := by kernel_rfl
theorem tby73 : tby Tryz.prog 73 = 8 := by kernel_rfl
theorem tze73 : tzero Tryz.prog 73 = some (.nilFunc) := by kernel_rfl
theorem tsz74 : tsz Tryz.prog 74 = 1 := by kernel_rfl
theorem tud74 : (Tryz.prog.underlying 74).isSome = true := by kernel_rfl
theorem tin74 : (Tryz.prog.info? 74).isSome = true := by kernel_rfl
theorem tag74 : tagg Tryz.prog 74 = false := by kernel_rfl
theorem tsl74 : selem Tryz.prog 74 = none := by kernel_rfl
theorem tby74 : tby Tryz.prog 74 = 8 := by kernel_rfl
theorem tze74 : tzero Tryz.prog 74 = some (.nilFunc) := by kernel_rfl
theorem tsz76 : tsz Tryz.prog 76 = 1 := by kernel_rfl
theorem tud76 : (Tryz.prog.underlying 76).isSome = true := by kernel_rfl
theorem tin76 : (Tryz.prog.info? 76).isSome = true := by kernel_rfl
theorem tag76 : tagg Tryz.prog 76 = false := by kernel_rfl
theorem tsl76 : selem Tryz.prog 76 = none := by kernel_rfl
theorem tby76 : tby Tryz.prog 76 = 8 := by kernel_rfl
theorem tze76 : tzero Tryz.prog 76 = some (.nilFunc) := by kernel_rfl
theorem tsz77 : tsz Tryz.prog 77 = 1 := by kernel_rfl
theorem tud77 : (Tryz.prog.underlying 77).isSome = true := by kernel_rfl
theorem tin77 : (Tryz.prog.info? 77).isSome = true := by kernel_rfl
theorem tag77 : tagg Tryz.prog 77 = false := by kernel_rfl
theorem tsl77 : selem Tryz.prog 77 = none := by kernel_rfl
theorem tby77 : tby Tryz.prog 77 = 8 := by kernel_rfl
theorem tze77 : tzero Tryz.prog 77 = some (.nilFunc) := by kernel_rfl
theorem tsz79 : tsz Tryz.prog 79 = 1 := by kernel_rfl
theorem tud79 : (Tryz.prog.underlying 79).isSome = true := by kernel_rfl
theorem tin79 : (Tryz.prog.info? 79).isSome = true := by kernel_rfl
theorem tag79 : tagg Tryz.prog 79 = false := by kernel_rfl
theorem tsl79 : selem Tryz.prog 79 = none := by kernel_rfl
theorem tby79 : tby Tryz.prog 79 = 8 := by kernel_rfl
theorem tze79 : tzero Tryz.prog 79 = some (.nilFunc) := by kernel_rfl
theorem tsz80 : tsz Tryz.prog 80 = 1 := by kernel_rfl
theorem tud80 : (Tryz.prog.underlying 80).isSome = true := by kernel_rfl
theorem tin80 : (Tryz.prog.info? 80).isSome = true := by kernel_rfl
theorem tag80 : tagg Tryz.prog 80 = false := by kernel_rfl
theorem tsl80 : selem Tryz.prog 80 = none := by kernel_rfl
theorem tby80 : tby Tryz.prog 80 = 8 := by kernel_rfl
theorem tze80 : tzero Tryz.prog 80 = some (.nilFunc) := by kernel_rfl
theorem tsz81 : tsz Tryz.prog 81 = 1 := by kernel_rfl
theorem tud81 : (Tryz.prog.underlying 81).isSome = true := by kernel_rfl
theorem tin81 : (Tryz.prog.info? 81).isSome = true := by kernel_rfl
theorem tag81 : tagg Tryz.prog 81 = false := by kernel_rfl
theorem tsl81 : selem Tryz.prog 81 = none := by kernel_rfl
theorem tby81 : tby Tryz.prog 81 = 8 := by kernel_rfl
theorem tze81 : tzero Tryz.prog 81 = some (.nilFunc) := by kernel_rfl
theorem tsz82 : tsz Tryz.prog 82 = 1 := by kernel_rfl
theorem tud82 : (Tryz.prog.underlying 82).isSome = true := by kernel_rfl
theorem tin82 : (Tryz.prog.info? 82).isSome = true := by kernel_rfl
theorem tag82 : tagg Tryz.prog 82 = false := by kernel_rfl
theorem tsl82 : selem Tryz.prog 82 = none := by kernel_rfl
theorem tby82 : tby Tryz.prog 82 = 8 := by kernel_rfl
theorem tze82 : tzero Tryz.prog 82 = some (.nilFunc) := by kernel_rfl
theorem tsz83 : tsz Tryz.prog 83 = 1 := by kernel_rfl
theorem tud83 : (Tryz.prog.underlying 83).isSome = true := by kernel_rfl
theorem tin83 : (Tryz.prog.info? 83).isSome = true := by kernel_rfl
theorem tag83 : tagg Tryz.prog 83 = false := by kernel_rfl
theorem tsl83 : selem Tryz.prog 83 = none := by kernel_rfl
theorem tby83 : tby Tryz.prog 83 = 8 := by kernel_rfl
theorem tze83 : tzero Tryz.prog 83 = some (.nilFunc) := by kernel_rfl
theorem tsz84 : tsz Tryz.prog 84 = 1 := by kernel_rfl
theorem tud84 : (Tryz.prog.underlying 84).isSome = true := by kernel_rfl
theorem tin84 : (Tryz.prog.info? 84).isSome = true := by kernel_rfl
theorem tag84 : tagg Tryz.prog 84 = false := by kernel_rfl
theorem tsl84 : selem Tryz.prog 84 = none := by kernel_rfl
theorem tby84 : tby Tryz.prog 84 = 8 := by kernel_rfl
theorem tze84 : tzero Tryz.prog 84 = some (.nilFunc) := by kernel_rfl
theorem tsz85 : tsz Tryz.prog 85 = 1 := by kernel_rfl
theorem tud85 : (Tryz.prog.underlying 85).isSome = true := by kernel_rfl
theorem tin85 : (Tryz.prog.info? 85).isSome = true := by kernel_rfl
theorem tag85 : tagg Tryz.prog 85 = false := by kernel_rfl
theorem tsl85 : selem Tryz.prog 85 = none := by kernel_rfl
theorem tby85 : tby Tryz.prog 85 = 8 := by kernel_rfl
theorem tze85 : tzero Tryz.prog 85 = some (.nilFunc) := by kernel_rfl
theorem tsz86 : tsz Tryz.prog 86 = 1 := by kernel_rfl
theorem tud86 : (Tryz.prog.underlying 86).isSome = true := by kernel_rfl
theorem tin86 : (Tryz.prog.info? 86).isSome = true := by kernel_rfl
theorem tag86 : tagg Tryz.prog 86 = false := by kernel_rfl
theorem tsl86 : selem Tryz.prog 86 = none := by kernel_rfl
theorem tby86 : tby Tryz.prog 86 = 8 := by kernel_rfl
theorem tze86 : tzero Tryz.prog 86 = some (.nilFunc) := by kernel_rfl
theorem tsz87 : tsz Tryz.prog 87 = 1 := by kernel_rfl
theorem tud87 : (Tryz.prog.underlying 87).isSome = true := by kernel_rfl
theorem tin87 : (Tryz.prog.info? 87).isSome = true := by kernel_rfl
theorem tag87 : tagg Tryz.prog 87 = false := by kernel_rfl
theorem tsl87 : selem Tryz.prog 87 = none := by kernel_rfl
theorem tby87 : tby Tryz.prog 87 = 8 := by kernel_rfl
theorem tze87 : tzero Tryz.prog 87 = some (.nilFunc) := by kernel_rfl
theorem tsz88 : tsz Tryz.prog 88 = 1 := by kernel_rfl
theorem tud88 : (Tryz.prog.underlying 88).isSome = true := by kernel_rfl
theorem tin88 : (Tryz.prog.info? 88).isSome = true := by kernel_rfl
theorem tag88 : tagg Tryz.prog 88 = false := by kernel_rfl
theorem tsl88 : selem Tryz.prog 88 = none := by kernel_rfl
theorem tby88 : tby Tryz.prog 88 = 8 := by kernel_rfl
theorem tze88 : tzero Tryz.prog 88 = some (.nilFunc) := by kernel_rfl
theorem tsz89 : tsz Tryz.prog 89 = 1 := by kernel_rfl
theorem tud89 : (Tryz.prog.underlying 89).isSome = true := by kernel_rfl
theorem tin89 : (Tryz.prog.info? 89).isSome = true := by kernel_rfl
theorem tag89 : tagg Tryz.prog 89 = false := by kernel_rfl
theorem tsl89 : selem Tryz.prog 89 = none := by kernel_rfl
theorem tby89 : tby Tryz.prog 89 = 8 := by kernel_rfl
theorem tze89 : tzero Tryz.prog 89 = some (.nilFunc) := by kernel_rfl
theorem tsz90 : tsz Tryz.prog 90 = 1 := by kernel_rfl
theorem tud90 : (Tryz.prog.underlying 90).isSome = true := by kernel_rfl
theorem tin90 : (Tryz.prog.info? 90).isSome = true := by kernel_rfl
theorem tag90 : tagg Tryz.prog 90 = false := by kernel_rfl
theorem tsl90 : selem Tryz.prog 90 = none := by kernel_rfl
theorem tby90 : tby Tryz.prog 90 = 8 := by kernel_rfl
theorem tze90 : tzero Tryz.prog 90 = some (.nilFunc) := by kernel_rfl
theorem tsz91 : tsz Tryz.prog 91 = 1 := by kernel_rfl
theorem tud91 : (Tryz.prog.underlying 91).isSome = true := by kernel_rfl
theorem tin91 : (Tryz.prog.info? 91).isSome = true := by kernel_rfl
theorem tag91 : tagg Tryz.prog 91 = false := by kernel_rfl
theorem tsl91 : selem Tryz.prog 91 = none := by kernel_rfl
theorem tby91 : tby Tryz.prog 91 = 8 := by kernel_rfl
theorem tze91 : tzero Tryz.prog 91 = some (.nilFunc) := by kernel_rfl
theorem tsz92 : tsz Tryz.prog 92 = 1 := by kernel_rfl
theorem tud92 : (Tryz.prog.underlying 92).isSome = true := by kernel_rfl
theorem tin92 : (Tryz.prog.info? 92).isSome = true := by kernel_rfl
theorem tag92 : tagg Tryz.prog 92 = false := by kernel_rfl
theorem tsl92 : selem Tryz.prog 92 = none := by kernel_rfl
theorem tby92 : tby Tryz.prog 92 = 8 := by kernel_rfl
theorem tze92 : tzero Tryz.prog 92 = some (.nilFunc) := by kernel_rfl
theorem tsz93 : tsz Tryz.prog 93 = 1 := by kernel_rfl
theorem tud93 : (Tryz.prog.underlying 93).isSome = true := by kernel_rfl
theorem tin93 : (Tryz.prog.info? 93).isSome = true := by kernel_rfl
theorem tag93 : tagg Tryz.prog 93 = false := by kernel_rfl
theorem tsl93 : selem Tryz.prog 93 = none := by kernel_rfl
theorem tby93 : tby Tryz.prog 93 = 8 := by kernel_rfl
theorem tze93 : tzero Tryz.prog 93 = some (.nilFunc) := by kernel_rfl
theorem tsz95 : tsz Tryz.prog 95 = 1 := by kernel_rfl
theorem tud95 : (Tryz.prog.underlying 95).isSome = true := by kernel_rfl
theorem tin95 : (Tryz.prog.info? 95).isSome = true := by kernel_rfl
theorem tag95 : tagg Tryz.prog 95 = false := by kernel_rfl
theorem tsl95 : selem Tryz.prog 95 = none := by kernel_rfl
theorem tby95 : tby Tryz.prog 95 = 8 := by kernel_rfl
theorem tze95 : tzero Tryz.prog 95 = some (.nilFunc) := by kernel_rfl
theorem tsz96 : tsz Tryz.prog 96 = 1 := by kernel_rfl
theorem tud96 : (Tryz.prog.underlying 96).isSome = true := by kernel_rfl
theorem tin96 : (Tryz.prog.info? 96).isSome = true := by kernel_rfl
theorem tag96 : tagg Tryz.prog 96 = false := by kernel_rfl
theorem tsl96 : selem Tryz.prog 96 = none := by kernel_rfl
theorem tby96 : tby Tryz.prog 96 = 8 := by kernel_rfl
theorem tze96 : tzero Tryz.prog 96 = some (.nilFunc) := by kernel_rfl
theorem tsz97 : tsz Tryz.prog 97 = 1 := by kernel_rfl
theorem tud97 : (Tryz.prog.underlying 97).isSome = true := by kernel_rfl
theorem tin97 : (Tryz.prog.info? 97).isSome = true := by kernel_rfl
theorem tag97 : tagg Tryz.prog 97 = false := by kernel_rfl
theorem tsl97 : selem Tryz.prog 97 = none := by kernel_rfl
theorem tby97 : tby Tryz.prog 97 = 8 := by kernel_rfl
theorem tze97 : tzero Tryz.prog 97 = some (.nilFunc) := by kernel_rfl
theorem tsz98 : tsz Tryz.prog 98 = 1 := by kernel_rfl
theorem tud98 : (Tryz.prog.underlying 98).isSome = true := by kernel_rfl
theorem tin98 : (Tryz.prog.info? 98).isSome = true := by kernel_rfl
theorem tag98 : tagg Tryz.prog 98 = false := by kernel_rfl
theorem tsl98 : selem Tryz.prog 98 = none := by kernel_rfl
theorem tby98 : tby Tryz.prog 98 = 8 := by kernel_rfl
theorem tze98 : tzero Tryz.prog 98 = some (.nilFunc) := by kernel_rfl
theorem tsz99 : tsz Tryz.prog 99 = 1 := by kernel_rfl
theorem tud99 : (Tryz.prog.underlying 99).isSome = true := by kernel_rfl
theorem tin99 : (Tryz.prog.info? 99).isSome = true := by kernel_rfl
theorem tag99 : tagg Tryz.prog 99 = false := by kernel_rfl
theorem tsl99 : selem Tryz.prog 99 = none := by kernel_rfl
theorem tby99 : tby Tryz.prog 99 = 8 := by kernel_rfl
theorem tze99 : tzero Tryz.prog 99 = some (.nilFunc) := by kernel_rfl
theorem tsz100 : tsz Tryz.prog 100 = 1 := by kernel_rfl
theorem tud100 : (Tryz.prog.underlying 100).isSome = true := by kernel_rfl
theorem tin100 : (Tryz.prog.info? 100).isSome = true := by kernel_rfl
theorem tag100 : tagg Tryz.prog 100 = false := by kernel_rfl
theorem tsl100 : selem Tryz.prog 100 = none := by kernel_rfl
theorem tby100 : tby Tryz.prog 100 = 8 := by kernel_rfl
theorem tze100 : tzero Tryz.prog 100 = some (.nilFunc) := by kernel_rfl
theorem tsz101 : tsz Tryz.prog 101 = 1 := by kernel_rfl
theorem tud101 : (Tryz.prog.underlying 101).isSome = true := by kernel_rfl
theorem tin101 : (Tryz.prog.info? 101).isSome = true := by kernel_rfl
theorem tag101 : tagg Tryz.prog 101 = false := by kernel_rfl
theorem tsl101 : selem Tryz.prog 101 = none := by kernel_rfl
theorem tby101 : tby Tryz.prog 101 = 8 := by kernel_rfl
theorem tze101 : tzero Tryz.prog 101 = some (.nilFunc) := by kernel_rfl
theorem tsz104 : tsz Tryz.prog 104 = 1 := by kernel_rfl
theorem tud104 : (Tryz.prog.underlying 104).isSome = true := by kernel_rfl
theorem tin104 : (Tryz.prog.info? 104).isSome = true := by kernel_rfl
theorem tag104 : tagg Tryz.prog 104 = false := by kernel_rfl
theorem tsl104 : selem Tryz.prog 104 = none := by kernel_rfl
theorem tby104 : tby Tryz.prog 104 = 8 := by kernel_rfl
theorem tze104 : tzero Tryz.prog 104 = some (.nilFunc) := by kernel_rfl
theorem tsz105 : tsz Tryz.prog 105 = 1 := by kernel_rfl
theorem tud105 : (Tryz.prog.underlying 105).isSome = true := by kernel_rfl
theorem tin105 : (Tryz.prog.info? 105).isSome = true := by kernel_rfl
theorem tag105 : tagg Tryz.prog 105 = false := by kernel_rfl
theorem tsl105 : selem Tryz.prog 105 = none := by kernel_rfl
theorem tby105 : tby Tryz.prog 105 = 8 := by kernel_rfl
theorem tze105 : tzero Tryz.prog 105 = some (.nilFunc) := by kernel_rfl
theorem tsz106 : tsz Tryz.prog 106 = 1 := by kernel_rfl
theorem tud106 : (Tryz.prog.underlying 106).isSome = true := by kernel_rfl
theorem tin106 : (Tryz.prog.info? 106).isSome = true := by kernel_rfl
theorem tag106 : tagg Tryz.prog 106 = false := by kernel_rfl
theorem tsl106 : selem Tryz.prog 106 = none := by kernel_rfl
theorem tby106 : tby Tryz.prog 106 = 8 := by kernel_rfl
theorem tze106 : tzero Tryz.prog 106 = some (.nilFunc) := by kernel_rfl
theorem tsz107 : tsz Tryz.prog 107 = 1 := by kernel_rfl
theorem tud107 : (Tryz.prog.underlying 107).isSome = true := by kernel_rfl
theorem tin107 : (Tryz.prog.info? 107).isSome = true := by kernel_rfl
theorem tag107 : tagg Tryz.prog 107 = false := by kernel_rfl
theorem tsl107 : selem Tryz.prog 107 = none := by kernel_rfl
theorem tby107 : tby Tryz.prog 107 = 8 := by kernel_rfl
theorem tze107 : tzero Tryz.prog 107 = some (.nilFunc) := by kernel_rfl
theorem tsz108 : tsz Tryz.prog 108 = 1 := by kernel_rfl
theorem tud108 : (Tryz.prog.underlying 108).isSome = true := by kernel_rfl
theorem tin108 : (Tryz.prog.info? 108).isSome = true := by kernel_rfl
theorem tag108 : tagg Tryz.prog 108 = false := by kernel_rfl
theorem tsl108 : selem Tryz.prog 108 = none := by kernel_rfl
theorem tby108 : tby Tryz.prog 108 = 8 := by kernel_rfl
theorem tze108 : tzero Tryz.prog 108 = some (.nilFunc) := by kernel_rfl
theorem tsz110 : tsz Tryz.prog 110 = 1 := by kernel_rfl
theorem tud110 : (Tryz.prog.underlying 110).isSome = true := by kernel_rfl
theorem tin110 : (Tryz.prog.info? 110).isSome = true := by kernel_rfl
theorem tag110 : tagg Tryz.prog 110 = false := by kernel_rfl
theorem tsl110 : selem Tryz.prog 110 = none := by kernel_rfl
theorem tby110 : tby Tryz.prog 110 = 8 := by kernel_rfl
theorem tze110 : tzero Tryz.prog 110 = some (.nilFunc) := by kernel_rfl
theorem tsz111 : tsz Tryz.prog 111 = 1 := by kernel_rfl
theorem tud111 : (Tryz.prog.underlying 111).isSome = true := by kernel_rfl
theorem tin111 : (Tryz.prog.info? 111).isSome = true := by kernel_rfl
theorem tag111 : tagg Tryz.prog 111 = false := by kernel_rfl
theorem tsl111 : selem Tryz.prog 111 = none := by kernel_rfl
theorem tby111 : tby Tryz.prog 111 = 8 := by kernel_rfl
theorem tze111 : tzero Tryz.prog 111 = some (.nilFunc) := by kernel_rfl
theorem tsz112 : tsz Tryz.prog 112 = 1 := by kernel_rfl
theorem tud112 : (Tryz.prog.underlying 112).isSome = true := by kernel_rfl
theorem tin112 : (Tryz.prog.info? 112).isSome = true := by kernel_rfl
theorem tag112 : tagg Tryz.prog 112 = false := by kernel_rfl
theorem tsl112 : selem Tryz.prog 112 = none := by kernel_rfl
theorem tby112 : tby Tryz.prog 112 = 8 := by kernel_rfl
theorem tze112 : tzero Tryz.prog 112 = some (.nilFunc) := by kernel_rfl
theorem tsz113 : tsz Tryz.prog 113 = 1 := by kernel_rfl
theorem tud113 : (Tryz.prog.underlying 113).isSome = true := by kernel_rfl
theorem tin113 : (Tryz.prog.info? 113).isSome = true := by kernel_rfl
theorem tag113 : tagg Tryz.prog 113 = false := by kernel_rfl
theorem tsl113 : selem Tryz.prog 113 = none := by kernel_rfl
theorem tby113 : tby Tryz.prog 113 = 8 := by kernel_rfl
theorem tze113 : tzero Tryz.prog 113 = some (.nilFunc) := by kernel_rfl
theorem tsz114 : tsz Tryz.prog 114 = 1 := by kernel_rfl
theorem tud114 : (Tryz.prog.underlying 114).isSome = true := by kernel_rfl
theorem tin114 : (Tryz.prog.info? 114).isSome = true := by kernel_rfl
theorem tag114 : tagg Tryz.prog 114 = false := by kernel_rfl
theorem tsl114 : selem Tryz.prog 114 = none := by kernel_rfl
theorem tby114 : tby Tryz.prog 114 = 8 := by kernel_rfl
theorem tze114 : tzero Tryz.prog 114 = some (.nilFunc) := by kernel_rfl
theorem tsz115 : tsz Tryz.prog 115 = 1 := by kernel_rfl
theorem tud115 : (Tryz.prog.underlying 115).isSome = true := by kernel_rfl
theorem tin115 : (Tryz.prog.info? 115).isSome = true := by kernel_rfl
theorem tag115 : tagg Tryz.prog 115 = false := by kernel_rfl
theorem tsl115 : selem Tryz.prog 115 = none := by kernel_rfl
theorem tby115 : tby Tryz.prog 115 = 8 := by kernel_rfl
theorem tze115 : tzero Tryz.prog 115 = some (.nilFunc) := by kernel_rfl
theorem tsz116 : tsz Tryz.prog 116 = 1 := by kernel_rfl
theorem tud116 : (Tryz.prog.underlying 116).isSome = true := by kernel_rfl
theorem tin116 : (Tryz.prog.info? 116).isSome = true := by kernel_rfl
theorem tag116 : tagg Tryz.prog 116 = false := by kernel_rfl
theorem tsl116 : selem Tryz.prog 116 = none := by kernel_rfl
theorem tby116 : tby Tryz.prog 116 = 8 := by kernel_rfl
theorem tze116 : tzero Tryz.prog 116 = some (.nilFunc) := by kernel_rfl
theorem tsz117 : tsz Tryz.prog 117 = 1 := by kernel_rfl
theorem tud117 : (Tryz.prog.underlying 117).isSome = true := by kernel_rfl
theorem tin117 : (Tryz.prog.info? 117).isSome = true := by kernel_rfl
theorem tag117 : tagg Tryz.prog 117 = false := by kernel_rfl
theorem tsl117 : selem Tryz.prog 117 = none := by kernel_rfl
theorem tby117 : tby Tryz.prog 117 = 8 := by kernel_rfl
theorem tze117 : tzero Tryz.prog 117 = some (.nilFunc) := by kernel_rfl
theorem tsz119 : tsz Tryz.prog 119 = 1 := by kernel_rfl
theorem tud119 : (Tryz.prog.underlying 119).isSome = true := by kernel_rfl
theorem tin119 : (Tryz.prog.info? 119).isSome = true := by kernel_rfl
theorem tag119 : tagg Tryz.prog 119 = false := by kernel_rfl
theorem tsl119 : selem Tryz.prog 119 = none := by kernel_rfl
theorem tby119 : tby Tryz.prog 119 = 8 := by kernel_rfl
theorem tze119 : tzero Tryz.prog 119 = some (.nilFunc) := by kernel_rfl
theorem tsz120 : tsz Tryz.prog 120 = 1 := by kernel_rfl
theorem tud120 : (Tryz.prog.underlying 120).isSome = true := by kernel_rfl
theorem tin120 : (Tryz.prog.info? 120).isSome = true := by kernel_rfl
theorem tag120 : tagg Tryz.prog 120 = false := by kernel_rfl
theorem tsl120 : selem Tryz.prog 120 = none := by kernel_rfl
theorem tby120 : tby Tryz.prog 120 = 8 := by kernel_rfl
theorem tze120 : tzero Tryz.prog 120 = some (.nilFunc) := by kernel_rfl
theorem tsz121 : tsz Tryz.prog 121 = 1 := by kernel_rfl
theorem tud121 : (Tryz.prog.underlying 121).isSome = true := by kernel_rfl
theorem tin121 : (Tryz.prog.info? 121).isSome = true := by kernel_rfl
theorem tag121 : tagg Tryz.prog 121 = false := by kernel_rfl
theorem tsl121 : selem Tryz.prog 121 = none := by kernel_rfl
theorem tby121 : tby Tryz.prog 121 = 8 := by kernel_rfl
theorem tze121 : tzero Tryz.prog 121 = some (.nilFunc) := by kernel_rfl
theorem tsz123 : tsz Tryz.prog 123 = 1 := by kernel_rfl
theorem tud123 : (Tryz.prog.underlying 123).isSome = true := by kernel_rfl
theorem tin123 : (Tryz.prog.info? 123).isSome = true := by kernel_rfl
theorem tag123 : tagg Tryz.prog 123 = false := by kernel_rfl
theorem tsl123 : selem Tryz.prog 123 = none := by kernel_rfl
theorem tby123 : tby Tryz.prog 123 = 8 := by kernel_rfl
theorem tze123 : tzero Tryz.prog 123 = some (.nilFunc) := by kernel_rfl
theorem tsz124 : tsz Tryz.prog 124 = 1 := by kernel_rfl
theorem tud124 : (Tryz.prog.underlying 124).isSome = true := by kernel_rfl
theorem tin124 : (Tryz.prog.info? 124).isSome = true := by kernel_rfl
theorem tag124 : tagg Tryz.prog 124 = false := by kernel_rfl
theorem tsl124 : selem Tryz.prog 124 = none := by kernel_rfl
theorem tby124 : tby Tryz.prog 124 = 8 := by kernel_rfl
theorem tze124 : tzero Tryz.prog 124 = some (.nilFunc) := by kernel_rfl
theorem tsz125 : tsz Tryz.prog 125 = 1 := by kernel_rfl
theorem tud125 : (Tryz.prog.underlying 125).isSome = true := by kernel_rfl
theorem tin125 : (Tryz.prog.info? 125).isSome = true := by kernel_rfl
theorem tag125 : tagg Tryz.prog 125 = false := by kernel_rfl
theorem tsl125 : selem Tryz.prog 125 = none := by kernel_rfl
theorem tby125 : tby Tryz.prog 125 = 8 := by kernel_rfl
theorem tze125 : tzero Tryz.prog 125 = some (.nilFunc) := by kernel_rfl
theorem tsz126 : tsz Tryz.prog 126 = 1 := by kernel_rfl
theorem tud126 : (Tryz.prog.underlying 126).isSome = true := by kernel_rfl
theorem tin126 : (Tryz.prog.info? 126).isSome = true := by kernel_rfl
theorem tag126 : tagg Tryz.prog 126 = false := by kernel_rfl
theorem tsl126 : selem Tryz.prog 126 = none := by kernel_rfl
theorem tby126 : tby Tryz.prog 126 = 8 := by kernel_rfl
theorem tze126 : tzero Tryz.prog 126 = some (.nilFunc) := by kernel_rfl
theorem tsz127 : tsz Tryz.prog 127 = 1 := by kernel_rfl
theorem tud127 : (Tryz.prog.underlying 127).isSome = true := by kernel_rfl
theorem tin127 : (Tryz.prog.info? 127).isSome = true := by kernel_rfl
theorem tag127 : tagg Tryz.prog 127 = false := by kernel_rfl
theorem tsl127 : selem Tryz.prog 127 = none := by kernel_rfl
theorem tby127 : tby Tryz.prog 127 = 8 := by kernel_rfl
theorem tze127 : tzero Tryz.prog 127 = some (.nilFunc) := by kernel_rfl
theorem tsz130 : tsz Tryz.prog 130 = 1 := by kernel_rfl
theorem tud130 : (Tryz.prog.underlying 130).isSome = true := by kernel_rfl
theorem tin130 : (Tryz.prog.info? 130).isSome = true := by kernel_rfl
theorem tag130 : tagg Tryz.prog 130 = false := by kernel_rfl
theorem tsl130 : selem Tryz.prog 130 = none := by kernel_rfl
theorem tby130 : tby Tryz.prog 130 = 8 := by kernel_rfl
theorem tze130 : tzero Tryz.prog 130 = some (.nilFunc) := by kernel_rfl
theorem tsz131 : tsz Tryz.prog 131 = 1 := by kernel_rfl
theorem tud131 : (Tryz.prog.underlying 131).isSome = true := by kernel_rfl
theorem tin131 : (Tryz.prog.info? 131).isSome = true := by kernel_rfl
theorem tag131 : tagg Tryz.prog 131 = false := by kernel_rfl
theorem tsl131 : selem Tryz.prog 131 = none := by kernel_rfl
theorem tby131 : tby Tryz.prog 131 = 8 := by kernel_rfl
theorem tze131 : tzero Tryz.prog 131 = some (.nilFunc) := by kernel_rfl
theorem tsz137 : tsz Tryz.prog 137 = 1 := by kernel_rfl
theorem tud137 : (Tryz.prog.underlying 137).isSome = true := by kernel_rfl
theorem tin137 : (Tryz.prog.info? 137).isSome = true := by kernel_rfl
theorem tag137 : tagg Tryz.prog 137 = false := by kernel_rfl
theorem tsl137 : selem Tryz.prog 137 = none := by kernel_rfl
theorem tby137 : tby Tryz.prog 137 = 8 := by kernel_rfl
theorem tze137 : tzero Tryz.prog 137 = some (.nilFunc) := by kernel_rfl
theorem tsz140 : tsz Tryz.prog 140 = 1 := by kernel_rfl
theorem tud140 : (Tryz.prog.underlying 140).isSome = true := by kernel_rfl
theorem tin140 : (Tryz.prog.info? 140).isSome = true := by kernel_rfl
theorem tag140 : tagg Tryz.prog 140 = false := by kernel_rfl
theorem tsl140 : selem Tryz.prog 140 = none := by kernel_rfl
theorem tby140 : tby Tryz.prog 140 = 8 := by kernel_rfl
theorem tze140 : tzero Tryz.prog 140 = some (.nilFunc) := by kernel_rfl
attribute [go_sem] tsz1 tud1 tin1 tag1 tsl1 tby1 tze1 tsz23 tud23 tin23 tag23 tsl23 tby23 tze23 tsz24 tud24 tin24 tag24 tsl24 tby24 tze24 tsz25 tud25 tin25 tag25 tsl25 tby25 tze25 tsz26 tud26 tin26 tag26 tsl26 tby26 tze26 tsz27 tud27 tin27 tag27 tsl27 tby27 tze27 tsz33 tud33 tin33 tag33 tsl33 tby33 tze33 tsz34 tud34 tin34 tag34 tsl34 tby34 tze34 tsz36 tud36 tin36 tag36 tsl36 tby36 tze36 tsz43 tud43 tin43 tag43 tsl43 tby43 tze43 tsz44 tud44 tin44 tag44 tsl44 tby44 tze44 tsz45 tud45 tin45 tag45 tsl45 tby45 tze45 tsz46 tud46 tin46 tag46 tsl46 tby46 tze46 tsz47 tud47 tin47 tag47 tsl47 tby47 tze47 tsz48 tud48 tin48 tag48 tsl48 tby48 tze48 tsz50 tud50 tin50 tag50 tsl50 tby50 tze50 tsz51 tud51 tin51 tag51 tsl51 tby51 tze51 tsz54 tud54 tin54 tag54 tsl54 tby54 tze54 tsz55 tud55 tin55 tag55 tsl55 tby55 tze55 tsz56 tud56 tin56 tag56 tsl56 tby56 tze56 tsz57 tud57 tin57 tag57 tsl57 tby57 tze57 tsz59 tud59 tin59 tag59 tsl59 tby59 tze59 tsz60 tud60 tin60 tag60 tsl60 tby60 tze60 tsz63 tud63 tin63 tag63 tsl63 tby63 tze63 tsz65 tud65 tin65 tag65 tsl65 tby65 tze65 tsz66 tud66 tin66 tag66 tsl66 tby66 tze66 tsz69 tud69 tin69 tag69 tsl69 tby69 tze69 tsz70 tud70 tin70 tag70 tsl70 tby70 tze70 tsz71 tud71 tin71 tag71 tsl71 tby71 tze71 tsz72 tud72 tin72 tag72 tsl72 tby72 tze72 tsz73 tud73 tin73 tag73 tsl73 tby73 tze73 tsz74 tud74 tin74 tag74 tsl74 tby74 tze74 tsz76 tud76 tin76 tag76 tsl76 tby76 tze76 tsz77 tud77 tin77 tag77 tsl77 tby77 tze77 tsz79 tud79 tin79 tag79 tsl79 tby79 tze79 tsz80 tud80 tin80 tag80 tsl80 tby80 tze80 tsz81 tud81 tin81 tag81 tsl81 tby81 tze81 tsz82 tud82 tin82 tag82 tsl82 tby82 tze82 tsz83 tud83 tin83 tag83 tsl83 tby83 tze83 tsz84 tud84 tin84 tag84 tsl84 tby84 tze84 tsz85 tud85 tin85 tag85 tsl85 tby85 tze85 tsz86 tud86 tin86 tag86 tsl86 tby86 tze86 tsz87 tud87 tin87 tag87 tsl87 tby87 tze87 tsz88 tud88 tin88 tag88 tsl88 tby88 tze88 tsz89 tud89 tin89 tag89 tsl89 tby89 tze89 tsz90 tud90 tin90 tag90 tsl90 tby90 tze90 tsz91 tud91 tin91 tag91 tsl91 tby91 tze91 tsz92 tud92 tin92 tag92 tsl92 tby92 tze92 tsz93 tud93 tin93 tag93 tsl93 tby93 tze93 tsz95 tud95 tin95 tag95 tsl95 tby95 tze95 tsz96 tud96 tin96 tag96 tsl96 tby96 tze96 tsz97 tud97 tin97 tag97 tsl97 tby97 tze97 tsz98 tud98 tin98 tag98 tsl98 tby98 tze98 tsz99 tud99 tin99 tag99 tsl99 tby99 tze99 tsz100 tud100 tin100 tag100 tsl100 tby100 tze100 tsz101 tud101 tin101 tag101 tsl101 tby101 tze101 tsz104 tud104 tin104 tag104 tsl104 tby104 tze104 tsz105 tud105 tin105 tag105 tsl105 tby105 tze105 tsz106 tud106 tin106 tag106 tsl106 tby106 tze106 tsz107 tud107 tin107 tag107 tsl107 tby107 tze107 tsz108 tud108 tin108 tag108 tsl108 tby108 tze108 tsz110 tud110 tin110 tag110 tsl110 tby110 tze110 tsz111 tud111 tin111 tag111 tsl111 tby111 tze111 tsz112 tud112 tin112 tag112 tsl112 tby112 tze112 tsz113 tud113 tin113 tag113 tsl113 tby113 tze113 tsz114 tud114 tin114 tag114 tsl114 tby114 tze114 tsz115 tud115 tin115 tag115 tsl115 tby115 tze115 tsz116 tud116 tin116 tag116 tsl116 tby116 tze116 tsz117 tud117 tin117 tag117 tsl117 tby117 tze117 tsz119 tud119 tin119 tag119 tsl119 tby119 tze119 tsz120 tud120 tin120 tag120 tsl120 tby120 tze120 tsz121 tud121 tin121 tag121 tsl121 tby121 tze121 tsz123 tud123 tin123 tag123 tsl123 tby123 tze123 tsz124 tud124 tin124 tag124 tsl124 tby124 tze124 tsz125 tud125 tin125 tag125 tsl125 tby125 tze125 tsz126 tud126 tin126 tag126 tsl126 tby126 tze126 tsz127 tud127 tin127 tag127 tsl127 tby127 tze127 tsz130 tud130 tin130 tag130 tsl130 tby130 tze130 tsz131 tud131 tin131 tag131 tsl131 tby131 tze131 tsz137 tud137 tin137 tag137 tsl137 tby137 tze137 tsz140 tud140 tin140 tag140 tsl140 tby140 tze140
end Go.Proofs.YtnkcenafpigmbaaGreat.Ab
