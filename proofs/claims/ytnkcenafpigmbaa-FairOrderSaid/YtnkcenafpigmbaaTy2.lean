/- What the abstract layer asks of the types. -/
import Derived.Test.YtnkcenafpigmbaaProg
import Derived.Test.YtnkcenafpigmbaaAb3
import Derived.ProofKit
namespace Go.Proofs.Ytnkcenafpigmbaa.Ab
theorem tsz1 : tsz Try.prog 1 = 1 := by kernel_rfl
theorem tud1 : (Try.prog.underlying 1).isSome = true := by kernel_rfl
theorem tin1 : (Try.prog.info? 1).isSome = true := by kernel_rfl
theorem tag1 : tagg Try.prog 1 = false := by kernel_rfl
theorem tsl1 : selem Try.prog 1 = none := by kernel_rfl
theorem tby1 : tby Try.prog 1 = 8 := by kernel_rfl
theorem tze1 : tzero Try.prog 1 = some (.nilFunc) := by kernel_rfl
theorem tsz23 : tsz Try.prog 23 = 1 := by kernel_rfl
theorem tud23 : (Try.prog.underlying 23).isSome = true := by kernel_rfl
theorem tin23 : (Try.prog.info? 23).isSome = true := by kernel_rfl
theorem tag23 : tagg Try.prog 23 = false := by kernel_rfl
theorem tsl23 : selem Try.prog 23 = none := by kernel_rfl
theorem tby23 : tby Try.prog 23 = 8 := by kernel_rfl
theorem tze23 : tzero Try.prog 23 = some (.nilFunc) := by kernel_rfl
theorem tsz24 : tsz Try.prog 24 = 1 := by kernel_rfl
theorem tud24 : (Try.prog.underlying 24).isSome = true := by kernel_rfl
theorem tin24 : (Try.prog.info? 24).isSome = true := by kernel_rfl
theorem tag24 : tagg Try.prog 24 = false := by kernel_rfl
theorem tsl24 : selem Try.prog 24 = none := by kernel_rfl
theorem tby24 : tby Try.prog 24 = 8 := by kernel_rfl
theorem tze24 : tzero Try.prog 24 = some (.nilFunc) := by kernel_rfl
theorem tsz31 : tsz Try.prog 31 = 1 := by kernel_rfl
theorem tud31 : (Try.prog.underlying 31).isSome = true := by kernel_rfl
theorem tin31 : (Try.prog.info? 31).isSome = true := by kernel_rfl
theorem tag31 : tagg Try.prog 31 = false := by kernel_rfl
theorem tsl31 : selem Try.prog 31 = none := by kernel_rfl
theorem tby31 : tby Try.prog 31 = 8 := by kernel_rfl
theorem tze31 : tzero Try.prog 31 = some (.nilFunc) := by kernel_rfl
theorem tsz32 : tsz Try.prog 32 = 1 := by kernel_rfl
theorem tud32 : (Try.prog.underlying 32).isSome = true := by kernel_rfl
theorem tin32 : (Try.prog.info? 32).isSome = true := by kernel_rfl
theorem tag32 : tagg Try.prog 32 = false := by kernel_rfl
theorem tsl32 : selem Try.prog 32 = none := by kernel_rfl
theorem tby32 : tby Try.prog 32 = 8 := by kernel_rfl
theorem tze32 : tzero Try.prog 32 = some (.nilFunc) := by kernel_rfl
theorem tsz33 : tsz Try.prog 33 = 1 := by kernel_rfl
theorem tud33 : (Try.prog.underlying 33).isSome = true := by kernel_rfl
theorem tin33 : (Try.prog.info? 33).isSome = true := by kernel_rfl
theorem tag33 : tagg Try.prog 33 = false := by kernel_rfl
theorem tsl33 : selem Try.prog 33 = none := by kernel_rfl
theorem tby33 : tby Try.prog 33 = 8 := by kernel_rfl
theorem tze33 : tzero Try.prog 33 = some (.nilFunc) := by kernel_rfl
theorem tsz35 : tsz Try.prog 35 = 1 := by kernel_rfl
theorem tud35 : (Try.prog.underlying 35).isSome = true := by kernel_rfl
theorem tin35 : (Try.prog.info? 35).isSome = true := by kernel_rfl
theorem tag35 : tagg Try.prog 35 = false := by kernel_rfl
theorem tsl35 : selem Try.prog 35 = none := by kernel_rfl
theorem tby35 : tby Try.prog 35 = 8 := by kernel_rfl
theorem tze35 : tzero Try.prog 35 = some (.nilFunc) := by kernel_rfl
theorem tsz41 : tsz Try.prog 41 = 1 := by kernel_rfl
theorem tud41 : (Try.prog.underlying 41).isSome = true := by kernel_rfl
theorem tin41 : (Try.prog.info? 41).isSome = true := by kernel_rfl
theorem tag41 : tagg Try.prog 41 = false := by kernel_rfl
theorem tsl41 : selem Try.prog 41 = none := by kernel_rfl
theorem tby41 : tby Try.prog 41 = 8 := by kernel_rfl
theorem tze41 : tzero Try.prog 41 = some (.nilFunc) := by kernel_rfl
theorem tsz43 : tsz Try.prog 43 = 1 := by kernel_rfl
theorem tud43 : (Try.prog.underlying 43).isSome = true := by kernel_rfl
theorem tin43 : (Try.prog.info? 43).isSome = true := by kernel_rfl
theorem tag43 : tagg Try.prog 43 = false := by kernel_rfl
theorem tsl43 : selem Try.prog 43 = none := by kernel_rfl
theorem tby43 : tby Try.prog 43 = 8 := by kernel_rfl
theorem tze43 : tzero Try.prog 43 = some (.nilFunc) := by kernel_rfl
theorem tsz44 : tsz Try.prog 44 = 1 := by kernel_rfl
theorem tud44 : (Try.prog.underlying 44).isSome = true := by kernel_rfl
theorem tin44 : (Try.prog.info? 44).isSome = true := by kernel_rfl
theorem tag44 : tagg Try.prog 44 = false := by kernel_rfl
theorem tsl44 : selem Try.prog 44 = none := by kernel_rfl
theorem tby44 : tby Try.prog 44 = 8 := by kernel_rfl
theorem tze44 : tzero Try.prog 44 = some (.nilFunc) := by kernel_rfl
theorem tsz45 : tsz Try.prog 45 = 1 := by kernel_rfl
theorem tud45 : (Try.prog.underlying 45).isSome = true := by kernel_rfl
theorem tin45 : (Try.prog.info? 45).isSome = true := by kernel_rfl
theorem tag45 : tagg Try.prog 45 = false := by kernel_rfl
theorem tsl45 : selem Try.prog 45 = none := by kernel_rfl
theorem tby45 : tby Try.prog 45 = 8 := by kernel_rfl
theorem tze45 : tzero Try.prog 45 = some (.nilFunc) := by kernel_rfl
theorem tsz46 : tsz Try.prog 46 = 1 := by kernel_rfl
theorem tud46 : (Try.prog.underlying 46).isSome = true := by kernel_rfl
theorem tin46 : (Try.prog.info? 46).isSome = true := by kernel_rfl
theorem tag46 : tagg Try.prog 46 = false := by kernel_rfl
theorem tsl46 : selem Try.prog 46 = none := by kernel_rfl
theorem tby46 : tby Try.prog 46 = 8 := by kernel_rfl
theorem tze46 : tzero Try.prog 46 = some (.nilFunc) := by kernel_rfl
theorem tsz47 : tsz Try.prog 47 = 1 := by kernel_rfl
theorem tud47 : (Try.prog.underlying 47).isSome = true := by kernel_rfl
theorem tin47 : (Try.prog.info? 47).isSome = true := by kernel_rfl
theorem tag47 : tagg Try.prog 47 = false := by kernel_rfl
theorem tsl47 : selem Try.prog 47 = none := by kernel_rfl
theorem tby47 : tby Try.prog 47 = 8 := by kernel_rfl
theorem tze47 : tzero Try.prog 47 = some (.nilFunc) := by kernel_rfl
theorem tsz48 : tsz Try.prog 48 = 1 := by kernel_rfl
theorem tud48 : (Try.prog.underlying 48).isSome = true := by kernel_rfl
theorem tin48 : (Try.prog.info? 48).isSome = true := by kernel_rfl
theorem tag48 : tagg Try.prog 48 = false := by kernel_rfl
theorem tsl48 : selem Try.prog 48 = none := by kernel_rfl
theorem tby48 : tby Try.prog 48 = 8 := by kernel_rfl
theorem tze48 : tzero Try.prog 48 = some (.nilFunc) := by kernel_rfl
theorem tsz51 : tsz Try.prog 51 = 1 := by kernel_rfl
theorem tud51 : (Try.prog.underlying 51).isSome = true := by kernel_rfl
theorem tin51 : (Try.prog.info? 51).isSome = true := by kernel_rfl
theorem tag51 : tagg Try.prog 51 = false := by kernel_rfl
theorem tsl51 : selem Try.prog 51 = none := by kernel_rfl
theorem tby51 : tby Try.prog 51 = 8 := by kernel_rfl
theorem tze51 : tzero Try.prog 51 = some (.nilFunc) := by kernel_rfl
theorem tsz52 : tsz Try.prog 52 = 1 := by kernel_rfl
theorem tud52 : (Try.prog.underlying 52).isSome = true := by kernel_rfl
theorem tin52 : (Try.prog.info? 52).isSome = true := by kernel_rfl
theorem tag52 : tagg Try.prog 52 = false := by kernel_rfl
theorem tsl52 : selem Try.prog 52 = none := by kernel_rfl
theorem tby52 : tby Try.prog 52 = 8 := by kernel_rfl
theorem tze52 : tzero Try.prog 52 = some (.nilFunc) := by kernel_rfl
theorem tsz53 : tsz Try.prog 53 = 1 := by kernel_rfl
theorem tud53 : (Try.prog.underlying 53).isSome = true := by kernel_rfl
theorem tin53 : (Try.prog.info? 53).isSome = true := by kernel_rfl
theorem tag53 : tagg Try.prog 53 = false := by kernel_rfl
theorem tsl53 : selem Try.prog 53 = none := by kernel_rfl
theorem tby53 : tby Try.prog 53 = 8 := by kernel_rfl
theorem tze53 : tzero Try.prog 53 = some (.nilFunc) := by kernel_rfl
theorem tsz54 : tsz Try.prog 54 = 1 := by kernel_rfl
theorem tud54 : (Try.prog.underlying 54).isSome = true := by kernel_rfl
theorem tin54 : (Try.prog.info? 54).isSome = true := by kernel_rfl
theorem tag54 : tagg Try.prog 54 = false := by kernel_rfl
theorem tsl54 : selem Try.prog 54 = none := by kernel_rfl
theorem tby54 : tby Try.prog 54 = 8 := by kernel_rfl
theorem tze54 : tzero Try.prog 54 = some (.nilFunc) := by kernel_rfl
theorem tsz59 : tsz Try.prog 59 = 1 := by kernel_rfl
theorem tud59 : (Try.prog.underlying 59).isSome = true := by kernel_rfl
theorem tin59 : (Try.prog.info? 59).isSome = true := by kernel_rfl
theorem tag59 : tagg Try.prog 59 = false := by kernel_rfl
theorem tsl59 : selem Try.prog 59 = none := by kernel_rfl
theorem tby59 : tby Try.prog 59 = 8 := by kernel_rfl
theorem tze59 : tzero Try.prog 59 = some (.nilFunc) := by kernel_rfl
theorem tsz60 : tsz Try.prog 60 = 1 := by kernel_rfl
theorem tud60 : (Try.prog.underlying 60).isSome = true := by kernel_rfl
theorem tin60 : (Try.prog.info? 60).isSome = true := by kernel_rfl
theorem tag60 : tagg Try.prog 60 = false := by kernel_rfl
theorem tsl60 : selem Try.prog 60 = none := by kernel_rfl
theorem tby60 : tby Try.prog 60 = 8 := by kernel_rfl
theorem tze60 : tzero Try.prog 60 = some (.nilFunc) := by kernel_rfl
theorem tsz62 : tsz Try.prog 62 = 1 := by kernel_rfl
theorem tud62 : (Try.prog.underlying 62).isSome = true := by kernel_rfl
theorem tin62 : (Try.prog.info? 62).isSome = true := by kernel_rfl
theorem tag62 : tagg Try.prog 62 = false := by kernel_rfl
theorem tsl62 : selem Try.prog 62 = none := by kernel_rfl
theorem tby62 : tby Try.prog 62 = 8 := by kernel_rfl
theorem tze62 : tzero Try.prog 62 = some (.nilFunc) := by kernel_rfl
theorem tsz65 : tsz Try.prog 65 = 1 := by kernel_rfl
theorem tud65 : (Try.prog.underlying 65).isSome = true := by kernel_rfl
theorem tin65 : (Try.prog.info? 65).isSome = true := by kernel_rfl
theorem tag65 : tagg Try.prog 65 = false := by kernel_rfl
theorem tsl65 : selem Try.prog 65 = none := by kernel_rfl
theorem tby65 : tby Try.prog 65 = 8 := by kernel_rfl
theorem tze65 : tzero Try.prog 65 = some (.nilFunc) := by kernel_rfl
theorem tsz66 : tsz Try.prog 66 = 1 := by kernel_rfl
theorem tud66 : (Try.prog.underlying 66).isSome = true := by kernel_rfl
theorem tin66 : (Try.prog.info? 66).isSome = true := by kernel_rfl
theorem tag66 : tagg Try.prog 66 = false := by kernel_rfl
theorem tsl66 : selem Try.prog 66 = none := by kernel_rfl
theorem tby66 : tby Try.prog 66 = 8 := by kernel_rfl
theorem tze66 : tzero Try.prog 66 = some (.nilFunc) := by kernel_rfl
theorem tsz67 : tsz Try.prog 67 = 1 := by kernel_rfl
theorem tud67 : (Try.prog.underlying 67).isSome = true := by kernel_rfl
theorem tin67 : (Try.prog.info? 67).isSome = true := by kernel_rfl
theorem tag67 : tagg Try.prog 67 = false := by kernel_rfl
theorem tsl67 : selem Try.prog 67 = none := by kernel_rfl
theorem tby67 : tby Try.prog 67 = 8 := by kernel_rfl
theorem tze67 : tzero Try.prog 67 = some (.nilFunc) := by kernel_rfl
theorem tsz68 : tsz Try.prog 68 = 1 := by kernel_rfl
theorem tud68 : (Try.prog.underlying 68).isSome = true := by kernel_rfl
theorem tin68 : (Try.prog.info? 68).isSome = true := by kernel_rfl
theorem tag68 : tagg Try.prog 68 = false := by kernel_rfl
theorem tsl68 : selem Try.prog 68 = none := by kernel_rfl
theorem tby68 : tby Try.prog 68 = 8 := by kernel_rfl
theorem tze68 : tzero Try.prog 68 = some (.nilFunc) := by kernel_rfl
theorem tsz69 : tsz Try.prog 69 = 1 := by kernel_rfl
theorem tud69 : (Try.prog.underlying 69).isSome = true := by kernel_rfl
theorem tin69 : (Try.prog.info? 69).isSome = true := by kernel_rfl
theorem tag69 : tagg Try.prog 69 = false := by kernel_rfl
theorem tsl69 : selem Try.prog 69 = none := by kernel_rfl
theorem tby69 : tby Try.prog 69 = 8 := by kernel_rfl
theorem tze69 : tzero Try.prog 69 = some (.nilFunc) := by kernel_rfl
theorem tsz70 : tsz Try.prog 70 = 1 := by kernel_rfl
theorem tud70 : (Try.prog.underlying 70).isSome = true := by kernel_rfl
theorem tin70 : (Try.prog.info? 70).isSome = true := by kernel_rfl
theorem tag70 : tagg Try.prog 70 = false := by kernel_rfl
theorem tsl70 : selem Try.prog 70 = none := by kernel_rfl
theorem tby70 : tby Try.prog 70 = 8 := by kernel_rfl
theorem tze70 : tzero Try.prog 70 = some (.nilFunc) := by kernel_rfl
theorem tsz71 : tsz Try.prog 71 = 1 := by kernel_rfl
theorem tud71 : (Try.prog.underlying 71).isSome = true := by kernel_rfl
theorem tin71 : (Try.prog.info? 71).isSome = true := by kernel_rfl
theorem tag71 : tagg Try.prog 71 = false := by kernel_rfl
theorem tsl71 : selem Try.prog 71 = none := by kernel_rfl
theorem tby71 : tby Try.prog 71 = 8 := by kernel_rfl
theorem tze71 : tzero Try.prog 71 = some (.nilFunc) := by kernel_rfl
theorem tsz72 : tsz Try.prog 72 = 1 := by kernel_rfl
theorem tud72 : (Try.prog.underlying 72).isSome = true := by kernel_rfl
theorem tin72 : (Try.prog.info? 72).isSome = true := by kernel_rfl
theorem tag72 : tagg Try.prog 72 = false := by kernel_rfl
theorem tsl72 : selem Try.prog 72 = none := by kernel_rfl
theorem tby72 : tby Try.prog 72 = 8 := by kernel_rfl
theorem tze72 : tzero Try.prog 72 = some (.nilFunc) := by kernel_rfl
theorem tsz74 : tsz Try.prog 74 = 1 := by kernel_rfl
theorem tud74 : (Try.prog.underlying 74).isSome = true := by kernel_rfl
theorem tin74 : (Try.prog.info? 74).isSome = true := by kernel_rfl
theorem tag74 : tagg Try.prog 74 = false := by kernel_rfl
theorem tsl74 : selem Try.prog 74 = none := by kernel_rfl
theorem tby74 : tby Try.prog 74 = 8 := by kernel_rfl
theorem tze74 : tzero Try.prog 74 = some (.nilFunc) := by kernel_rfl
theorem tsz76 : tsz Try.prog 76 = 1 := by kernel_rfl
theorem tud76 : (Try.prog.underlying 76).isSome = true := by kernel_rfl
theorem tin76 : (Try.prog.info? 76).isSome = true := by kernel_rfl
theorem tag76 : tagg Try.prog 76 = false := by kernel_rfl
theorem tsl76 : selem Try.prog 76 = none := by kernel_rfl
theorem tby76 : tby Try.prog 76 = 8 := by kernel_rfl
theorem tze76 : tzero Try.prog 76 = some (.nilFunc) := by kernel_rfl
theorem tsz77 : tsz Try.prog 77 = 1 := by kernel_rfl
theorem tud77 : (Try.prog.underlying 77).isSome = true := by kernel_rfl
theorem tin77 : (Try.prog.info? 77).isSome = true := by kernel_rfl
theorem tag77 : tagg Try.prog 77 = false := by kernel_rfl
theorem tsl77 : selem Try.prog 77 = none := by kernel_rfl
theorem tby77 : tby Try.prog 77 = 8 := by kernel_rfl
theorem tze77 : tzero Try.prog 77 = some (.nilFunc) := by kernel_rfl
theorem tsz78 : tsz Try.prog 78 = 1 := by kernel_rfl
theorem tud78 : (Try.prog.underlying 78).isSome = true := by kernel_rfl
theorem tin78 : (Try.prog.info? 78).isSome = true := by kernel_rfl
theorem tag78 : tagg Try.prog 78 = false := by kernel_rfl
theorem tsl78 : selem Try.prog 78 = none := by kernel_rfl
theorem tby78 : tby Try.prog 78 = 8 := by kernel_rfl
theorem tze78 : tzero Try.prog 78 = some (.nilFunc) := by kernel_rfl
theorem tsz79 : tsz Try.prog 79 = 1 := by kernel_rfl
theorem tud79 : (Try.prog.underlying 79).isSome = true := by kernel_rfl
theorem tin79 : (Try.prog.info? 79).isSome = true := by kernel_rfl
theorem tag79 : tagg Try.prog 79 = false := by kernel_rfl
theorem tsl79 : selem Try.prog 79 = none := by kernel_rfl
theorem tby79 : tby Try.prog 79 = 8 := by kernel_rfl
theorem tze79 : tzero Try.prog 79 = some (.nilFunc) := by kernel_rfl
theorem tsz80 : tsz Try.prog 80 = 1 := by kernel_rfl
theorem tud80 : (Try.prog.underlying 80).isSome = true := by kernel_rfl
theorem tin80 : (Try.prog.info? 80).isSome = true := by kernel_rfl
theorem tag80 : tagg Try.prog 80 = false := by kernel_rfl
theorem tsl80 : selem Try.prog 80 = none := by kernel_rfl
theorem tby80 : tby Try.prog 80 = 8 := by kernel_rfl
theorem tze80 : tzero Try.prog 80 = some (.nilFunc) := by kernel_rfl
theorem tsz81 : tsz Try.prog 81 = 1 := by kernel_rfl
theorem tud81 : (Try.prog.underlying 81).isSome = true := by kernel_rfl
theorem tin81 : (Try.prog.info? 81).isSome = true := by kernel_rfl
theorem tag81 : tagg Try.prog 81 = false := by kernel_rfl
theorem tsl81 : selem Try.prog 81 = none := by kernel_rfl
theorem tby81 : tby Try.prog 81 = 8 := by kernel_rfl
theorem tze81 : tzero Try.prog 81 = some (.nilFunc) := by kernel_rfl
theorem tsz82 : tsz Try.prog 82 = 1 := by kernel_rfl
theorem tud82 : (Try.prog.underlying 82).isSome = true := by kernel_rfl
theorem tin82 : (Try.prog.info? 82).isSome = true := by kernel_rfl
theorem tag82 : tagg Try.prog 82 = false := by kernel_rfl
theorem tsl82 : selem Try.prog 82 = none := by kernel_rfl
theorem tby82 : tby Try.prog 82 = 8 := by kernel_rfl
theorem tze82 : tzero Try.prog 82 = some (.nilFunc) := by kernel_rfl
theorem tsz84 : tsz Try.prog 84 = 1 := by kernel_rfl
theorem tud84 : (Try.prog.underlying 84).isSome = true := by kernel_rfl
theorem tin84 : (Try.prog.info? 84).isSome = true := by kernel_rfl
theorem tag84 : tagg Try.prog 84 = false := by kernel_rfl
theorem tsl84 : selem Try.prog 84 = none := by kernel_rfl
theorem tby84 : tby Try.prog 84 = 8 := by kernel_rfl
theorem tze84 : tzero Try.prog 84 = some (.nilFunc) := by kernel_rfl
theorem tsz85 : tsz Try.prog 85 = 1 := by kernel_rfl
theorem tud85 : (Try.prog.underlying 85).isSome = true := by kernel_rfl
theorem tin85 : (Try.prog.info? 85).isSome = true := by kernel_rfl
theorem tag85 : tagg Try.prog 85 = false := by kernel_rfl
theorem tsl85 : selem Try.prog 85 = none := by kernel_rfl
theorem tby85 : tby Try.prog 85 = 8 := by kernel_rfl
theorem tze85 : tzero Try.prog 85 = some (.nilFunc) := by kernel_rfl
theorem tsz86 : tsz Try.prog 86 = 1 := by kernel_rfl
theorem tud86 : (Try.prog.underlying 86).isSome = true := by kernel_rfl
theorem tin86 : (Try.prog.info? 86).isSome = true := by kernel_rfl
theorem tag86 : tagg Try.prog 86 = false := by kernel_rfl
theorem tsl86 : selem Try.prog 86 = none := by kernel_rfl
theorem tby86 : tby Try.prog 86 = 8 := by kernel_rfl
theorem tze86 : tzero Try.prog 86 = some (.nilFunc) := by kernel_rfl
theorem tsz91 : tsz Try.prog 91 = 1 := by kernel_rfl
theorem tud91 : (Try.prog.underlying 91).isSome = true := by kernel_rfl
theorem tin91 : (Try.prog.info? 91).isSome = true := by kernel_rfl
theorem tag91 : tagg Try.prog 91 = false := by kernel_rfl
theorem tsl91 : selem Try.prog 91 = none := by kernel_rfl
theorem tby91 : tby Try.prog 91 = 8 := by kernel_rfl
theorem tze91 : tzero Try.prog 91 = some (.nilFunc) := by kernel_rfl
theorem tsz92 : tsz Try.prog 92 = 1 := by kernel_rfl
theorem tud92 : (Try.prog.underlying 92).isSome = true := by kernel_rfl
theorem tin92 : (Try.prog.info? 92).isSome = true := by kernel_rfl
theorem tag92 : tagg Try.prog 92 = false := by kernel_rfl
theorem tsl92 : selem Try.prog 92 = none := by kernel_rfl
theorem tby92 : tby Try.prog 92 = 8 := by kernel_rfl
theorem tze92 : tzero Try.prog 92 = some (.nilFunc) := by kernel_rfl
theorem tsz93 : tsz Try.prog 93 = 1 := by kernel_rfl
theorem tud93 : (Try.prog.underlying 93).isSome = true := by kernel_rfl
theorem tin93 : (Try.prog.info? 93).isSome = true := by kernel_rfl
theorem tag93 : tagg Try.prog 93 = false := by kernel_rfl
theorem tsl93 : selem Try.prog 93 = none := by kernel_rfl
theorem tby93 : tby Try.prog 93 = 8 := by kernel_rfl
theorem tze93 : tzero Try.prog 93 = some (.nilFunc) := by kernel_rfl
theorem tsz94 : tsz Try.prog 94 = 1 := by kernel_rfl
theorem tud94 : (Try.prog.underlying 94).isSome = true := by kernel_rfl
theorem tin94 : (Try.prog.info? 94).isSome = true := by kernel_rfl
theorem tag94 : tagg Try.prog 94 = false := by kernel_rfl
theorem tsl94 : selem Try.prog 94 = none := by kernel_rfl
theorem tby94 : tby Try.prog 94 = 8 := by kernel_rfl
theorem tze94 : tzero Try.prog 94 = some (.nilFunc) := by kernel_rfl
theorem tsz95 : tsz Try.prog 95 = 1 := by kernel_rfl
theorem tud95 : (Try.prog.underlying 95).isSome = true := by kernel_rfl
theorem tin95 : (Try.prog.info? 95).isSome = true := by kernel_rfl
theorem tag95 : tagg Try.prog 95 = false := by kernel_rfl
theorem tsl95 : selem Try.prog 95 = none := by kernel_rfl
theorem tby95 : tby Try.prog 95 = 8 := by kernel_rfl
theorem tze95 : tzero Try.prog 95 = some (.nilFunc) := by kernel_rfl
theorem tsz96 : tsz Try.prog 96 = 1 := by kernel_rfl
theorem tud96 : (Try.prog.underlying 96).isSome = true := by kernel_rfl
theorem tin96 : (Try.prog.info? 96).isSome = true := by kernel_rfl
theorem tag96 : tagg Try.prog 96 = false := by kernel_rfl
theorem tsl96 : selem Try.prog 96 = none := by kernel_rfl
theorem tby96 : tby Try.prog 96 = 8 := by kernel_rfl
theorem tze96 : tzero Try.prog 96 = some (.nilFunc) := by kernel_rfl
theorem tsz97 : tsz Try.prog 97 = 1 := by kernel_rfl
theorem tud97 : (Try.prog.underlying 97).isSome = true := by kernel_rfl
theorem tin97 : (Try.prog.info? 97).isSome = true := by kernel_rfl
theorem tag97 : tagg Try.prog 97 = false := by kernel_rfl
theorem tsl97 : selem Try.prog 97 = none := by kernel_rfl
theorem tby97 : tby Try.prog 97 = 8 := by kernel_rfl
theorem tze97 : tzero Try.prog 97 = some (.nilFunc) := by kernel_rfl
theorem tsz99 : tsz Try.prog 99 = 1 := by kernel_rfl
theorem tud99 : (Try.prog.underlying 99).isSome = true := by kernel_rfl
theorem tin99 : (Try.prog.info? 99).isSome = true := by kernel_rfl
theorem tag99 : tagg Try.prog 99 = false := by kernel_rfl
theorem tsl99 : selem Try.prog 99 = none := by kernel_rfl
theorem tby99 : tby Try.prog 99 = 8 := by kernel_rfl
theorem tze99 : tzero Try.prog 99 = some (.nilFunc) := by kernel_rfl
theorem tsz100 : tsz Try.prog 100 = 1 := by kernel_rfl
theorem tud100 : (Try.prog.underlying 100).isSome = true := by kernel_rfl
theorem tin100 : (Try.prog.info? 100).isSome = true := by kernel_rfl
theorem tag100 : tagg Try.prog 100 = false := by kernel_rfl
theorem tsl100 : selem Try.prog 100 = none := by kernel_rfl
theorem tby100 : tby Try.prog 100 = 8 := by kernel_rfl
theorem tze100 : tzero Try.prog 100 = some (.nilFunc) := by kernel_rfl
theorem tsz101 : tsz Try.prog 101 = 1 := by kernel_rfl
theorem tud101 : (Try.prog.underlying 101).isSome = true := by kernel_rfl
theorem tin101 : (Try.prog.info? 101).isSome = true := by kernel_rfl
theorem tag101 : tagg Try.prog 101 = false := by kernel_rfl
theorem tsl101 : selem Try.prog 101 = none := by kernel_rfl
theorem tby101 : tby Try.prog 101 = 8 := by kernel_rfl
theorem tze101 : tzero Try.prog 101 = some (.nilFunc) := by kernel_rfl
theorem tsz102 : tsz Try.prog 102 = 1 := by kernel_rfl
theorem tud102 : (Try.prog.underlying 102).isSome = true := by kernel_rfl
theorem tin102 : (Try.prog.info? 102).isSome = true := by kernel_rfl
theorem tag102 : tagg Try.prog 102 = false := by kernel_rfl
theorem tsl102 : selem Try.prog 102 = none := by kernel_rfl
theorem tby102 : tby Try.prog 102 = 8 := by kernel_rfl
theorem tze102 : tzero Try.prog 102 = some (.nilFunc) := by kernel_rfl
theorem tsz103 : tsz Try.prog 103 = 1 := by kernel_rfl
theorem tud103 : (Try.prog.underlying 103).isSome = true := by kernel_rfl
theorem tin103 : (Try.prog.info? 103).isSome = true := by kernel_rfl
theorem tag103 : tagg Try.prog 103 = false := by kernel_rfl
theorem tsl103 : selem Try.prog 103 = none := by kernel_rfl
theorem tby103 : tby Try.prog 103 = 8 := by kernel_rfl
theorem tze103 : tzero Try.prog 103 = some (.nilFunc) := by kernel_rfl
theorem tsz104 : tsz Try.prog 104 = 1 := by kernel_rfl
theorem tud104 : (Try.prog.underlying 104).isSome = true := by kernel_rfl
theorem tin104 : (Try.prog.info? 104).isSome = true := by kernel_rfl
theorem tag104 : tagg Try.prog 104 = false := by kernel_rfl
theorem tsl104 : selem Try.prog 104 = none := by kernel_rfl
theorem tby104 : tby Try.prog 104 = 8 := by kernel_rfl
theorem tze104 : tzero Try.prog 104 = some (.nilFunc) := by kernel_rfl
theorem tsz105 : tsz Try.prog 105 = 1 := by kernel_rfl
theorem tud105 : (Try.prog.underlying 105).isSome = true := by kernel_rfl
theorem tin105 : (Try.prog.info? 105).isSome = true := by kernel_rfl
theorem tag105 : tagg Try.prog 105 = false := by kernel_rfl
theorem tsl105 : selem Try.prog 105 = none := by kernel_rfl
theorem tby105 : tby Try.prog 105 = 8 := by kernel_rfl
theorem tze105 : tzero Try.prog 105 = some (.nilFunc) := by kernel_rfl
theorem tsz106 : tsz Try.prog 106 = 1 := by kernel_rfl
theorem tud106 : (Try.prog.underlying 106).isSome = true := by kernel_rfl
theorem tin106 : (Try.prog.info? 106).isSome = true := by kernel_rfl
theorem tag106 : tagg Try.prog 106 = false := by kernel_rfl
theorem tsl106 : selem Try.prog 106 = none := by kernel_rfl
theorem tby106 : tby Try.prog 106 = 8 := by kernel_rfl
theorem tze106 : tzero Try.prog 106 = some (.nilFunc) := by kernel_rfl
theorem tsz107 : tsz Try.prog 107 = 1 := by kernel_rfl
theorem tud107 : (Try.prog.underlying 107).isSome = true := by kernel_rfl
theorem tin107 : (Try.prog.info? 107).isSome = true := by kernel_rfl
theorem tag107 : tagg Try.prog 107 = false := by kernel_rfl
theorem tsl107 : selem Try.prog 107 = none := by kernel_rfl
theorem tby107 : tby Try.prog 107 = 8 := by kernel_rfl
theorem tze107 : tzero Try.prog 107 = some (.nilFunc) := by kernel_rfl
theorem tsz108 : tsz Try.prog 108 = 1 := by kernel_rfl
theorem tud108 : (Try.prog.underlying 108).isSome = true := by kernel_rfl
theorem tin108 : (Try.prog.info? 108).isSome = true := by kernel_rfl
theorem tag108 : tagg Try.prog 108 = false := by kernel_rfl
theorem tsl108 : selem Try.prog 108 = none := by kernel_rfl
theorem tby108 : tby Try.prog 108 = 8 := by kernel_rfl
theorem tze108 : tzero Try.prog 108 = some (.nilFunc) := by kernel_rfl
theorem tsz109 : tsz Try.prog 109 = 1 := by kernel_rfl
theorem tud109 : (Try.prog.underlying 109).isSome = true := by kernel_rfl
theorem tin109 : (Try.prog.info? 109).isSome = true := by kernel_rfl
theorem tag109 : tagg Try.prog 109 = false := by kernel_rfl
theorem tsl109 : selem Try.prog 109 = none := by kernel_rfl
theorem tby109 : tby Try.prog 109 = 8 := by kernel_rfl
theorem tze109 : tzero Try.prog 109 = some (.nilFunc) := by kernel_rfl
theorem tsz111 : tsz Try.prog 111 = 1 := by kernel_rfl
theorem tud111 : (Try.prog.underlying 111).isSome = true := by kernel_rfl
theorem tin111 : (Try.prog.info? 111).isSome = true := by kernel_rfl
theorem tag111 : tagg Try.prog 111 = false := by kernel_rfl
theorem tsl111 : selem Try.prog 111 = none := by kernel_rfl
theorem tby111 : tby Try.prog 111 = 8 := by kernel_rfl
theorem tze111 : tzero Try.prog 111 = some (.nilFunc) := by kernel_rfl
theorem tsz112 : tsz Try.prog 112 = 1 := by kernel_rfl
theorem tud112 : (Try.prog.underlying 112).isSome = true := by kernel_rfl
theorem tin112 : (Try.prog.info? 112).isSome = true := by kernel_rfl
theorem tag112 : tagg Try.prog 112 = false := by kernel_rfl
theorem tsl112 : selem Try.prog 112 = none := by kernel_rfl
theorem tby112 : tby Try.prog 112 = 8 := by kernel_rfl
theorem tze112 : tzero Try.prog 112 = some (.nilFunc) := by kernel_rfl
theorem tsz114 : tsz Try.prog 114 = 1 := by kernel_rfl
theorem tud114 : (Try.prog.underlying 114).isSome = true := by kernel_rfl
theorem tin114 : (Try.prog.info? 114).isSome = true := by kernel_rfl
theorem tag114 : tagg Try.prog 114 = false := by kernel_rfl
theorem tsl114 : selem Try.prog 114 = none := by kernel_rfl
theorem tby114 : tby Try.prog 114 = 8 := by kernel_rfl
theorem tze114 : tzero Try.prog 114 = some (.nilFunc) := by kernel_rfl
theorem tsz115 : tsz Try.prog 115 = 1 := by kernel_rfl
theorem tud115 : (Try.prog.underlying 115).isSome = true := by kernel_rfl
theorem tin115 : (Try.prog.info? 115).isSome = true := by kernel_rfl
theorem tag115 : tagg Try.prog 115 = false := by kernel_rfl
theorem tsl115 : selem Try.prog 115 = none := by kernel_rfl
theorem tby115 : tby Try.prog 115 = 8 := by kernel_rfl
theorem tze115 : tzero Try.prog 115 = some (.nilFunc) := by kernel_rfl
theorem tsz116 : tsz Try.prog 116 = 1 := by kernel_rfl
theorem tud116 : (Try.prog.underlying 116).isSome = true := by kernel_rfl
theorem tin116 : (Try.prog.info? 116).isSome = true := by kernel_rfl
theorem tag116 : tagg Try.prog 116 = false := by kernel_rfl
theorem tsl116 : selem Try.prog 116 = none := by kernel_rfl
theorem tby116 : tby Try.prog 116 = 8 := by kernel_rfl
theorem tze116 : tzero Try.prog 116 = some (.nilFunc) := by kernel_rfl
theorem tsz117 : tsz Try.prog 117 = 1 := by kernel_rfl
theorem tud117 : (Try.prog.underlying 117).isSome = true := by kernel_rfl
theorem tin117 : (Try.prog.info? 117).isSome = true := by kernel_rfl
theorem tag117 : tagg Try.prog 117 = false := by kernel_rfl
theorem tsl117 : selem Try.prog 117 = none := by kernel_rfl
theorem tby117 : tby Try.prog 117 = 8 := by kernel_rfl
theorem tze117 : tzero Try.prog 117 = some (.nilFunc) := by kernel_rfl
theorem tsz118 : tsz Try.prog 118 = 1 := by kernel_rfl
theorem tud118 : (Try.prog.underlying 118).isSome = true := by kernel_rfl
theorem tin118 : (Try.prog.info? 118).isSome = true := by kernel_rfl
theorem tag118 : tagg Try.prog 118 = false := by kernel_rfl
theorem tsl118 : selem Try.prog 118 = none := by kernel_rfl
theorem tby118 : tby Try.prog 118 = 8 := by kernel_rfl
theorem tze118 : tzero Try.prog 118 = some (.nilFunc) := by kernel_rfl
theorem tsz119 : tsz Try.prog 119 = 1 := by kernel_rfl
theorem tud119 : (Try.prog.underlying 119).isSome = true := by kernel_rfl
theorem tin119 : (Try.prog.info? 119).isSome = true := by kernel_rfl
theorem tag119 : tagg Try.prog 119 = false := by kernel_rfl
theorem tsl119 : selem Try.prog 119 = none := by kernel_rfl
theorem tby119 : tby Try.prog 119 = 8 := by kernel_rfl
theorem tze119 : tzero Try.prog 119 = some (.nilFunc) := by kernel_rfl
theorem tsz120 : tsz Try.prog 120 = 1 := by kernel_rfl
theorem tud120 : (Try.prog.underlying 120).isSome = true := by kernel_rfl
theorem tin120 : (Try.prog.info? 120).isSome = true := by kernel_rfl
theorem tag120 : tagg Try.prog 120 = false := by kernel_rfl
theorem tsl120 : selem Try.prog 120 = none := by kernel_rfl
theorem tby120 : tby Try.prog 120 = 8 := by kernel_rfl
theorem tze120 : tzero Try.prog 120 = some (.nilFunc) := by kernel_rfl
theorem tsz123 : tsz Try.prog 123 = 1 := by kernel_rfl
theorem tud123 : (Try.prog.underlying 123).isSome = true := by kernel_rfl
theorem tin123 : (Try.prog.info? 123).isSome = true := by kernel_rfl
theorem tag123 : tagg Try.prog 123 = false := by kernel_rfl
theorem tsl123 : selem Try.prog 123 = none := by kernel_rfl
theorem tby123 : tby Try.prog 123 = 8 := by kernel_rfl
theorem tze123 : tzero Try.prog 123 = some (.nilFunc) := by kernel_rfl
theorem tsz124 : tsz Try.prog 124 = 1 := by kernel_rfl
theorem tud124 : (Try.prog.underlying 124).isSome = true := by kernel_rfl
theorem tin124 : (Try.prog.info? 124).isSome = true := by kernel_rfl
theorem tag124 : tagg Try.prog 124 = false := by kernel_rfl
theorem tsl124 : selem Try.prog 124 = none := by kernel_rfl
theorem tby124 : tby Try.prog 124 = 8 := by kernel_rfl
theorem tze124 : tzero Try.prog 124 = some (.nilFunc) := by kernel_rfl
theorem tsz125 : tsz Try.prog 125 = 1 := by kernel_rfl
theorem tud125 : (Try.prog.underlying 125).isSome = true := by kernel_rfl
theorem tin125 : (Try.prog.info? 125).isSome = true := by kernel_rfl
theorem tag125 : tagg Try.prog 125 = false := by kernel_rfl
theorem tsl125 : selem Try.prog 125 = none := by kernel_rfl
theorem tby125 : tby Try.prog 125 = 8 := by kernel_rfl
theorem tze125 : tzero Try.prog 125 = some (.nilFunc) := by kernel_rfl
theorem tsz126 : tsz Try.prog 126 = 1 := by kernel_rfl
theorem tud126 : (Try.prog.underlying 126).isSome = true := by kernel_rfl
theorem tin126 : (Try.prog.info? 126).isSome = true := by kernel_rfl
theorem tag126 : tagg Try.prog 126 = false := by kernel_rfl
theorem tsl126 : selem Try.prog 126 = none := by kernel_rfl
theorem tby126 : tby Try.prog 126 = 8 := by kernel_rfl
theorem tze126 : tzero Try.prog 126 = some (.nilFunc) := by kernel_rfl
theorem tsz127 : tsz Try.prog 127 = 1 := by kernel_rfl
theorem tud127 : (Try.prog.underlying 127).isSome = true := by kernel_rfl
theorem tin127 : (Try.prog.info? 127).isSome = true := by kernel_rfl
theorem tag127 : tagg Try.prog 127 = false := by kernel_rfl
theorem tsl127 : selem Try.prog 127 = none := by kernel_rfl
theorem tby127 : tby Try.prog 127 = 8 := by kernel_rfl
theorem tze127 : tzero Try.prog 127 = some (.nilFunc) := by kernel_rfl
theorem tsz128 : tsz Try.prog 128 = 1 := by kernel_rfl
theorem tud128 : (Try.prog.underlying 128).isSome = true := by kernel_rfl
theorem tin128 : (Try.prog.info? 128).isSome = true := by kernel_rfl
theorem tag128 : tagg Try.prog 128 = false := by kernel_rfl
theorem tsl128 : selem Try.prog 128 = none := by kernel_rfl
theorem tby128 : tby Try.prog 128 = 8 := by kernel_rfl
theorem tze128 : tzero Try.prog 128 = some (.nilFunc) := by kernel_rfl
theorem tsz130 : tsz Try.prog 130 = 1 := by kernel_rfl
theorem tud130 : (Try.prog.underlying 130).isSome = true := by kernel_rfl
theorem tin130 : (Try.prog.info? 130).isSome = true := by kernel_rfl
theorem tag130 : tagg Try.prog 130 = false := by kernel_rfl
theorem tsl130 : selem Try.prog 130 = none := by kernel_rfl
theorem tby130 : tby Try.prog 130 = 8 := by kernel_rfl
theorem tze130 : tzero Try.prog 130 = some (.nilFunc) := by kernel_rfl
theorem tsz131 : tsz Try.prog 131 = 1 := by kernel_rfl
theorem tud131 : (Try.prog.underlying 131).isSome = true := by kernel_rfl
theorem tin131 : (Try.prog.info? 131).isSome = true := by kernel_rfl
theorem tag131 : tagg Try.prog 131 = false := by kernel_rfl
theorem tsl131 : selem Try.prog 131 = none := by kernel_rfl
theorem tby131 : tby Try.prog 131 = 8 := by kernel_rfl
theorem tze131 : tzero Try.prog 131 = some (.nilFunc) := by kernel_rfl
theorem tsz133 : tsz Try.prog 133 = 1 := by kernel_rfl
theorem tud133 : (Try.prog.underlying 133).isSome = true := by kernel_rfl
theorem tin133 : (Try.prog.info? 133).isSome = true := by kernel_rfl
theorem tag133 : tagg Try.prog 133 = false := by kernel_rfl
theorem tsl133 : selem Try.prog 133 = none := by kernel_rfl
theorem tby133 : tby Try.prog 133 = 8 := by kernel_rfl
theorem tze133 : tzero Try.prog 133 = some (.nilFunc) := by kernel_rfl
theorem tsz134 : tsz Try.prog 134 = 1 := by kernel_rfl
theorem tud134 : (Try.prog.underlying 134).isSome = true := by kernel_rfl
theorem tin134 : (Try.prog.info? 134).isSome = true := by kernel_rfl
theorem tag134 : tagg Try.prog 134 = false := by kernel_rfl
theorem tsl134 : selem Try.prog 134 = none := by kernel_rfl
theorem tby134 : tby Try.prog 134 = 8 := by kernel_rfl
theorem tze134 : tzero Try.prog 134 = some (.nilFunc) := by kernel_rfl
theorem tsz135 : tsz Try.prog 135 = 1 := by kernel_rfl
theorem tud135 : (Try.prog.underlying 135).isSome = true := by kernel_rfl
theorem tin135 : (Try.prog.info? 135).isSome = true := by kernel_rfl
theorem tag135 : tagg Try.prog 135 = false := by kernel_rfl
theorem tsl135 : selem Try.prog 135 = none := by kernel_rfl
theorem tby135 : tby Try.prog 135 = 8 := by kernel_rfl
theorem tze135 : tzero Try.prog 135 = some (.nilFunc) := by kernel_rfl
theorem tsz137 : tsz Try.prog 137 = 1 := by kernel_rfl
theorem tud137 : (Try.prog.underlying 137).isSome = true := by kernel_rfl
theorem tin137 : (Try.prog.info? 137).isSome = true := by kernel_rfl
theorem tag137 : tagg Try.prog 137 = false := by kernel_rfl
theorem tsl137 : selem Try.prog 137 = none := by kernel_rfl
theorem tby137 : tby Try.prog 137 = 8 := by kernel_rfl
theorem tze137 : tzero Try.prog 137 = some (.nilFunc) := by kernel_rfl
theorem tsz138 : tsz Try.prog 138 = 1 := by kernel_rfl
theorem tud138 : (Try.prog.underlying 138).isSome = true := by kernel_rfl
theorem tin138 : (Try.prog.info? 138).isSome = true := by kernel_rfl
theorem tag138 : tagg Try.prog 138 = false := by kernel_rfl
theorem tsl138 : selem Try.prog 138 = none := by kernel_rfl
theorem tby138 : tby Try.prog 138 = 8 := by kernel_rfl
theorem tze138 : tzero Try.prog 138 = some (.nilFunc) := by kernel_rfl
theorem tsz139 : tsz Try.prog 139 = 1 := by kernel_rfl
theorem tud139 : (Try.prog.underlying 139).isSome = true := by kernel_rfl
theorem tin139 : (Try.prog.info? 139).isSome = true := by kernel_rfl
theorem tag139 : tagg Try.prog 139 = false := by kernel_rfl
theorem tsl139 : selem Try.prog 139 = none := by kernel_rfl
theorem tby139 : tby Try.prog 139 = 8 := by kernel_rfl
theorem tze139 : tzero Try.prog 139 = some (.nilFunc) := by kernel_rfl
theorem tsz140 : tsz Try.prog 140 = 1 := by kernel_rfl
theorem tud140 : (Try.prog.underlying 140).isSome = true := by kernel_rfl
theorem tin140 : (Try.prog.info? 140).isSome = true := by kernel_rfl
theorem tag140 : tagg Try.prog 140 = false := by kernel_rfl
theorem tsl140 : selem Try.prog 140 = none := by kernel_rfl
theorem tby140 : tby Try.prog 140 = 8 := by kernel_rfl
theorem tze140 : tzero Try.prog 140 = some (.nilFunc) := by kernel_rfl
theorem tsz141 : tsz Try.prog 141 = 1 := by kernel_rfl
theorem tud141 : (Try.prog.underlying 141).isSome = true := by kernel_rfl
theorem tin141 : (Try.prog.info? 141).isSome = true := by kernel_rfl
theorem tag141 : tagg Try.prog 141 = false := by kernel_rfl
theorem tsl141 : selem Try.prog 141 = none := by kernel_rfl
theorem tby141 : tby Try.prog 141 = 8 := by kernel_rfl
theorem tze141 : tzero Try.prog 141 = some (.nilFunc) := by kernel_rfl
theorem tsz142 : tsz Try.prog 142 = 1 := by kernel_rfl
theorem tud142 : (Try.prog.underlying 142).isSome = true := by kernel_rfl
theorem tin142 : (Try.prog.info? 142).isSome = true := by kernel_rfl
theorem tag142 : tagg Try.prog 142 = false := by kernel_rfl
theorem tsl142 : selem Try.prog 142 = none := by kernel_rfl
theorem tby142 : tby Try.prog 142 = 8 := by kernel_rfl
theorem tze142 : tzero Try.prog 142 = some (.nilFunc) := by kernel_rfl
theorem tsz143 : tsz Try.prog 143 = 1 := by kernel_rfl
theorem tud143 : (Try.prog.underlying 143).isSome = true := by kernel_rfl
theorem tin143 : (Try.prog.info? 143).isSome = true := by kernel_rfl
theorem tag143 : tagg Try.prog 143 = false := by kernel_rfl
theorem tsl143 : selem Try.prog 143 = none := by kernel_rfl
theorem tby143 : tby Try.prog 143 = 8 := by kernel_rfl
theorem tze143 : tzero Try.prog 143 = some (.nilFunc) := by kernel_rfl
theorem tsz144 : tsz Try.prog 144 = 1 := by kernel_rfl
theorem tud144 : (Try.prog.underlying 144).isSome = true := by kernel_rfl
theorem tin144 : (Try.prog.info? 144).isSome = true := by kernel_rfl
theorem tag144 : tagg Try.prog 144 = false := by kernel_rfl
theorem tsl144 : selem Try.prog 144 = none := by kernel_rfl
theorem tby144 : tby Try.prog 144 = 8 := by kernel_rfl
theorem tze144 : tzero Try.prog 144 = some (.nilFunc) := by kernel_rfl
theorem tsz145 : tsz Try.prog 145 = 1 := by kernel_rfl
theorem tud145 : (Try.prog.underlying 145).isSome = true := by kernel_rfl
theorem tin145 : (Try.prog.info? 145).isSome = true := by kernel_rfl
theorem tag145 : tagg Try.prog 145 = false := by kernel_rfl
theorem tsl145 : selem Try.prog 145 = none := by kernel_rfl
theorem tby145 : tby Try.prog 145 = 8 := by kernel_rfl
theorem tze145 : tzero Try.prog 145 = some (.nilFunc) := by kernel_rfl
theorem tsz148 : tsz Try.prog 148 = 1 := by kernel_rfl
theorem tud148 : (Try.prog.underlying 148).isSome = true := by kernel_rfl
theorem tin148 : (Try.prog.info? 148).isSome = true := by kernel_rfl
theorem tag148 : tagg Try.prog 148 = false := by kernel_rfl
theorem tsl148 : selem Try.prog 148 = none := by kernel_rfl
theorem tby148 : tby Try.prog 148 = 8 := by kernel_rfl
theorem tze148 : tzero Try.prog 148 = some (.nilFunc) := by kernel_rfl
theorem tsz149 : tsz Try.prog 149 = 1 := by kernel_rfl
theorem tud149 : (Try.prog.underlying 149).isSome = true := by kernel_rfl
theorem tin149 : (Try.prog.info? 149).isSome = true := by kernel_rfl
theorem tag149 : tagg Try.prog 149 = false := by kernel_rfl
theorem tsl149 : selem Try.prog 149 = none := by kernel_rfl
theorem tby149 : tby Try.prog 149 = 8 := by kernel_rfl
theorem tze149 : tzero Try.prog 149 = some (.nilFunc) := by kernel_rfl
theorem tsz155 : tsz Try.prog 155 = 1 := by kernel_rfl
theorem tud155 : (Try.prog.underlying 155).isSome = true := by kernel_rfl
theorem tin155 : (Try.prog.info? 155).isSome = true := by kernel_rfl
theorem tag155 : tagg Try.prog 155 = false := by kernel_rfl
theorem tsl155 : selem Try.prog 155 = none := by kernel_rfl
theorem tby155 : tby Try.prog 155 = 8 := by kernel_rfl
theorem tze155 : tzero Try.prog 155 = some (.nilFunc) := by kernel_rfl
theorem tsz158 : tsz Try.prog 158 = 1 := by kernel_rfl
theorem tud158 : (Try.prog.underlying 158).isSome = true := by kernel_rfl
theorem tin158 : (Try.prog.info? 158).isSome = true := by kernel_rfl
theorem tag158 : tagg Try.prog 158 = false := by kernel_rfl
theorem tsl158 : selem Try.prog 158 = none := by kernel_rfl
theorem tby158 : tby Try.prog 158 = 8 := by kernel_rfl
theorem tze158 : tzero Try.prog 158 = some (.nilFunc) := by kernel_rfl
attribute [go_sem] tsz1 tud1 tin1 tag1 tsl1 tby1 tze1 tsz23 tud23 tin23 tag23 tsl23 tby23 tze23 tsz24 tud24 tin24 tag24 tsl24 tby24 tze24 tsz31 tud31 tin31 tag31 tsl31 tby31 tze31 tsz32 tud32 tin32 tag32 tsl32 tby32 tze32 tsz33 tud33 tin33 tag33 tsl33 tby33 tze33 tsz35 tud35 tin35 tag35 tsl35 tby35 tze35 tsz41 tud41 tin41 tag41 tsl41 tby41 tze41 tsz43 tud43 tin43 tag43 tsl43 tby43 tze43 tsz44 tud44 tin44 tag44 tsl44 tby44 tze44 tsz45 tud45 tin45 tag45 tsl45 tby45 tze45 tsz46 tud46 tin46 tag46 tsl46 tby46 tze46 tsz47 tud47 tin47 tag47 tsl47 tby47 tze47 tsz48 tud48 tin48 tag48 tsl48 tby48 tze48 tsz51 tud51 tin51 tag51 tsl51 tby51 tze51 tsz52 tud52 tin52 tag52 tsl52 tby52 tze52 tsz53 tud53 tin53 tag53 tsl53 tby53 tze53 tsz54 tud54 tin54 tag54 tsl54 tby54 tze54 tsz59 tud59 tin59 tag59 tsl59 tby59 tze59 tsz60 tud60 tin60 tag60 tsl60 tby60 tze60 tsz62 tud62 tin62 tag62 tsl62 tby62 tze62 tsz65 tud65 tin65 tag65 tsl65 tby65 tze65 tsz66 tud66 tin66 tag66 tsl66 tby66 tze66 tsz67 tud67 tin67 tag67 tsl67 tby67 tze67 tsz68 tud68 tin68 tag68 tsl68 tby68 tze68 tsz69 tud69 tin69 tag69 tsl69 tby69 tze69 tsz70 tud70 tin70 tag70 tsl70 tby70 tze70 tsz71 tud71 tin71 tag71 tsl71 tby71 tze71 tsz72 tud72 tin72 tag72 tsl72 tby72 tze72 tsz74 tud74 tin74 tag74 tsl74 tby74 tze74 tsz76 tud76 tin76 tag76 tsl76 tby76 tze76 tsz77 tud77 tin77 tag77 tsl77 tby77 tze77 tsz78 tud78 tin78 tag78 tsl78 tby78 tze78 tsz79 tud79 tin79 tag79 tsl79 tby79 tze79 tsz80 tud80 tin80 tag80 tsl80 tby80 tze80 tsz81 tud81 tin81 tag81 tsl81 tby81 tze81 tsz82 tud82 tin82 tag82 tsl82 tby82 tze82 tsz84 tud84 tin84 tag84 tsl84 tby84 tze84 tsz85 tud85 tin85 tag85 tsl85 tby85 tze85 tsz86 tud86 tin86 tag86 tsl86 tby86 tze86 tsz91 tud91 tin91 tag91 tsl91 tby91 tze91 tsz92 tud92 tin92 tag92 tsl92 tby92 tze92 tsz93 tud93 tin93 tag93 tsl93 tby93 tze93 tsz94 tud94 tin94 tag94 tsl94 tby94 tze94 tsz95 tud95 tin95 tag95 tsl95 tby95 tze95 tsz96 tud96 tin96 tag96 tsl96 tby96 tze96 tsz97 tud97 tin97 tag97 tsl97 tby97 tze97 tsz99 tud99 tin99 tag99 tsl99 tby99 tze99 tsz100 tud100 tin100 tag100 tsl100 tby100 tze100 tsz101 tud101 tin101 tag101 tsl101 tby101 tze101 tsz102 tud102 tin102 tag102 tsl102 tby102 tze102 tsz103 tud103 tin103 tag103 tsl103 tby103 tze103 tsz104 tud104 tin104 tag104 tsl104 tby104 tze104 tsz105 tud105 tin105 tag105 tsl105 tby105 tze105 tsz106 tud106 tin106 tag106 tsl106 tby106 tze106 tsz107 tud107 tin107 tag107 tsl107 tby107 tze107 tsz108 tud108 tin108 tag108 tsl108 tby108 tze108 tsz109 tud109 tin109 tag109 tsl109 tby109 tze109 tsz111 tud111 tin111 tag111 tsl111 tby111 tze111 tsz112 tud112 tin112 tag112 tsl112 tby112 tze112 tsz114 tud114 tin114 tag114 tsl114 tby114 tze114 tsz115 tud115 tin115 tag115 tsl115 tby115 tze115 tsz116 tud116 tin116 tag116 tsl116 tby116 tze116 tsz117 tud117 tin117 tag117 tsl117 tby117 tze117 tsz118 tud118 tin118 tag118 tsl118 tby118 tze118 tsz119 tud119 tin119 tag119 tsl119 tby119 tze119 tsz120 tud120 tin120 tag120 tsl120 tby120 tze120 tsz123 tud123 tin123 tag123 tsl123 tby123 tze123 tsz124 tud124 tin124 tag124 tsl124 tby124 tze124 tsz125 tud125 tin125 tag125 tsl125 tby125 tze125 tsz126 tud126 tin126 tag126 tsl126 tby126 tze126 tsz127 tud127 tin127 tag127 tsl127 tby127 tze127 tsz128 tud128 tin128 tag128 tsl128 tby128 tze128 tsz130 tud130 tin130 tag130 tsl130 tby130 tze130 tsz131 tud131 tin131 tag131 tsl131 tby131 tze131 tsz133 tud133 tin133 tag133 tsl133 tby133 tze133 tsz134 tud134 tin134 tag134 tsl134 tby134 tze134 tsz135 tud135 tin135 tag135 tsl135 tby135 tze135 tsz137 tud137 tin137 tag137 tsl137 tby137 tze137 tsz138 tud138 tin138 tag138 tsl138 tby138 tze138 tsz139 tud139 tin139 tag139 tsl139 tby139 tze139 tsz140 tud140 tin140 tag140 tsl140 tby140 tze140 tsz141 tud141 tin141 tag141 tsl141 tby141 tze141 tsz142 tud142 tin142 tag142 tsl142 tby142 tze142 tsz143 tud143 tin143 tag143 tsl143 tby143 tze143 tsz144 tud144 tin144 tag144 tsl144 tby144 tze144 tsz145 tud145 tin145 tag145 tsl145 tby145 tze145 tsz148 tud148 tin148 tag148 tsl148 tby148 tze148 tsz149 tud149 tin149 tag149 tsl149 tby149 tze149 tsz155 tud155 tin155 tag155 tsl155 tby155 tze155 tsz158 tud158 tin158 tag158 tsl158 tby158 tze158
end Go.Proofs.Ytnkcenafpigmbaa.Ab
