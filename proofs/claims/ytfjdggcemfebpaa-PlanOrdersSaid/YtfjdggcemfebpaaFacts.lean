/- What the program says of its types. Printed by a small program of this session. -/
import Derived.Test.YtfjdggcemfebpaaAw9
import Derived.Test.YtfjdggcemfebpaaProg
import Derived.KernelRfl
namespace Go.Proofs.Ytfjdggcemfebpaa.K
open Go.Proofs.YtfjdggcemfebpaaAw
theorem TI1 : TI Try.prog 1 = some ((.nilFunc : Value), 1, 8) := by kernel_rfl
theorem agB1 : agB Try.prog 1 = some false := by kernel_rfl
theorem SE1 : SE Try.prog 1 = none := by kernel_rfl
theorem AE1 : AE Try.prog 1 = none := by kernel_rfl
theorem MT1 : MT Try.prog 1 = none := by kernel_rfl
theorem SP1 : SP Try.prog 1 = none := by kernel_rfl
theorem TI2 : TI Try.prog 2 = some ((.int .i64 0 : Value), 1, 8) := by kernel_rfl
theorem agB2 : agB Try.prog 2 = some false := by kernel_rfl
theorem SE2 : SE Try.prog 2 = none := by kernel_rfl
theorem AE2 : AE Try.prog 2 = none := by kernel_rfl
theorem MT2 : MT Try.prog 2 = none := by kernel_rfl
theorem UK2 : UK Try.prog 2 = some .i64 := by kernel_rfl
theorem NI2 : isIface Try.prog 2 = false := by kernel_rfl
theorem SP2 : SP Try.prog 2 = none := by kernel_rfl
theorem TI3 : TI Try.prog 3 = some ((.int .i64 0 : Value), 1, 8) := by kernel_rfl
theorem agB3 : agB Try.prog 3 = some false := by kernel_rfl
theorem SE3 : SE Try.prog 3 = none := by kernel_rfl
theorem AE3 : AE Try.prog 3 = none := by kernel_rfl
theorem MT3 : MT Try.prog 3 = none := by kernel_rfl
theorem UK3 : UK Try.prog 3 = some .i64 := by kernel_rfl
theorem NI3 : isIface Try.prog 3 = false := by kernel_rfl
theorem SP3 : SP Try.prog 3 = none := by kernel_rfl
theorem TI4 : TI Try.prog 4 = some ((.bool false : Value), 1, 1) := by kernel_rfl
theorem agB4 : agB Try.prog 4 = some false := by kernel_rfl
theorem SE4 : SE Try.prog 4 = none := by kernel_rfl
theorem AE4 : AE Try.prog 4 = none := by kernel_rfl
theorem MT4 : MT Try.prog 4 = none := by kernel_rfl
theorem UB4 : Try.prog.underlying 4 = some .bool := by kernel_rfl
theorem NI4 : isIface Try.prog 4 = false := by kernel_rfl
theorem SP4 : SP Try.prog 4 = none := by kernel_rfl
theorem TI5 : TI Try.prog 5 = some ((.int .u8 0 : Value), 1, 1) := by kernel_rfl
theorem agB5 : agB Try.prog 5 = some false := by kernel_rfl
theorem SE5 : SE Try.prog 5 = none := by kernel_rfl
theorem AE5 : AE Try.prog 5 = none := by kernel_rfl
theorem MT5 : MT Try.prog 5 = none := by kernel_rfl
theorem UK5 : UK Try.prog 5 = some .u8 := by kernel_rfl
theorem NI5 : isIface Try.prog 5 = false := by kernel_rfl
theorem SP5 : SP Try.prog 5 = none := by kernel_rfl
theorem TI9 : TI Try.prog 9 = some ((.string ⟨#[]⟩ : Value), 1, 16) := by kernel_rfl
theorem agB9 : agB Try.prog 9 = some false := by kernel_rfl
theorem SE9 : SE Try.prog 9 = none := by kernel_rfl
theorem AE9 : AE Try.prog 9 = none := by kernel_rfl
theorem MT9 : MT Try.prog 9 = none := by kernel_rfl
theorem US9 : Try.prog.underlying 9 = some .string := by kernel_rfl
theorem NI9 : isIface Try.prog 9 = false := by kernel_rfl
theorem SP9 : SP Try.prog 9 = none := by kernel_rfl
theorem TI12 : TI Try.prog 12 = some ((.int .u64 0 : Value), 1, 8) := by kernel_rfl
theorem agB12 : agB Try.prog 12 = some false := by kernel_rfl
theorem SE12 : SE Try.prog 12 = none := by kernel_rfl
theorem AE12 : AE Try.prog 12 = none := by kernel_rfl
theorem MT12 : MT Try.prog 12 = none := by kernel_rfl
theorem UK12 : UK Try.prog 12 = some .u64 := by kernel_rfl
theorem NI12 : isIface Try.prog 12 = false := by kernel_rfl
theorem SP12 : SP Try.prog 12 = none := by kernel_rfl
theorem TI21 : TI Try.prog 21 = some ((.int .i32 0 : Value), 1, 4) := by kernel_rfl
theorem agB21 : agB Try.prog 21 = some false := by kernel_rfl
theorem SE21 : SE Try.prog 21 = none := by kernel_rfl
theorem AE21 : AE Try.prog 21 = none := by kernel_rfl
theorem MT21 : MT Try.prog 21 = none := by kernel_rfl
theorem UK21 : UK Try.prog 21 = some .i32 := by kernel_rfl
theorem NI21 : isIface Try.prog 21 = false := by kernel_rfl
theorem SP21 : SP Try.prog 21 = none := by kernel_rfl
theorem TI22 : TI Try.prog 22 = some ((.int .i8 0 : Value), 1, 1) := by kernel_rfl
theorem agB22 : agB Try.prog 22 = some false := by kernel_rfl
theorem SE22 : SE Try.prog 22 = none := by kernel_rfl
theorem AE22 : AE Try.prog 22 = none := by kernel_rfl
theorem MT22 : MT Try.prog 22 = none := by kernel_rfl
theorem UK22 : UK Try.prog 22 = some .i8 := by kernel_rfl
theorem NI22 : isIface Try.prog 22 = false := by kernel_rfl
theorem SP22 : SP Try.prog 22 = none := by kernel_rfl
theorem TI23 : TI Try.prog 23 = some ((.nilFunc : Value), 1, 8) := by kernel_rfl
theorem agB23 : agB Try.prog 23 = some false := by kernel_rfl
theorem SE23 : SE Try.prog 23 = none := by kernel_rfl
theorem AE23 : AE Try.prog 23 = none := by kernel_rfl
theorem MT23 : MT Try.prog 23 = none := by kernel_rfl
theorem SP23 : SP Try.prog 23 = none := by kernel_rfl
theorem TI24 : TI Try.prog 24 = some ((.slice none 0 0 : Value), 1, 24) := by kernel_rfl
theorem agB24 : agB Try.prog 24 = some false := by kernel_rfl
theorem SE24 : SE Try.prog 24 = some 27 := by kernel_rfl
theorem AE24 : AE Try.prog 24 = none := by kernel_rfl
theorem MT24 : MT Try.prog 24 = none := by kernel_rfl
theorem NI24 : isIface Try.prog 24 = false := by kernel_rfl
theorem SP24 : SP Try.prog 24 = none := by kernel_rfl
theorem TI25 : TI Try.prog 25 = some ((.nilFunc : Value), 1, 8) := by kernel_rfl
theorem agB25 : agB Try.prog 25 = some false := by kernel_rfl
theorem SE25 : SE Try.prog 25 = none := by kernel_rfl
theorem AE25 : AE Try.prog 25 = none := by kernel_rfl
theorem MT25 : MT Try.prog 25 = none := by kernel_rfl
theorem SP25 : SP Try.prog 25 = none := by kernel_rfl
theorem TI26 : TI Try.prog 26 = some ((.nilFunc : Value), 1, 8) := by kernel_rfl
theorem agB26 : agB Try.prog 26 = some false := by kernel_rfl
theorem SE26 : SE Try.prog 26 = none := by kernel_rfl
theorem AE26 : AE Try.prog 26 = none := by kernel_rfl
theorem MT26 : MT Try.prog 26 = none := by kernel_rfl
theorem SP26 : SP Try.prog 26 = none := by kernel_rfl
theorem TI27 : TI Try.prog 27 = some ((.slice none 0 0 : Value), 1, 24) := by kernel_rfl
theorem agB27 : agB Try.prog 27 = some false := by kernel_rfl
theorem SE27 : SE Try.prog 27 = some 3 := by kernel_rfl
theorem AE27 : AE Try.prog 27 = none := by kernel_rfl
theorem MT27 : MT Try.prog 27 = none := by kernel_rfl
theorem NI27 : isIface Try.prog 27 = false := by kernel_rfl
theorem SP27 : SP Try.prog 27 = none := by kernel_rfl
theorem TI28 : TI Try.prog 28 = some ((.nilFunc : Value), 1, 8) := by kernel_rfl
theorem agB28 : agB Try.prog 28 = some false := by kernel_rfl
theorem SE28 : SE Try.prog 28 = none := by kernel_rfl
theorem AE28 : AE Try.prog 28 = none := by kernel_rfl
theorem MT28 : MT Try.prog 28 = none := by kernel_rfl
theorem SP28 : SP Try.prog 28 = none := by kernel_rfl
theorem TI29 : TI Try.prog 29 = some ((.int .u64 0 : Value), 1, 8) := by kernel_rfl
theorem agB29 : agB Try.prog 29 = some false := by kernel_rfl
theorem SE29 : SE Try.prog 29 = none := by kernel_rfl
theorem AE29 : AE Try.prog 29 = none := by kernel_rfl
theorem MT29 : MT Try.prog 29 = none := by kernel_rfl
theorem UK29 : UK Try.prog 29 = some .u64 := by kernel_rfl
theorem NI29 : isIface Try.prog 29 = false := by kernel_rfl
theorem SP29 : SP Try.prog 29 = none := by kernel_rfl
theorem TI30 : TI Try.prog 30 = some ((.nilFunc : Value), 1, 8) := by kernel_rfl
theorem agB30 : agB Try.prog 30 = some false := by kernel_rfl
theorem SE30 : SE Try.prog 30 = none := by kernel_rfl
theorem AE30 : AE Try.prog 30 = none := by kernel_rfl
theorem MT30 : MT Try.prog 30 = none := by kernel_rfl
theorem SP30 : SP Try.prog 30 = none := by kernel_rfl
theorem TI31 : TI Try.prog 31 = some ((.nilFunc : Value), 1, 8) := by kernel_rfl
theorem agB31 : agB Try.prog 31 = some false := by kernel_rfl
theorem SE31 : SE Try.prog 31 = none := by kernel_rfl
theorem AE31 : AE Try.prog 31 = none := by kernel_rfl
theorem MT31 : MT Try.prog 31 = none := by kernel_rfl
theorem SP31 : SP Try.prog 31 = none := by kernel_rfl
theorem TI32 : TI Try.prog 32 = some ((.nilFunc : Value), 1, 8) := by kernel_rfl
theorem agB32 : agB Try.prog 32 = some false := by kernel_rfl
theorem SE32 : SE Try.prog 32 = none := by kernel_rfl
theorem AE32 : AE Try.prog 32 = none := by kernel_rfl
theorem MT32 : MT Try.prog 32 = none := by kernel_rfl
theorem SP32 : SP Try.prog 32 = none := by kernel_rfl
theorem TI33 : TI Try.prog 33 = some ((.slice none 0 0 : Value), 1, 24) := by kernel_rfl
theorem agB33 : agB Try.prog 33 = some false := by kernel_rfl
theorem SE33 : SE Try.prog 33 = some 58 := by kernel_rfl
theorem AE33 : AE Try.prog 33 = none := by kernel_rfl
theorem MT33 : MT Try.prog 33 = none := by kernel_rfl
theorem NI33 : isIface Try.prog 33 = false := by kernel_rfl
theorem SP33 : SP Try.prog 33 = none := by kernel_rfl
theorem TI34 : TI Try.prog 34 = some ((.slice none 0 0 : Value), 1, 24) := by kernel_rfl
theorem agB34 : agB Try.prog 34 = some false := by kernel_rfl
theorem SE34 : SE Try.prog 34 = some 41 := by kernel_rfl
theorem AE34 : AE Try.prog 34 = none := by kernel_rfl
theorem MT34 : MT Try.prog 34 = none := by kernel_rfl
theorem NI34 : isIface Try.prog 34 = false := by kernel_rfl
theorem SP34 : SP Try.prog 34 = none := by kernel_rfl
theorem TI35 : TI Try.prog 35 = some ((.slice none 0 0 : Value), 1, 24) := by kernel_rfl
theorem agB35 : agB Try.prog 35 = some false := by kernel_rfl
theorem SE35 : SE Try.prog 35 = some 54 := by kernel_rfl
theorem AE35 : AE Try.prog 35 = none := by kernel_rfl
theorem MT35 : MT Try.prog 35 = none := by kernel_rfl
theorem NI35 : isIface Try.prog 35 = false := by kernel_rfl
theorem SP35 : SP Try.prog 35 = none := by kernel_rfl
theorem TI36 : TI Try.prog 36 = some ((.agg #[.int .i64 0, .slice none 0 0, .slice none 0 0, .slice none 0 0, .bool false, .slice none 0 0, .slice none 0 0, .int .i64 0] : Value), 8, 144) := by kernel_rfl
theorem agB36 : agB Try.prog 36 = some true := by kernel_rfl
theorem SE36 : SE Try.prog 36 = none := by kernel_rfl
theorem AE36 : AE Try.prog 36 = none := by kernel_rfl
theorem MT36 : MT Try.prog 36 = none := by kernel_rfl
theorem NI36 : isIface Try.prog 36 = false := by kernel_rfl
theorem FO36_0 : FO Try.prog 36 0 = some (0, 3) := by kernel_rfl
theorem FO36_1 : FO Try.prog 36 1 = some (1, 33) := by kernel_rfl
theorem FO36_2 : FO Try.prog 36 2 = some (2, 34) := by kernel_rfl
theorem FO36_3 : FO Try.prog 36 3 = some (3, 27) := by kernel_rfl
theorem FO36_4 : FO Try.prog 36 4 = some (4, 4) := by kernel_rfl
theorem FO36_5 : FO Try.prog 36 5 = some (5, 35) := by kernel_rfl
theorem FO36_6 : FO Try.prog 36 6 = some (6, 27) := by kernel_rfl
theorem FO36_7 : FO Try.prog 36 7 = some (7, 3) := by kernel_rfl
theorem SP36 : SP Try.prog 36 = some [(0, 1), (1, 1), (2, 1), (3, 1), (4, 1), (5, 1), (6, 1), (7, 1)] := by kernel_rfl
theorem TI37 : TI Try.prog 37 = some ((.agg #[.int .i64 0, .slice none 0 0, .slice none 0 0, .slice none 0 0, .bool false, .slice none 0 0, .slice none 0 0, .int .i64 0] : Value), 8, 144) := by kernel_rfl
theorem agB37 : agB Try.prog 37 = some true := by kernel_rfl
theorem SE37 : SE Try.prog 37 = none := by kernel_rfl
theorem AE37 : AE Try.prog 37 = none := by kernel_rfl
theorem MT37 : MT Try.prog 37 = none := by kernel_rfl
theorem NI37 : isIface Try.prog 37 = false := by kernel_rfl
theorem FO37_0 : FO Try.prog 37 0 = some (0, 3) := by kernel_rfl
theorem FO37_1 : FO Try.prog 37 1 = some (1, 33) := by kernel_rfl
theorem FO37_2 : FO Try.prog 37 2 = some (2, 34) := by kernel_rfl
theorem FO37_3 : FO Try.prog 37 3 = some (3, 27) := by kernel_rfl
theorem FO37_4 : FO Try.prog 37 4 = some (4, 4) := by kernel_rfl
theorem FO37_5 : FO Try.prog 37 5 = some (5, 35) := by kernel_rfl
theorem FO37_6 : FO Try.prog 37 6 = some (6, 27) := by kernel_rfl
theorem FO37_7 : FO Try.prog 37 7 = some (7, 3) := by kernel_rfl
theorem SP37 : SP Try.prog 37 = some [(0, 1), (1, 1), (2, 1), (3, 1), (4, 1), (5, 1), (6, 1), (7, 1)] := by kernel_rfl
theorem TI38 : TI Try.prog 38 = some ((.nilFunc : Value), 1, 8) := by kernel_rfl
theorem agB38 : agB Try.prog 38 = some false := by kernel_rfl
theorem SE38 : SE Try.prog 38 = none := by kernel_rfl
theorem AE38 : AE Try.prog 38 = none := by kernel_rfl
theorem MT38 : MT Try.prog 38 = none := by kernel_rfl
theorem SP38 : SP Try.prog 38 = none := by kernel_rfl
theorem TI39 : TI Try.prog 39 = some ((.nilFunc : Value), 1, 8) := by kernel_rfl
theorem agB39 : agB Try.prog 39 = some false := by kernel_rfl
theorem SE39 : SE Try.prog 39 = none := by kernel_rfl
theorem AE39 : AE Try.prog 39 = none := by kernel_rfl
theorem MT39 : MT Try.prog 39 = none := by kernel_rfl
theorem SP39 : SP Try.prog 39 = none := by kernel_rfl
theorem TI40 : TI Try.prog 40 = some ((.agg #[.int .i64 0, .int .i64 0, .int .i64 0, .slice none 0 0] : Value), 4, 48) := by kernel_rfl
theorem agB40 : agB Try.prog 40 = some true := by kernel_rfl
theorem SE40 : SE Try.prog 40 = none := by kernel_rfl
theorem AE40 : AE Try.prog 40 = none := by kernel_rfl
theorem MT40 : MT Try.prog 40 = none := by kernel_rfl
theorem NI40 : isIface Try.prog 40 = false := by kernel_rfl
theorem FO40_0 : FO Try.prog 40 0 = some (0, 3) := by kernel_rfl
theorem FO40_1 : FO Try.prog 40 1 = some (1, 3) := by kernel_rfl
theorem FO40_2 : FO Try.prog 40 2 = some (2, 3) := by kernel_rfl
theorem FO40_3 : FO Try.prog 40 3 = some (3, 33) := by kernel_rfl
theorem SP40 : SP Try.prog 40 = some [(0, 1), (1, 1), (2, 1), (3, 1)] := by kernel_rfl
theorem TI41 : TI Try.prog 41 = some ((.agg #[.int .i64 0, .int .i64 0, .int .i64 0, .slice none 0 0] : Value), 4, 48) := by kernel_rfl
theorem agB41 : agB Try.prog 41 = some true := by kernel_rfl
theorem SE41 : SE Try.prog 41 = none := by kernel_rfl
theorem AE41 : AE Try.prog 41 = none := by kernel_rfl
theorem MT41 : MT Try.prog 41 = none := by kernel_rfl
theorem NI41 : isIface Try.prog 41 = false := by kernel_rfl
theorem FO41_0 : FO Try.prog 41 0 = some (0, 3) := by kernel_rfl
theorem FO41_1 : FO Try.prog 41 1 = some (1, 3) := by kernel_rfl
theorem FO41_2 : FO Try.prog 41 2 = some (2, 3) := by kernel_rfl
theorem FO41_3 : FO Try.prog 41 3 = some (3, 33) := by kernel_rfl
theorem SP41 : SP Try.prog 41 = some [(0, 1), (1, 1), (2, 1), (3, 1)] := by kernel_rfl
theorem TI42 : TI Try.prog 42 = some ((.nilFunc : Value), 1, 8) := by kernel_rfl
theorem agB42 : agB Try.prog 42 = some false := by kernel_rfl
theorem SE42 : SE Try.prog 42 = none := by kernel_rfl
theorem AE42 : AE Try.prog 42 = none := by kernel_rfl
theorem MT42 : MT Try.prog 42 = none := by kernel_rfl
theorem SP42 : SP Try.prog 42 = none := by kernel_rfl
theorem TI43 : TI Try.prog 43 = some ((.nilFunc : Value), 1, 8) := by kernel_rfl
theorem agB43 : agB Try.prog 43 = some false := by kernel_rfl
theorem SE43 : SE Try.prog 43 = none := by kernel_rfl
theorem AE43 : AE Try.prog 43 = none := by kernel_rfl
theorem MT43 : MT Try.prog 43 = none := by kernel_rfl
theorem SP43 : SP Try.prog 43 = none := by kernel_rfl
theorem TI44 : TI Try.prog 44 = some ((.nilFunc : Value), 1, 8) := by kernel_rfl
theorem agB44 : agB Try.prog 44 = some false := by kernel_rfl
theorem SE44 : SE Try.prog 44 = none := by kernel_rfl
theorem AE44 : AE Try.prog 44 = none := by kernel_rfl
theorem MT44 : MT Try.prog 44 = none := by kernel_rfl
theorem SP44 : SP Try.prog 44 = none := by kernel_rfl
theorem TI45 : TI Try.prog 45 = some ((.nilFunc : Value), 1, 8) := by kernel_rfl
theorem agB45 : agB Try.prog 45 = some false := by kernel_rfl
theorem SE45 : SE Try.prog 45 = none := by kernel_rfl
theorem AE45 : AE Try.prog 45 = none := by kernel_rfl
theorem MT45 : MT Try.prog 45 = none := by kernel_rfl
theorem SP45 : SP Try.prog 45 = none := by kernel_rfl
theorem TI46 : TI Try.prog 46 = some ((.nilFunc : Value), 1, 8) := by kernel_rfl
theorem agB46 : agB Try.prog 46 = some false := by kernel_rfl
theorem SE46 : SE Try.prog 46 = none := by kernel_rfl
theorem AE46 : AE Try.prog 46 = none := by kernel_rfl
theorem MT46 : MT Try.prog 46 = none := by kernel_rfl
theorem SP46 : SP Try.prog 46 = none := by kernel_rfl
theorem TI47 : TI Try.prog 47 = some ((.nilFunc : Value), 1, 8) := by kernel_rfl
theorem agB47 : agB Try.prog 47 = some false := by kernel_rfl
theorem SE47 : SE Try.prog 47 = none := by kernel_rfl
theorem AE47 : AE Try.prog 47 = none := by kernel_rfl
theorem MT47 : MT Try.prog 47 = none := by kernel_rfl
theorem SP47 : SP Try.prog 47 = none := by kernel_rfl
theorem TI49 : TI Try.prog 49 = some ((.nilFunc : Value), 1, 8) := by kernel_rfl
theorem agB49 : agB Try.prog 49 = some false := by kernel_rfl
theorem SE49 : SE Try.prog 49 = none := by kernel_rfl
theorem AE49 : AE Try.prog 49 = none := by kernel_rfl
theorem MT49 : MT Try.prog 49 = none := by kernel_rfl
theorem SP49 : SP Try.prog 49 = none := by kernel_rfl
theorem TI50 : TI Try.prog 50 = some ((.nilFunc : Value), 1, 8) := by kernel_rfl
theorem agB50 : agB Try.prog 50 = some false := by kernel_rfl
theorem SE50 : SE Try.prog 50 = none := by kernel_rfl
theorem AE50 : AE Try.prog 50 = none := by kernel_rfl
theorem MT50 : MT Try.prog 50 = none := by kernel_rfl
theorem SP50 : SP Try.prog 50 = none := by kernel_rfl
theorem TI51 : TI Try.prog 51 = some ((.map none : Value), 1, 8) := by kernel_rfl
theorem agB51 : agB Try.prog 51 = some false := by kernel_rfl
theorem SE51 : SE Try.prog 51 = none := by kernel_rfl
theorem AE51 : AE Try.prog 51 = none := by kernel_rfl
theorem MT51 : MT Try.prog 51 = some (.i64, 3, 4) := by kernel_rfl
theorem SP51 : SP Try.prog 51 = none := by kernel_rfl
theorem TI52 : TI Try.prog 52 = some ((.nilFunc : Value), 1, 8) := by kernel_rfl
theorem agB52 : agB Try.prog 52 = some false := by kernel_rfl
theorem SE52 : SE Try.prog 52 = none := by kernel_rfl
theorem AE52 : AE Try.prog 52 = none := by kernel_rfl
theorem MT52 : MT Try.prog 52 = none := by kernel_rfl
theorem SP52 : SP Try.prog 52 = none := by kernel_rfl
theorem TI53 : TI Try.prog 53 = some ((.agg #[.int .i64 0, .int .i64 0] : Value), 2, 16) := by kernel_rfl
theorem agB53 : agB Try.prog 53 = some true := by kernel_rfl
theorem SE53 : SE Try.prog 53 = none := by kernel_rfl
theorem AE53 : AE Try.prog 53 = none := by kernel_rfl
theorem MT53 : MT Try.prog 53 = none := by kernel_rfl
theorem NI53 : isIface Try.prog 53 = false := by kernel_rfl
theorem FO53_0 : FO Try.prog 53 0 = some (0, 3) := by kernel_rfl
theorem FO53_1 : FO Try.prog 53 1 = some (1, 3) := by kernel_rfl
theorem SP53 : SP Try.prog 53 = some [(0, 1), (1, 1)] := by kernel_rfl
theorem TI54 : TI Try.prog 54 = some ((.agg #[.int .i64 0, .int .i64 0] : Value), 2, 16) := by kernel_rfl
theorem agB54 : agB Try.prog 54 = some true := by kernel_rfl
theorem SE54 : SE Try.prog 54 = none := by kernel_rfl
theorem AE54 : AE Try.prog 54 = none := by kernel_rfl
theorem MT54 : MT Try.prog 54 = none := by kernel_rfl
theorem NI54 : isIface Try.prog 54 = false := by kernel_rfl
theorem FO54_0 : FO Try.prog 54 0 = some (0, 3) := by kernel_rfl
theorem FO54_1 : FO Try.prog 54 1 = some (1, 3) := by kernel_rfl
theorem SP54 : SP Try.prog 54 = some [(0, 1), (1, 1)] := by kernel_rfl
theorem TI55 : TI Try.prog 55 = some ((.agg #[.int .i64 0, .int .i64 0, .string ⟨#[]⟩] : Value), 3, 32) := by kernel_rfl
theorem agB55 : agB Try.prog 55 = some true := by kernel_rfl
theorem SE55 : SE Try.prog 55 = none := by kernel_rfl
theorem AE55 : AE Try.prog 55 = none := by kernel_rfl
theorem MT55 : MT Try.prog 55 = none := by kernel_rfl
theorem NI55 : isIface Try.prog 55 = false := by kernel_rfl
theorem FO55_0 : FO Try.prog 55 0 = some (0, 3) := by kernel_rfl
theorem FO55_1 : FO Try.prog 55 1 = some (1, 2) := by kernel_rfl
theorem FO55_2 : FO Try.prog 55 2 = some (2, 9) := by kernel_rfl
theorem SP55 : SP Try.prog 55 = some [(0, 1), (1, 1), (2, 1)] := by kernel_rfl
theorem TI56 : TI Try.prog 56 = some ((.agg #[.int .i64 0, .int .i64 0, .string ⟨#[]⟩] : Value), 3, 32) := by kernel_rfl
theorem agB56 : agB Try.prog 56 = some true := by kernel_rfl
theorem SE56 : SE Try.prog 56 = none := by kernel_rfl
theorem AE56 : AE Try.prog 56 = none := by kernel_rfl
theorem MT56 : MT Try.prog 56 = none := by kernel_rfl
theorem NI56 : isIface Try.prog 56 = false := by kernel_rfl
theorem FO56_0 : FO Try.prog 56 0 = some (0, 3) := by kernel_rfl
theorem FO56_1 : FO Try.prog 56 1 = some (1, 2) := by kernel_rfl
theorem FO56_2 : FO Try.prog 56 2 = some (2, 9) := by kernel_rfl
theorem SP56 : SP Try.prog 56 = some [(0, 1), (1, 1), (2, 1)] := by kernel_rfl
theorem TI57 : TI Try.prog 57 = some ((.agg #[.int .i64 0, .int .i64 0, .int .i64 0, .int .i64 0, .string ⟨#[]⟩] : Value), 5, 48) := by kernel_rfl
theorem agB57 : agB Try.prog 57 = some true := by kernel_rfl
theorem SE57 : SE Try.prog 57 = none := by kernel_rfl
theorem AE57 : AE Try.prog 57 = none := by kernel_rfl
theorem MT57 : MT Try.prog 57 = none := by kernel_rfl
theorem NI57 : isIface Try.prog 57 = false := by kernel_rfl
theorem FO57_0 : FO Try.prog 57 0 = some (0, 3) := by kernel_rfl
theorem FO57_1 : FO Try.prog 57 1 = some (1, 3) := by kernel_rfl
theorem FO57_2 : FO Try.prog 57 2 = some (2, 56) := by kernel_rfl
theorem SP57 : SP Try.prog 57 = some [(0, 1), (1, 1), (2, 3)] := by kernel_rfl
theorem TI58 : TI Try.prog 58 = some ((.agg #[.int .i64 0, .int .i64 0, .int .i64 0, .int .i64 0, .string ⟨#[]⟩] : Value), 5, 48) := by kernel_rfl
theorem agB58 : agB Try.prog 58 = some true := by kernel_rfl
theorem SE58 : SE Try.prog 58 = none := by kernel_rfl
theorem AE58 : AE Try.prog 58 = none := by kernel_rfl
theorem MT58 : MT Try.prog 58 = none := by kernel_rfl
theorem NI58 : isIface Try.prog 58 = false := by kernel_rfl
theorem FO58_0 : FO Try.prog 58 0 = some (0, 3) := by kernel_rfl
theorem FO58_1 : FO Try.prog 58 1 = some (1, 3) := by kernel_rfl
theorem FO58_2 : FO Try.prog 58 2 = some (2, 56) := by kernel_rfl
theorem SP58 : SP Try.prog 58 = some [(0, 1), (1, 1), (2, 3)] := by kernel_rfl
theorem TI59 : TI Try.prog 59 = some ((.nilFunc : Value), 1, 8) := by kernel_rfl
theorem agB59 : agB Try.prog 59 = some false := by kernel_rfl
theorem SE59 : SE Try.prog 59 = none := by kernel_rfl
theorem AE59 : AE Try.prog 59 = none := by kernel_rfl
theorem MT59 : MT Try.prog 59 = none := by kernel_rfl
theorem SP59 : SP Try.prog 59 = none := by kernel_rfl
theorem TI60 : TI Try.prog 60 = some ((.int .u64 0 : Value), 1, 8) := by kernel_rfl
theorem agB60 : agB Try.prog 60 = some false := by kernel_rfl
theorem SE60 : SE Try.prog 60 = none := by kernel_rfl
theorem AE60 : AE Try.prog 60 = none := by kernel_rfl
theorem MT60 : MT Try.prog 60 = none := by kernel_rfl
theorem UK60 : UK Try.prog 60 = some .u64 := by kernel_rfl
theorem NI60 : isIface Try.prog 60 = false := by kernel_rfl
theorem SP60 : SP Try.prog 60 = none := by kernel_rfl
theorem TI61 : TI Try.prog 61 = some ((.nilFunc : Value), 1, 8) := by kernel_rfl
theorem agB61 : agB Try.prog 61 = some false := by kernel_rfl
theorem SE61 : SE Try.prog 61 = none := by kernel_rfl
theorem AE61 : AE Try.prog 61 = none := by kernel_rfl
theorem MT61 : MT Try.prog 61 = none := by kernel_rfl
theorem SP61 : SP Try.prog 61 = none := by kernel_rfl
theorem TI67 : TI Try.prog 67 = some ((.nilFunc : Value), 1, 8) := by kernel_rfl
theorem agB67 : agB Try.prog 67 = some false := by kernel_rfl
theorem SE67 : SE Try.prog 67 = none := by kernel_rfl
theorem AE67 : AE Try.prog 67 = none := by kernel_rfl
theorem MT67 : MT Try.prog 67 = none := by kernel_rfl
theorem SP67 : SP Try.prog 67 = none := by kernel_rfl
theorem TI68 : TI Try.prog 68 = some ((.int .u32 0 : Value), 1, 4) := by kernel_rfl
theorem agB68 : agB Try.prog 68 = some false := by kernel_rfl
theorem SE68 : SE Try.prog 68 = none := by kernel_rfl
theorem AE68 : AE Try.prog 68 = none := by kernel_rfl
theorem MT68 : MT Try.prog 68 = none := by kernel_rfl
theorem UK68 : UK Try.prog 68 = some .u32 := by kernel_rfl
theorem NI68 : isIface Try.prog 68 = false := by kernel_rfl
theorem SP68 : SP Try.prog 68 = none := by kernel_rfl
theorem mixed : Try.prog.follows .mixedOrders = true := by kernel_rfl
attribute [go_sem] TI1 agB1 SE1 AE1 MT1 SP1 TI2 agB2 SE2 AE2 MT2 UK2 NI2 SP2 TI3 agB3 SE3 AE3 MT3 UK3 NI3 SP3 TI4 agB4 SE4 AE4 MT4 UB4 NI4 SP4 TI5 agB5 SE5 AE5 MT5 UK5 NI5 SP5 TI9 agB9 SE9 AE9 MT9 US9 NI9 SP9 TI12 agB12 SE12 AE12 MT12 UK12 NI12 SP12 TI21 agB21 SE21 AE21 MT21 UK21 NI21 SP21 TI22 agB22 SE22 AE22 MT22 UK22 NI22 SP22 TI23 agB23 SE23 AE23 MT23 SP23 TI24 agB24 SE24 AE24 MT24 NI24 SP24 TI25 agB25 SE25 AE25 MT25 SP25 TI26 agB26 SE26 AE26 MT26 SP26 TI27 agB27 SE27 AE27 MT27 NI27 SP27 TI28 agB28 SE28 AE28 MT28 SP28 TI29 agB29 SE29 AE29 MT29 UK29 NI29 SP29 TI30 agB30 SE30 AE30 MT30 SP30 TI31 agB31 SE31 AE31 MT31 SP31 TI32 agB32 SE32 AE32 MT32 SP32 TI33 agB33 SE33 AE33 MT33 NI33 SP33 TI34 agB34 SE34 AE34 MT34 NI34 SP34 TI35 agB35 SE35 AE35 MT35 NI35 SP35 TI36 agB36 SE36 AE36 MT36 NI36 FO36_0 FO36_1 FO36_2 FO36_3 FO36_4 FO36_5 FO36_6 FO36_7 SP36 TI37 agB37 SE37 AE37 MT37 NI37 FO37_0 FO37_1 FO37_2 FO37_3 FO37_4 FO37_5 FO37_6 FO37_7 SP37 TI38 agB38 SE38 AE38 MT38 SP38 TI39 agB39 SE39 AE39 MT39 SP39 TI40 agB40 SE40 AE40 MT40 NI40 FO40_0 FO40_1 FO40_2 FO40_3 SP40 TI41 agB41 SE41 AE41 MT41 NI41 FO41_0 FO41_1 FO41_2 FO41_3 SP41 TI42 agB42 SE42 AE42 MT42 SP42 TI43 agB43 SE43 AE43 MT43 SP43 TI44 agB44 SE44 AE44 MT44 SP44 TI45 agB45 SE45 AE45 MT45 SP45 TI46 agB46 SE46 AE46 MT46 SP46 TI47 agB47 SE47 AE47 MT47 SP47 TI49 agB49 SE49 AE49 MT49 SP49 TI50 agB50 SE50 AE50 MT50 SP50 TI51 agB51 SE51 AE51 MT51 SP51 TI52 agB52 SE52 AE52 MT52 SP52 TI53 agB53 SE53 AE53 MT53 NI53 FO53_0 FO53_1 SP53 TI54 agB54 SE54 AE54 MT54 NI54 FO54_0 FO54_1 SP54 TI55 agB55 SE55 AE55 MT55 NI55 FO55_0 FO55_1 FO55_2 SP55 TI56 agB56 SE56 AE56 MT56 NI56 FO56_0 FO56_1 FO56_2 SP56 TI57 agB57 SE57 AE57 MT57 NI57 FO57_0 FO57_1 FO57_2 SP57 TI58 agB58 SE58 AE58 MT58 NI58 FO58_0 FO58_1 FO58_2 SP58 TI59 agB59 SE59 AE59 MT59 SP59 TI60 agB60 SE60 AE60 MT60 UK60 NI60 SP60 TI61 agB61 SE61 AE61 MT61 SP61 TI67 agB67 SE67 AE67 MT67 SP67 TI68 agB68 SE68 AE68 MT68 UK68 NI68 SP68 mixed
end Go.Proofs.Ytfjdggcemfebpaa.K
