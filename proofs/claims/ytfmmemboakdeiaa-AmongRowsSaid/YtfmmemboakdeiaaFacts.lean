/- What the program says of its types. Printed by a small program of this session. -/
import Derived.Test.YtfmmemboakdeiaaAw9
import Derived.Test.YtfmmemboakdeiaaProg
import Derived.KernelRfl
namespace Go.Proofs.Ytfmmemboakdeiaa.K
open Go.Proofs.YtfmmemboakdeiaaAw
theorem TI1 : TI Try.prog 1 = some ((.nilFunc : Value), 1, 8) := by kernel_rfl
theorem agB1 : agB Try.prog 1 = some false := by kernel_rfl
theorem SE1 : SE Try.prog 1 = none := by kernel_rfl
theorem AE1 : AE Try.prog 1 = none := by kernel_rfl
theorem MT1 : MT Try.prog 1 = none := by kernel_rfl
theorem SP1 : SP Try.prog 1 = none := by kernel_rfl
theorem TI2 : TI Try.prog 2 = some ((.int .i64 0 : Value), 1, 8) := by kernel_rfl
theorem agB2 : agB Try.prog 2 = some false := by kernel_rfl
theorem SE2 : SE Try.prog 2 = none := by kernel_rfl
theorem AE2 : AE Try.prog 2 = none := by kernel_rfl
theorem MT2 : MT Try.prog 2 = none := by kernel_rfl
theorem UK2 : UK Try.prog 2 = some .i64 := by kernel_rfl
theorem NI2 : isIface Try.prog 2 = false := by kernel_rfl
theorem SP2 : SP Try.prog 2 = none := by kernel_rfl
theorem TI3 : TI Try.prog 3 = some ((.int .i64 0 : Value), 1, 8) := by kernel_rfl
theorem agB3 : agB Try.prog 3 = some false := by kernel_rfl
theorem SE3 : SE Try.prog 3 = none := by kernel_rfl
theorem AE3 : AE Try.prog 3 = none := by kernel_rfl
theorem MT3 : MT Try.prog 3 = none := by kernel_rfl
theorem UK3 : UK Try.prog 3 = some .i64 := by kernel_rfl
theorem NI3 : isIface Try.prog 3 = false := by kernel_rfl
theorem SP3 : SP Try.prog 3 = none := by kernel_rfl
theorem TI4 : TI Try.prog 4 = some ((.bool false : Value), 1, 1) := by kernel_rfl
theorem agB4 : agB Try.prog 4 = some false := by kernel_rfl
theorem SE4 : SE Try.prog 4 = none := by kernel_rfl
theorem AE4 : AE Try.prog 4 = none := by kernel_rfl
theorem MT4 : MT Try.prog 4 = none := by kernel_rfl
theorem UB4 : Try.prog.underlying 4 = some .bool := by kernel_rfl
theorem NI4 : isIface Try.prog 4 = false := by kernel_rfl
theorem SP4 : SP Try.prog 4 = none := by kernel_rfl
theorem TI5 : TI Try.prog 5 = some ((.int .u8 0 : Value), 1, 1) := by kernel_rfl
theorem agB5 : agB Try.prog 5 = some false := by kernel_rfl
theorem SE5 : SE Try.prog 5 = none := by kernel_rfl
theorem AE5 : AE Try.prog 5 = none := by kernel_rfl
theorem MT5 : MT Try.prog 5 = none := by kernel_rfl
theorem UK5 : UK Try.prog 5 = some .u8 := by kernel_rfl
theorem NI5 : isIface Try.prog 5 = false := by kernel_rfl
theorem SP5 : SP Try.prog 5 = none := by kernel_rfl
theorem TI9 : TI Try.prog 9 = some ((.string ⟨#[]⟩ : Value), 1, 16) := by kernel_rfl
theorem agB9 : agB Try.prog 9 = some false := by kernel_rfl
theorem SE9 : SE Try.prog 9 = none := by kernel_rfl
theorem AE9 : AE Try.prog 9 = none := by kernel_rfl
theorem MT9 : MT Try.prog 9 = none := by kernel_rfl
theorem US9 : Try.prog.underlying 9 = some .string := by kernel_rfl
theorem NI9 : isIface Try.prog 9 = false := by kernel_rfl
theorem SP9 : SP Try.prog 9 = none := by kernel_rfl
theorem TI12 : TI Try.prog 12 = some ((.int .u64 0 : Value), 1, 8) := by kernel_rfl
theorem agB12 : agB Try.prog 12 = some false := by kernel_rfl
theorem SE12 : SE Try.prog 12 = none := by kernel_rfl
theorem AE12 : AE Try.prog 12 = none := by kernel_rfl
theorem MT12 : MT Try.prog 12 = none := by kernel_rfl
theorem UK12 : UK Try.prog 12 = some .u64 := by kernel_rfl
theorem NI12 : isIface Try.prog 12 = false := by kernel_rfl
theorem SP12 : SP Try.prog 12 = none := by kernel_rfl
theorem TI21 : TI Try.prog 21 = some ((.int .i32 0 : Value), 1, 4) := by kernel_rfl
theorem agB21 : agB Try.prog 21 = some false := by kernel_rfl
theorem SE21 : SE Try.prog 21 = none := by kernel_rfl
theorem AE21 : AE Try.prog 21 = none := by kernel_rfl
theorem MT21 : MT Try.prog 21 = none := by kernel_rfl
theorem UK21 : UK Try.prog 21 = some .i32 := by kernel_rfl
theorem NI21 : isIface Try.prog 21 = false := by kernel_rfl
theorem SP21 : SP Try.prog 21 = none := by kernel_rfl
theorem TI22 : TI Try.prog 22 = some ((.slice none 0 0 : Value), 1, 24) := by kernel_rfl
theorem agB22 : agB Try.prog 22 = some false := by kernel_rfl
theorem SE22 : SE Try.prog 22 = some 2 := by kernel_rfl
theorem AE22 : AE Try.prog 22 = none := by kernel_rfl
theorem MT22 : MT Try.prog 22 = none := by kernel_rfl
theorem NI22 : isIface Try.prog 22 = false := by kernel_rfl
theorem SP22 : SP Try.prog 22 = none := by kernel_rfl
theorem TI23 : TI Try.prog 23 = some ((.nilFunc : Value), 1, 8) := by kernel_rfl
theorem agB23 : agB Try.prog 23 = some false := by kernel_rfl
theorem SE23 : SE Try.prog 23 = none := by kernel_rfl
theorem AE23 : AE Try.prog 23 = none := by kernel_rfl
theorem MT23 : MT Try.prog 23 = none := by kernel_rfl
theorem SP23 : SP Try.prog 23 = none := by kernel_rfl
theorem TI24 : TI Try.prog 24 = some ((.slice none 0 0 : Value), 1, 24) := by kernel_rfl
theorem agB24 : agB Try.prog 24 = some false := by kernel_rfl
theorem SE24 : SE Try.prog 24 = some 28 := by kernel_rfl
theorem AE24 : AE Try.prog 24 = none := by kernel_rfl
theorem MT24 : MT Try.prog 24 = none := by kernel_rfl
theorem NI24 : isIface Try.prog 24 = false := by kernel_rfl
theorem SP24 : SP Try.prog 24 = none := by kernel_rfl
theorem TI25 : TI Try.prog 25 = some ((.agg #[.int .i64 0, .int .i64 0, .string ⟨#[]⟩] : Value), 3, 32) := by kernel_rfl
theorem agB25 : agB Try.prog 25 = some true := by kernel_rfl
theorem SE25 : SE Try.prog 25 = none := by kernel_rfl
theorem AE25 : AE Try.prog 25 = none := by kernel_rfl
theorem MT25 : MT Try.prog 25 = none := by kernel_rfl
theorem NI25 : isIface Try.prog 25 = false := by kernel_rfl
theorem FO25_0 : FO Try.prog 25 0 = some (0, 3) := by kernel_rfl
theorem FO25_1 : FO Try.prog 25 1 = some (1, 2) := by kernel_rfl
theorem FO25_2 : FO Try.prog 25 2 = some (2, 9) := by kernel_rfl
theorem SP25 : SP Try.prog 25 = some [(0, 1), (1, 1), (2, 1)] := by kernel_rfl
theorem TI26 : TI Try.prog 26 = some ((.agg #[.int .i64 0, .int .i64 0, .string ⟨#[]⟩] : Value), 3, 32) := by kernel_rfl
theorem agB26 : agB Try.prog 26 = some true := by kernel_rfl
theorem SE26 : SE Try.prog 26 = none := by kernel_rfl
theorem AE26 : AE Try.prog 26 = none := by kernel_rfl
theorem MT26 : MT Try.prog 26 = none := by kernel_rfl
theorem NI26 : isIface Try.prog 26 = false := by kernel_rfl
theorem FO26_0 : FO Try.prog 26 0 = some (0, 3) := by kernel_rfl
theorem FO26_1 : FO Try.prog 26 1 = some (1, 2) := by kernel_rfl
theorem FO26_2 : FO Try.prog 26 2 = some (2, 9) := by kernel_rfl
theorem SP26 : SP Try.prog 26 = some [(0, 1), (1, 1), (2, 1)] := by kernel_rfl
theorem TI27 : TI Try.prog 27 = some ((.nilFunc : Value), 1, 8) := by kernel_rfl
theorem agB27 : agB Try.prog 27 = some false := by kernel_rfl
theorem SE27 : SE Try.prog 27 = none := by kernel_rfl
theorem AE27 : AE Try.prog 27 = none := by kernel_rfl
theorem MT27 : MT Try.prog 27 = none := by kernel_rfl
theorem SP27 : SP Try.prog 27 = none := by kernel_rfl
theorem TI28 : TI Try.prog 28 = some ((.slice none 0 0 : Value), 1, 24) := by kernel_rfl
theorem agB28 : agB Try.prog 28 = some false := by kernel_rfl
theorem SE28 : SE Try.prog 28 = some 26 := by kernel_rfl
theorem AE28 : AE Try.prog 28 = none := by kernel_rfl
theorem MT28 : MT Try.prog 28 = none := by kernel_rfl
theorem NI28 : isIface Try.prog 28 = false := by kernel_rfl
theorem SP28 : SP Try.prog 28 = none := by kernel_rfl
theorem TI29 : TI Try.prog 29 = some ((.nilFunc : Value), 1, 8) := by kernel_rfl
theorem agB29 : agB Try.prog 29 = some false := by kernel_rfl
theorem SE29 : SE Try.prog 29 = none := by kernel_rfl
theorem AE29 : AE Try.prog 29 = none := by kernel_rfl
theorem MT29 : MT Try.prog 29 = none := by kernel_rfl
theorem SP29 : SP Try.prog 29 = none := by kernel_rfl
theorem TI30 : TI Try.prog 30 = some ((.slice none 0 0 : Value), 1, 24) := by kernel_rfl
theorem agB30 : agB Try.prog 30 = some false := by kernel_rfl
theorem SE30 : SE Try.prog 30 = some 33 := by kernel_rfl
theorem AE30 : AE Try.prog 30 = none := by kernel_rfl
theorem MT30 : MT Try.prog 30 = none := by kernel_rfl
theorem NI30 : isIface Try.prog 30 = false := by kernel_rfl
theorem SP30 : SP Try.prog 30 = none := by kernel_rfl
theorem TI32 : TI Try.prog 32 = some ((.nilFunc : Value), 1, 8) := by kernel_rfl
theorem agB32 : agB Try.prog 32 = some false := by kernel_rfl
theorem SE32 : SE Try.prog 32 = none := by kernel_rfl
theorem AE32 : AE Try.prog 32 = none := by kernel_rfl
theorem MT32 : MT Try.prog 32 = none := by kernel_rfl
theorem SP32 : SP Try.prog 32 = none := by kernel_rfl
theorem TI33 : TI Try.prog 33 = some ((.agg #[.int .i64 0, .int .i64 0] : Value), 2, 16) := by kernel_rfl
theorem agB33 : agB Try.prog 33 = some true := by kernel_rfl
theorem SE33 : SE Try.prog 33 = none := by kernel_rfl
theorem AE33 : AE Try.prog 33 = some (2, 2) := by kernel_rfl
theorem MT33 : MT Try.prog 33 = none := by kernel_rfl
theorem NI33 : isIface Try.prog 33 = false := by kernel_rfl
theorem SP33 : SP Try.prog 33 = none := by kernel_rfl
theorem TI34 : TI Try.prog 34 = some ((.nilFunc : Value), 1, 8) := by kernel_rfl
theorem agB34 : agB Try.prog 34 = some false := by kernel_rfl
theorem SE34 : SE Try.prog 34 = none := by kernel_rfl
theorem AE34 : AE Try.prog 34 = none := by kernel_rfl
theorem MT34 : MT Try.prog 34 = none := by kernel_rfl
theorem SP34 : SP Try.prog 34 = none := by kernel_rfl
theorem TI35 : TI Try.prog 35 = some ((.nilFunc : Value), 1, 8) := by kernel_rfl
theorem agB35 : agB Try.prog 35 = some false := by kernel_rfl
theorem SE35 : SE Try.prog 35 = none := by kernel_rfl
theorem AE35 : AE Try.prog 35 = none := by kernel_rfl
theorem MT35 : MT Try.prog 35 = none := by kernel_rfl
theorem SP35 : SP Try.prog 35 = none := by kernel_rfl
theorem TI36 : TI Try.prog 36 = some ((.slice none 0 0 : Value), 1, 24) := by kernel_rfl
theorem agB36 : agB Try.prog 36 = some false := by kernel_rfl
theorem SE36 : SE Try.prog 36 = some 64 := by kernel_rfl
theorem AE36 : AE Try.prog 36 = none := by kernel_rfl
theorem MT36 : MT Try.prog 36 = none := by kernel_rfl
theorem NI36 : isIface Try.prog 36 = false := by kernel_rfl
theorem SP36 : SP Try.prog 36 = none := by kernel_rfl
theorem TI37 : TI Try.prog 37 = some ((.nilFunc : Value), 1, 8) := by kernel_rfl
theorem agB37 : agB Try.prog 37 = some false := by kernel_rfl
theorem SE37 : SE Try.prog 37 = none := by kernel_rfl
theorem AE37 : AE Try.prog 37 = none := by kernel_rfl
theorem MT37 : MT Try.prog 37 = none := by kernel_rfl
theorem SP37 : SP Try.prog 37 = none := by kernel_rfl
theorem TI38 : TI Try.prog 38 = some ((.nilFunc : Value), 1, 8) := by kernel_rfl
theorem agB38 : agB Try.prog 38 = some false := by kernel_rfl
theorem SE38 : SE Try.prog 38 = none := by kernel_rfl
theorem AE38 : AE Try.prog 38 = none := by kernel_rfl
theorem MT38 : MT Try.prog 38 = none := by kernel_rfl
theorem SP38 : SP Try.prog 38 = none := by kernel_rfl
theorem TI39 : TI Try.prog 39 = some ((.nilFunc : Value), 1, 8) := by kernel_rfl
theorem agB39 : agB Try.prog 39 = some false := by kernel_rfl
theorem SE39 : SE Try.prog 39 = none := by kernel_rfl
theorem AE39 : AE Try.prog 39 = none := by kernel_rfl
theorem MT39 : MT Try.prog 39 = none := by kernel_rfl
theorem SP39 : SP Try.prog 39 = none := by kernel_rfl
theorem TI40 : TI Try.prog 40 = some ((.nilFunc : Value), 1, 8) := by kernel_rfl
theorem agB40 : agB Try.prog 40 = some false := by kernel_rfl
theorem SE40 : SE Try.prog 40 = none := by kernel_rfl
theorem AE40 : AE Try.prog 40 = none := by kernel_rfl
theorem MT40 : MT Try.prog 40 = none := by kernel_rfl
theorem SP40 : SP Try.prog 40 = none := by kernel_rfl
theorem TI41 : TI Try.prog 41 = some ((.nilFunc : Value), 1, 8) := by kernel_rfl
theorem agB41 : agB Try.prog 41 = some false := by kernel_rfl
theorem SE41 : SE Try.prog 41 = none := by kernel_rfl
theorem AE41 : AE Try.prog 41 = none := by kernel_rfl
theorem MT41 : MT Try.prog 41 = none := by kernel_rfl
theorem SP41 : SP Try.prog 41 = none := by kernel_rfl
theorem TI42 : TI Try.prog 42 = some ((.nilFunc : Value), 1, 8) := by kernel_rfl
theorem agB42 : agB Try.prog 42 = some false := by kernel_rfl
theorem SE42 : SE Try.prog 42 = none := by kernel_rfl
theorem AE42 : AE Try.prog 42 = none := by kernel_rfl
theorem MT42 : MT Try.prog 42 = none := by kernel_rfl
theorem SP42 : SP Try.prog 42 = none := by kernel_rfl
theorem TI43 : TI Try.prog 43 = some ((.nilFunc : Value), 1, 8) := by kernel_rfl
theorem agB43 : agB Try.prog 43 = some false := by kernel_rfl
theorem SE43 : SE Try.prog 43 = none := by kernel_rfl
theorem AE43 : AE Try.prog 43 = none := by kernel_rfl
theorem MT43 : MT Try.prog 43 = none := by kernel_rfl
theorem SP43 : SP Try.prog 43 = none := by kernel_rfl
theorem TI44 : TI Try.prog 44 = some ((.nilFunc : Value), 1, 8) := by kernel_rfl
theorem agB44 : agB Try.prog 44 = some false := by kernel_rfl
theorem SE44 : SE Try.prog 44 = none := by kernel_rfl
theorem AE44 : AE Try.prog 44 = none := by kernel_rfl
theorem MT44 : MT Try.prog 44 = none := by kernel_rfl
theorem SP44 : SP Try.prog 44 = none := by kernel_rfl
theorem TI45 : TI Try.prog 45 = some ((.nilFunc : Value), 1, 8) := by kernel_rfl
theorem agB45 : agB Try.prog 45 = some false := by kernel_rfl
theorem SE45 : SE Try.prog 45 = none := by kernel_rfl
theorem AE45 : AE Try.prog 45 = none := by kernel_rfl
theorem MT45 : MT Try.prog 45 = none := by kernel_rfl
theorem SP45 : SP Try.prog 45 = none := by kernel_rfl
theorem TI46 : TI Try.prog 46 = some ((.nilFunc : Value), 1, 8) := by kernel_rfl
theorem agB46 : agB Try.prog 46 = some false := by kernel_rfl
theorem SE46 : SE Try.prog 46 = none := by kernel_rfl
theorem AE46 : AE Try.prog 46 = none := by kernel_rfl
theorem MT46 : MT Try.prog 46 = none := by kernel_rfl
theorem SP46 : SP Try.prog 46 = none := by kernel_rfl
theorem TI47 : TI Try.prog 47 = some ((.nilFunc : Value), 1, 8) := by kernel_rfl
theorem agB47 : agB Try.prog 47 = some false := by kernel_rfl
theorem SE47 : SE Try.prog 47 = none := by kernel_rfl
theorem AE47 : AE Try.prog 47 = none := by kernel_rfl
theorem MT47 : MT Try.prog 47 = none := by kernel_rfl
theorem SP47 : SP Try.prog 47 = none := by kernel_rfl
theorem TI48 : TI Try.prog 48 = some ((.nilFunc : Value), 1, 8) := by kernel_rfl
theorem agB48 : agB Try.prog 48 = some false := by kernel_rfl
theorem SE48 : SE Try.prog 48 = none := by kernel_rfl
theorem AE48 : AE Try.prog 48 = none := by kernel_rfl
theorem MT48 : MT Try.prog 48 = none := by kernel_rfl
theorem SP48 : SP Try.prog 48 = none := by kernel_rfl
theorem TI49 : TI Try.prog 49 = some ((.nilFunc : Value), 1, 8) := by kernel_rfl
theorem agB49 : agB Try.prog 49 = some false := by kernel_rfl
theorem SE49 : SE Try.prog 49 = none := by kernel_rfl
theorem AE49 : AE Try.prog 49 = none := by kernel_rfl
theorem MT49 : MT Try.prog 49 = none := by kernel_rfl
theorem SP49 : SP Try.prog 49 = none := by kernel_rfl
theorem TI50 : TI Try.prog 50 = some ((.nilFunc : Value), 1, 8) := by kernel_rfl
theorem agB50 : agB Try.prog 50 = some false := by kernel_rfl
theorem SE50 : SE Try.prog 50 = none := by kernel_rfl
theorem AE50 : AE Try.prog 50 = none := by kernel_rfl
theorem MT50 : MT Try.prog 50 = none := by kernel_rfl
theorem SP50 : SP Try.prog 50 = none := by kernel_rfl
theorem TI51 : TI Try.prog 51 = some ((.nilFunc : Value), 1, 8) := by kernel_rfl
theorem agB51 : agB Try.prog 51 = some false := by kernel_rfl
theorem SE51 : SE Try.prog 51 = none := by kernel_rfl
theorem AE51 : AE Try.prog 51 = none := by kernel_rfl
theorem MT51 : MT Try.prog 51 = none := by kernel_rfl
theorem SP51 : SP Try.prog 51 = none := by kernel_rfl
theorem TI52 : TI Try.prog 52 = some ((.nilFunc : Value), 1, 8) := by kernel_rfl
theorem agB52 : agB Try.prog 52 = some false := by kernel_rfl
theorem SE52 : SE Try.prog 52 = none := by kernel_rfl
theorem AE52 : AE Try.prog 52 = none := by kernel_rfl
theorem MT52 : MT Try.prog 52 = none := by kernel_rfl
theorem SP52 : SP Try.prog 52 = none := by kernel_rfl
theorem TI53 : TI Try.prog 53 = some ((.nilFunc : Value), 1, 8) := by kernel_rfl
theorem agB53 : agB Try.prog 53 = some false := by kernel_rfl
theorem SE53 : SE Try.prog 53 = none := by kernel_rfl
theorem AE53 : AE Try.prog 53 = none := by kernel_rfl
theorem MT53 : MT Try.prog 53 = none := by kernel_rfl
theorem SP53 : SP Try.prog 53 = none := by kernel_rfl
theorem TI54 : TI Try.prog 54 = some ((.nilFunc : Value), 1, 8) := by kernel_rfl
theorem agB54 : agB Try.prog 54 = some false := by kernel_rfl
theorem SE54 : SE Try.prog 54 = none := by kernel_rfl
theorem AE54 : AE Try.prog 54 = none := by kernel_rfl
theorem MT54 : MT Try.prog 54 = none := by kernel_rfl
theorem SP54 : SP Try.prog 54 = none := by kernel_rfl
theorem TI55 : TI Try.prog 55 = some ((.nilFunc : Value), 1, 8) := by kernel_rfl
theorem agB55 : agB Try.prog 55 = some false := by kernel_rfl
theorem SE55 : SE Try.prog 55 = none := by kernel_rfl
theorem AE55 : AE Try.prog 55 = none := by kernel_rfl
theorem MT55 : MT Try.prog 55 = none := by kernel_rfl
theorem SP55 : SP Try.prog 55 = none := by kernel_rfl
theorem TI56 : TI Try.prog 56 = some ((.nilFunc : Value), 1, 8) := by kernel_rfl
theorem agB56 : agB Try.prog 56 = some false := by kernel_rfl
theorem SE56 : SE Try.prog 56 = none := by kernel_rfl
theorem AE56 : AE Try.prog 56 = none := by kernel_rfl
theorem MT56 : MT Try.prog 56 = none := by kernel_rfl
theorem SP56 : SP Try.prog 56 = none := by kernel_rfl
theorem TI57 : TI Try.prog 57 = some ((.int .u64 0 : Value), 1, 8) := by kernel_rfl
theorem agB57 : agB Try.prog 57 = some false := by kernel_rfl
theorem SE57 : SE Try.prog 57 = none := by kernel_rfl
theorem AE57 : AE Try.prog 57 = none := by kernel_rfl
theorem MT57 : MT Try.prog 57 = none := by kernel_rfl
theorem UK57 : UK Try.prog 57 = some .u64 := by kernel_rfl
theorem NI57 : isIface Try.prog 57 = false := by kernel_rfl
theorem SP57 : SP Try.prog 57 = none := by kernel_rfl
theorem TI58 : TI Try.prog 58 = some ((.nilFunc : Value), 1, 8) := by kernel_rfl
theorem agB58 : agB Try.prog 58 = some false := by kernel_rfl
theorem SE58 : SE Try.prog 58 = none := by kernel_rfl
theorem AE58 : AE Try.prog 58 = none := by kernel_rfl
theorem MT58 : MT Try.prog 58 = none := by kernel_rfl
theorem SP58 : SP Try.prog 58 = none := by kernel_rfl
theorem TI59 : TI Try.prog 59 = some ((.nilFunc : Value), 1, 8) := by kernel_rfl
theorem agB59 : agB Try.prog 59 = some false := by kernel_rfl
theorem SE59 : SE Try.prog 59 = none := by kernel_rfl
theorem AE59 : AE Try.prog 59 = none := by kernel_rfl
theorem MT59 : MT Try.prog 59 = none := by kernel_rfl
theorem SP59 : SP Try.prog 59 = none := by kernel_rfl
theorem TI60 : TI Try.prog 60 = some ((.nilFunc : Value), 1, 8) := by kernel_rfl
theorem agB60 : agB Try.prog 60 = some false := by kernel_rfl
theorem SE60 : SE Try.prog 60 = none := by kernel_rfl
theorem AE60 : AE Try.prog 60 = none := by kernel_rfl
theorem MT60 : MT Try.prog 60 = none := by kernel_rfl
theorem SP60 : SP Try.prog 60 = none := by kernel_rfl
theorem TI61 : TI Try.prog 61 = some ((.nilFunc : Value), 1, 8) := by kernel_rfl
theorem agB61 : agB Try.prog 61 = some false := by kernel_rfl
theorem SE61 : SE Try.prog 61 = none := by kernel_rfl
theorem AE61 : AE Try.prog 61 = none := by kernel_rfl
theorem MT61 : MT Try.prog 61 = none := by kernel_rfl
theorem SP61 : SP Try.prog 61 = none := by kernel_rfl
theorem TI62 : TI Try.prog 62 = some ((.nilFunc : Value), 1, 8) := by kernel_rfl
theorem agB62 : agB Try.prog 62 = some false := by kernel_rfl
theorem SE62 : SE Try.prog 62 = none := by kernel_rfl
theorem AE62 : AE Try.prog 62 = none := by kernel_rfl
theorem MT62 : MT Try.prog 62 = none := by kernel_rfl
theorem SP62 : SP Try.prog 62 = none := by kernel_rfl
theorem TI63 : TI Try.prog 63 = some ((.agg #[.int .i64 0, .int .i64 0, .int .i64 0, .int .i64 0, .string ⟨#[]⟩] : Value), 5, 48) := by kernel_rfl
theorem agB63 : agB Try.prog 63 = some true := by kernel_rfl
theorem SE63 : SE Try.prog 63 = none := by kernel_rfl
theorem AE63 : AE Try.prog 63 = none := by kernel_rfl
theorem MT63 : MT Try.prog 63 = none := by kernel_rfl
theorem NI63 : isIface Try.prog 63 = false := by kernel_rfl
theorem FO63_0 : FO Try.prog 63 0 = some (0, 3) := by kernel_rfl
theorem FO63_1 : FO Try.prog 63 1 = some (1, 3) := by kernel_rfl
theorem FO63_2 : FO Try.prog 63 2 = some (2, 26) := by kernel_rfl
theorem SP63 : SP Try.prog 63 = some [(0, 1), (1, 1), (2, 3)] := by kernel_rfl
theorem TI64 : TI Try.prog 64 = some ((.agg #[.int .i64 0, .int .i64 0, .int .i64 0, .int .i64 0, .string ⟨#[]⟩] : Value), 5, 48) := by kernel_rfl
theorem agB64 : agB Try.prog 64 = some true := by kernel_rfl
theorem SE64 : SE Try.prog 64 = none := by kernel_rfl
theorem AE64 : AE Try.prog 64 = none := by kernel_rfl
theorem MT64 : MT Try.prog 64 = none := by kernel_rfl
theorem NI64 : isIface Try.prog 64 = false := by kernel_rfl
theorem FO64_0 : FO Try.prog 64 0 = some (0, 3) := by kernel_rfl
theorem FO64_1 : FO Try.prog 64 1 = some (1, 3) := by kernel_rfl
theorem FO64_2 : FO Try.prog 64 2 = some (2, 26) := by kernel_rfl
theorem SP64 : SP Try.prog 64 = some [(0, 1), (1, 1), (2, 3)] := by kernel_rfl
theorem TI65 : TI Try.prog 65 = some ((.nilFunc : Value), 1, 8) := by kernel_rfl
theorem agB65 : agB Try.prog 65 = some false := by kernel_rfl
theorem SE65 : SE Try.prog 65 = none := by kernel_rfl
theorem AE65 : AE Try.prog 65 = none := by kernel_rfl
theorem MT65 : MT Try.prog 65 = none := by kernel_rfl
theorem SP65 : SP Try.prog 65 = none := by kernel_rfl
theorem TI66 : TI Try.prog 66 = some ((.nilFunc : Value), 1, 8) := by kernel_rfl
theorem agB66 : agB Try.prog 66 = some false := by kernel_rfl
theorem SE66 : SE Try.prog 66 = none := by kernel_rfl
theorem AE66 : AE Try.prog 66 = none := by kernel_rfl
theorem MT66 : MT Try.prog 66 = none := by kernel_rfl
theorem SP66 : SP Try.prog 66 = none := by kernel_rfl
theorem TI67 : TI Try.prog 67 = some ((.slice none 0 0 : Value), 1, 24) := by kernel_rfl
theorem agB67 : agB Try.prog 67 = some false := by kernel_rfl
theorem SE67 : SE Try.prog 67 = some 3 := by kernel_rfl
theorem AE67 : AE Try.prog 67 = none := by kernel_rfl
theorem MT67 : MT Try.prog 67 = none := by kernel_rfl
theorem NI67 : isIface Try.prog 67 = false := by kernel_rfl
theorem SP67 : SP Try.prog 67 = none := by kernel_rfl
theorem TI68 : TI Try.prog 68 = some ((.nilFunc : Value), 1, 8) := by kernel_rfl
theorem agB68 : agB Try.prog 68 = some false := by kernel_rfl
theorem SE68 : SE Try.prog 68 = none := by kernel_rfl
theorem AE68 : AE Try.prog 68 = none := by kernel_rfl
theorem MT68 : MT Try.prog 68 = none := by kernel_rfl
theorem SP68 : SP Try.prog 68 = none := by kernel_rfl
theorem TI69 : TI Try.prog 69 = some ((.nilFunc : Value), 1, 8) := by kernel_rfl
theorem agB69 : agB Try.prog 69 = some false := by kernel_rfl
theorem SE69 : SE Try.prog 69 = none := by kernel_rfl
theorem AE69 : AE Try.prog 69 = none := by kernel_rfl
theorem MT69 : MT Try.prog 69 = none := by kernel_rfl
theorem SP69 : SP Try.prog 69 = none := by kernel_rfl
theorem TI70 : TI Try.prog 70 = some ((.nilFunc : Value), 1, 8) := by kernel_rfl
theorem agB70 : agB Try.prog 70 = some false := by kernel_rfl
theorem SE70 : SE Try.prog 70 = none := by kernel_rfl
theorem AE70 : AE Try.prog 70 = none := by kernel_rfl
theorem MT70 : MT Try.prog 70 = none := by kernel_rfl
theorem SP70 : SP Try.prog 70 = none := by kernel_rfl
theorem TI71 : TI Try.prog 71 = some ((.nilFunc : Value), 1, 8) := by kernel_rfl
theorem agB71 : agB Try.prog 71 = some false := by kernel_rfl
theorem SE71 : SE Try.prog 71 = none := by kernel_rfl
theorem AE71 : AE Try.prog 71 = none := by kernel_rfl
theorem MT71 : MT Try.prog 71 = none := by kernel_rfl
theorem SP71 : SP Try.prog 71 = none := by kernel_rfl
theorem TI72 : TI Try.prog 72 = some ((.nilFunc : Value), 1, 8) := by kernel_rfl
theorem agB72 : agB Try.prog 72 = some false := by kernel_rfl
theorem SE72 : SE Try.prog 72 = none := by kernel_rfl
theorem AE72 : AE Try.prog 72 = none := by kernel_rfl
theorem MT72 : MT Try.prog 72 = none := by kernel_rfl
theorem SP72 : SP Try.prog 72 = none := by kernel_rfl
theorem TI73 : TI Try.prog 73 = some ((.nilFunc : Value), 1, 8) := by kernel_rfl
theorem agB73 : agB Try.prog 73 = some false := by kernel_rfl
theorem SE73 : SE Try.prog 73 = none := by kernel_rfl
theorem AE73 : AE Try.prog 73 = none := by kernel_rfl
theorem MT73 : MT Try.prog 73 = none := by kernel_rfl
theorem SP73 : SP Try.prog 73 = none := by kernel_rfl
theorem TI74 : TI Try.prog 74 = some ((.nilFunc : Value), 1, 8) := by kernel_rfl
theorem agB74 : agB Try.prog 74 = some false := by kernel_rfl
theorem SE74 : SE Try.prog 74 = none := by kernel_rfl
theorem AE74 : AE Try.prog 74 = none := by kernel_rfl
theorem MT74 : MT Try.prog 74 = none := by kernel_rfl
theorem SP74 : SP Try.prog 74 = none := by kernel_rfl
theorem TI75 : TI Try.prog 75 = some ((.nilFunc : Value), 1, 8) := by kernel_rfl
theorem agB75 : agB Try.prog 75 = some false := by kernel_rfl
theorem SE75 : SE Try.prog 75 = none := by kernel_rfl
theorem AE75 : AE Try.prog 75 = none := by kernel_rfl
theorem MT75 : MT Try.prog 75 = none := by kernel_rfl
theorem SP75 : SP Try.prog 75 = none := by kernel_rfl
theorem TI76 : TI Try.prog 76 = some ((.map none : Value), 1, 8) := by kernel_rfl
theorem agB76 : agB Try.prog 76 = some false := by kernel_rfl
theorem SE76 : SE Try.prog 76 = none := by kernel_rfl
theorem AE76 : AE Try.prog 76 = none := by kernel_rfl
theorem MT76 : MT Try.prog 76 = some (.i64, 3, 75) := by kernel_rfl
theorem SP76 : SP Try.prog 76 = none := by kernel_rfl
theorem TI78 : TI Try.prog 78 = some ((.nilFunc : Value), 1, 8) := by kernel_rfl
theorem agB78 : agB Try.prog 78 = some false := by kernel_rfl
theorem SE78 : SE Try.prog 78 = none := by kernel_rfl
theorem AE78 : AE Try.prog 78 = none := by kernel_rfl
theorem MT78 : MT Try.prog 78 = none := by kernel_rfl
theorem SP78 : SP Try.prog 78 = none := by kernel_rfl
theorem TI79 : TI Try.prog 79 = some ((.nilFunc : Value), 1, 8) := by kernel_rfl
theorem agB79 : agB Try.prog 79 = some false := by kernel_rfl
theorem SE79 : SE Try.prog 79 = none := by kernel_rfl
theorem AE79 : AE Try.prog 79 = none := by kernel_rfl
theorem MT79 : MT Try.prog 79 = none := by kernel_rfl
theorem SP79 : SP Try.prog 79 = none := by kernel_rfl
theorem TI80 : TI Try.prog 80 = some ((.nilFunc : Value), 1, 8) := by kernel_rfl
theorem agB80 : agB Try.prog 80 = some false := by kernel_rfl
theorem SE80 : SE Try.prog 80 = none := by kernel_rfl
theorem AE80 : AE Try.prog 80 = none := by kernel_rfl
theorem MT80 : MT Try.prog 80 = none := by kernel_rfl
theorem SP80 : SP Try.prog 80 = none := by kernel_rfl
theorem TI81 : TI Try.prog 81 = some ((.nilFunc : Value), 1, 8) := by kernel_rfl
theorem agB81 : agB Try.prog 81 = some false := by kernel_rfl
theorem SE81 : SE Try.prog 81 = none := by kernel_rfl
theorem AE81 : AE Try.prog 81 = none := by kernel_rfl
theorem MT81 : MT Try.prog 81 = none := by kernel_rfl
theorem SP81 : SP Try.prog 81 = none := by kernel_rfl
theorem TI83 : TI Try.prog 83 = some ((.nilFunc : Value), 1, 8) := by kernel_rfl
theorem agB83 : agB Try.prog 83 = some false := by kernel_rfl
theorem SE83 : SE Try.prog 83 = none := by kernel_rfl
theorem AE83 : AE Try.prog 83 = none := by kernel_rfl
theorem MT83 : MT Try.prog 83 = none := by kernel_rfl
theorem SP83 : SP Try.prog 83 = none := by kernel_rfl
theorem TI84 : TI Try.prog 84 = some ((.int .u64 0 : Value), 1, 8) := by kernel_rfl
theorem agB84 : agB Try.prog 84 = some false := by kernel_rfl
theorem SE84 : SE Try.prog 84 = none := by kernel_rfl
theorem AE84 : AE Try.prog 84 = none := by kernel_rfl
theorem MT84 : MT Try.prog 84 = none := by kernel_rfl
theorem UK84 : UK Try.prog 84 = some .u64 := by kernel_rfl
theorem NI84 : isIface Try.prog 84 = false := by kernel_rfl
theorem SP84 : SP Try.prog 84 = none := by kernel_rfl
theorem TI85 : TI Try.prog 85 = some ((.nilFunc : Value), 1, 8) := by kernel_rfl
theorem agB85 : agB Try.prog 85 = some false := by kernel_rfl
theorem SE85 : SE Try.prog 85 = none := by kernel_rfl
theorem AE85 : AE Try.prog 85 = none := by kernel_rfl
theorem MT85 : MT Try.prog 85 = none := by kernel_rfl
theorem SP85 : SP Try.prog 85 = none := by kernel_rfl
theorem TI86 : TI Try.prog 86 = some ((.float .f64 0 : Value), 1, 8) := by kernel_rfl
theorem agB86 : agB Try.prog 86 = some false := by kernel_rfl
theorem SE86 : SE Try.prog 86 = none := by kernel_rfl
theorem AE86 : AE Try.prog 86 = none := by kernel_rfl
theorem MT86 : MT Try.prog 86 = none := by kernel_rfl
theorem SP86 : SP Try.prog 86 = none := by kernel_rfl
theorem TI87 : TI Try.prog 87 = some ((.nilFunc : Value), 1, 8) := by kernel_rfl
theorem agB87 : agB Try.prog 87 = some false := by kernel_rfl
theorem SE87 : SE Try.prog 87 = none := by kernel_rfl
theorem AE87 : AE Try.prog 87 = none := by kernel_rfl
theorem MT87 : MT Try.prog 87 = none := by kernel_rfl
theorem SP87 : SP Try.prog 87 = none := by kernel_rfl
theorem TI88 : TI Try.prog 88 = some ((.nilFunc : Value), 1, 8) := by kernel_rfl
theorem agB88 : agB Try.prog 88 = some false := by kernel_rfl
theorem SE88 : SE Try.prog 88 = none := by kernel_rfl
theorem AE88 : AE Try.prog 88 = none := by kernel_rfl
theorem MT88 : MT Try.prog 88 = none := by kernel_rfl
theorem SP88 : SP Try.prog 88 = none := by kernel_rfl
theorem TI94 : TI Try.prog 94 = some ((.nilFunc : Value), 1, 8) := by kernel_rfl
theorem agB94 : agB Try.prog 94 = some false := by kernel_rfl
theorem SE94 : SE Try.prog 94 = none := by kernel_rfl
theorem AE94 : AE Try.prog 94 = none := by kernel_rfl
theorem MT94 : MT Try.prog 94 = none := by kernel_rfl
theorem SP94 : SP Try.prog 94 = none := by kernel_rfl
theorem TI95 : TI Try.prog 95 = some ((.int .u32 0 : Value), 1, 4) := by kernel_rfl
theorem agB95 : agB Try.prog 95 = some false := by kernel_rfl
theorem SE95 : SE Try.prog 95 = none := by kernel_rfl
theorem AE95 : AE Try.prog 95 = none := by kernel_rfl
theorem MT95 : MT Try.prog 95 = none := by kernel_rfl
theorem UK95 : UK Try.prog 95 = some .u32 := by kernel_rfl
theorem NI95 : isIface Try.prog 95 = false := by kernel_rfl
theorem SP95 : SP Try.prog 95 = none := by kernel_rfl
theorem TI99 : TI Try.prog 99 = some ((.pointer none : Value), 1, 8) := by kernel_rfl
theorem agB99 : agB Try.prog 99 = some false := by kernel_rfl
theorem SE99 : SE Try.prog 99 = none := by kernel_rfl
theorem AE99 : AE Try.prog 99 = none := by kernel_rfl
theorem MT99 : MT Try.prog 99 = none := by kernel_rfl
theorem SP99 : SP Try.prog 99 = none := by kernel_rfl
theorem mixed : Try.prog.follows .mixedOrders = true := by kernel_rfl
attribute [go_sem] TI1 agB1 SE1 AE1 MT1 SP1 TI2 agB2 SE2 AE2 MT2 UK2 NI2 SP2 TI3 agB3 SE3 AE3 MT3 UK3 NI3 SP3 TI4 agB4 SE4 AE4 MT4 UB4 NI4 SP4 TI5 agB5 SE5 AE5 MT5 UK5 NI5 SP5 TI9 agB9 SE9 AE9 MT9 US9 NI9 SP9 TI12 agB12 SE12 AE12 MT12 UK12 NI12 SP12 TI21 agB21 SE21 AE21 MT21 UK21 NI21 SP21 TI22 agB22 SE22 AE22 MT22 NI22 SP22 TI23 agB23 SE23 AE23 MT23 SP23 TI24 agB24 SE24 AE24 MT24 NI24 SP24 TI25 agB25 SE25 AE25 MT25 NI25 FO25_0 FO25_1 FO25_2 SP25 TI26 agB26 SE26 AE26 MT26 NI26 FO26_0 FO26_1 FO26_2 SP26 TI27 agB27 SE27 AE27 MT27 SP27 TI28 agB28 SE28 AE28 MT28 NI28 SP28 TI29 agB29 SE29 AE29 MT29 SP29 TI30 agB30 SE30 AE30 MT30 NI30 SP30 TI32 agB32 SE32 AE32 MT32 SP32 TI33 agB33 SE33 AE33 MT33 NI33 SP33 TI34 agB34 SE34 AE34 MT34 SP34 TI35 agB35 SE35 AE35 MT35 SP35 TI36 agB36 SE36 AE36 MT36 NI36 SP36 TI37 agB37 SE37 AE37 MT37 SP37 TI38 agB38 SE38 AE38 MT38 SP38 TI39 agB39 SE39 AE39 MT39 SP39 TI40 agB40 SE40 AE40 MT40 SP40 TI41 agB41 SE41 AE41 MT41 SP41 TI42 agB42 SE42 AE42 MT42 SP42 TI43 agB43 SE43 AE43 MT43 SP43 TI44 agB44 SE44 AE44 MT44 SP44 TI45 agB45 SE45 AE45 MT45 SP45 TI46 agB46 SE46 AE46 MT46 SP46 TI47 agB47 SE47 AE47 MT47 SP47 TI48 agB48 SE48 AE48 MT48 SP48 TI49 agB49 SE49 AE49 MT49 SP49 TI50 agB50 SE50 AE50 MT50 SP50 TI51 agB51 SE51 AE51 MT51 SP51 TI52 agB52 SE52 AE52 MT52 SP52 TI53 agB53 SE53 AE53 MT53 SP53 TI54 agB54 SE54 AE54 MT54 SP54 TI55 agB55 SE55 AE55 MT55 SP55 TI56 agB56 SE56 AE56 MT56 SP56 TI57 agB57 SE57 AE57 MT57 UK57 NI57 SP57 TI58 agB58 SE58 AE58 MT58 SP58 TI59 agB59 SE59 AE59 MT59 SP59 TI60 agB60 SE60 AE60 MT60 SP60 TI61 agB61 SE61 AE61 MT61 SP61 TI62 agB62 SE62 AE62 MT62 SP62 TI63 agB63 SE63 AE63 MT63 NI63 FO63_0 FO63_1 FO63_2 SP63 TI64 agB64 SE64 AE64 MT64 NI64 FO64_0 FO64_1 FO64_2 SP64 TI65 agB65 SE65 AE65 MT65 SP65 TI66 agB66 SE66 AE66 MT66 SP66 TI67 agB67 SE67 AE67 MT67 NI67 SP67 TI68 agB68 SE68 AE68 MT68 SP68 TI69 agB69 SE69 AE69 MT69 SP69 TI70 agB70 SE70 AE70 MT70 SP70 TI71 agB71 SE71 AE71 MT71 SP71 TI72 agB72 SE72 AE72 MT72 SP72 TI73 agB73 SE73 AE73 MT73 SP73 TI74 agB74 SE74 AE74 MT74 SP74 TI75 agB75 SE75 AE75 MT75 SP75 TI76 agB76 SE76 AE76 MT76 SP76 TI78 agB78 SE78 AE78 MT78 SP78 TI79 agB79 SE79 AE79 MT79 SP79 TI80 agB80 SE80 AE80 MT80 SP80 TI81 agB81 SE81 AE81 MT81 SP81 TI83 agB83 SE83 AE83 MT83 SP83 TI84 agB84 SE84 AE84 MT84 UK84 NI84 SP84 TI85 agB85 SE85 AE85 MT85 SP85 TI86 agB86 SE86 AE86 MT86 SP86 TI87 agB87 SE87 AE87 MT87 SP87 TI88 agB88 SE88 AE88 MT88 SP88 TI94 agB94 SE94 AE94 MT94 SP94 TI95 agB95 SE95 AE95 MT95 UK95 NI95 SP95 TI99 agB99 SE99 AE99 MT99 SP99 mixed
end Go.Proofs.Ytfmmemboakdeiaa.K
