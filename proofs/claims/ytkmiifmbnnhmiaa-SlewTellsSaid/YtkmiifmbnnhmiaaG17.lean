/- G17: a part of the proof: steps over abstract values, or contracts of functions. Conditions: none. -/
import Derived.Test.YtkmiifmbnnhmiaaAh6
import Derived.Test.YtkmiifmbnnhmiaaProg
import Derived.KernelRfl
namespace Go.Proofs.Ytkmiifmbnnhmiaa.Ah
open Go

/- alidade/alidadelaw17.SlewSteps -/
def c3l0 : SC :=
  (.seq (.seq (.reg [⟨some 27, .mv, [.r 9], none, []⟩,
      ⟨some 28, (.bin .lss), [.r 27, .c (.int .i64 3)], none, [27]⟩])
    (.cond (.r 28)
      (.kl [28] .skip)
      (.kl [9, 28] (.exit 0))))
    (.seq (.block 1 (.seq (.dreg [⟨0, 0, false, false, ⟨some 31, .mv, [.r 9], none, []⟩⟩,
      ⟨1, 1, false, false, ⟨some 32, (.iaddrA 1 3), [.r 8, .r 31], none, [31]⟩⟩,
      ⟨2, 3, false, false, ⟨some 33, .ld1, [.r 32], none, [32]⟩⟩,
      ⟨3, 0, false, false, ⟨some 34, .mv, [.r 9], none, []⟩⟩,
      ⟨4, 8, false, false, ⟨some 35, (.iaddrA 1 3), [.r 3, .r 34], none, [34]⟩⟩,
      ⟨5, 24, false, false, ⟨some 36, .ld1, [.r 35], none, [35]⟩⟩,
      ⟨6, 0, false, false, ⟨some 37, .mv, [.r 9], none, []⟩⟩,
      ⟨7, 64, false, false, ⟨some 38, (.iaddrA 1 3), [.r 4, .r 37], none, [37]⟩⟩,
      ⟨8, 192, false, false, ⟨some 39, .ld1, [.r 38], none, [38]⟩⟩,
      ⟨9, 504, false, false, ⟨some 40, .mn, [.r 36, .r 39], none, [36, 39]⟩⟩,
      ⟨10, 1023, false, false, ⟨some 41, (.bin .lss), [.r 33, .r 40], none, [33, 40]⟩⟩,
      ⟨11, 2047, false, false, ⟨some 42, .mv, [.r 41], none, [41]⟩⟩,
      ⟨12, 4095, false, false, ⟨some 43, .mv, [.r 9], (some (42, false)), []⟩⟩,
      ⟨13, 8191, false, false, ⟨some 44, (.iaddrA 1 3), [.r 8, .r 43], (some (42, false)), [43]⟩⟩,
      ⟨14, 16383, false, false, ⟨some 45, .ld1, [.r 44], (some (42, false)), [44]⟩⟩,
      ⟨15, 4095, false, false, ⟨some 46, .mv, [.r 9], (some (42, false)), []⟩⟩,
      ⟨16, 36863, false, false, ⟨some 47, (.iaddrA 1 3), [.r 3, .r 46], (some (42, false)), [46]⟩⟩,
      ⟨17, 102399, false, false, ⟨some 48, .ld1, [.r 47], (some (42, false)), [47]⟩⟩,
      ⟨18, 4095, false, false, ⟨some 49, .mv, [.r 9], (some (42, false)), []⟩⟩,
      ⟨19, 266239, false, false, ⟨some 50, (.iaddrA 1 3), [.r 4, .r 49], (some (42, false)), [49]⟩⟩,
      ⟨20, 790527, false, false, ⟨some 51, .ld1, [.r 50], (some (42, false)), [50]⟩⟩,
      ⟨21, 2068479, false, false, ⟨some 52, .mx, [.r 48, .r 51], (some (42, false)), [48, 51]⟩⟩,
      ⟨22, 4194303, false, false, ⟨some 53, (.bin .gtr), [.r 45, .r 52], (some (42, false)), [45, 52]⟩⟩,
      ⟨23, 8388607, false, false, ⟨some 54, .pick, [.r 42, .c (.bool true), .r 53], none, [42, 53]⟩⟩,
      ⟨24, 16777215, false, false, ⟨some 55, .mv, [.r 54], none, [54]⟩⟩,
      ⟨25, 33554431, false, false, ⟨some 56, .mv, [.r 9], (some (55, false)), []⟩⟩,
      ⟨26, 67108863, false, false, ⟨some 57, (.iaddrA 1 3), [.r 8, .r 56], (some (55, false)), [56]⟩⟩,
      ⟨27, 134217727, false, false, ⟨some 58, .ld1, [.r 57], (some (55, false)), [57]⟩⟩,
      ⟨28, 33554431, false, false, ⟨some 59, .mv, [.r 9], (some (55, false)), []⟩⟩,
      ⟨29, 301989887, false, false, ⟨some 60, (.iaddrA 1 3), [.r 3, .r 59], (some (55, false)), [59]⟩⟩,
      ⟨30, 838860799, false, false, ⟨some 61, .ld1, [.r 60], (some (55, false)), [60]⟩⟩,
      ⟨31, 2147483647, false, false, ⟨some 62, (.bin .sub), [.r 58, .r 61], (some (55, false)), [58, 61]⟩⟩,
      ⟨32, 33554431, false, false, ⟨some 63, .mv, [.r 2], (some (55, false)), []⟩⟩,
      ⟨33, 8589934591, false, false, ⟨some 64, (.bin .gtr), [.r 62, .r 63], (some (55, false)), [62, 63]⟩⟩,
      ⟨34, 17179869183, false, false, ⟨some 65, .pick, [.r 55, .c (.bool true), .r 64], none, [55, 64]⟩⟩,
      ⟨35, 34359738367, false, false, ⟨some 66, .mv, [.r 65], none, [65]⟩⟩,
      ⟨36, 68719476735, false, false, ⟨some 67, .mv, [.r 9], (some (66, false)), []⟩⟩,
      ⟨37, 137438953471, false, false, ⟨some 68, (.iaddrA 1 3), [.r 3, .r 67], (some (66, false)), [67]⟩⟩,
      ⟨38, 274877906943, false, false, ⟨some 69, .ld1, [.r 68], (some (66, false)), [68]⟩⟩,
      ⟨39, 68719476735, false, false, ⟨some 70, .mv, [.r 9], (some (66, false)), []⟩⟩,
      ⟨40, 618475290623, false, false, ⟨some 71, (.iaddrA 1 3), [.r 8, .r 70], (some (66, false)), [70]⟩⟩,
      ⟨41, 1717986918399, false, false, ⟨some 72, .ld1, [.r 71], (some (66, false)), [71]⟩⟩,
      ⟨42, 4398046511103, false, false, ⟨some 73, (.bin .sub), [.r 69, .r 72], (some (66, false)), [69, 72]⟩⟩,
      ⟨43, 68719476735, false, false, ⟨some 74, .mv, [.r 2], (some (66, false)), []⟩⟩,
      ⟨44, 17592186044415, false, false, ⟨some 75, (.bin .gtr), [.r 73, .r 74], (some (66, false)), [73, 74]⟩⟩,
      ⟨45, 35184372088831, false, false, ⟨some 76, .pick, [.r 66, .c (.bool true), .r 75], none, [66, 75]⟩⟩])
    (.cond (.r 76)
      (.kl [2, 3, 4, 7, 8, 9, 76] (.seq (.reg [⟨some 6, .mv, [.c (.bool false)], none, []⟩])
      .ret))
      (.kl [76] .skip))))
    (.reg [⟨some 29, .mv, [.r 9], none, [9]⟩,
      ⟨some 30, (.bin .add), [.r 29, .c (.int .i64 1)], none, [29]⟩,
      ⟨some 9, .mv, [.r 30], none, [30]⟩])))
def c3 : SC :=
  (.seq (.reg [⟨some 3, .box, [.r 0], none, [0]⟩,
    ⟨some 4, .box, [.r 1], none, [1]⟩,
    ⟨some 6, .mv, [.c (.bool false)], none, []⟩])
  (.seq (.reg [⟨some 11, (.call 8), [], none, [6]⟩,
    ⟨some 7, .mv, [.r 11], none, [11]⟩])
  (.seq (.seq (.reg [⟨some 12, (.ldn 3), [.r 3], none, []⟩,
    ⟨some 13, .mv, [.r 2], none, []⟩,
    ⟨some 14, (.call 9), [.r 12, .r 13], none, [12, 13]⟩,
    ⟨some 15, (.un .not), [.r 14], none, [14]⟩,
    ⟨some 16, .mv, [.r 15], none, [15]⟩,
    ⟨some 17, (.ldn 3), [.r 4], (some (16, false)), []⟩,
    ⟨some 18, .mv, [.r 2], (some (16, false)), []⟩,
    ⟨some 19, (.call 9), [.r 17, .r 18], (some (16, false)), [17, 18]⟩,
    ⟨some 20, (.un .not), [.r 19], (some (16, false)), [19]⟩,
    ⟨some 21, .pick, [.r 16, .c (.bool true), .r 20], none, [16, 20]⟩])
  (.cond (.r 21)
    (.kl [2, 3, 4, 21] (.seq (.reg [⟨some 22, .mv, [.r 7], none, [7]⟩,
      ⟨some 6, .mv, [.r 22], none, [22]⟩])
    .ret))
    (.kl [21] .skip)))
  (.seq (.reg [⟨some 23, (.ldn 3), [.r 3], none, []⟩,
    ⟨some 24, (.ldn 3), [.r 4], none, []⟩,
    ⟨some 25, .mv, [.r 2], none, []⟩,
    ⟨some 26, (.call 10), [.r 23, .r 24, .r 25], none, [23, 24, 25]⟩,
    ⟨some 8, (.alloc [(.int .i64 0), (.int .i64 0), (.int .i64 0)]), [], none, []⟩,
    ⟨none, (.st 3), [.r 8, .r 26], none, [26]⟩])
  (.seq (.seq (.reg [⟨some 9, .mv, [.c (.int .i64 0)], none, []⟩])
  (.block 0 (.loop c3l0)))
  (.seq (.reg [⟨some 77, (.ldn 3), [.r 3], none, []⟩,
    ⟨some 78, (.ldn 3), [.r 4], none, []⟩,
    ⟨some 79, .mv, [.r 2], none, []⟩,
    ⟨some 80, (.call 11), [.r 77, .r 78, .r 79], none, [77, 78, 79]⟩,
    ⟨some 10, .mv, [.r 80], none, [80]⟩])
  (.seq (.dreg [⟨0, 0, false, false, ⟨some 81, .mv, [.r 7], none, [7]⟩⟩,
    ⟨1, 1, false, false, ⟨some 82, .mv, [.r 81], none, [81]⟩⟩,
    ⟨2, 3, false, false, ⟨some 83, (.ldn 3), [.r 3], (some (82, true)), []⟩⟩,
    ⟨3, 3, false, false, ⟨some 84, (.ldn 3), [.r 8], (some (82, true)), []⟩⟩,
    ⟨4, 3, false, false, ⟨some 85, .mv, [.r 2], (some (82, true)), []⟩⟩,
    ⟨5, 31, false, false, ⟨some 86, (.call 12), [.r 83, .r 84, .r 85], (some (82, true)), [83, 84, 85]⟩⟩,
    ⟨6, 63, false, false, ⟨some 87, .pick, [.r 82, .r 86, .c (.bool false)], none, [82, 86]⟩⟩,
    ⟨7, 127, false, false, ⟨some 88, .mv, [.r 87], none, [87]⟩⟩,
    ⟨8, 255, false, false, ⟨some 89, (.ldn 3), [.r 8], (some (88, true)), []⟩⟩,
    ⟨9, 255, false, false, ⟨some 90, (.ldn 3), [.r 4], (some (88, true)), []⟩⟩,
    ⟨10, 1023, false, false, ⟨some 91, (.eqv false [.int, .int, .int]), [.r 89, .r 90], (some (88, true)), [89, 90]⟩⟩,
    ⟨11, 255, false, false, ⟨some 92, (.ldn 3), [.r 3], (some (88, true)), []⟩⟩,
    ⟨12, 255, false, false, ⟨some 93, (.ldn 3), [.r 4], (some (88, true)), []⟩⟩,
    ⟨13, 255, false, false, ⟨some 94, .mv, [.r 2], (some (88, true)), []⟩⟩,
    ⟨14, 14591, false, true, ⟨some 95, (.call 12), [.r 92, .r 93, .r 94], (some (88, true)), [92, 93, 94]⟩⟩,
    ⟨15, 32767, false, false, ⟨some 96, (.eqb false), [.r 91, .r 95], (some (88, true)), [91, 95]⟩⟩,
    ⟨16, 65535, false, false, ⟨some 97, .pick, [.r 88, .r 96, .c (.bool false)], none, [88, 96]⟩⟩,
    ⟨17, 131071, false, false, ⟨some 98, .mv, [.r 97], none, [97]⟩⟩,
    ⟨18, 262143, false, false, ⟨some 99, (.ldn 3), [.r 8], (some (98, true)), [8]⟩⟩,
    ⟨19, 262143, false, false, ⟨some 100, (.ldn 3), [.r 4], (some (98, true)), []⟩⟩,
    ⟨20, 262143, false, false, ⟨some 101, .mv, [.r 2], (some (98, true)), [2]⟩⟩,
    ⟨21, 2097151, false, false, ⟨some 102, (.call 11), [.r 99, .r 100, .r 101], (some (98, true)), [99, 100, 101]⟩⟩,
    ⟨22, 262143, false, false, ⟨some 103, .mv, [.r 10], (some (98, true)), []⟩⟩,
    ⟨23, 4456447, false, false, ⟨some 104, (.bin .sub), [.r 103, .c (.int .i64 1)], (some (98, true)), [103]⟩⟩,
    ⟨24, 12845055, false, false, ⟨some 105, .mx, [.r 104, .c (.int .i64 0)], (some (98, true)), [104]⟩⟩,
    ⟨25, 33554431, false, false, ⟨some 106, (.bin .eql), [.r 102, .r 105], (some (98, true)), [102, 105]⟩⟩,
    ⟨26, 67108863, false, false, ⟨some 107, .pick, [.r 98, .r 106, .c (.bool false)], none, [98, 106]⟩⟩,
    ⟨27, 134217727, false, false, ⟨some 108, .mv, [.r 107], none, [107]⟩⟩,
    ⟨28, 268435455, false, false, ⟨some 109, .mv, [.r 10], (some (108, true)), [10]⟩⟩,
    ⟨29, 536870911, false, false, ⟨some 110, (.bin .eql), [.r 109, .c (.int .i64 0)], (some (108, true)), [109]⟩⟩,
    ⟨30, 268435455, false, false, ⟨some 111, (.ldn 3), [.r 3], (some (108, true)), [3]⟩⟩,
    ⟨31, 268435455, false, false, ⟨some 112, (.ldn 3), [.r 4], (some (108, true)), [4]⟩⟩,
    ⟨32, 3489660927, false, false, ⟨some 113, (.eqv false [.int, .int, .int]), [.r 111, .r 112], (some (108, true)), [111, 112]⟩⟩,
    ⟨33, 8589934591, false, false, ⟨some 114, (.eqb false), [.r 110, .r 113], (some (108, true)), [110, 113]⟩⟩,
    ⟨34, 17179869183, false, false, ⟨some 115, .pick, [.r 108, .r 114, .c (.bool false)], none, [108, 114]⟩⟩,
    ⟨35, 34359738367, false, false, ⟨some 6, .mv, [.r 115], none, [115]⟩⟩])
  .ret)))))))
def rs3 : List SR := [.tmp 6]
theorem k3 : okC Try.prog 116 (Try.f3.body.getD .skip) c3 = true := by kernel_rfl
theorem acall3 {args : List AV} (hn : args.length ≤ 116) {H : Heap} {v : AV} {H' : Heap} (h : ac Try.prog c3 (argEnv 0 args) H (Fin H rs3 v H')) : ACall Try.prog 3 args H v H' :=
  acall Try.func3 (c := Try.f3.body.getD .skip) rfl k3 (by kernel_rfl) hn h

/- alidade/alidadelaw17.SlewComes -/
def c4l0 : SC :=
  (.seq (.seq (.reg [⟨some 37, .mv, [.r 9], none, []⟩,
      ⟨some 38, .mv, [.r 8], none, []⟩,
      ⟨some 39, (.bin .lss), [.r 37, .r 38], none, [37, 38]⟩])
    (.cond (.r 39)
      (.kl [39] .skip)
      (.kl [8, 9, 39] (.exit 0))))
    (.seq (.block 1 (.seq (.seq (.reg [⟨some 42, (.ldn 3), [.r 3], none, []⟩,
      ⟨some 43, (.ldn 3), [.r 4], none, []⟩,
      ⟨some 44, (.eqv false [.int, .int, .int]), [.r 42, .r 43], none, [42, 43]⟩])
    (.cond (.r 44)
      (.kl [2, 3, 4, 7, 8, 9, 44] (.seq (.reg [⟨some 6, .mv, [.c (.bool false)], none, []⟩])
      .ret))
      (.kl [44] .skip)))
    (.reg [⟨some 45, (.ldn 3), [.r 3], none, []⟩,
      ⟨some 46, (.ldn 3), [.r 4], none, []⟩,
      ⟨some 47, .mv, [.r 2], none, []⟩,
      ⟨some 48, (.call 10), [.r 45, .r 46, .r 47], none, [45, 46, 47]⟩,
      ⟨none, (.st 3), [.r 3, .r 48], none, [48]⟩])))
    (.reg [⟨some 40, .mv, [.r 9], none, [9]⟩,
      ⟨some 41, (.bin .add), [.r 40, .c (.int .i64 1)], none, [40]⟩,
      ⟨some 9, .mv, [.r 41], none, [41]⟩])))
def c4 : SC :=
  (.seq (.reg [⟨some 3, .box, [.r 0], none, [0]⟩,
    ⟨some 4, .box, [.r 1], none, [1]⟩,
    ⟨some 6, .mv, [.c (.bool false)], none, []⟩])
  (.seq (.reg [⟨some 10, (.call 8), [], none, [6]⟩,
    ⟨some 7, .mv, [.r 10], none, [10]⟩])
  (.seq (.seq (.reg [⟨some 11, (.ldn 3), [.r 3], none, []⟩,
    ⟨some 12, .mv, [.r 2], none, []⟩,
    ⟨some 13, (.call 9), [.r 11, .r 12], none, [11, 12]⟩,
    ⟨some 14, (.un .not), [.r 13], none, [13]⟩,
    ⟨some 15, .mv, [.r 14], none, [14]⟩,
    ⟨some 16, (.ldn 3), [.r 4], (some (15, false)), []⟩,
    ⟨some 17, .mv, [.r 2], (some (15, false)), []⟩,
    ⟨some 18, (.call 9), [.r 16, .r 17], (some (15, false)), [16, 17]⟩,
    ⟨some 19, (.un .not), [.r 18], (some (15, false)), [18]⟩,
    ⟨some 20, .pick, [.r 15, .c (.bool true), .r 19], none, [15, 19]⟩])
  (.cond (.r 20)
    (.kl [2, 3, 4, 20] (.seq (.reg [⟨some 21, .mv, [.r 7], none, [7]⟩,
      ⟨some 6, .mv, [.r 21], none, [21]⟩])
    .ret))
    (.kl [20] .skip)))
  (.seq (.reg [⟨some 22, (.ldn 3), [.r 3], none, []⟩,
    ⟨some 23, (.ldn 3), [.r 4], none, []⟩,
    ⟨some 24, .mv, [.r 2], none, []⟩,
    ⟨some 25, (.call 11), [.r 22, .r 23, .r 24], none, [22, 23, 24]⟩,
    ⟨some 8, .mv, [.r 25], none, [25]⟩])
  (.seq (.seq (.reg [⟨some 26, .mv, [.r 8], none, []⟩,
    ⟨some 27, (.bin .lss), [.r 26, .c (.int .i64 0)], none, [26]⟩,
    ⟨some 28, .mv, [.r 27], none, [27]⟩,
    ⟨some 29, .mv, [.r 8], (some (28, false)), []⟩,
    ⟨some 30, (.bin .gtr), [.r 29, .c (.int .i64 100)], (some (28, false)), [29]⟩,
    ⟨some 31, .pick, [.r 28, .c (.bool true), .r 30], none, [28, 30]⟩])
  (.cond (.r 31)
    (.kl [2, 3, 4, 31] (.seq (.reg [⟨some 32, .mv, [.r 7], none, [7]⟩,
      ⟨some 33, .mv, [.r 32], none, [32]⟩,
      ⟨some 34, .mv, [.r 8], (some (33, true)), [8]⟩,
      ⟨some 35, (.bin .geq), [.r 34, .c (.int .i64 0)], (some (33, true)), [34]⟩,
      ⟨some 36, .pick, [.r 33, .r 35, .c (.bool false)], none, [33, 35]⟩,
      ⟨some 6, .mv, [.r 36], none, [36]⟩])
    .ret))
    (.kl [31] .skip)))
  (.seq (.seq (.reg [⟨some 9, .mv, [.c (.int .i64 0)], none, []⟩])
  (.block 0 (.loop c4l0)))
  (.seq (.dreg [⟨0, 0, false, false, ⟨some 49, .mv, [.r 7], none, [7]⟩⟩,
    ⟨1, 1, false, false, ⟨some 50, .mv, [.r 49], none, [49]⟩⟩,
    ⟨2, 3, false, false, ⟨some 51, (.ldn 3), [.r 3], (some (50, true)), []⟩⟩,
    ⟨3, 3, false, false, ⟨some 52, (.ldn 3), [.r 4], (some (50, true)), []⟩⟩,
    ⟨4, 15, false, false, ⟨some 53, (.eqv false [.int, .int, .int]), [.r 51, .r 52], (some (50, true)), [51, 52]⟩⟩,
    ⟨5, 31, false, false, ⟨some 54, .pick, [.r 50, .r 53, .c (.bool false)], none, [50, 53]⟩⟩,
    ⟨6, 63, false, false, ⟨some 55, .mv, [.r 54], none, [54]⟩⟩,
    ⟨7, 127, false, false, ⟨some 56, (.ldn 3), [.r 3], (some (55, true)), [3]⟩⟩,
    ⟨8, 127, false, false, ⟨some 57, (.ldn 3), [.r 4], (some (55, true)), []⟩⟩,
    ⟨9, 127, false, false, ⟨some 58, .mv, [.r 2], (some (55, true)), [2]⟩⟩,
    ⟨10, 1023, false, true, ⟨some 59, (.call 10), [.r 56, .r 57, .r 58], (some (55, true)), [56, 57, 58]⟩⟩,
    ⟨11, 127, false, false, ⟨some 60, (.ldn 3), [.r 4], (some (55, true)), [4]⟩⟩,
    ⟨12, 4095, false, false, ⟨some 61, (.eqv false [.int, .int, .int]), [.r 59, .r 60], (some (55, true)), [59, 60]⟩⟩,
    ⟨13, 8191, false, false, ⟨some 62, .pick, [.r 55, .r 61, .c (.bool false)], none, [55, 61]⟩⟩,
    ⟨14, 16383, false, false, ⟨some 6, .mv, [.r 62], none, [62]⟩⟩])
  .ret)))))))
def rs4 : List SR := [.tmp 6]
theorem k4 : okC Try.prog 63 (Try.f4.body.getD .skip) c4 = true := by kernel_rfl
theorem acall4 {args : List AV} (hn : args.length ≤ 63) {H : Heap} {v : AV} {H' : Heap} (h : ac Try.prog c4 (argEnv 0 args) H (Fin H rs4 v H')) : ACall Try.prog 4 args H v H' :=
  acall Try.func4 (c := Try.f4.body.getD .skip) rfl k4 (by kernel_rfl) hn h

/- alidade/alidadelaw17.SlewBack -/
def c5 : SC :=
  (.seq (.reg [⟨some 3, .box, [.r 0], none, [0]⟩,
    ⟨some 4, .box, [.r 1], none, [1]⟩,
    ⟨some 6, .mv, [.c (.bool false)], none, []⟩])
  (.seq (.reg [⟨some 8, (.call 8), [], none, [6]⟩,
    ⟨some 7, .mv, [.r 8], none, [8]⟩])
  (.seq (.seq (.reg [⟨some 9, (.ldn 3), [.r 3], none, []⟩,
    ⟨some 10, .mv, [.r 2], none, []⟩,
    ⟨some 11, (.call 9), [.r 9, .r 10], none, [9, 10]⟩,
    ⟨some 12, (.un .not), [.r 11], none, [11]⟩,
    ⟨some 13, .mv, [.r 12], none, [12]⟩,
    ⟨some 14, (.ldn 3), [.r 4], (some (13, false)), []⟩,
    ⟨some 15, .mv, [.r 2], (some (13, false)), []⟩,
    ⟨some 16, (.call 9), [.r 14, .r 15], (some (13, false)), [14, 15]⟩,
    ⟨some 17, (.un .not), [.r 16], (some (13, false)), [16]⟩,
    ⟨some 18, .pick, [.r 13, .c (.bool true), .r 17], none, [13, 17]⟩])
  (.cond (.r 18)
    (.kl [2, 3, 4, 18] (.seq (.reg [⟨some 19, .mv, [.r 7], none, [7]⟩,
      ⟨some 6, .mv, [.r 19], none, [19]⟩])
    .ret))
    (.kl [18] .skip)))
  (.seq (.dreg [⟨0, 0, false, false, ⟨some 20, .mv, [.r 7], none, [7]⟩⟩,
    ⟨1, 1, false, false, ⟨some 21, .mv, [.r 20], none, [20]⟩⟩,
    ⟨2, 3, false, false, ⟨some 22, (.ldn 3), [.r 3], (some (21, true)), []⟩⟩,
    ⟨3, 3, false, false, ⟨some 23, (.ldn 3), [.r 4], (some (21, true)), []⟩⟩,
    ⟨4, 3, false, false, ⟨some 24, .mv, [.r 2], (some (21, true)), []⟩⟩,
    ⟨5, 31, false, true, ⟨some 25, (.call 12), [.r 22, .r 23, .r 24], (some (21, true)), [22, 23, 24]⟩⟩,
    ⟨6, 3, false, false, ⟨some 26, (.ldn 3), [.r 4], (some (21, true)), []⟩⟩,
    ⟨7, 3, false, false, ⟨some 27, (.ldn 3), [.r 3], (some (21, true)), []⟩⟩,
    ⟨8, 3, false, false, ⟨some 28, .mv, [.r 2], (some (21, true)), []⟩⟩,
    ⟨9, 511, false, false, ⟨some 29, (.call 12), [.r 26, .r 27, .r 28], (some (21, true)), [26, 27, 28]⟩⟩,
    ⟨10, 1023, false, false, ⟨some 30, (.eqb false), [.r 25, .r 29], (some (21, true)), [25, 29]⟩⟩,
    ⟨11, 2047, false, false, ⟨some 31, .pick, [.r 21, .r 30, .c (.bool false)], none, [21, 30]⟩⟩,
    ⟨12, 4095, false, false, ⟨some 32, .mv, [.r 31], none, [31]⟩⟩,
    ⟨13, 8191, false, false, ⟨some 33, (.ldn 3), [.r 3], (some (32, true)), []⟩⟩,
    ⟨14, 8191, false, false, ⟨some 34, (.ldn 3), [.r 4], (some (32, true)), []⟩⟩,
    ⟨15, 8191, false, false, ⟨some 35, .mv, [.r 2], (some (32, true)), []⟩⟩,
    ⟨16, 65535, false, true, ⟨some 36, (.call 11), [.r 33, .r 34, .r 35], (some (32, true)), [33, 34, 35]⟩⟩,
    ⟨17, 8191, false, false, ⟨some 37, (.ldn 3), [.r 4], (some (32, true)), []⟩⟩,
    ⟨18, 8191, false, false, ⟨some 38, (.ldn 3), [.r 3], (some (32, true)), []⟩⟩,
    ⟨19, 8191, false, false, ⟨some 39, .mv, [.r 2], (some (32, true)), []⟩⟩,
    ⟨20, 1048575, false, false, ⟨some 40, (.call 11), [.r 37, .r 38, .r 39], (some (32, true)), [37, 38, 39]⟩⟩,
    ⟨21, 2097151, false, false, ⟨some 41, (.bin .eql), [.r 36, .r 40], (some (32, true)), [36, 40]⟩⟩,
    ⟨22, 4194303, false, false, ⟨some 42, .pick, [.r 32, .r 41, .c (.bool false)], none, [32, 41]⟩⟩,
    ⟨23, 8388607, false, false, ⟨some 43, .mv, [.r 42], none, [42]⟩⟩,
    ⟨24, 16777215, false, false, ⟨some 44, (.ldn 3), [.r 3], (some (43, true)), []⟩⟩,
    ⟨25, 16777215, false, false, ⟨some 45, (.ldn 3), [.r 4], (some (43, true)), []⟩⟩,
    ⟨26, 16777215, false, false, ⟨some 46, .mv, [.r 2], (some (43, true)), []⟩⟩,
    ⟨27, 134217727, false, true, ⟨some 47, (.call 12), [.r 44, .r 45, .r 46], (some (43, true)), [44, 45, 46]⟩⟩,
    ⟨28, 16777215, false, false, ⟨some 48, (.ldn 3), [.r 3], (some (43, true)), [3]⟩⟩,
    ⟨29, 16777215, false, false, ⟨some 49, (.ldn 3), [.r 4], (some (43, true)), [4]⟩⟩,
    ⟨30, 16777215, false, false, ⟨some 50, .mv, [.r 2], (some (43, true)), [2]⟩⟩,
    ⟨31, 2147483647, false, false, ⟨some 51, (.call 11), [.r 48, .r 49, .r 50], (some (43, true)), [48, 49, 50]⟩⟩,
    ⟨32, 4294967295, false, false, ⟨some 52, (.bin .leq), [.r 51, .c (.int .i64 1)], (some (43, true)), [51]⟩⟩,
    ⟨33, 8589934591, false, false, ⟨some 53, (.eqb false), [.r 47, .r 52], (some (43, true)), [47, 52]⟩⟩,
    ⟨34, 17179869183, false, false, ⟨some 54, .pick, [.r 43, .r 53, .c (.bool false)], none, [43, 53]⟩⟩,
    ⟨35, 34359738367, false, false, ⟨some 6, .mv, [.r 54], none, [54]⟩⟩])
  .ret))))
def rs5 : List SR := [.tmp 6]
theorem k5 : okC Try.prog 55 (Try.f5.body.getD .skip) c5 = true := by kernel_rfl
theorem acall5 {args : List AV} (hn : args.length ≤ 55) {H : Heap} {v : AV} {H' : Heap} (h : ac Try.prog c5 (argEnv 0 args) H (Fin H rs5 v H')) : ACall Try.prog 5 args H v H' :=
  acall Try.func5 (c := Try.f5.body.getD .skip) rfl k5 (by kernel_rfl) hn h

/- alidade/alidadelaw17.SlewAxes -/
def c6l0 : SC :=
  (.seq (.seq (.reg [⟨some 29, .mv, [.r 9], none, []⟩,
      ⟨some 30, (.bin .lss), [.r 29, .c (.int .i64 3)], none, [29]⟩])
    (.cond (.r 30)
      (.kl [30] .skip)
      (.kl [2, 3, 4, 8, 9, 30] (.exit 0))))
    (.seq (.block 1 (.seq (.reg [⟨some 33, (.build [(.int .i64 0), (.int .i64 0), (.int .i64 0)] []), [], none, []⟩,
      ⟨some 10, (.alloc [(.int .i64 0), (.int .i64 0), (.int .i64 0)]), [], none, []⟩,
      ⟨none, (.st 3), [.r 10, .r 33], none, [33]⟩])
    (.seq (.reg [⟨some 34, (.build [(.int .i64 0), (.int .i64 0), (.int .i64 0)] []), [], none, []⟩,
      ⟨some 11, (.alloc [(.int .i64 0), (.int .i64 0), (.int .i64 0)]), [], none, []⟩,
      ⟨none, (.st 3), [.r 11, .r 34], none, [34]⟩])
    (.seq (.reg [⟨some 35, .mv, [.r 9], none, []⟩,
      ⟨some 36, .mv, [.r 9], none, []⟩,
      ⟨some 37, (.iaddrA 1 3), [.r 3, .r 36], none, [36]⟩,
      ⟨some 38, .ld1, [.r 37], none, [37]⟩,
      ⟨some 39, (.iaddrA 1 3), [.r 10, .r 35], none, [35]⟩,
      ⟨none, (.st 1), [.r 39, .r 38], none, [38, 39]⟩])
    (.seq (.reg [⟨some 40, .mv, [.r 9], none, []⟩,
      ⟨some 41, .mv, [.r 9], none, []⟩,
      ⟨some 42, (.iaddrA 1 3), [.r 4, .r 41], none, [41]⟩,
      ⟨some 43, .ld1, [.r 42], none, [42]⟩,
      ⟨some 44, (.iaddrA 1 3), [.r 11, .r 40], none, [40]⟩,
      ⟨none, (.st 1), [.r 44, .r 43], none, [43, 44]⟩])
    (.seq (.reg [⟨some 45, (.ldn 3), [.r 10], none, [10]⟩,
      ⟨some 46, (.ldn 3), [.r 11], none, [11]⟩,
      ⟨some 47, .mv, [.r 2], none, []⟩,
      ⟨some 48, (.call 10), [.r 45, .r 46, .r 47], none, [45, 46, 47]⟩,
      ⟨some 12, (.alloc [(.int .i64 0), (.int .i64 0), (.int .i64 0)]), [], none, []⟩,
      ⟨none, (.st 3), [.r 12, .r 48], none, [48]⟩])
    (.seq (.dreg [⟨0, 0, false, false, ⟨some 49, .mv, [.r 9], none, []⟩⟩,
      ⟨1, 1, false, false, ⟨some 50, (.iaddrA 1 3), [.r 12, .r 49], none, [12, 49]⟩⟩,
      ⟨2, 3, false, false, ⟨some 51, .ld1, [.r 50], none, [50]⟩⟩,
      ⟨3, 0, false, false, ⟨some 52, .mv, [.r 9], none, []⟩⟩,
      ⟨4, 8, false, false, ⟨some 53, (.iaddrA 1 3), [.r 8, .r 52], none, [52]⟩⟩,
      ⟨5, 24, false, false, ⟨some 54, .ld1, [.r 53], none, [53]⟩⟩,
      ⟨6, 63, false, false, ⟨some 55, (.bin .neq), [.r 51, .r 54], none, [51, 54]⟩⟩])
    (.cond (.r 55)
      (.kl [2, 3, 4, 7, 8, 9, 55] (.seq (.reg [⟨some 6, .mv, [.c (.bool false)], none, []⟩])
      .ret))
      (.kl [55] .skip)))))))))
    (.reg [⟨some 31, .mv, [.r 9], none, [9]⟩,
      ⟨some 32, (.bin .add), [.r 31, .c (.int .i64 1)], none, [31]⟩,
      ⟨some 9, .mv, [.r 32], none, [32]⟩])))
def c6 : SC :=
  (.seq (.reg [⟨some 3, .box, [.r 0], none, [0]⟩,
    ⟨some 4, .box, [.r 1], none, [1]⟩,
    ⟨some 6, .mv, [.c (.bool false)], none, []⟩])
  (.seq (.reg [⟨some 13, (.call 8), [], none, [6]⟩,
    ⟨some 7, .mv, [.r 13], none, [13]⟩])
  (.seq (.seq (.reg [⟨some 14, (.ldn 3), [.r 3], none, []⟩,
    ⟨some 15, .mv, [.r 2], none, []⟩,
    ⟨some 16, (.call 9), [.r 14, .r 15], none, [14, 15]⟩,
    ⟨some 17, (.un .not), [.r 16], none, [16]⟩,
    ⟨some 18, .mv, [.r 17], none, [17]⟩,
    ⟨some 19, (.ldn 3), [.r 4], (some (18, false)), []⟩,
    ⟨some 20, .mv, [.r 2], (some (18, false)), []⟩,
    ⟨some 21, (.call 9), [.r 19, .r 20], (some (18, false)), [19, 20]⟩,
    ⟨some 22, (.un .not), [.r 21], (some (18, false)), [21]⟩,
    ⟨some 23, .pick, [.r 18, .c (.bool true), .r 22], none, [18, 22]⟩])
  (.cond (.r 23)
    (.kl [2, 3, 4, 23] (.seq (.reg [⟨some 24, .mv, [.r 7], none, [7]⟩,
      ⟨some 6, .mv, [.r 24], none, [24]⟩])
    .ret))
    (.kl [23] .skip)))
  (.seq (.reg [⟨some 25, (.ldn 3), [.r 3], none, []⟩,
    ⟨some 26, (.ldn 3), [.r 4], none, []⟩,
    ⟨some 27, .mv, [.r 2], none, []⟩,
    ⟨some 28, (.call 10), [.r 25, .r 26, .r 27], none, [25, 26, 27]⟩,
    ⟨some 8, (.alloc [(.int .i64 0), (.int .i64 0), (.int .i64 0)]), [], none, []⟩,
    ⟨none, (.st 3), [.r 8, .r 28], none, [28]⟩])
  (.seq (.seq (.reg [⟨some 9, .mv, [.c (.int .i64 0)], none, []⟩])
  (.block 0 (.loop c6l0)))
  (.seq (.reg [⟨some 56, .mv, [.r 7], none, [7]⟩,
    ⟨some 6, .mv, [.r 56], none, [56]⟩])
  .ret))))))
def rs6 : List SR := [.tmp 6]
theorem k6 : okC Try.prog 57 (Try.f6.body.getD .skip) c6 = true := by kernel_rfl
theorem acall6 {args : List AV} (hn : args.length ≤ 57) {H : Heap} {v : AV} {H' : Heap} (h : ac Try.prog c6 (argEnv 0 args) H (Fin H rs6 v H')) : ACall Try.prog 6 args H v H' :=
  acall Try.func6 (c := Try.f6.body.getD .skip) rfl k6 (by kernel_rfl) hn h

/- alidade/alidadelaw17.SlewTells -/
def c7 : SC :=
  (.seq (.reg [⟨some 1, .box, [.r 0], none, [0]⟩,
    ⟨some 2, .mv, [.c (.bool false)], none, []⟩])
  (.seq (.reg [⟨some 10, (.faddr 0), [.r 1], none, [2]⟩,
    ⟨some 11, (.ldn 3), [.r 10], none, [10]⟩,
    ⟨some 3, (.alloc [(.int .i64 0), (.int .i64 0), (.int .i64 0)]), [], none, []⟩,
    ⟨none, (.st 3), [.r 3, .r 11], none, [11]⟩])
  (.seq (.reg [⟨some 12, (.faddr 3), [.r 1], none, []⟩,
    ⟨some 13, (.ldn 5), [.r 12], none, [12]⟩,
    ⟨some 4, (.alloc [(.int .i64 0), (.int .i64 0), (.int .i64 0), (.int .i64 0), (.bool false)]), [], none, []⟩,
    ⟨none, (.st 5), [.r 4, .r 13], none, [13]⟩])
  (.seq (.reg [⟨some 14, (.faddr 8), [.r 1], none, []⟩,
    ⟨some 15, .ld1, [.r 14], none, [14]⟩,
    ⟨some 5, .mv, [.r 15], none, [15]⟩])
  (.seq (.reg [⟨some 16, (.faddr 9), [.r 1], none, []⟩,
    ⟨some 17, .ld1, [.r 16], none, [16]⟩,
    ⟨some 6, .mv, [.r 17], none, [17]⟩])
  (.seq (.reg [⟨some 18, (.faddr 10), [.r 1], none, [1]⟩,
    ⟨some 19, .ld1, [.r 18], none, [18]⟩,
    ⟨some 7, .mv, [.r 19], none, [19]⟩])
  (.seq (.reg [⟨some 20, (.call 8), [], none, []⟩,
    ⟨some 8, .mv, [.r 20], none, [20]⟩])
  (.seq (.seq (.reg [⟨some 21, (.ldn 3), [.r 3], none, []⟩,
    ⟨some 22, .mv, [.r 5], none, []⟩,
    ⟨some 23, (.call 9), [.r 21, .r 22], none, [21, 22]⟩,
    ⟨some 24, (.un .not), [.r 23], none, [23]⟩,
    ⟨some 25, .mv, [.r 24], none, [24]⟩,
    ⟨some 26, (.faddr 0), [.r 4], (some (25, false)), []⟩,
    ⟨some 27, (.ldn 3), [.r 26], (some (25, false)), [26]⟩,
    ⟨some 28, .mv, [.r 5], (some (25, false)), []⟩,
    ⟨some 29, (.call 9), [.r 27, .r 28], (some (25, false)), [27, 28]⟩,
    ⟨some 30, (.un .not), [.r 29], (some (25, false)), [29]⟩,
    ⟨some 31, .pick, [.r 25, .c (.bool true), .r 30], none, [25, 30]⟩,
    ⟨some 32, .mv, [.r 31], none, [31]⟩,
    ⟨some 33, (.ldn 5), [.r 4], (some (32, false)), []⟩,
    ⟨some 34, .mv, [.r 6], (some (32, false)), []⟩,
    ⟨some 35, .mv, [.r 7], (some (32, false)), []⟩,
    ⟨some 36, (.call 13), [.r 33, .r 34, .r 35], (some (32, false)), [33, 34, 35]⟩,
    ⟨some 37, (.un .not), [.r 36], (some (32, false)), [36]⟩,
    ⟨some 38, .pick, [.r 32, .c (.bool true), .r 37], none, [32, 37]⟩])
  (.cond (.r 38)
    (.kl [3, 4, 5, 6, 7, 38] (.seq (.reg [⟨some 39, .mv, [.r 8], none, [8]⟩,
      ⟨some 2, .mv, [.r 39], none, [39]⟩])
    .ret))
    (.kl [38] .skip)))
  (.seq (.dreg [⟨0, 0, false, false, ⟨some 40, (.faddr 0), [.r 4], none, []⟩⟩,
    ⟨1, 1, false, false, ⟨some 41, (.ldn 3), [.r 40], none, [40]⟩⟩,
    ⟨2, 0, false, false, ⟨some 42, (.ldn 3), [.r 3], none, []⟩⟩,
    ⟨3, 0, false, false, ⟨some 43, .mv, [.r 5], none, []⟩⟩,
    ⟨4, 15, false, true, ⟨some 44, (.call 10), [.r 41, .r 42, .r 43], none, [41, 42, 43]⟩⟩,
    ⟨5, 0, false, false, ⟨some 45, (.faddr 0), [.r 4], none, []⟩⟩,
    ⟨6, 32, false, false, ⟨some 46, (.ldn 3), [.r 45], none, [45]⟩⟩,
    ⟨7, 0, false, false, ⟨some 47, (.ldn 3), [.r 3], none, []⟩⟩,
    ⟨8, 0, false, false, ⟨some 48, .mv, [.r 5], none, []⟩⟩,
    ⟨9, 511, false, false, ⟨some 49, (.call 14), [.r 46, .r 47, .r 48], none, [46, 47, 48]⟩⟩,
    ⟨10, 1023, false, false, ⟨some 50, (.eqv false [.int, .int, .int]), [.r 44, .r 49], none, [44, 49]⟩⟩,
    ⟨11, 2047, false, false, ⟨some 51, .mv, [.r 50], none, [50]⟩⟩,
    ⟨12, 4095, false, false, ⟨some 52, (.faddr 0), [.r 4], (some (51, true)), []⟩⟩,
    ⟨13, 8191, false, false, ⟨some 53, (.ldn 3), [.r 52], (some (51, true)), [52]⟩⟩,
    ⟨14, 4095, false, false, ⟨some 54, (.ldn 3), [.r 3], (some (51, true)), []⟩⟩,
    ⟨15, 4095, false, false, ⟨some 55, .mv, [.r 5], (some (51, true)), []⟩⟩,
    ⟨16, 65535, false, true, ⟨some 56, (.call 11), [.r 53, .r 54, .r 55], (some (51, true)), [53, 54, 55]⟩⟩,
    ⟨17, 4095, false, false, ⟨some 57, (.faddr 0), [.r 4], (some (51, true)), []⟩⟩,
    ⟨18, 135167, false, false, ⟨some 58, (.ldn 3), [.r 57], (some (51, true)), [57]⟩⟩,
    ⟨19, 4095, false, false, ⟨some 59, (.ldn 3), [.r 3], (some (51, true)), []⟩⟩,
    ⟨20, 4095, false, false, ⟨some 60, .mv, [.r 5], (some (51, true)), []⟩⟩,
    ⟨21, 2097151, false, false, ⟨some 61, (.call 15), [.r 58, .r 59, .r 60], (some (51, true)), [58, 59, 60]⟩⟩,
    ⟨22, 4194303, false, false, ⟨some 62, (.bin .eql), [.r 56, .r 61], (some (51, true)), [56, 61]⟩⟩,
    ⟨23, 8388607, false, false, ⟨some 63, .pick, [.r 51, .r 62, .c (.bool false)], none, [51, 62]⟩⟩,
    ⟨24, 16777215, false, false, ⟨some 64, .mv, [.r 63], none, [63]⟩⟩,
    ⟨25, 33554431, false, false, ⟨some 65, (.faddr 0), [.r 4], (some (64, true)), []⟩⟩,
    ⟨26, 67108863, false, false, ⟨some 66, (.ldn 3), [.r 65], (some (64, true)), [65]⟩⟩,
    ⟨27, 33554431, false, false, ⟨some 67, (.ldn 3), [.r 3], (some (64, true)), []⟩⟩,
    ⟨28, 33554431, false, false, ⟨some 68, .mv, [.r 5], (some (64, true)), []⟩⟩,
    ⟨29, 536870911, false, true, ⟨some 69, (.call 12), [.r 66, .r 67, .r 68], (some (64, true)), [66, 67, 68]⟩⟩,
    ⟨30, 33554431, false, false, ⟨some 70, (.faddr 0), [.r 4], (some (64, true)), []⟩⟩,
    ⟨31, 1107296255, false, false, ⟨some 71, (.ldn 3), [.r 70], (some (64, true)), [70]⟩⟩,
    ⟨32, 33554431, false, false, ⟨some 72, (.ldn 3), [.r 3], (some (64, true)), []⟩⟩,
    ⟨33, 33554431, false, false, ⟨some 73, .mv, [.r 5], (some (64, true)), []⟩⟩,
    ⟨34, 17179869183, false, false, ⟨some 74, (.call 16), [.r 71, .r 72, .r 73], (some (64, true)), [71, 72, 73]⟩⟩,
    ⟨35, 34359738367, false, false, ⟨some 75, (.eqb false), [.r 69, .r 74], (some (64, true)), [69, 74]⟩⟩,
    ⟨36, 68719476735, false, false, ⟨some 76, .pick, [.r 64, .r 75, .c (.bool false)], none, [64, 75]⟩⟩,
    ⟨37, 137438953471, false, false, ⟨some 9, .mv, [.r 76], none, [76]⟩⟩])
  (.seq (.dreg [⟨0, 0, false, false, ⟨some 77, .mv, [.r 8], none, [8]⟩⟩,
    ⟨1, 1, false, false, ⟨some 78, .mv, [.r 77], none, [77]⟩⟩,
    ⟨2, 3, false, false, ⟨some 79, .mv, [.r 9], (some (78, true)), [9]⟩⟩,
    ⟨3, 7, false, false, ⟨some 80, .pick, [.r 78, .r 79, .c (.bool false)], none, [78, 79]⟩⟩,
    ⟨4, 15, false, false, ⟨some 81, .mv, [.r 80], none, [80]⟩⟩,
    ⟨5, 31, false, false, ⟨some 82, (.ldn 5), [.r 4], (some (81, true)), []⟩⟩,
    ⟨6, 31, false, false, ⟨some 83, (.ldn 3), [.r 3], (some (81, true)), []⟩⟩,
    ⟨7, 31, false, false, ⟨some 84, .mv, [.r 6], (some (81, true)), []⟩⟩,
    ⟨8, 31, false, false, ⟨some 85, .mv, [.r 5], (some (81, true)), []⟩⟩,
    ⟨9, 511, false, true, ⟨some 86, (.call 17), [.r 82, .r 83, .r 84, .r 85], (some (81, true)), [82, 83, 84, 85]⟩⟩,
    ⟨10, 31, false, false, ⟨some 87, (.ldn 5), [.r 4], (some (81, true)), []⟩⟩,
    ⟨11, 31, false, false, ⟨some 88, (.ldn 3), [.r 3], (some (81, true)), [3]⟩⟩,
    ⟨12, 31, false, false, ⟨some 89, .mv, [.r 6], (some (81, true)), []⟩⟩,
    ⟨13, 31, false, false, ⟨some 90, .mv, [.r 5], (some (81, true)), [5]⟩⟩,
    ⟨14, 16383, false, false, ⟨some 91, (.call 18), [.r 87, .r 88, .r 89, .r 90], (some (81, true)), [87, 88, 89, 90]⟩⟩,
    ⟨15, 32767, false, false, ⟨some 92, (.eqv false [.int, .int, .int, .int, .bool]), [.r 86, .r 91], (some (81, true)), [86, 91]⟩⟩,
    ⟨16, 65535, false, false, ⟨some 93, .pick, [.r 81, .r 92, .c (.bool false)], none, [81, 92]⟩⟩,
    ⟨17, 131071, false, false, ⟨some 94, .mv, [.r 93], none, [93]⟩⟩,
    ⟨18, 262143, false, false, ⟨some 95, (.ldn 5), [.r 4], (some (94, true)), []⟩⟩,
    ⟨19, 262143, false, false, ⟨some 96, .mv, [.r 6], (some (94, true)), []⟩⟩,
    ⟨20, 262143, false, false, ⟨some 97, .mv, [.r 7], (some (94, true)), []⟩⟩,
    ⟨21, 2097151, false, true, ⟨some 98, (.call 19), [.r 95, .r 96, .r 97], (some (94, true)), [95, 96, 97]⟩⟩,
    ⟨22, 262143, false, false, ⟨some 99, (.ldn 5), [.r 4], (some (94, true)), [4]⟩⟩,
    ⟨23, 262143, false, false, ⟨some 100, .mv, [.r 6], (some (94, true)), [6]⟩⟩,
    ⟨24, 262143, false, false, ⟨some 101, .mv, [.r 7], (some (94, true)), [7]⟩⟩,
    ⟨25, 33554431, false, false, ⟨some 102, (.call 20), [.r 99, .r 100, .r 101], (some (94, true)), [99, 100, 101]⟩⟩,
    ⟨26, 67108863, false, false, ⟨some 103, (.eqv false [.int, .int, .int, .int, .bool]), [.r 98, .r 102], (some (94, true)), [98, 102]⟩⟩,
    ⟨27, 134217727, false, false, ⟨some 104, .pick, [.r 94, .r 103, .c (.bool false)], none, [94, 103]⟩⟩,
    ⟨28, 268435455, false, false, ⟨some 2, .mv, [.r 104], none, [104]⟩⟩])
  .ret))))))))))
def rs7 : List SR := [.tmp 2]
theorem k7 : okC Try.prog 105 (Try.f7.body.getD .skip) c7 = true := by kernel_rfl
theorem acall7 {args : List AV} (hn : args.length ≤ 105) {H : Heap} {v : AV} {H' : Heap} (h : ac Try.prog c7 (argEnv 0 args) H (Fin H rs7 v H')) : ACall Try.prog 7 args H v H' :=
  acall Try.func7 (c := Try.f7.body.getD .skip) rfl k7 (by kernel_rfl) hn h

/- alidade/alidadelaw17.shown -/
def c8 : SC :=
  (.seq (.reg [⟨some 0, .mv, [.c (.bool false)], none, []⟩])
  (.seq (.reg [⟨some 2, (.build [(.int .i64 0), (.int .i64 0), (.int .i64 0)] [(0, 1), (1, 1), (2, 1)]), [.c (.int .i64 5), .c (.int .i64 (-1)), .c (.int .i64 9)], none, [0]⟩,
    ⟨some 1, (.alloc [(.int .i64 0), (.int .i64 0), (.int .i64 0)]), [], none, []⟩,
    ⟨none, (.st 3), [.r 1, .r 2], none, [2]⟩])
  (.seq (.reg [⟨some 3, (.build [(.int .i64 0), (.int .i64 0), (.int .i64 0)] []), [], none, []⟩,
    ⟨some 4, (.ldn 3), [.r 1], none, []⟩,
    ⟨some 5, (.call 10), [.r 3, .r 4, .c (.int .i64 4)], none, [3, 4]⟩,
    ⟨some 6, (.build [(.int .i64 0), (.int .i64 0), (.int .i64 0)] [(0, 1), (1, 1), (2, 1)]), [.c (.int .i64 4), .c (.int .i64 (-1)), .c (.int .i64 4)], none, []⟩,
    ⟨some 7, (.eqv false [.int, .int, .int]), [.r 5, .r 6], none, [5, 6]⟩,
    ⟨some 8, .mv, [.r 7], none, [7]⟩,
    ⟨some 9, (.build [(.int .i64 0), (.int .i64 0), (.int .i64 0)] []), [], (some (8, true)), []⟩,
    ⟨some 10, (.ldn 3), [.r 1], (some (8, true)), []⟩,
    ⟨some 11, (.call 11), [.r 9, .r 10, .c (.int .i64 4)], (some (8, true)), [9, 10]⟩,
    ⟨some 12, (.bin .eql), [.r 11, .c (.int .i64 3)], (some (8, true)), [11]⟩,
    ⟨some 13, .pick, [.r 8, .r 12, .c (.bool false)], none, [8, 12]⟩,
    ⟨some 14, .mv, [.r 13], none, [13]⟩,
    ⟨some 15, (.ldn 3), [.r 1], (some (14, true)), []⟩,
    ⟨some 16, (.ldn 3), [.r 1], (some (14, true)), [1]⟩,
    ⟨some 17, (.call 12), [.r 15, .r 16, .c (.int .i64 1)], (some (14, true)), [15, 16]⟩,
    ⟨some 18, .pick, [.r 14, .r 17, .c (.bool false)], none, [14, 17]⟩,
    ⟨some 0, .mv, [.r 18], none, [18]⟩])
  .ret)))
def rs8 : List SR := [.tmp 0]
theorem k8 : okC Try.prog 19 (Try.f8.body.getD .skip) c8 = true := by kernel_rfl
theorem acall8 {args : List AV} (hn : args.length ≤ 19) {H : Heap} {v : AV} {H' : Heap} (h : ac Try.prog c8 (argEnv 0 args) H (Fin H rs8 v H')) : ACall Try.prog 8 args H v H' :=
  acall Try.func8 (c := Try.f8.body.getD .skip) rfl k8 (by kernel_rfl) hn h

/- alidade/alidaderef17.Right -/
def c9l0 : SC :=
  (.seq (.seq (.reg [⟨some 6, .mv, [.r 5], none, []⟩,
      ⟨some 7, (.bin .lss), [.r 6, .c (.int .i64 3)], none, [6]⟩])
    (.cond (.r 7)
      (.kl [7] .skip)
      (.kl [2, 5, 7] (.exit 0))))
    (.seq (.block 1 (.seq (.reg [⟨some 10, .mv, [.r 5], none, []⟩,
      ⟨some 11, (.iaddrA 1 3), [.r 2, .r 10], none, [10]⟩,
      ⟨some 12, .ld1, [.r 11], none, [11]⟩,
      ⟨some 13, (.bin .lss), [.r 12, .c (.int .i64 (-70368744177664))], none, [12]⟩,
      ⟨some 14, .mv, [.r 13], none, [13]⟩,
      ⟨some 15, .mv, [.r 5], (some (14, false)), []⟩,
      ⟨some 16, (.iaddrA 1 3), [.r 2, .r 15], (some (14, false)), [15]⟩,
      ⟨some 17, .ld1, [.r 16], (some (14, false)), [16]⟩,
      ⟨some 18, (.bin .gtr), [.r 17, .c (.int .i64 70368744177663)], (some (14, false)), [17]⟩,
      ⟨some 19, .pick, [.r 14, .c (.bool true), .r 18], none, [14, 18]⟩])
    (.cond (.r 19)
      (.kl [1, 2, 5, 19] (.seq (.reg [⟨some 4, .mv, [.c (.bool false)], none, []⟩])
      .ret))
      (.kl [19] .skip))))
    (.reg [⟨some 8, .mv, [.r 5], none, [5]⟩,
      ⟨some 9, (.bin .add), [.r 8, .c (.int .i64 1)], none, [8]⟩,
      ⟨some 5, .mv, [.r 9], none, [9]⟩])))
def c9 : SC :=
  (.seq (.reg [⟨some 2, .box, [.r 0], none, [0]⟩,
    ⟨some 4, .mv, [.c (.bool false)], none, []⟩])
  (.seq (.seq (.reg [⟨some 5, .mv, [.c (.int .i64 0)], none, [4]⟩])
  (.block 0 (.loop c9l0)))
  (.seq (.reg [⟨some 20, .mv, [.r 1], none, []⟩,
    ⟨some 21, (.bin .geq), [.r 20, .c (.int .i64 1)], none, [20]⟩,
    ⟨some 22, .mv, [.r 21], none, [21]⟩,
    ⟨some 23, .mv, [.r 1], (some (22, true)), [1]⟩,
    ⟨some 24, (.bin .leq), [.r 23, .c (.int .i64 70368744177663)], (some (22, true)), [23]⟩,
    ⟨some 25, .pick, [.r 22, .r 24, .c (.bool false)], none, [22, 24]⟩,
    ⟨some 4, .mv, [.r 25], none, [25]⟩])
  .ret)))
def rs9 : List SR := [.tmp 4]
theorem k9 : okC Try.prog 26 (Try.f9.body.getD .skip) c9 = true := by kernel_rfl
theorem acall9 {args : List AV} (hn : args.length ≤ 26) {H : Heap} {v : AV} {H' : Heap} (h : ac Try.prog c9 (argEnv 0 args) H (Fin H rs9 v H')) : ACall Try.prog 9 args H v H' :=
  acall Try.func9 (c := Try.f9.body.getD .skip) rfl k9 (by kernel_rfl) hn h

/- alidade/slew.Move -/
def c10l0 : SC :=
  (.seq (.reg [⟨some 13, (.bin .lss), [.r 12, .c (.int .i64 3)], none, []⟩])
    (.seq (.cond (.r 13)
      (.kl [13] .skip)
      (.kl [2, 11, 12, 13] (.exit 0)))
    (.seq (.block 1 (.seq (.reg [⟨some 14, .mv, [.r 12], none, []⟩,
      ⟨some 15, (.idxA 1 3 false), [.r 11, .r 12], none, []⟩,
      ⟨some 7, .mv, [.r 14], none, [14]⟩,
      ⟨some 8, .mv, [.r 15], none, [15]⟩])
    (.reg [⟨some 16, .mv, [.r 7], none, [7]⟩,
      ⟨some 17, (.iaddrA 1 3), [.r 3, .r 16], none, []⟩,
      ⟨some 18, .ld1, [.r 17], none, [17]⟩,
      ⟨some 19, .mv, [.r 8], none, [8]⟩,
      ⟨some 20, .mv, [.r 2], none, []⟩,
      ⟨some 21, (.un .neg), [.r 20], none, [20]⟩,
      ⟨some 22, .mx, [.r 19, .r 21], none, [19, 21]⟩,
      ⟨some 23, .mv, [.r 2], none, []⟩,
      ⟨some 24, .mn, [.r 22, .r 23], none, [22, 23]⟩,
      ⟨some 25, (.bin .add), [.r 18, .r 24], none, [18, 24]⟩,
      ⟨some 26, (.iaddrA 1 3), [.r 3, .r 16], none, [16]⟩,
      ⟨none, (.st 1), [.r 26, .r 25], none, [25, 26]⟩])))
    (.reg [⟨some 27, (.bin .add), [.r 12, .c (.int .i64 1)], none, [12]⟩,
      ⟨some 12, .mv, [.r 27], none, [27]⟩]))))
def c10 : SC :=
  (.seq (.reg [⟨some 3, .box, [.r 0], none, [0]⟩,
    ⟨some 4, .box, [.r 1], none, [1]⟩,
    ⟨some 6, (.alloc [(.int .i64 0), (.int .i64 0), (.int .i64 0)]), [], none, []⟩])
  (.seq (.seq (.reg [⟨some 9, (.ldn 3), [.r 3], none, []⟩,
    ⟨some 10, (.ldn 3), [.r 4], none, [4]⟩,
    ⟨some 11, (.call 21), [.r 9, .r 10], none, [9, 10]⟩,
    ⟨some 12, .mv, [.c (.int .i64 0)], none, []⟩])
  (.block 0 (.loop c10l0)))
  (.seq (.reg [⟨some 28, (.ldn 3), [.r 3], none, [3]⟩,
    ⟨none, (.st 3), [.r 6, .r 28], none, [28]⟩])
  .ret)))
def rs10 : List SR := [.celln 6 3]
theorem k10 : okC Try.prog 29 (Try.f10.body.getD .skip) c10 = true := by kernel_rfl
theorem acall10 {args : List AV} (hn : args.length ≤ 29) {H : Heap} {v : AV} {H' : Heap} (h : ac Try.prog c10 (argEnv 0 args) H (Fin H rs10 v H')) : ACall Try.prog 10 args H v H' :=
  acall Try.func10 (c := Try.f10.body.getD .skip) rfl k10 (by kernel_rfl) hn h

/- alidade/slew.Moves -/
def c11 : SC :=
  (.seq (.reg [⟨some 3, .box, [.r 0], none, [0]⟩,
    ⟨some 4, .box, [.r 1], none, [1]⟩,
    ⟨some 6, .mv, [.c (.int .i64 0)], none, []⟩])
  (.seq (.reg [⟨some 8, (.ldn 3), [.r 3], none, [3, 6]⟩,
    ⟨some 9, (.ldn 3), [.r 4], none, [4]⟩,
    ⟨some 10, (.call 22), [.r 8, .r 9], none, [8, 9]⟩,
    ⟨some 7, .mv, [.r 10], none, [10]⟩])
  (.seq (.reg [⟨some 11, .mv, [.r 7], none, [7]⟩,
    ⟨some 12, (.call 23), [.r 11], none, [11]⟩,
    ⟨some 13, .mv, [.r 2], none, []⟩,
    ⟨some 14, (.bin .add), [.r 12, .r 13], none, [12, 13]⟩,
    ⟨some 15, (.bin .sub), [.r 14, .c (.int .i64 1)], none, [14]⟩,
    ⟨some 16, .mv, [.r 2], none, [2]⟩,
    ⟨some 17, (.bin .quo), [.r 15, .r 16], none, [15, 16]⟩,
    ⟨some 6, .mv, [.r 17], none, [17]⟩])
  .ret)))
def rs11 : List SR := [.tmp 6]
theorem k11 : okC Try.prog 18 (Try.f11.body.getD .skip) c11 = true := by kernel_rfl
theorem acall11 {args : List AV} (hn : args.length ≤ 18) {H : Heap} {v : AV} {H' : Heap} (h : ac Try.prog c11 (argEnv 0 args) H (Fin H rs11 v H')) : ACall Try.prog 11 args H v H' :=
  acall Try.func11 (c := Try.f11.body.getD .skip) rfl k11 (by kernel_rfl) hn h

/- alidade/slew.Near -/
def c12 : SC :=
  (.seq (.reg [⟨some 3, .box, [.r 0], none, [0]⟩,
    ⟨some 4, .box, [.r 1], none, [1]⟩,
    ⟨some 5, .box, [.r 2], none, [2]⟩,
    ⟨some 6, .mv, [.c (.bool false)], none, []⟩])
  (.seq (.reg [⟨some 7, (.ldn 3), [.r 3], none, [3, 6]⟩,
    ⟨some 8, (.ldn 3), [.r 4], none, [4]⟩,
    ⟨some 9, (.call 22), [.r 7, .r 8], none, [7, 8]⟩,
    ⟨some 10, (.mkfn (.func 25) 0), [.r 5], none, [5]⟩,
    ⟨some 11, (.call 24), [.r 9, .r 10], none, [9, 10]⟩,
    ⟨some 12, (.un .not), [.r 11], none, [11]⟩,
    ⟨some 6, .mv, [.r 12], none, [12]⟩])
  .ret))
def rs12 : List SR := [.tmp 6]
theorem k12 : okC Try.prog 13 (Try.f12.body.getD .skip) c12 = true := by kernel_rfl
theorem acall12 {args : List AV} (hn : args.length ≤ 13) {H : Heap} {v : AV} {H' : Heap} (h : ac Try.prog c12 (argEnv 0 args) H (Fin H rs12 v H')) : ACall Try.prog 12 args H v H' :=
  acall Try.func12 (c := Try.f12.body.getD .skip) rfl k12 (by kernel_rfl) hn h

/- alidade/alidaderef17.Clock -/
def c13 : SC :=
  (.seq (.reg [⟨some 3, .box, [.r 0], none, [0]⟩,
    ⟨some 6, .mv, [.c (.bool false)], none, []⟩])
  (.seq (.reg [⟨some 7, .mv, [.r 1], none, [6]⟩,
    ⟨some 8, (.bin .geq), [.r 7, .c (.int .i64 0)], none, [7]⟩,
    ⟨some 9, .mv, [.r 8], none, [8]⟩,
    ⟨some 10, .mv, [.r 1], (some (9, true)), [1]⟩,
    ⟨some 11, (.bin .leq), [.r 10, .c (.int .i64 4611686018427387904)], (some (9, true)), [10]⟩,
    ⟨some 12, .pick, [.r 9, .r 11, .c (.bool false)], none, [9, 11]⟩,
    ⟨some 13, .mv, [.r 12], none, [12]⟩,
    ⟨some 14, (.faddr 3), [.r 3], (some (13, true)), []⟩,
    ⟨some 15, .ld1, [.r 14], (some (13, true)), [14]⟩,
    ⟨some 16, (.bin .geq), [.r 15, .c (.int .i64 0)], (some (13, true)), [15]⟩,
    ⟨some 17, .pick, [.r 13, .r 16, .c (.bool false)], none, [13, 16]⟩,
    ⟨some 18, .mv, [.r 17], none, [17]⟩,
    ⟨some 19, (.faddr 3), [.r 3], (some (18, true)), [3]⟩,
    ⟨some 20, .ld1, [.r 19], (some (18, true)), [19]⟩,
    ⟨some 21, (.bin .leq), [.r 20, .c (.int .i64 4611686018427387904)], (some (18, true)), [20]⟩,
    ⟨some 22, .pick, [.r 18, .r 21, .c (.bool false)], none, [18, 21]⟩,
    ⟨some 23, .mv, [.r 22], none, [22]⟩,
    ⟨some 24, .mv, [.r 2], (some (23, true)), []⟩,
    ⟨some 25, (.bin .geq), [.r 24, .c (.int .i64 1)], (some (23, true)), [24]⟩,
    ⟨some 26, .pick, [.r 23, .r 25, .c (.bool false)], none, [23, 25]⟩,
    ⟨some 27, .mv, [.r 26], none, [26]⟩,
    ⟨some 28, .mv, [.r 2], (some (27, true)), [2]⟩,
    ⟨some 29, (.bin .leq), [.r 28, .c (.int .i64 1000000000)], (some (27, true)), [28]⟩,
    ⟨some 30, .pick, [.r 27, .r 29, .c (.bool false)], none, [27, 29]⟩,
    ⟨some 6, .mv, [.r 30], none, [30]⟩])
  .ret))
def rs13 : List SR := [.tmp 6]
theorem k13 : okC Try.prog 31 (Try.f13.body.getD .skip) c13 = true := by kernel_rfl
theorem acall13 {args : List AV} (hn : args.length ≤ 31) {H : Heap} {v : AV} {H' : Heap} (h : ac Try.prog c13 (argEnv 0 args) H (Fin H rs13 v H')) : ACall Try.prog 13 args H v H' :=
  acall Try.func13 (c := Try.f13.body.getD .skip) rfl k13 (by kernel_rfl) hn h

/- alidade/alidaderef17.Move -/
def c14l0 : SC :=
  (.seq (.seq (.reg [⟨some 10, .mv, [.r 8], none, []⟩,
      ⟨some 11, (.bin .lss), [.r 10, .c (.int .i64 3)], none, [10]⟩])
    (.cond (.r 11)
      (.kl [11] .skip)
      (.kl [2, 3, 4, 8, 11] (.exit 0))))
    (.seq (.block 1 (.seq (.reg [⟨some 14, .mv, [.r 8], none, []⟩,
      ⟨some 15, .mv, [.r 8], none, []⟩,
      ⟨some 16, (.iaddrA 1 3), [.r 4, .r 15], none, [15]⟩,
      ⟨some 17, .ld1, [.r 16], none, [16]⟩,
      ⟨some 18, (.iaddrA 1 3), [.r 7, .r 14], none, [14]⟩,
      ⟨none, (.st 1), [.r 18, .r 17], none, [17, 18]⟩])
    (.seq (.seq (.dreg [⟨0, 0, false, false, ⟨some 19, .mv, [.r 8], none, []⟩⟩,
      ⟨1, 1, false, false, ⟨some 20, (.iaddrA 1 3), [.r 4, .r 19], none, [19]⟩⟩,
      ⟨2, 3, false, false, ⟨some 21, .ld1, [.r 20], none, [20]⟩⟩,
      ⟨3, 0, false, false, ⟨some 22, .mv, [.r 8], none, []⟩⟩,
      ⟨4, 8, false, false, ⟨some 23, (.iaddrA 1 3), [.r 3, .r 22], none, [22]⟩⟩,
      ⟨5, 24, false, false, ⟨some 24, .ld1, [.r 23], none, [23]⟩⟩,
      ⟨6, 0, false, false, ⟨some 25, .mv, [.r 2], none, []⟩⟩,
      ⟨7, 120, false, false, ⟨some 26, (.bin .add), [.r 24, .r 25], none, [24, 25]⟩⟩,
      ⟨8, 255, false, false, ⟨some 27, (.bin .gtr), [.r 21, .r 26], none, [21, 26]⟩⟩])
    (.cond (.r 27)
      (.kl [27] (.reg [⟨some 28, .mv, [.r 8], none, []⟩,
        ⟨some 29, .mv, [.r 8], none, []⟩,
        ⟨some 30, (.iaddrA 1 3), [.r 3, .r 29], none, [29]⟩,
        ⟨some 31, .ld1, [.r 30], none, [30]⟩,
        ⟨some 32, .mv, [.r 2], none, []⟩,
        ⟨some 33, (.bin .add), [.r 31, .r 32], none, [31, 32]⟩,
        ⟨some 34, (.iaddrA 1 3), [.r 7, .r 28], none, [28]⟩,
        ⟨none, (.st 1), [.r 34, .r 33], none, [33, 34]⟩]))
      (.kl [27] .skip)))
    (.seq (.dreg [⟨0, 0, false, false, ⟨some 35, .mv, [.r 8], none, []⟩⟩,
      ⟨1, 1, false, false, ⟨some 36, (.iaddrA 1 3), [.r 4, .r 35], none, [35]⟩⟩,
      ⟨2, 3, false, false, ⟨some 37, .ld1, [.r 36], none, [36]⟩⟩,
      ⟨3, 0, false, false, ⟨some 38, .mv, [.r 8], none, []⟩⟩,
      ⟨4, 8, false, false, ⟨some 39, (.iaddrA 1 3), [.r 3, .r 38], none, [38]⟩⟩,
      ⟨5, 24, false, false, ⟨some 40, .ld1, [.r 39], none, [39]⟩⟩,
      ⟨6, 0, false, false, ⟨some 41, .mv, [.r 2], none, []⟩⟩,
      ⟨7, 120, false, false, ⟨some 42, (.bin .sub), [.r 40, .r 41], none, [40, 41]⟩⟩,
      ⟨8, 255, false, false, ⟨some 43, (.bin .lss), [.r 37, .r 42], none, [37, 42]⟩⟩])
    (.cond (.r 43)
      (.kl [43] (.reg [⟨some 44, .mv, [.r 8], none, []⟩,
        ⟨some 45, .mv, [.r 8], none, []⟩,
        ⟨some 46, (.iaddrA 1 3), [.r 3, .r 45], none, [45]⟩,
        ⟨some 47, .ld1, [.r 46], none, [46]⟩,
        ⟨some 48, .mv, [.r 2], none, []⟩,
        ⟨some 49, (.bin .sub), [.r 47, .r 48], none, [47, 48]⟩,
        ⟨some 50, (.iaddrA 1 3), [.r 7, .r 44], none, [44]⟩,
        ⟨none, (.st 1), [.r 50, .r 49], none, [49, 50]⟩]))
      (.kl [43] .skip))))))
    (.reg [⟨some 12, .mv, [.r 8], none, [8]⟩,
      ⟨some 13, (.bin .add), [.r 12, .c (.int .i64 1)], none, [12]⟩,
      ⟨some 8, .mv, [.r 13], none, [13]⟩])))
def c14 : SC :=
  (.seq (.reg [⟨some 3, .box, [.r 0], none, [0]⟩,
    ⟨some 4, .box, [.r 1], none, [1]⟩,
    ⟨some 6, (.alloc [(.int .i64 0), (.int .i64 0), (.int .i64 0)]), [], none, []⟩])
  (.seq (.reg [⟨some 9, (.build [(.int .i64 0), (.int .i64 0), (.int .i64 0)] []), [], none, []⟩,
    ⟨some 7, (.alloc [(.int .i64 0), (.int .i64 0), (.int .i64 0)]), [], none, []⟩,
    ⟨none, (.st 3), [.r 7, .r 9], none, [9]⟩])
  (.seq (.seq (.reg [⟨some 8, .mv, [.c (.int .i64 0)], none, []⟩])
  (.block 0 (.loop c14l0)))
  (.seq (.reg [⟨some 51, (.ldn 3), [.r 7], none, [7]⟩,
    ⟨none, (.st 3), [.r 6, .r 51], none, [51]⟩])
  .ret))))
def rs14 : List SR := [.celln 6 3]
theorem k14 : okC Try.prog 52 (Try.f14.body.getD .skip) c14 = true := by kernel_rfl
theorem acall14 {args : List AV} (hn : args.length ≤ 52) {H : Heap} {v : AV} {H' : Heap} (h : ac Try.prog c14 (argEnv 0 args) H (Fin H rs14 v H')) : ACall Try.prog 14 args H v H' :=
  acall Try.func14 (c := Try.f14.body.getD .skip) rfl k14 (by kernel_rfl) hn h

/- alidade/alidaderef17.Moves -/
def c15l0 : SC :=
  (.seq (.seq (.reg [⟨some 11, .mv, [.r 8], none, []⟩,
      ⟨some 12, (.bin .lss), [.r 11, .c (.int .i64 3)], none, [11]⟩])
    (.cond (.r 12)
      (.kl [12] .skip)
      (.kl [2, 3, 4, 8, 12] (.exit 0))))
    (.seq (.block 1 (.seq (.dreg [⟨0, 0, false, false, ⟨some 15, .mv, [.r 8], none, []⟩⟩,
      ⟨1, 1, false, false, ⟨some 16, (.iaddrA 1 3), [.r 4, .r 15], none, [15]⟩⟩,
      ⟨2, 3, false, false, ⟨some 17, .ld1, [.r 16], none, [16]⟩⟩,
      ⟨3, 0, false, false, ⟨some 18, .mv, [.r 8], none, []⟩⟩,
      ⟨4, 8, false, false, ⟨some 19, (.iaddrA 1 3), [.r 3, .r 18], none, [18]⟩⟩,
      ⟨5, 24, false, false, ⟨some 20, .ld1, [.r 19], none, [19]⟩⟩,
      ⟨6, 63, false, false, ⟨some 21, (.bin .sub), [.r 17, .r 20], none, [17, 20]⟩⟩,
      ⟨7, 127, false, false, ⟨some 9, .mv, [.r 21], none, [21]⟩⟩])
    (.seq (.seq (.reg [⟨some 22, .mv, [.r 9], none, []⟩,
      ⟨some 23, (.bin .lss), [.r 22, .c (.int .i64 0)], none, [22]⟩])
    (.cond (.r 23)
      (.kl [23] (.reg [⟨some 24, .mv, [.r 9], none, [9]⟩,
        ⟨some 25, (.bin .sub), [.c (.int .i64 0), .r 24], none, [24]⟩,
        ⟨some 9, .mv, [.r 25], none, [25]⟩]))
      (.kl [23] .skip)))
    (.seq (.reg [⟨some 26, .mv, [.r 9], none, []⟩,
      ⟨some 27, .mv, [.r 2], none, []⟩,
      ⟨some 28, (.bin .quo), [.r 26, .r 27], none, [26, 27]⟩,
      ⟨some 10, .mv, [.r 28], none, [28]⟩])
    (.seq (.seq (.reg [⟨some 29, .mv, [.r 9], none, [9]⟩,
      ⟨some 30, .mv, [.r 2], none, []⟩,
      ⟨some 31, (.bin .rem), [.r 29, .r 30], none, [29, 30]⟩,
      ⟨some 32, (.bin .neq), [.r 31, .c (.int .i64 0)], none, [31]⟩])
    (.cond (.r 32)
      (.kl [32] (.reg [⟨some 33, .mv, [.r 10], none, [10]⟩,
        ⟨some 34, (.bin .add), [.r 33, .c (.int .i64 1)], none, [33]⟩,
        ⟨some 10, .mv, [.r 34], none, [34]⟩]))
      (.kl [32] .skip)))
    (.seq (.reg [⟨some 35, .mv, [.r 10], none, []⟩,
      ⟨some 36, .mv, [.r 7], none, []⟩,
      ⟨some 37, (.bin .gtr), [.r 35, .r 36], none, [35, 36]⟩])
    (.cond (.r 37)
      (.kl [7, 37] (.reg [⟨some 38, .mv, [.r 10], none, [10]⟩,
        ⟨some 7, .mv, [.r 38], none, [38]⟩]))
      (.kl [10, 37] .skip))))))))
    (.reg [⟨some 13, .mv, [.r 8], none, [8]⟩,
      ⟨some 14, (.bin .add), [.r 13, .c (.int .i64 1)], none, [13]⟩,
      ⟨some 8, .mv, [.r 14], none, [14]⟩])))
def c15 : SC :=
  (.seq (.reg [⟨some 3, .box, [.r 0], none, [0]⟩,
    ⟨some 4, .box, [.r 1], none, [1]⟩,
    ⟨some 6, .mv, [.c (.int .i64 0)], none, []⟩])
  (.seq (.reg [⟨some 7, .mv, [.c (.int .i64 0)], none, [6]⟩])
  (.seq (.seq (.reg [⟨some 8, .mv, [.c (.int .i64 0)], none, []⟩])
  (.block 0 (.loop c15l0)))
  (.seq (.reg [⟨some 39, .mv, [.r 7], none, [7]⟩,
    ⟨some 6, .mv, [.r 39], none, [39]⟩])
  .ret))))
def rs15 : List SR := [.tmp 6]
theorem k15 : okC Try.prog 40 (Try.f15.body.getD .skip) c15 = true := by kernel_rfl
theorem acall15 {args : List AV} (hn : args.length ≤ 40) {H : Heap} {v : AV} {H' : Heap} (h : ac Try.prog c15 (argEnv 0 args) H (Fin H rs15 v H')) : ACall Try.prog 15 args H v H' :=
  acall Try.func15 (c := Try.f15.body.getD .skip) rfl k15 (by kernel_rfl) hn h

/- alidade/alidaderef17.Near -/
def c16l0 : SC :=
  (.seq (.seq (.reg [⟨some 8, .mv, [.r 7], none, []⟩,
      ⟨some 9, (.bin .lss), [.r 8, .c (.int .i64 3)], none, [8]⟩])
    (.cond (.r 9)
      (.kl [9] .skip)
      (.kl [2, 3, 4, 7, 9] (.exit 0))))
    (.seq (.block 1 (.seq (.dreg [⟨0, 0, false, false, ⟨some 12, .mv, [.r 7], none, []⟩⟩,
      ⟨1, 1, false, false, ⟨some 13, (.iaddrA 1 3), [.r 3, .r 12], none, [12]⟩⟩,
      ⟨2, 3, false, false, ⟨some 14, .ld1, [.r 13], none, [13]⟩⟩,
      ⟨3, 0, false, false, ⟨some 15, .mv, [.r 7], none, []⟩⟩,
      ⟨4, 8, false, false, ⟨some 16, (.iaddrA 1 3), [.r 4, .r 15], none, [15]⟩⟩,
      ⟨5, 24, false, false, ⟨some 17, .ld1, [.r 16], none, [16]⟩⟩,
      ⟨6, 0, false, false, ⟨some 18, .mv, [.r 2], none, []⟩⟩,
      ⟨7, 120, false, false, ⟨some 19, (.bin .add), [.r 17, .r 18], none, [17, 18]⟩⟩,
      ⟨8, 255, false, false, ⟨some 20, (.bin .gtr), [.r 14, .r 19], none, [14, 19]⟩⟩,
      ⟨9, 511, false, false, ⟨some 21, .mv, [.r 20], none, [20]⟩⟩,
      ⟨10, 1023, false, false, ⟨some 22, .mv, [.r 7], (some (21, false)), []⟩⟩,
      ⟨11, 2047, false, false, ⟨some 23, (.iaddrA 1 3), [.r 4, .r 22], (some (21, false)), [22]⟩⟩,
      ⟨12, 4095, false, false, ⟨some 24, .ld1, [.r 23], (some (21, false)), [23]⟩⟩,
      ⟨13, 1023, false, false, ⟨some 25, .mv, [.r 7], (some (21, false)), []⟩⟩,
      ⟨14, 9215, false, false, ⟨some 26, (.iaddrA 1 3), [.r 3, .r 25], (some (21, false)), [25]⟩⟩,
      ⟨15, 25599, false, false, ⟨some 27, .ld1, [.r 26], (some (21, false)), [26]⟩⟩,
      ⟨16, 1023, false, false, ⟨some 28, .mv, [.r 2], (some (21, false)), []⟩⟩,
      ⟨17, 123903, false, false, ⟨some 29, (.bin .add), [.r 27, .r 28], (some (21, false)), [27, 28]⟩⟩,
      ⟨18, 262143, false, false, ⟨some 30, (.bin .gtr), [.r 24, .r 29], (some (21, false)), [24, 29]⟩⟩,
      ⟨19, 524287, false, false, ⟨some 31, .pick, [.r 21, .c (.bool true), .r 30], none, [21, 30]⟩⟩])
    (.cond (.r 31)
      (.kl [2, 3, 4, 7, 31] (.seq (.reg [⟨some 6, .mv, [.c (.bool false)], none, []⟩])
      .ret))
      (.kl [31] .skip))))
    (.reg [⟨some 10, .mv, [.r 7], none, [7]⟩,
      ⟨some 11, (.bin .add), [.r 10, .c (.int .i64 1)], none, [10]⟩,
      ⟨some 7, .mv, [.r 11], none, [11]⟩])))
def c16 : SC :=
  (.seq (.reg [⟨some 3, .box, [.r 0], none, [0]⟩,
    ⟨some 4, .box, [.r 1], none, [1]⟩,
    ⟨some 6, .mv, [.c (.bool false)], none, []⟩])
  (.seq (.seq (.reg [⟨some 7, .mv, [.c (.int .i64 0)], none, [6]⟩])
  (.block 0 (.loop c16l0)))
  (.seq (.reg [⟨some 6, .mv, [.c (.bool true)], none, []⟩])
  .ret)))
def rs16 : List SR := [.tmp 6]
theorem k16 : okC Try.prog 32 (Try.f16.body.getD .skip) c16 = true := by kernel_rfl
theorem acall16 {args : List AV} (hn : args.length ≤ 32) {H : Heap} {v : AV} {H' : Heap} (h : ac Try.prog c16 (argEnv 0 args) H (Fin H rs16 v H')) : ACall Try.prog 16 args H v H' :=
  acall Try.func16 (c := Try.f16.body.getD .skip) rfl k16 (by kernel_rfl) hn h

/- alidade/slew.Take -/
def c17 : SC :=
  (.seq (.reg [⟨some 4, .box, [.r 0], none, [0]⟩,
    ⟨some 5, .box, [.r 1], none, [1]⟩,
    ⟨some 8, (.alloc [(.int .i64 0), (.int .i64 0), (.int .i64 0), (.int .i64 0), (.bool false)]), [], none, []⟩])
  (.seq (.reg [⟨some 9, (.faddr 0), [.r 4], none, [4]⟩,
    ⟨some 10, (.ldn 3), [.r 9], none, [9]⟩,
    ⟨some 11, (.ldn 3), [.r 5], none, [5]⟩,
    ⟨some 12, .mv, [.r 3], none, [3]⟩,
    ⟨some 13, (.call 10), [.r 10, .r 11, .r 12], none, [10, 11, 12]⟩,
    ⟨some 14, .mv, [.r 2], none, [2]⟩,
    ⟨some 15, (.build [(.int .i64 0), (.int .i64 0), (.int .i64 0), (.int .i64 0), (.bool false)] [(0, 3), (3, 1)]), [.r 13, .r 14], none, [13, 14]⟩,
    ⟨none, (.st 5), [.r 8, .r 15], none, [15]⟩])
  .ret))
def rs17 : List SR := [.celln 8 5]
theorem k17 : okC Try.prog 16 (Try.f17.body.getD .skip) c17 = true := by kernel_rfl
theorem acall17 {args : List AV} (hn : args.length ≤ 16) {H : Heap} {v : AV} {H' : Heap} (h : ac Try.prog c17 (argEnv 0 args) H (Fin H rs17 v H')) : ACall Try.prog 17 args H v H' :=
  acall Try.func17 (c := Try.f17.body.getD .skip) rfl k17 (by kernel_rfl) hn h

/- alidade/alidaderef17.Take -/
def c18 : SC :=
  (.seq (.reg [⟨some 4, .box, [.r 0], none, [0]⟩,
    ⟨some 5, .box, [.r 1], none, [1]⟩,
    ⟨some 8, (.alloc [(.int .i64 0), (.int .i64 0), (.int .i64 0), (.int .i64 0), (.bool false)]), [], none, []⟩])
  (.seq (.reg [⟨some 9, (.faddr 0), [.r 4], none, [4]⟩,
    ⟨some 10, (.ldn 3), [.r 9], none, [9]⟩,
    ⟨some 11, (.ldn 3), [.r 5], none, [5]⟩,
    ⟨some 12, .mv, [.r 3], none, [3]⟩,
    ⟨some 13, (.call 14), [.r 10, .r 11, .r 12], none, [10, 11, 12]⟩,
    ⟨some 14, .mv, [.r 2], none, [2]⟩,
    ⟨some 15, (.build [(.int .i64 0), (.int .i64 0), (.int .i64 0), (.int .i64 0), (.bool false)] [(0, 3), (3, 1), (4, 1)]), [.r 13, .r 14, .c (.bool false)], none, [13, 14]⟩,
    ⟨none, (.st 5), [.r 8, .r 15], none, [15]⟩])
  .ret))
def rs18 : List SR := [.celln 8 5]
theorem k18 : okC Try.prog 16 (Try.f18.body.getD .skip) c18 = true := by kernel_rfl
theorem acall18 {args : List AV} (hn : args.length ≤ 16) {H : Heap} {v : AV} {H' : Heap} (h : ac Try.prog c18 (argEnv 0 args) H (Fin H rs18 v H')) : ACall Try.prog 18 args H v H' :=
  acall Try.func18 (c := Try.f18.body.getD .skip) rfl k18 (by kernel_rfl) hn h

/- alidade/slew.Age -/
def c19 : SC :=
  (.seq (.reg [⟨some 3, .box, [.r 0], none, [0]⟩,
    ⟨some 6, (.alloc [(.int .i64 0), (.int .i64 0), (.int .i64 0), (.int .i64 0), (.bool false)]), [], none, []⟩])
  (.seq (.reg [⟨some 7, (.faddr 4), [.r 3], none, []⟩,
    ⟨some 8, .ld1, [.r 7], none, [7]⟩,
    ⟨some 9, .mv, [.r 8], none, [8]⟩,
    ⟨some 10, .mv, [.r 1], (some (9, false)), [1]⟩,
    ⟨some 11, (.faddr 3), [.r 3], (some (9, false)), []⟩,
    ⟨some 12, .ld1, [.r 11], (some (9, false)), [11]⟩,
    ⟨some 13, (.bin .sub), [.r 10, .r 12], (some (9, false)), [10, 12]⟩,
    ⟨some 14, .mv, [.r 2], (some (9, false)), [2]⟩,
    ⟨some 15, (.bin .geq), [.r 13, .r 14], (some (9, false)), [13, 14]⟩,
    ⟨some 16, .pick, [.r 9, .c (.bool true), .r 15], none, [9, 15]⟩,
    ⟨some 17, (.faddr 4), [.r 3], none, []⟩,
    ⟨none, (.st 1), [.r 17, .r 16], none, [16, 17]⟩])
  (.seq (.reg [⟨some 18, (.ldn 5), [.r 3], none, [3]⟩,
    ⟨none, (.st 5), [.r 6, .r 18], none, [18]⟩])
  .ret)))
def rs19 : List SR := [.celln 6 5]
theorem k19 : okC Try.prog 19 (Try.f19.body.getD .skip) c19 = true := by kernel_rfl
theorem acall19 {args : List AV} (hn : args.length ≤ 19) {H : Heap} {v : AV} {H' : Heap} (h : ac Try.prog c19 (argEnv 0 args) H (Fin H rs19 v H')) : ACall Try.prog 19 args H v H' :=
  acall Try.func19 (c := Try.f19.body.getD .skip) rfl k19 (by kernel_rfl) hn h

/- alidade/alidaderef17.Age -/
def c20 : SC :=
  (.seq (.reg [⟨some 3, .box, [.r 0], none, [0]⟩,
    ⟨some 6, (.alloc [(.int .i64 0), (.int .i64 0), (.int .i64 0), (.int .i64 0), (.bool false)]), [], none, []⟩])
  (.seq (.seq (.reg [⟨some 7, .mv, [.r 1], none, [1]⟩,
    ⟨some 8, (.faddr 3), [.r 3], none, []⟩,
    ⟨some 9, .ld1, [.r 8], none, [8]⟩,
    ⟨some 10, .mv, [.r 2], none, [2]⟩,
    ⟨some 11, (.bin .add), [.r 9, .r 10], none, [9, 10]⟩,
    ⟨some 12, (.bin .geq), [.r 7, .r 11], none, [7, 11]⟩])
  (.cond (.r 12)
    (.kl [12] (.seq (.reg [⟨some 13, (.faddr 0), [.r 3], none, []⟩,
      ⟨some 14, (.ldn 3), [.r 13], none, [13]⟩,
      ⟨some 15, (.faddr 3), [.r 3], none, [3]⟩,
      ⟨some 16, .ld1, [.r 15], none, [15]⟩,
      ⟨some 17, (.build [(.int .i64 0), (.int .i64 0), (.int .i64 0), (.int .i64 0), (.bool false)] [(0, 3), (3, 1), (4, 1)]), [.r 14, .r 16, .c (.bool true)], none, [14, 16]⟩,
      ⟨none, (.st 5), [.r 6, .r 17], none, [17]⟩])
    .ret))
    (.kl [12] .skip)))
  (.seq (.reg [⟨some 18, (.ldn 5), [.r 3], none, [3]⟩,
    ⟨none, (.st 5), [.r 6, .r 18], none, [18]⟩])
  .ret)))
def rs20 : List SR := [.celln 6 5]
theorem k20 : okC Try.prog 19 (Try.f20.body.getD .skip) c20 = true := by kernel_rfl
theorem acall20 {args : List AV} (hn : args.length ≤ 19) {H : Heap} {v : AV} {H' : Heap} (h : ac Try.prog c20 (argEnv 0 args) H (Fin H rs20 v H')) : ACall Try.prog 20 args H v H' :=
  acall Try.func20 (c := Try.f20.body.getD .skip) rfl k20 (by kernel_rfl) hn h

/- alidade/slew.ways -/
def c21l0 : SC :=
  (.seq (.reg [⟨some 7, (.bin .lss), [.r 6, .c (.int .i64 3)], none, []⟩])
    (.seq (.cond (.r 7)
      (.kl [7] .skip)
      (.kl [2, 6, 7] (.exit 0)))
    (.seq (.block 1 (.seq (.reg [⟨some 8, .mv, [.r 6], none, []⟩,
      ⟨some 5, .mv, [.r 8], none, [8]⟩])
    (.dreg [⟨0, 0, false, false, ⟨some 9, .mv, [.r 5], none, []⟩⟩,
      ⟨1, 1, false, false, ⟨some 10, (.iaddrA 1 3), [.r 3, .r 9], none, []⟩⟩,
      ⟨2, 3, false, false, ⟨some 11, .ld1, [.r 10], none, [10]⟩⟩,
      ⟨3, 0, false, false, ⟨some 12, .mv, [.r 5], none, [5]⟩⟩,
      ⟨4, 8, false, false, ⟨some 13, (.iaddrA 1 3), [.r 2, .r 12], none, [12]⟩⟩,
      ⟨5, 24, false, false, ⟨some 14, .ld1, [.r 13], none, [13]⟩⟩,
      ⟨6, 63, false, false, ⟨some 15, (.bin .sub), [.r 11, .r 14], none, [11, 14]⟩⟩,
      ⟨7, 127, false, false, ⟨some 16, (.iaddrA 1 3), [.r 3, .r 9], none, [9]⟩⟩,
      ⟨8, 255, false, false, ⟨none, (.st 1), [.r 16, .r 15], none, [15, 16]⟩⟩])))
    (.reg [⟨some 17, (.bin .add), [.r 6, .c (.int .i64 1)], none, [6]⟩,
      ⟨some 6, .mv, [.r 17], none, [17]⟩]))))
def c21 : SC :=
  (.seq (.reg [⟨some 2, .box, [.r 0], none, [0]⟩,
    ⟨some 3, .box, [.r 1], none, [1]⟩,
    ⟨some 4, (.alloc [(.int .i64 0), (.int .i64 0), (.int .i64 0)]), [], none, []⟩])
  (.seq (.seq (.reg [⟨some 6, .mv, [.c (.int .i64 0)], none, []⟩])
  (.block 0 (.loop c21l0)))
  (.seq (.reg [⟨some 18, (.ldn 3), [.r 3], none, [3]⟩,
    ⟨none, (.st 3), [.r 4, .r 18], none, [18]⟩])
  .ret)))
def rs21 : List SR := [.celln 4 3]
theorem k21 : okC Try.prog 19 (Try.f21.body.getD .skip) c21 = true := by kernel_rfl
theorem acall21 {args : List AV} (hn : args.length ≤ 19) {H : Heap} {v : AV} {H' : Heap} (h : ac Try.prog c21 (argEnv 0 args) H (Fin H rs21 v H')) : ACall Try.prog 21 args H v H' :=
  acall Try.func21 (c := Try.f21.body.getD .skip) rfl k21 (by kernel_rfl) hn h

/- alidade/slew.sizes -/
def c22l0 : SC :=
  (.seq (.reg [⟨some 14, (.bin .lss), [.r 13, .c (.int .i64 3)], none, []⟩])
    (.seq (.cond (.r 14)
      (.kl [14] .skip)
      (.kl [12, 13, 14] (.exit 0)))
    (.seq (.block 1 (.seq (.reg [⟨some 15, (.idxA 1 3 false), [.r 12, .r 13], none, []⟩,
      ⟨some 8, .mv, [.r 15], none, [15]⟩])
    (.reg [⟨some 16, .mv, [.r 6], none, [6]⟩,
      ⟨some 17, .mv, [.r 8], none, []⟩,
      ⟨some 18, .mv, [.r 8], none, [8]⟩,
      ⟨some 19, (.un .neg), [.r 18], none, [18]⟩,
      ⟨some 20, .mx, [.r 17, .r 19], none, [17, 19]⟩,
      ⟨some 21, (.bslice 1 1 [(.int .i64 0)] [(0, 1)]), [.r 20], none, [20]⟩,
      ⟨some 22, (.app 1 8), [.r 16, .r 21], none, [16, 21]⟩,
      ⟨some 6, .mv, [.r 22], none, [22]⟩])))
    (.reg [⟨some 23, (.bin .add), [.r 13, .c (.int .i64 1)], none, [13]⟩,
      ⟨some 13, .mv, [.r 23], none, [23]⟩]))))
def c22 : SC :=
  (.seq (.reg [⟨some 2, .box, [.r 0], none, [0]⟩,
    ⟨some 3, .box, [.r 1], none, [1]⟩,
    ⟨some 4, .mv, [.c .nils], none, []⟩])
  (.seq (.reg [⟨some 9, (.ldn 3), [.r 2], none, [2, 4]⟩,
    ⟨some 10, (.ldn 3), [.r 3], none, [3]⟩,
    ⟨some 11, (.call 21), [.r 9, .r 10], none, [9, 10]⟩,
    ⟨some 5, (.alloc [(.int .i64 0), (.int .i64 0), (.int .i64 0)]), [], none, []⟩,
    ⟨none, (.st 3), [.r 5, .r 11], none, [11]⟩])
  (.seq (.reg [⟨some 6, .mv, [.c .nils], none, []⟩])
  (.seq (.seq (.reg [⟨some 12, (.ldn 3), [.r 5], none, [5]⟩,
    ⟨some 13, .mv, [.c (.int .i64 0)], none, []⟩])
  (.block 0 (.loop c22l0)))
  (.seq (.reg [⟨some 24, .mv, [.r 6], none, [6]⟩,
    ⟨some 4, .mv, [.r 24], none, [24]⟩])
  .ret)))))
def rs22 : List SR := [.tmp 4]
theorem k22 : okC Try.prog 25 (Try.f22.body.getD .skip) c22 = true := by kernel_rfl
theorem acall22 {args : List AV} (hn : args.length ≤ 25) {H : Heap} {v : AV} {H' : Heap} (h : ac Try.prog c22 (argEnv 0 args) H (Fin H rs22 v H')) : ACall Try.prog 22 args H v H' :=
  acall Try.func22 (c := Try.f22.body.getD .skip) rfl k22 (by kernel_rfl) hn h

/- slices.Max[[]int64,int64] -/
def c23l0 : SC :=
  (.seq (.seq (.reg [⟨some 12, .mv, [.r 4], none, []⟩,
      ⟨some 13, .mv, [.r 0], none, []⟩,
      ⟨some 14, .len, [.r 13], none, [13]⟩,
      ⟨some 15, (.bin .lss), [.r 12, .r 14], none, [12, 14]⟩])
    (.cond (.r 15)
      (.kl [15] .skip)
      (.kl [0, 4, 15] (.exit 0))))
    (.seq (.block 1 (.reg [⟨some 18, .mv, [.r 3], none, [3]⟩,
      ⟨some 19, .mv, [.r 0], none, []⟩,
      ⟨some 20, .mv, [.r 4], none, []⟩,
      ⟨some 21, (.iaddrS 1), [.r 19, .r 20], none, [19, 20]⟩,
      ⟨some 22, .ld1, [.r 21], none, [21]⟩,
      ⟨some 23, .mx, [.r 18, .r 22], none, [18, 22]⟩,
      ⟨some 3, .mv, [.r 23], none, [23]⟩]))
    (.reg [⟨some 16, .mv, [.r 4], none, [4]⟩,
      ⟨some 17, (.bin .add), [.r 16, .c (.int .i64 1)], none, [16]⟩,
      ⟨some 4, .mv, [.r 17], none, [17]⟩])))
def c23 : SC :=
  (.seq (.reg [⟨some 2, .mv, [.c (.int .i64 0)], none, []⟩])
  (.seq (.seq (.reg [⟨some 5, .mv, [.r 0], none, [2]⟩,
    ⟨some 6, .len, [.r 5], none, [5]⟩,
    ⟨some 7, (.bin .lss), [.r 6, .c (.int .i64 1)], none, [6]⟩])
  (.cond (.r 7)
    (.kl [7] (.reg [⟨some 8, .dead, [], none, []⟩,
      ⟨none, .dead, [], none, [8]⟩]))
    (.kl [7] .skip)))
  (.seq (.reg [⟨some 9, .mv, [.r 0], none, []⟩,
    ⟨some 10, (.iaddrS 1), [.r 9, .c (.int .i64 0)], none, [9]⟩,
    ⟨some 11, .ld1, [.r 10], none, [10]⟩,
    ⟨some 3, .mv, [.r 11], none, [11]⟩])
  (.seq (.seq (.reg [⟨some 4, .mv, [.c (.int .i64 1)], none, []⟩])
  (.block 0 (.loop c23l0)))
  (.seq (.reg [⟨some 24, .mv, [.r 3], none, [3]⟩,
    ⟨some 2, .mv, [.r 24], none, [24]⟩])
  .ret)))))
def rs23 : List SR := [.tmp 2]
theorem k23 : okC Try.prog 25 (Try.f23.body.getD .skip) c23 = true := by kernel_rfl
theorem acall23 {args : List AV} (hn : args.length ≤ 25) {H : Heap} {v : AV} {H' : Heap} (h : ac Try.prog c23 (argEnv 0 args) H (Fin H rs23 v H')) : ACall Try.prog 23 args H v H' :=
  acall Try.func23 (c := Try.f23.body.getD .skip) rfl k23 (by kernel_rfl) hn h

/- slices.ContainsFunc[[]int64,int64] -/
def c24 : SC :=
  (.seq (.reg [⟨some 4, .mv, [.c (.bool false)], none, []⟩])
  (.seq (.reg [⟨some 5, .mv, [.r 0], none, [0, 4]⟩,
    ⟨some 6, .mv, [.r 1], none, [1]⟩,
    ⟨some 7, (.call 26), [.r 5, .r 6], none, [5, 6]⟩,
    ⟨some 8, (.bin .geq), [.r 7, .c (.int .i64 0)], none, [7]⟩,
    ⟨some 4, .mv, [.r 8], none, [8]⟩])
  .ret))
def rs24 : List SR := [.tmp 4]
theorem k24 : okC Try.prog 9 (Try.f24.body.getD .skip) c24 = true := by kernel_rfl
theorem acall24 {args : List AV} (hn : args.length ≤ 9) {H : Heap} {v : AV} {H' : Heap} (h : ac Try.prog c24 (argEnv 0 args) H (Fin H rs24 v H')) : ACall Try.prog 24 args H v H' :=
  acall Try.func24 (c := Try.f24.body.getD .skip) rfl k24 (by kernel_rfl) hn h

/- alidade/slew.Near$1 -/
def c25 : SC :=
  (.seq (.reg [⟨some 3, .mv, [.c (.bool false)], none, []⟩])
  (.seq (.reg [⟨some 4, .mv, [.r 0], none, [0, 3]⟩,
    ⟨some 5, .ld1, [.r 1], none, [1]⟩,
    ⟨some 6, (.bin .gtr), [.r 4, .r 5], none, [4, 5]⟩,
    ⟨some 3, .mv, [.r 6], none, [6]⟩])
  .ret))
def rs25 : List SR := [.tmp 3]
theorem k25 : okC Try.prog 7 (Try.f25.body.getD .skip) c25 = true := by kernel_rfl
theorem acall25 {args : List AV} (hn : args.length ≤ 7) {H : Heap} {v : AV} {H' : Heap} (h : ac Try.prog c25 (argEnv 0 args) H (Fin H rs25 v H')) : ACall Try.prog 25 args H v H' :=
  acall Try.func25 (c := Try.f25.body.getD .skip) rfl k25 (by kernel_rfl) hn h

/- slices.IndexFunc[[]int64,int64] -/
def c26l0 : SC :=
  (.seq (.reg [⟨some 9, (.bin .lss), [.r 8, .r 7], none, []⟩])
    (.seq (.cond (.r 9)
      (.kl [9] .skip)
      (.kl [0, 1, 7, 8, 9] (.exit 0)))
    (.seq (.block 1 (.seq (.reg [⟨some 10, .mv, [.r 8], none, []⟩,
      ⟨some 5, .mv, [.r 10], none, [10]⟩])
    (.seq (.reg [⟨some 11, .mv, [.r 1], none, []⟩,
      ⟨some 12, .mv, [.r 0], none, []⟩,
      ⟨some 13, .mv, [.r 5], none, []⟩,
      ⟨some 14, (.iaddrS 1), [.r 12, .r 13], none, [12, 13]⟩,
      ⟨some 15, .ld1, [.r 14], none, [14]⟩,
      ⟨some 16, .callv, [.r 11, .r 15], none, [11, 15]⟩])
    (.cond (.r 16)
      (.kl [0, 1, 7, 8, 16] (.seq (.reg [⟨some 17, .mv, [.r 5], none, [5]⟩,
        ⟨some 4, .mv, [.r 17], none, [17]⟩])
      .ret))
      (.kl [5, 16] .skip)))))
    (.reg [⟨some 18, (.bin .add), [.r 8, .c (.int .i64 1)], none, [8]⟩,
      ⟨some 8, .mv, [.r 18], none, [18]⟩]))))
def c26 : SC :=
  (.seq (.reg [⟨some 4, .mv, [.c (.int .i64 0)], none, []⟩])
  (.seq (.seq (.reg [⟨some 6, .mv, [.r 0], none, [4]⟩,
    ⟨some 7, .len, [.r 6], none, [6]⟩,
    ⟨some 8, .mv, [.c (.int .i64 0)], none, []⟩])
  (.block 0 (.loop c26l0)))
  (.seq (.reg [⟨some 4, .mv, [.c (.int .i64 (-1))], none, []⟩])
  .ret)))
def rs26 : List SR := [.tmp 4]
theorem k26 : okC Try.prog 19 (Try.f26.body.getD .skip) c26 = true := by kernel_rfl
theorem acall26 {args : List AV} (hn : args.length ≤ 19) {H : Heap} {v : AV} {H' : Heap} (h : ac Try.prog c26 (argEnv 0 args) H (Fin H rs26 v H')) : ACall Try.prog 26 args H v H' :=
  acall Try.func26 (c := Try.f26.body.getD .skip) rfl k26 (by kernel_rfl) hn h

end Go.Proofs.Ytkmiifmbnnhmiaa.Ah
