/- G16: a part of the proof: steps over abstract values, or contracts of functions. Conditions: none. -/
import Derived.Test.YtboaddjafilabaaAh6
import Derived.Test.YtboaddjafilabaaProg
import Derived.KernelRfl
namespace Go.Proofs.Ytboaddjafilabaa.Ah
open Go
/- alidade/alidadelaw16.LeaseTells -/
def c3 : SC :=
  (.seq (.reg [⟨some 1, .box, [.r 0], none, [0]⟩,
    ⟨some 2, .mv, [.c (.bool false)], none, []⟩])
  (.seq (.reg [⟨some 13, (.faddr 0), [.r 1], none, [2]⟩,
    ⟨some 14, (.ldn 5), [.r 13], none, [13]⟩,
    ⟨some 3, (.alloc [(.int .i64 0), (.int .i64 0), (.int .i64 0), (.int .i64 0), (.int .i64 0)]), [], none, []⟩,
    ⟨none, (.st 5), [.r 3, .r 14], none, [14]⟩])
  (.seq (.reg [⟨some 15, (.faddr 5), [.r 1], none, []⟩,
    ⟨some 16, (.ldn 3), [.r 15], none, [15]⟩,
    ⟨some 4, (.alloc [(.int .i64 0), (.int .i64 0), (.int .i64 0)]), [], none, []⟩,
    ⟨none, (.st 3), [.r 4, .r 16], none, [16]⟩])
  (.seq (.reg [⟨some 17, (.faddr 8), [.r 1], none, []⟩,
    ⟨some 18, .ld1, [.r 17], none, [17]⟩,
    ⟨some 5, .mv, [.r 18], none, [18]⟩])
  (.seq (.reg [⟨some 19, (.faddr 9), [.r 1], none, []⟩,
    ⟨some 20, .ld1, [.r 19], none, [19]⟩,
    ⟨some 6, .mv, [.r 20], none, [20]⟩])
  (.seq (.reg [⟨some 21, (.faddr 10), [.r 1], none, [1]⟩,
    ⟨some 22, .ld1, [.r 21], none, [21]⟩,
    ⟨some 7, .mv, [.r 22], none, [22]⟩])
  (.seq (.reg [⟨some 23, (.call 7), [], none, []⟩,
    ⟨some 8, .mv, [.r 23], none, [23]⟩])
  (.seq (.seq (.dreg [⟨0, 0, false, false, ⟨some 24, (.ldn 5), [.r 3], none, []⟩⟩,
    ⟨1, 1, false, true, ⟨some 25, (.call 8), [.r 24], none, [24]⟩⟩,
    ⟨2, 0, false, false, ⟨some 26, (.ldn 5), [.r 3], none, []⟩⟩,
    ⟨3, 7, false, false, ⟨some 27, (.call 9), [.r 26], none, [26]⟩⟩,
    ⟨4, 15, false, false, ⟨some 28, (.eqb true), [.r 25, .r 27], none, [25, 27]⟩⟩,
    ⟨5, 31, false, false, ⟨some 29, .mv, [.r 28], none, [28]⟩⟩,
    ⟨6, 63, false, false, ⟨some 30, (.ldn 3), [.r 4], (some (29, false)), []⟩⟩,
    ⟨7, 127, false, true, ⟨some 31, (.call 10), [.r 30], (some (29, false)), [30]⟩⟩,
    ⟨8, 63, false, false, ⟨some 32, (.ldn 3), [.r 4], (some (29, false)), []⟩⟩,
    ⟨9, 511, false, false, ⟨some 33, (.call 11), [.r 32], (some (29, false)), [32]⟩⟩,
    ⟨10, 1023, false, false, ⟨some 34, (.eqb true), [.r 31, .r 33], (some (29, false)), [31, 33]⟩⟩,
    ⟨11, 2047, false, false, ⟨some 35, .pick, [.r 29, .c (.bool true), .r 34], none, [29, 34]⟩⟩])
  (.cond (.r 35)
    (.kl [3, 4, 5, 6, 7, 8, 35] (.seq (.reg [⟨some 2, .mv, [.c (.bool false)], none, []⟩])
    .ret))
    (.kl [35] .skip)))
  (.seq (.seq (.reg [⟨some 36, (.ldn 5), [.r 3], none, []⟩,
    ⟨some 37, (.call 9), [.r 36], none, [36]⟩,
    ⟨some 38, (.un .not), [.r 37], none, [37]⟩,
    ⟨some 39, .mv, [.r 38], none, [38]⟩,
    ⟨some 40, (.ldn 3), [.r 4], (some (39, false)), []⟩,
    ⟨some 41, (.call 11), [.r 40], (some (39, false)), [40]⟩,
    ⟨some 42, (.un .not), [.r 41], (some (39, false)), [41]⟩,
    ⟨some 43, .pick, [.r 39, .c (.bool true), .r 42], none, [39, 42]⟩])
  (.cond (.r 43)
    (.kl [3, 4, 5, 6, 7, 43] (.seq (.reg [⟨some 44, .mv, [.r 8], none, [8]⟩,
      ⟨some 2, .mv, [.r 44], none, [44]⟩])
    .ret))
    (.kl [43] .skip)))
  (.seq (.reg [⟨some 46, (.ldn 5), [.r 3], none, []⟩,
    ⟨some 47, (.ldn 3), [.r 4], none, []⟩,
    ⟨some 48, .mv, [.r 6], none, []⟩,
    ⟨some 49, .mv, [.r 7], none, []⟩,
    ⟨some 50, (.call 12), [.r 46, .r 47, .r 48, .r 49], none, [46, 47, 48, 49]⟩,
    ⟨some 45, .mv, [.r 50], none, [50]⟩,
    ⟨some 51, (.ext 0), [.r 45], none, []⟩,
    ⟨some 52, (.ext 1), [.r 45], none, [45]⟩,
    ⟨some 9, (.alloc [(.int .i64 0), (.int .i64 0), (.int .i64 0)]), [], none, []⟩,
    ⟨none, (.st 3), [.r 9, .r 51], none, [51]⟩,
    ⟨some 10, .mv, [.r 52], none, [52]⟩])
  (.seq (.reg [⟨some 54, (.ldn 5), [.r 3], none, []⟩,
    ⟨some 55, (.ldn 3), [.r 4], none, []⟩,
    ⟨some 56, .mv, [.r 6], none, [6]⟩,
    ⟨some 57, .mv, [.r 7], none, [7]⟩,
    ⟨some 58, (.call 13), [.r 54, .r 55, .r 56, .r 57], none, [54, 55, 56, 57]⟩,
    ⟨some 53, .mv, [.r 58], none, [58]⟩,
    ⟨some 59, (.ext 0), [.r 53], none, []⟩,
    ⟨some 60, (.ext 1), [.r 53], none, [53]⟩,
    ⟨some 11, (.alloc [(.int .i64 0), (.int .i64 0), (.int .i64 0)]), [], none, []⟩,
    ⟨none, (.st 3), [.r 11, .r 59], none, [59]⟩,
    ⟨some 12, .mv, [.r 60], none, [60]⟩])
  (.seq (.dreg [⟨0, 0, false, false, ⟨some 61, .mv, [.r 8], none, [8]⟩⟩,
    ⟨1, 1, false, false, ⟨some 62, .mv, [.r 61], none, [61]⟩⟩,
    ⟨2, 3, false, false, ⟨some 63, (.ldn 5), [.r 3], (some (62, true)), []⟩⟩,
    ⟨3, 7, false, true, ⟨some 64, (.call 14), [.r 63], (some (62, true)), [63]⟩⟩,
    ⟨4, 3, false, false, ⟨some 65, (.ldn 5), [.r 3], (some (62, true)), [3]⟩⟩,
    ⟨5, 31, false, false, ⟨some 66, (.call 15), [.r 65], (some (62, true)), [65]⟩⟩,
    ⟨6, 63, false, false, ⟨some 67, (.eqv false [.int, .int, .int]), [.r 64, .r 66], (some (62, true)), [64, 66]⟩⟩,
    ⟨7, 127, false, false, ⟨some 68, .pick, [.r 62, .r 67, .c (.bool false)], none, [62, 67]⟩⟩,
    ⟨8, 255, false, false, ⟨some 69, .mv, [.r 68], none, [68]⟩⟩,
    ⟨9, 511, false, false, ⟨some 70, (.ldn 3), [.r 4], (some (69, true)), []⟩⟩,
    ⟨10, 511, false, false, ⟨some 71, .mv, [.r 5], (some (69, true)), []⟩⟩,
    ⟨11, 2047, false, true, ⟨some 72, (.call 16), [.r 70, .r 71], (some (69, true)), [70, 71]⟩⟩,
    ⟨12, 511, false, false, ⟨some 73, (.ldn 3), [.r 4], (some (69, true)), []⟩⟩,
    ⟨13, 511, false, false, ⟨some 74, .mv, [.r 5], (some (69, true)), [5]⟩⟩,
    ⟨14, 16383, false, false, ⟨some 75, (.call 17), [.r 73, .r 74], (some (69, true)), [73, 74]⟩⟩,
    ⟨15, 32767, false, false, ⟨some 76, (.eqv false [.int, .int, .int]), [.r 72, .r 75], (some (69, true)), [72, 75]⟩⟩,
    ⟨16, 65535, false, false, ⟨some 77, .pick, [.r 69, .r 76, .c (.bool false)], none, [69, 76]⟩⟩,
    ⟨17, 131071, false, false, ⟨some 78, .mv, [.r 77], none, [77]⟩⟩,
    ⟨18, 262143, false, false, ⟨some 79, (.ldn 3), [.r 9], (some (78, true)), [9]⟩⟩,
    ⟨19, 262143, false, false, ⟨some 80, (.ldn 3), [.r 11], (some (78, true)), [11]⟩⟩,
    ⟨20, 1048575, false, false, ⟨some 81, (.eqv false [.int, .int, .int]), [.r 79, .r 80], (some (78, true)), [79, 80]⟩⟩,
    ⟨21, 2097151, false, false, ⟨some 82, .pick, [.r 78, .r 81, .c (.bool false)], none, [78, 81]⟩⟩,
    ⟨22, 4194303, false, false, ⟨some 83, .mv, [.r 82], none, [82]⟩⟩,
    ⟨23, 8388607, false, false, ⟨some 84, .mv, [.r 10], (some (83, true)), [10]⟩⟩,
    ⟨24, 8388607, false, false, ⟨some 85, .mv, [.r 12], (some (83, true)), [12]⟩⟩,
    ⟨25, 33554431, false, false, ⟨some 86, (.bin .eql), [.r 84, .r 85], (some (83, true)), [84, 85]⟩⟩,
    ⟨26, 67108863, false, false, ⟨some 87, .pick, [.r 83, .r 86, .c (.bool false)], none, [83, 86]⟩⟩,
    ⟨27, 134217727, false, false, ⟨some 88, .mv, [.r 87], none, [87]⟩⟩,
    ⟨28, 268435455, false, false, ⟨some 89, (.ldn 3), [.r 4], (some (88, true)), []⟩⟩,
    ⟨29, 536870911, false, true, ⟨some 90, (.call 18), [.r 89], (some (88, true)), [89]⟩⟩,
    ⟨30, 268435455, false, false, ⟨some 91, (.ldn 3), [.r 4], (some (88, true)), [4]⟩⟩,
    ⟨31, 2147483647, false, false, ⟨some 92, (.call 19), [.r 91], (some (88, true)), [91]⟩⟩,
    ⟨32, 4294967295, false, false, ⟨some 93, (.bin .eql), [.r 90, .r 92], (some (88, true)), [90, 92]⟩⟩,
    ⟨33, 8589934591, false, false, ⟨some 94, .pick, [.r 88, .r 93, .c (.bool false)], none, [88, 93]⟩⟩,
    ⟨34, 17179869183, false, false, ⟨some 2, .mv, [.r 94], none, [94]⟩⟩])
  .ret))))))))))))
def rs3 : List SR := [.tmp 2]
theorem k3 : okC Try.prog 95 (Try.f3.body.getD .skip) c3 = true := by kernel_rfl
theorem acall3 {args : List AV} (hn : args.length ≤ 95) {H : Heap} {v : AV} {H' : Heap} (h : ac Try.prog c3 (argEnv 0 args) H (Fin H rs3 v H')) : ACall Try.prog 3 args H v H' :=
  acall Try.func3 (c := Try.f3.body.getD .skip) rfl k3 (by kernel_rfl) hn h

/- alidade/alidadelaw16.LeaseLends -/
def c4l0 : SC :=
  (.seq (.seq (.reg [⟨some 24, .mv, [.r 9], none, []⟩,
      ⟨some 25, .mv, [.r 1], none, []⟩,
      ⟨some 26, .len, [.r 25], none, [25]⟩,
      ⟨some 27, (.bin .lss), [.r 24, .r 26], none, [24, 26]⟩])
    (.cond (.r 27)
      (.kl [27] .skip)
      (.kl [1, 2, 6, 7, 8, 9, 27] (.exit 0))))
    (.seq (.block 1 (.seq (.seq (.reg [⟨some 30, .mv, [.r 1], none, []⟩,
      ⟨some 31, .mv, [.r 9], none, []⟩,
      ⟨some 32, (.iaddrS 3), [.r 30, .r 31], none, [30, 31]⟩,
      ⟨some 33, (.faddr 0), [.r 32], none, [32]⟩,
      ⟨some 34, .ld1, [.r 33], none, [33]⟩,
      ⟨some 35, (.bin .lss), [.r 34, .c (.int .i64 0)], none, [34]⟩,
      ⟨some 36, .mv, [.r 35], none, [35]⟩,
      ⟨some 37, .mv, [.r 1], (some (36, false)), []⟩,
      ⟨some 38, .mv, [.r 9], (some (36, false)), []⟩,
      ⟨some 39, (.iaddrS 3), [.r 37, .r 38], (some (36, false)), [37, 38]⟩,
      ⟨some 40, (.faddr 0), [.r 39], (some (36, false)), [39]⟩,
      ⟨some 41, .ld1, [.r 40], (some (36, false)), [40]⟩,
      ⟨some 42, (.bin .gtr), [.r 41, .c (.int .i64 1000000000000)], (some (36, false)), [41]⟩,
      ⟨some 43, .pick, [.r 36, .c (.bool true), .r 42], none, [36, 42]⟩])
    (.cond (.r 43)
      (.kl [1, 2, 6, 7, 8, 9, 43] (.seq (.reg [⟨some 44, .mv, [.r 5], none, [5]⟩,
        ⟨some 4, .mv, [.r 44], none, [44]⟩])
      .ret))
      (.kl [43] .skip)))
    (.seq (.dreg [⟨0, 0, false, false, ⟨some 45, (.ldn 3), [.r 6], none, []⟩⟩,
      ⟨1, 0, false, false, ⟨some 46, .mv, [.r 1], none, []⟩⟩,
      ⟨2, 0, false, false, ⟨some 47, .mv, [.r 9], none, []⟩⟩,
      ⟨3, 6, false, false, ⟨some 48, (.iaddrS 3), [.r 46, .r 47], none, [46, 47]⟩⟩,
      ⟨4, 14, false, false, ⟨some 49, (.faddr 0), [.r 48], none, [48]⟩⟩,
      ⟨5, 30, false, false, ⟨some 50, .ld1, [.r 49], none, [49]⟩⟩,
      ⟨6, 63, false, false, ⟨some 51, (.call 16), [.r 45, .r 50], none, [45, 50]⟩⟩,
      ⟨7, 127, false, false, ⟨none, (.st 3), [.r 6, .r 51], none, [51]⟩⟩])
    (.seq (.reg [⟨some 52, .mv, [.r 8], none, [8]⟩,
      ⟨some 53, .mv, [.r 1], none, []⟩,
      ⟨some 54, .mv, [.r 9], none, []⟩,
      ⟨some 55, (.iaddrS 3), [.r 53, .r 54], none, [53, 54]⟩,
      ⟨some 56, (.faddr 0), [.r 55], none, [55]⟩,
      ⟨some 57, .ld1, [.r 56], none, [56]⟩,
      ⟨some 58, (.bin .add), [.r 52, .r 57], none, [52, 57]⟩,
      ⟨some 8, .mv, [.r 58], none, [58]⟩])
    (.seq (.dreg [⟨0, 0, false, false, ⟨some 60, (.ldn 5), [.r 2], none, []⟩⟩,
      ⟨1, 0, false, false, ⟨some 61, (.ldn 3), [.r 6], none, []⟩⟩,
      ⟨2, 0, false, false, ⟨some 62, .mv, [.r 1], none, []⟩⟩,
      ⟨3, 0, false, false, ⟨some 63, .mv, [.r 9], none, []⟩⟩,
      ⟨4, 12, false, false, ⟨some 64, (.iaddrS 3), [.r 62, .r 63], none, [62, 63]⟩⟩,
      ⟨5, 28, false, false, ⟨some 65, (.faddr 1), [.r 64], none, [64]⟩⟩,
      ⟨6, 60, false, false, ⟨some 66, .ld1, [.r 65], none, [65]⟩⟩,
      ⟨7, 0, false, false, ⟨some 67, .mv, [.r 1], none, []⟩⟩,
      ⟨8, 0, false, false, ⟨some 68, .mv, [.r 9], none, []⟩⟩,
      ⟨9, 384, false, false, ⟨some 69, (.iaddrS 3), [.r 67, .r 68], none, [67, 68]⟩⟩,
      ⟨10, 896, false, false, ⟨some 70, (.faddr 2), [.r 69], none, [69]⟩⟩,
      ⟨11, 1920, false, false, ⟨some 71, .ld1, [.r 70], none, [70]⟩⟩,
      ⟨12, 4095, false, true, ⟨some 72, (.call 12), [.r 60, .r 61, .r 66, .r 71], none, [60, 61, 66, 71]⟩⟩,
      ⟨13, 8191, false, false, ⟨some 59, .mv, [.r 72], none, [72]⟩⟩,
      ⟨14, 16383, false, false, ⟨some 73, (.ext 0), [.r 59], none, []⟩⟩,
      ⟨15, 16383, false, false, ⟨some 74, (.ext 1), [.r 59], none, [59]⟩⟩,
      ⟨16, 0, true, false, ⟨some 10, (.alloc [(.int .i64 0), (.int .i64 0), (.int .i64 0)]), [], none, []⟩⟩,
      ⟨17, 98303, false, false, ⟨none, (.st 3), [.r 10, .r 73], none, [73]⟩⟩,
      ⟨18, 262143, false, false, ⟨some 11, .mv, [.r 74], none, [74]⟩⟩])
    (.seq (.seq (.reg [⟨some 75, .mv, [.r 11], none, []⟩,
      ⟨some 76, (.bin .gtr), [.r 75, .c (.int .i64 0)], none, [75]⟩,
      ⟨some 77, .mv, [.r 76], none, [76]⟩,
      ⟨some 78, .mv, [.r 8], (some (77, true)), []⟩,
      ⟨some 79, (.faddr 1), [.r 2], (some (77, true)), []⟩,
      ⟨some 80, .ld1, [.r 79], (some (77, true)), [79]⟩,
      ⟨some 81, (.bin .lss), [.r 78, .r 80], (some (77, true)), [78, 80]⟩,
      ⟨some 82, .mv, [.r 81], (some (77, true)), [81]⟩,
      ⟨some 83, .mv, [.r 8], (some (82, false)), []⟩,
      ⟨some 84, .mv, [.r 7], (some (82, false)), []⟩,
      ⟨some 85, (.bin .lss), [.r 83, .r 84], (some (82, false)), [83, 84]⟩,
      ⟨some 86, .mv, [.r 85], (some (82, false)), [85]⟩,
      ⟨some 87, .mv, [.r 1], (some (86, true)), []⟩,
      ⟨some 88, .mv, [.r 9], (some (86, true)), []⟩,
      ⟨some 89, (.iaddrS 3), [.r 87, .r 88], (some (86, true)), [87, 88]⟩,
      ⟨some 90, (.faddr 1), [.r 89], (some (86, true)), [89]⟩,
      ⟨some 91, .ld1, [.r 90], (some (86, true)), [90]⟩,
      ⟨some 92, (.un .not), [.r 91], (some (86, true)), [91]⟩,
      ⟨some 93, .pick, [.r 86, .r 92, .c (.bool false)], (some (82, false)), [86, 92]⟩,
      ⟨some 94, .pick, [.r 82, .c (.bool true), .r 93], (some (77, true)), [82, 93]⟩,
      ⟨some 95, .pick, [.r 77, .r 94, .c (.bool false)], none, [77, 94]⟩,
      ⟨some 96, .mv, [.r 95], none, [95]⟩,
      ⟨some 97, (.faddr 0), [.r 10], (some (96, false)), []⟩,
      ⟨some 98, .ld1, [.r 97], (some (96, false)), [97]⟩,
      ⟨some 99, .mv, [.r 8], (some (96, false)), []⟩,
      ⟨some 100, (.bin .neq), [.r 98, .r 99], (some (96, false)), [98, 99]⟩,
      ⟨some 101, .pick, [.r 96, .c (.bool true), .r 100], none, [96, 100]⟩,
      ⟨some 102, .mv, [.r 101], none, [101]⟩,
      ⟨some 103, .mv, [.r 11], (some (102, false)), []⟩,
      ⟨some 104, (.bin .lss), [.r 103, .c (.int .i64 0)], (some (102, false)), [103]⟩,
      ⟨some 105, .pick, [.r 102, .c (.bool true), .r 104], none, [102, 104]⟩,
      ⟨some 106, .mv, [.r 105], none, [105]⟩,
      ⟨some 107, .mv, [.r 11], (some (106, false)), []⟩,
      ⟨some 108, (.bin .gtr), [.r 107, .c (.int .i64 4)], (some (106, false)), [107]⟩,
      ⟨some 109, .pick, [.r 106, .c (.bool true), .r 108], none, [106, 108]⟩])
    (.cond (.r 109)
      (.kl [1, 2, 5, 6, 7, 8, 9, 10, 11, 109] (.seq (.reg [⟨some 4, .mv, [.c (.bool false)], none, []⟩])
      .ret))
      (.kl [109] .skip)))
    (.seq (.seq (.reg [⟨some 110, .mv, [.r 11], none, [11]⟩,
      ⟨some 111, (.bin .gtr), [.r 110, .c (.int .i64 0)], none, [110]⟩])
    (.cond (.r 111)
      (.kl [7, 111] (.reg [⟨some 112, .mv, [.r 8], none, []⟩,
        ⟨some 113, (.faddr 0), [.r 2], none, []⟩,
        ⟨some 114, .ld1, [.r 113], none, [113]⟩,
        ⟨some 115, (.bin .add), [.r 112, .r 114], none, [112, 114]⟩,
        ⟨some 7, .mv, [.r 115], none, [115]⟩]))
      (.kl [111] .skip)))
    (.seq (.seq (.reg [⟨some 116, (.ldn 3), [.r 10], none, []⟩,
      ⟨some 117, (.call 18), [.r 116], none, [116]⟩,
      ⟨some 118, .mv, [.r 7], none, []⟩,
      ⟨some 119, .mv, [.r 8], none, []⟩,
      ⟨some 120, (.bin .sub), [.r 118, .r 119], none, [118, 119]⟩,
      ⟨some 121, .mx, [.r 120, .c (.int .i64 0)], none, [120]⟩,
      ⟨some 122, (.bin .neq), [.r 117, .r 121], none, [117, 121]⟩])
    (.cond (.r 122)
      (.kl [1, 2, 5, 6, 7, 8, 9, 10, 122] (.seq (.reg [⟨some 4, .mv, [.c (.bool false)], none, []⟩])
      .ret))
      (.kl [122] .skip)))
    (.reg [⟨some 123, (.ldn 3), [.r 10], none, [10]⟩,
      ⟨none, (.st 3), [.r 6, .r 123], none, [123]⟩])))))))))
    (.reg [⟨some 28, .mv, [.r 9], none, [9]⟩,
      ⟨some 29, (.bin .add), [.r 28, .c (.int .i64 1)], none, [28]⟩,
      ⟨some 9, .mv, [.r 29], none, [29]⟩])))
def c4 : SC :=
  (.seq (.reg [⟨some 2, .box, [.r 0], none, [0]⟩,
    ⟨some 4, .mv, [.c (.bool false)], none, []⟩])
  (.seq (.reg [⟨some 12, (.call 7), [], none, [4]⟩,
    ⟨some 5, .mv, [.r 12], none, [12]⟩])
  (.seq (.seq (.reg [⟨some 13, (.ldn 5), [.r 2], none, []⟩,
    ⟨some 14, (.call 9), [.r 13], none, [13]⟩,
    ⟨some 15, (.un .not), [.r 14], none, [14]⟩,
    ⟨some 16, .mv, [.r 15], none, [15]⟩,
    ⟨some 17, .mv, [.r 1], (some (16, false)), []⟩,
    ⟨some 18, .len, [.r 17], (some (16, false)), [17]⟩,
    ⟨some 19, (.bin .gtr), [.r 18, .c (.int .i64 60)], (some (16, false)), [18]⟩,
    ⟨some 20, .pick, [.r 16, .c (.bool true), .r 19], none, [16, 19]⟩])
  (.cond (.r 20)
    (.kl [1, 2, 20] (.seq (.reg [⟨some 21, .mv, [.r 5], none, [5]⟩,
      ⟨some 4, .mv, [.r 21], none, [21]⟩])
    .ret))
    (.kl [20] .skip)))
  (.seq (.reg [⟨some 22, (.ldn 5), [.r 2], none, []⟩,
    ⟨some 23, (.call 14), [.r 22], none, [22]⟩,
    ⟨some 6, (.alloc [(.int .i64 0), (.int .i64 0), (.int .i64 0)]), [], none, []⟩,
    ⟨none, (.st 3), [.r 6, .r 23], none, [23]⟩])
  (.seq (.reg [⟨some 7, .mv, [.c (.int .i64 0)], none, []⟩])
  (.seq (.reg [⟨some 8, .mv, [.c (.int .i64 0)], none, []⟩])
  (.seq (.seq (.reg [⟨some 9, .mv, [.c (.int .i64 0)], none, []⟩])
  (.block 0 (.loop c4l0)))
  (.seq (.reg [⟨some 124, .mv, [.r 5], none, [5]⟩,
    ⟨some 4, .mv, [.r 124], none, [124]⟩])
  .ret))))))))
def rs4 : List SR := [.tmp 4]
theorem k4 : okC Try.prog 125 (Try.f4.body.getD .skip) c4 = true := by kernel_rfl
theorem acall4 {args : List AV} (hn : args.length ≤ 125) {H : Heap} {v : AV} {H' : Heap} (h : ac Try.prog c4 (argEnv 0 args) H (Fin H rs4 v H')) : ACall Try.prog 4 args H v H' :=
  acall Try.func4 (c := Try.f4.body.getD .skip) rfl k4 (by kernel_rfl) hn h

/- alidade/alidadelaw16.LeaseRenews -/
def c5l0 : SC :=
  (.seq (.seq (.reg [⟨some 39, .mv, [.r 10], none, []⟩,
      ⟨some 40, .mv, [.r 1], none, []⟩,
      ⟨some 41, (.bin .rem), [.r 40, .c (.int .u8 50)], none, [40]⟩,
      ⟨some 42, (.conv .i64), [.r 41], none, [41]⟩,
      ⟨some 43, (.bin .lss), [.r 39, .r 42], none, [39, 42]⟩])
    (.cond (.r 43)
      (.kl [43] .skip)
      (.kl [1, 2, 3, 8, 10, 43] (.exit 0))))
    (.seq (.block 1 (.seq (.reg [⟨some 46, (.ldn 3), [.r 8], none, []⟩,
      ⟨some 47, .mv, [.r 2], none, []⟩,
      ⟨some 48, (.conv .i64), [.r 47], none, [47]⟩,
      ⟨some 49, (.call 16), [.r 46, .r 48], none, [46, 48]⟩,
      ⟨none, (.st 3), [.r 8, .r 49], none, [49]⟩])
    (.seq (.reg [⟨some 51, (.ldn 5), [.r 3], none, []⟩,
      ⟨some 52, (.ldn 3), [.r 8], none, []⟩,
      ⟨some 53, (.call 12), [.r 51, .r 52, .c (.bool false), .c (.bool true)], none, [51, 52]⟩,
      ⟨some 50, .mv, [.r 53], none, [53]⟩,
      ⟨some 54, (.ext 0), [.r 50], none, []⟩,
      ⟨some 55, (.ext 1), [.r 50], none, [50]⟩,
      ⟨some 11, (.alloc [(.int .i64 0), (.int .i64 0), (.int .i64 0)]), [], none, []⟩,
      ⟨none, (.st 3), [.r 11, .r 54], none, [11, 54]⟩,
      ⟨some 12, .mv, [.r 55], none, [55]⟩])
    (.seq (.reg [⟨some 57, (.ldn 5), [.r 3], none, []⟩,
      ⟨some 58, (.ldn 3), [.r 8], none, []⟩,
      ⟨some 59, (.call 12), [.r 57, .r 58, .c (.bool true), .c (.bool false)], none, [57, 58]⟩,
      ⟨some 56, .mv, [.r 59], none, [59]⟩,
      ⟨some 60, (.ext 0), [.r 56], none, []⟩,
      ⟨some 61, (.ext 1), [.r 56], none, [56]⟩,
      ⟨some 13, (.alloc [(.int .i64 0), (.int .i64 0), (.int .i64 0)]), [], none, []⟩,
      ⟨none, (.st 3), [.r 13, .r 60], none, [60]⟩,
      ⟨some 14, .mv, [.r 61], none, [61]⟩])
    (.seq (.seq (.dreg [⟨0, 0, false, false, ⟨some 62, .mv, [.r 14], none, [14]⟩⟩,
      ⟨1, 1, false, false, ⟨some 63, (.bin .neq), [.r 62, .c (.int .i64 1)], none, [62]⟩⟩,
      ⟨2, 3, false, false, ⟨some 64, .mv, [.r 63], none, [63]⟩⟩,
      ⟨3, 7, false, false, ⟨some 65, .mv, [.r 12], (some (64, false)), [12]⟩⟩,
      ⟨4, 15, false, false, ⟨some 66, (.bin .neq), [.r 65, .c (.int .i64 0)], (some (64, false)), [65]⟩⟩,
      ⟨5, 31, false, false, ⟨some 67, .pick, [.r 64, .c (.bool true), .r 66], none, [64, 66]⟩⟩,
      ⟨6, 63, false, false, ⟨some 68, .mv, [.r 67], none, [67]⟩⟩,
      ⟨7, 127, false, false, ⟨some 69, (.ldn 3), [.r 13], (some (68, false)), []⟩⟩,
      ⟨8, 255, false, true, ⟨some 70, (.call 18), [.r 69], (some (68, false)), [69]⟩⟩,
      ⟨9, 127, false, false, ⟨some 71, (.faddr 0), [.r 3], (some (68, false)), []⟩⟩,
      ⟨10, 639, false, false, ⟨some 72, .ld1, [.r 71], (some (68, false)), [71]⟩⟩,
      ⟨11, 2047, false, false, ⟨some 73, (.bin .neq), [.r 70, .r 72], (some (68, false)), [70, 72]⟩⟩,
      ⟨12, 4095, false, false, ⟨some 74, .pick, [.r 68, .c (.bool true), .r 73], none, [68, 73]⟩⟩])
    (.cond (.r 74)
      (.kl [1, 2, 3, 7, 8, 10, 13, 74] (.seq (.reg [⟨some 6, .mv, [.c (.bool false)], none, []⟩])
      .ret))
      (.kl [74] .skip)))
    (.reg [⟨some 75, (.ldn 3), [.r 13], none, [13]⟩,
      ⟨none, (.st 3), [.r 8, .r 75], none, [75]⟩]))))))
    (.reg [⟨some 44, .mv, [.r 10], none, [10]⟩,
      ⟨some 45, (.bin .add), [.r 44, .c (.int .i64 1)], none, [44]⟩,
      ⟨some 10, .mv, [.r 45], none, [45]⟩])))
def c5 : SC :=
  (.seq (.reg [⟨some 3, .box, [.r 0], none, [0]⟩,
    ⟨some 6, .mv, [.c (.bool false)], none, []⟩])
  (.seq (.reg [⟨some 15, (.call 7), [], none, [6]⟩,
    ⟨some 7, .mv, [.r 15], none, [15]⟩])
  (.seq (.seq (.reg [⟨some 16, (.ldn 5), [.r 3], none, []⟩,
    ⟨some 17, (.call 9), [.r 16], none, [16]⟩,
    ⟨some 18, (.un .not), [.r 17], none, [17]⟩,
    ⟨some 19, .mv, [.r 18], none, [18]⟩,
    ⟨some 20, .mv, [.r 2], (some (19, false)), []⟩,
    ⟨some 21, (.conv .i64), [.r 20], (some (19, false)), [20]⟩,
    ⟨some 22, (.faddr 0), [.r 3], (some (19, false)), []⟩,
    ⟨some 23, .ld1, [.r 22], (some (19, false)), [22]⟩,
    ⟨some 24, (.bin .geq), [.r 21, .r 23], (some (19, false)), [21, 23]⟩,
    ⟨some 25, .pick, [.r 19, .c (.bool true), .r 24], none, [19, 24]⟩])
  (.cond (.r 25)
    (.kl [1, 2, 3, 25] (.seq (.reg [⟨some 26, .mv, [.r 7], none, [7]⟩,
      ⟨some 6, .mv, [.r 26], none, [26]⟩])
    .ret))
    (.kl [25] .skip)))
  (.seq (.dreg [⟨0, 0, false, false, ⟨some 28, (.ldn 5), [.r 3], none, []⟩⟩,
    ⟨1, 0, false, false, ⟨some 29, (.ldn 5), [.r 3], none, []⟩⟩,
    ⟨2, 2, false, true, ⟨some 30, (.call 14), [.r 29], none, [29]⟩⟩,
    ⟨3, 0, false, false, ⟨some 31, (.faddr 1), [.r 3], none, []⟩⟩,
    ⟨4, 8, false, false, ⟨some 32, .ld1, [.r 31], none, [31]⟩⟩,
    ⟨5, 30, false, true, ⟨some 33, (.call 16), [.r 30, .r 32], none, [30, 32]⟩⟩,
    ⟨6, 63, false, true, ⟨some 34, (.call 12), [.r 28, .r 33, .c (.bool true), .c (.bool false)], none, [28, 33]⟩⟩,
    ⟨7, 127, false, false, ⟨some 27, .mv, [.r 34], none, [34]⟩⟩,
    ⟨8, 255, false, false, ⟨some 35, (.ext 0), [.r 27], none, []⟩⟩,
    ⟨9, 255, false, false, ⟨some 36, (.ext 1), [.r 27], none, [27]⟩⟩,
    ⟨10, 0, true, false, ⟨some 8, (.alloc [(.int .i64 0), (.int .i64 0), (.int .i64 0)]), [], none, []⟩⟩,
    ⟨11, 1535, false, false, ⟨none, (.st 3), [.r 8, .r 35], none, [35]⟩⟩,
    ⟨12, 4095, false, false, ⟨some 9, .mv, [.r 36], none, [36]⟩⟩])
  (.seq (.seq (.reg [⟨some 37, .mv, [.r 9], none, [9]⟩,
    ⟨some 38, (.bin .neq), [.r 37, .c (.int .i64 2)], none, [37]⟩])
  (.cond (.r 38)
    (.kl [1, 2, 3, 7, 8, 38] (.seq (.reg [⟨some 6, .mv, [.c (.bool false)], none, []⟩])
    .ret))
    (.kl [38] .skip)))
  (.seq (.seq (.reg [⟨some 10, .mv, [.c (.int .i64 0)], none, []⟩])
  (.block 0 (.loop c5l0)))
  (.seq (.reg [⟨some 76, .mv, [.r 7], none, [7]⟩,
    ⟨some 6, .mv, [.r 76], none, [76]⟩])
  .ret)))))))
def rs5 : List SR := [.tmp 6]
theorem k5 : okC Try.prog 77 (Try.f5.body.getD .skip) c5 = true := by kernel_rfl
theorem acall5 {args : List AV} (hn : args.length ≤ 77) {H : Heap} {v : AV} {H' : Heap} (h : ac Try.prog c5 (argEnv 0 args) H (Fin H rs5 v H')) : ACall Try.prog 5 args H v H' :=
  acall Try.func5 (c := Try.f5.body.getD .skip) rfl k5 (by kernel_rfl) hn h

/- alidade/alidadelaw16.LeaseTimes -/
def c6 : SC :=
  (.seq (.reg [⟨some 1, .box, [.r 0], none, [0]⟩,
    ⟨some 2, .mv, [.c (.bool false)], none, []⟩])
  (.seq (.reg [⟨some 8, (.call 7), [], none, [2]⟩,
    ⟨some 3, .mv, [.r 8], none, [8]⟩])
  (.seq (.reg [⟨some 9, (.faddr 0), [.r 1], none, []⟩,
    ⟨some 10, .ld1, [.r 9], none, [9]⟩,
    ⟨some 11, (.bin .geq), [.r 10, .c (.int .i64 1)], none, [10]⟩,
    ⟨some 12, .mv, [.r 11], none, [11]⟩,
    ⟨some 13, (.faddr 0), [.r 1], (some (12, true)), []⟩,
    ⟨some 14, .ld1, [.r 13], (some (12, true)), [13]⟩,
    ⟨some 15, (.bin .leq), [.r 14, .c (.int .i64 1000000000)], (some (12, true)), [14]⟩,
    ⟨some 16, .pick, [.r 12, .r 15, .c (.bool false)], none, [12, 15]⟩,
    ⟨some 4, .mv, [.r 16], none, [16]⟩])
  (.seq (.reg [⟨some 17, (.faddr 1), [.r 1], none, []⟩,
    ⟨some 18, .ld1, [.r 17], none, [17]⟩,
    ⟨some 19, (.faddr 0), [.r 1], none, []⟩,
    ⟨some 20, .ld1, [.r 19], none, [19]⟩,
    ⟨some 21, (.bin .geq), [.r 18, .r 20], none, [18, 20]⟩,
    ⟨some 22, .mv, [.r 21], none, [21]⟩,
    ⟨some 23, (.faddr 1), [.r 1], (some (22, true)), []⟩,
    ⟨some 24, .ld1, [.r 23], (some (22, true)), [23]⟩,
    ⟨some 25, (.bin .leq), [.r 24, .c (.int .i64 1000000000)], (some (22, true)), [24]⟩,
    ⟨some 26, .pick, [.r 22, .r 25, .c (.bool false)], none, [22, 25]⟩,
    ⟨some 5, .mv, [.r 26], none, [26]⟩])
  (.seq (.reg [⟨some 27, (.faddr 2), [.r 1], none, []⟩,
    ⟨some 28, .ld1, [.r 27], none, [27]⟩,
    ⟨some 29, (.bin .geq), [.r 28, .c (.int .i64 1)], none, [28]⟩,
    ⟨some 30, .mv, [.r 29], none, [29]⟩,
    ⟨some 31, (.faddr 2), [.r 1], (some (30, true)), []⟩,
    ⟨some 32, .ld1, [.r 31], (some (30, true)), [31]⟩,
    ⟨some 33, (.bin .leq), [.r 32, .c (.int .i64 1000000000)], (some (30, true)), [32]⟩,
    ⟨some 34, .pick, [.r 30, .r 33, .c (.bool false)], none, [30, 33]⟩,
    ⟨some 35, .mv, [.r 34], none, [34]⟩,
    ⟨some 36, (.faddr 3), [.r 1], (some (35, true)), []⟩,
    ⟨some 37, .ld1, [.r 36], (some (35, true)), [36]⟩,
    ⟨some 38, (.bin .geq), [.r 37, .c (.int .i64 1)], (some (35, true)), [37]⟩,
    ⟨some 39, .pick, [.r 35, .r 38, .c (.bool false)], none, [35, 38]⟩,
    ⟨some 40, .mv, [.r 39], none, [39]⟩,
    ⟨some 41, (.faddr 3), [.r 1], (some (40, true)), []⟩,
    ⟨some 42, .ld1, [.r 41], (some (40, true)), [41]⟩,
    ⟨some 43, (.bin .leq), [.r 42, .c (.int .i64 1000000000)], (some (40, true)), [42]⟩,
    ⟨some 44, .pick, [.r 40, .r 43, .c (.bool false)], none, [40, 43]⟩,
    ⟨some 6, .mv, [.r 44], none, [44]⟩])
  (.seq (.reg [⟨some 45, (.faddr 4), [.r 1], none, []⟩,
    ⟨some 46, .ld1, [.r 45], none, [45]⟩,
    ⟨some 47, (.bin .geq), [.r 46, .c (.int .i64 1)], none, [46]⟩,
    ⟨some 48, .mv, [.r 47], none, [47]⟩,
    ⟨some 49, (.faddr 4), [.r 1], (some (48, true)), []⟩,
    ⟨some 50, .ld1, [.r 49], (some (48, true)), [49]⟩,
    ⟨some 51, (.bin .leq), [.r 50, .c (.int .i64 70368744177663)], (some (48, true)), [50]⟩,
    ⟨some 52, .pick, [.r 48, .r 51, .c (.bool false)], none, [48, 51]⟩,
    ⟨some 7, .mv, [.r 52], none, [52]⟩])
  (.seq (.reg [⟨some 53, .mv, [.r 3], none, [3]⟩,
    ⟨some 54, .mv, [.r 53], none, [53]⟩,
    ⟨some 55, (.ldn 5), [.r 1], (some (54, true)), [1]⟩,
    ⟨some 56, (.call 8), [.r 55], (some (54, true)), [55]⟩,
    ⟨some 57, .mv, [.r 4], (some (54, true)), [4]⟩,
    ⟨some 58, .mv, [.r 57], (some (54, true)), [57]⟩,
    ⟨some 59, .mv, [.r 5], (some (58, true)), [5]⟩,
    ⟨some 60, .pick, [.r 58, .r 59, .c (.bool false)], (some (54, true)), [58, 59]⟩,
    ⟨some 61, .mv, [.r 60], (some (54, true)), [60]⟩,
    ⟨some 62, .mv, [.r 6], (some (61, true)), [6]⟩,
    ⟨some 63, .pick, [.r 61, .r 62, .c (.bool false)], (some (54, true)), [61, 62]⟩,
    ⟨some 64, .mv, [.r 63], (some (54, true)), [63]⟩,
    ⟨some 65, .mv, [.r 7], (some (64, true)), [7]⟩,
    ⟨some 66, .pick, [.r 64, .r 65, .c (.bool false)], (some (54, true)), [64, 65]⟩,
    ⟨some 67, (.eqb false), [.r 56, .r 66], (some (54, true)), [56, 66]⟩,
    ⟨some 68, .pick, [.r 54, .r 67, .c (.bool false)], none, [54, 67]⟩,
    ⟨some 2, .mv, [.r 68], none, [68]⟩])
  .ret)))))))
def rs6 : List SR := [.tmp 2]
theorem k6 : okC Try.prog 69 (Try.f6.body.getD .skip) c6 = true := by kernel_rfl
theorem acall6 {args : List AV} (hn : args.length ≤ 69) {H : Heap} {v : AV} {H' : Heap} (h : ac Try.prog c6 (argEnv 0 args) H (Fin H rs6 v H')) : ACall Try.prog 6 args H v H' :=
  acall Try.func6 (c := Try.f6.body.getD .skip) rfl k6 (by kernel_rfl) hn h

/- alidade/alidadelaw16.shown -/
def c7 : SC :=
  (.seq (.reg [⟨some 0, .mv, [.c (.bool false)], none, []⟩])
  (.seq (.reg [⟨some 4, (.call 20), [], none, [0]⟩,
    ⟨some 1, (.alloc [(.int .i64 0), (.int .i64 0), (.int .i64 0), (.int .i64 0), (.int .i64 0)]), [], none, []⟩,
    ⟨none, (.st 5), [.r 1, .r 4], none, [4]⟩])
  (.seq (.dreg [⟨0, 0, false, false, ⟨some 6, (.ldn 5), [.r 1], none, []⟩⟩,
    ⟨1, 0, false, false, ⟨some 7, (.ldn 5), [.r 1], none, []⟩⟩,
    ⟨2, 2, false, true, ⟨some 8, (.call 14), [.r 7], none, [7]⟩⟩,
    ⟨3, 6, false, true, ⟨some 9, (.call 16), [.r 8, .c (.int .i64 8)], none, [8]⟩⟩,
    ⟨4, 15, false, true, ⟨some 10, (.call 12), [.r 6, .r 9, .c (.bool true), .c (.bool false)], none, [6, 9]⟩⟩,
    ⟨5, 31, false, false, ⟨some 5, .mv, [.r 10], none, [10]⟩⟩,
    ⟨6, 63, false, false, ⟨some 11, (.ext 0), [.r 5], none, []⟩⟩,
    ⟨7, 63, false, false, ⟨some 12, (.ext 1), [.r 5], none, [5]⟩⟩,
    ⟨8, 0, true, false, ⟨some 2, (.alloc [(.int .i64 0), (.int .i64 0), (.int .i64 0)]), [], none, []⟩⟩,
    ⟨9, 383, false, false, ⟨none, (.st 3), [.r 2, .r 11], none, [11]⟩⟩,
    ⟨10, 1023, false, false, ⟨some 3, .mv, [.r 12], none, [12]⟩⟩])
  (.seq (.reg [⟨some 13, .mv, [.r 3], none, [3]⟩,
    ⟨some 14, (.bin .eql), [.r 13, .c (.int .i64 2)], none, [13]⟩,
    ⟨some 15, .mv, [.r 14], none, [14]⟩,
    ⟨some 16, (.ldn 3), [.r 2], (some (15, true)), []⟩,
    ⟨some 17, (.build [(.int .i64 0), (.int .i64 0), (.int .i64 0)] [(0, 1), (1, 1), (2, 1)]), [.c (.int .i64 8), .c (.int .i64 13), .c (.int .i64 8)], (some (15, true)), []⟩,
    ⟨some 18, (.eqv false [.int, .int, .int]), [.r 16, .r 17], (some (15, true)), [16, 17]⟩,
    ⟨some 19, .pick, [.r 15, .r 18, .c (.bool false)], none, [15, 18]⟩,
    ⟨some 20, .mv, [.r 19], none, [19]⟩,
    ⟨some 21, (.ldn 3), [.r 2], (some (20, true)), []⟩,
    ⟨some 22, (.call 18), [.r 21], (some (20, true)), [21]⟩,
    ⟨some 23, (.bin .eql), [.r 22, .c (.int .i64 5)], (some (20, true)), [22]⟩,
    ⟨some 24, .pick, [.r 20, .r 23, .c (.bool false)], none, [20, 23]⟩,
    ⟨some 25, .mv, [.r 24], none, [24]⟩,
    ⟨some 26, (.ldn 5), [.r 1], (some (25, true)), [1]⟩,
    ⟨some 27, (.call 8), [.r 26], (some (25, true)), [26]⟩,
    ⟨some 28, .pick, [.r 25, .r 27, .c (.bool false)], none, [25, 27]⟩,
    ⟨some 29, .mv, [.r 28], none, [28]⟩,
    ⟨some 30, (.ldn 3), [.r 2], (some (29, true)), [2]⟩,
    ⟨some 31, (.call 10), [.r 30], (some (29, true)), [30]⟩,
    ⟨some 32, .pick, [.r 29, .r 31, .c (.bool false)], none, [29, 31]⟩,
    ⟨some 0, .mv, [.r 32], none, [32]⟩])
  .ret))))
def rs7 : List SR := [.tmp 0]
theorem k7 : okC Try.prog 33 (Try.f7.body.getD .skip) c7 = true := by kernel_rfl
theorem acall7 {args : List AV} (hn : args.length ≤ 33) {H : Heap} {v : AV} {H' : Heap} (h : ac Try.prog c7 (argEnv 0 args) H (Fin H rs7 v H')) : ACall Try.prog 7 args H v H' :=
  acall Try.func7 (c := Try.f7.body.getD .skip) rfl k7 (by kernel_rfl) hn h

/- alidade/lease.May -/
def c8 : SC :=
  (.seq (.reg [⟨some 1, .box, [.r 0], none, [0]⟩,
    ⟨some 2, .mv, [.c (.bool false)], none, []⟩])
  (.seq (.reg [⟨some 3, .mv, [.c (.fn (.func 21) [] [])], none, [2]⟩])
  (.seq (.reg [⟨some 4, (.faddr 0), [.r 1], none, []⟩,
    ⟨some 5, .ld1, [.r 4], none, [4]⟩,
    ⟨some 6, (.faddr 1), [.r 1], none, []⟩,
    ⟨some 7, .ld1, [.r 6], none, [6]⟩,
    ⟨some 8, (.faddr 2), [.r 1], none, []⟩,
    ⟨some 9, .ld1, [.r 8], none, [8]⟩,
    ⟨some 10, (.faddr 3), [.r 1], none, []⟩,
    ⟨some 11, .ld1, [.r 10], none, [10]⟩,
    ⟨some 12, (.bslice 1 4 [(.int .i64 0), (.int .i64 0), (.int .i64 0), (.int .i64 0)] [(0, 1), (1, 1), (2, 1), (3, 1)]), [.r 5, .r 7, .r 9, .r 11], none, [5, 7, 9, 11]⟩,
    ⟨some 13, .mv, [.r 3], none, [3]⟩,
    ⟨some 14, (.call 22), [.r 12, .r 13], none, [12, 13]⟩,
    ⟨some 15, (.un .not), [.r 14], none, [14]⟩,
    ⟨some 16, .mv, [.r 15], none, [15]⟩,
    ⟨some 17, (.faddr 4), [.r 1], (some (16, true)), []⟩,
    ⟨some 18, .ld1, [.r 17], (some (16, true)), [17]⟩,
    ⟨some 19, (.bin .geq), [.r 18, .c (.int .i64 1)], (some (16, true)), [18]⟩,
    ⟨some 20, .pick, [.r 16, .r 19, .c (.bool false)], none, [16, 19]⟩,
    ⟨some 21, .mv, [.r 20], none, [20]⟩,
    ⟨some 22, (.faddr 4), [.r 1], (some (21, true)), []⟩,
    ⟨some 23, .ld1, [.r 22], (some (21, true)), [22]⟩,
    ⟨some 24, (.bin .leq), [.r 23, .c (.int .i64 70368744177663)], (some (21, true)), [23]⟩,
    ⟨some 25, .pick, [.r 21, .r 24, .c (.bool false)], none, [21, 24]⟩,
    ⟨some 26, .mv, [.r 25], none, [25]⟩,
    ⟨some 27, (.faddr 1), [.r 1], (some (26, true)), []⟩,
    ⟨some 28, .ld1, [.r 27], (some (26, true)), [27]⟩,
    ⟨some 29, (.faddr 0), [.r 1], (some (26, true)), [1]⟩,
    ⟨some 30, .ld1, [.r 29], (some (26, true)), [29]⟩,
    ⟨some 31, (.bin .geq), [.r 28, .r 30], (some (26, true)), [28, 30]⟩,
    ⟨some 32, .pick, [.r 26, .r 31, .c (.bool false)], none, [26, 31]⟩,
    ⟨some 2, .mv, [.r 32], none, [32]⟩])
  .ret)))
def rs8 : List SR := [.tmp 2]
theorem k8 : okC Try.prog 33 (Try.f8.body.getD .skip) c8 = true := by kernel_rfl
theorem acall8 {args : List AV} (hn : args.length ≤ 33) {H : Heap} {v : AV} {H' : Heap} (h : ac Try.prog c8 (argEnv 0 args) H (Fin H rs8 v H')) : ACall Try.prog 8 args H v H' :=
  acall Try.func8 (c := Try.f8.body.getD .skip) rfl k8 (by kernel_rfl) hn h

/- alidade/alidaderef16.May -/
def c9 : SC :=
  (.seq (.reg [⟨some 1, .box, [.r 0], none, [0]⟩,
    ⟨some 2, .mv, [.c (.bool false)], none, []⟩])
  (.seq (.seq (.reg [⟨some 3, (.faddr 4), [.r 1], none, [2]⟩,
    ⟨some 4, .ld1, [.r 3], none, [3]⟩,
    ⟨some 5, (.bin .lss), [.r 4, .c (.int .i64 1)], none, [4]⟩,
    ⟨some 6, .mv, [.r 5], none, [5]⟩,
    ⟨some 7, (.faddr 4), [.r 1], (some (6, false)), []⟩,
    ⟨some 8, .ld1, [.r 7], (some (6, false)), [7]⟩,
    ⟨some 9, (.bin .gtr), [.r 8, .c (.int .i64 70368744177663)], (some (6, false)), [8]⟩,
    ⟨some 10, .pick, [.r 6, .c (.bool true), .r 9], none, [6, 9]⟩,
    ⟨some 11, .mv, [.r 10], none, [10]⟩,
    ⟨some 12, (.faddr 1), [.r 1], (some (11, false)), []⟩,
    ⟨some 13, .ld1, [.r 12], (some (11, false)), [12]⟩,
    ⟨some 14, (.faddr 0), [.r 1], (some (11, false)), []⟩,
    ⟨some 15, .ld1, [.r 14], (some (11, false)), [14]⟩,
    ⟨some 16, (.bin .lss), [.r 13, .r 15], (some (11, false)), [13, 15]⟩,
    ⟨some 17, .pick, [.r 11, .c (.bool true), .r 16], none, [11, 16]⟩])
  (.cond (.r 17)
    (.kl [1, 17] (.seq (.reg [⟨some 2, .mv, [.c (.bool false)], none, []⟩])
    .ret))
    (.kl [17] .skip)))
  (.seq (.reg [⟨some 18, (.faddr 0), [.r 1], none, []⟩,
    ⟨some 19, .ld1, [.r 18], none, [18]⟩,
    ⟨some 20, (.call 23), [.r 19], none, [19]⟩,
    ⟨some 21, .mv, [.r 20], none, [20]⟩,
    ⟨some 22, (.faddr 1), [.r 1], (some (21, true)), []⟩,
    ⟨some 23, .ld1, [.r 22], (some (21, true)), [22]⟩,
    ⟨some 24, (.call 23), [.r 23], (some (21, true)), [23]⟩,
    ⟨some 25, .pick, [.r 21, .r 24, .c (.bool false)], none, [21, 24]⟩,
    ⟨some 26, .mv, [.r 25], none, [25]⟩,
    ⟨some 27, (.faddr 2), [.r 1], (some (26, true)), []⟩,
    ⟨some 28, .ld1, [.r 27], (some (26, true)), [27]⟩,
    ⟨some 29, (.call 23), [.r 28], (some (26, true)), [28]⟩,
    ⟨some 30, .pick, [.r 26, .r 29, .c (.bool false)], none, [26, 29]⟩,
    ⟨some 31, .mv, [.r 30], none, [30]⟩,
    ⟨some 32, (.faddr 3), [.r 1], (some (31, true)), [1]⟩,
    ⟨some 33, .ld1, [.r 32], (some (31, true)), [32]⟩,
    ⟨some 34, (.call 23), [.r 33], (some (31, true)), [33]⟩,
    ⟨some 35, .pick, [.r 31, .r 34, .c (.bool false)], none, [31, 34]⟩,
    ⟨some 2, .mv, [.r 35], none, [35]⟩])
  .ret)))
def rs9 : List SR := [.tmp 2]
theorem k9 : okC Try.prog 36 (Try.f9.body.getD .skip) c9 = true := by kernel_rfl
theorem acall9 {args : List AV} (hn : args.length ≤ 36) {H : Heap} {v : AV} {H' : Heap} (h : ac Try.prog c9 (argEnv 0 args) H (Fin H rs9 v H')) : ACall Try.prog 9 args H v H' :=
  acall Try.func9 (c := Try.f9.body.getD .skip) rfl k9 (by kernel_rfl) hn h

/- alidade/lease.Right -/
def c10 : SC :=
  (.seq (.reg [⟨some 1, .box, [.r 0], none, [0]⟩,
    ⟨some 2, .mv, [.c (.bool false)], none, []⟩])
  (.seq (.reg [⟨some 3, .mv, [.c (.fn (.func 24) [] [])], none, [2]⟩])
  (.seq (.reg [⟨some 4, (.faddr 0), [.r 1], none, []⟩,
    ⟨some 5, .ld1, [.r 4], none, [4]⟩,
    ⟨some 6, (.faddr 1), [.r 1], none, []⟩,
    ⟨some 7, .ld1, [.r 6], none, [6]⟩,
    ⟨some 8, (.faddr 2), [.r 1], none, [1]⟩,
    ⟨some 9, .ld1, [.r 8], none, [8]⟩,
    ⟨some 10, (.bslice 1 3 [(.int .i64 0), (.int .i64 0), (.int .i64 0)] [(0, 1), (1, 1), (2, 1)]), [.r 5, .r 7, .r 9], none, [5, 7, 9]⟩,
    ⟨some 11, .mv, [.r 3], none, [3]⟩,
    ⟨some 12, (.call 22), [.r 10, .r 11], none, [10, 11]⟩,
    ⟨some 13, (.un .not), [.r 12], none, [12]⟩,
    ⟨some 2, .mv, [.r 13], none, [13]⟩])
  .ret)))
def rs10 : List SR := [.tmp 2]
theorem k10 : okC Try.prog 14 (Try.f10.body.getD .skip) c10 = true := by kernel_rfl
theorem acall10 {args : List AV} (hn : args.length ≤ 14) {H : Heap} {v : AV} {H' : Heap} (h : ac Try.prog c10 (argEnv 0 args) H (Fin H rs10 v H')) : ACall Try.prog 10 args H v H' :=
  acall Try.func10 (c := Try.f10.body.getD .skip) rfl k10 (by kernel_rfl) hn h

/- alidade/alidaderef16.Right -/
def c11 : SC :=
  (.seq (.reg [⟨some 1, .box, [.r 0], none, [0]⟩,
    ⟨some 2, .mv, [.c (.bool false)], none, []⟩])
  (.seq (.reg [⟨some 3, (.faddr 0), [.r 1], none, [2]⟩,
    ⟨some 4, .ld1, [.r 3], none, [3]⟩,
    ⟨some 5, (.bin .geq), [.r 4, .c (.int .i64 0)], none, [4]⟩,
    ⟨some 6, .mv, [.r 5], none, [5]⟩,
    ⟨some 7, (.faddr 0), [.r 1], (some (6, true)), []⟩,
    ⟨some 8, .ld1, [.r 7], (some (6, true)), [7]⟩,
    ⟨some 9, (.bin .leq), [.r 8, .c (.int .i64 4611686018427387904)], (some (6, true)), [8]⟩,
    ⟨some 10, .pick, [.r 6, .r 9, .c (.bool false)], none, [6, 9]⟩,
    ⟨some 11, .mv, [.r 10], none, [10]⟩,
    ⟨some 12, (.faddr 1), [.r 1], (some (11, true)), []⟩,
    ⟨some 13, .ld1, [.r 12], (some (11, true)), [12]⟩,
    ⟨some 14, (.bin .geq), [.r 13, .c (.int .i64 0)], (some (11, true)), [13]⟩,
    ⟨some 15, .pick, [.r 11, .r 14, .c (.bool false)], none, [11, 14]⟩,
    ⟨some 16, .mv, [.r 15], none, [15]⟩,
    ⟨some 17, (.faddr 1), [.r 1], (some (16, true)), []⟩,
    ⟨some 18, .ld1, [.r 17], (some (16, true)), [17]⟩,
    ⟨some 19, (.bin .leq), [.r 18, .c (.int .i64 4611686018427387904)], (some (16, true)), [18]⟩,
    ⟨some 20, .pick, [.r 16, .r 19, .c (.bool false)], none, [16, 19]⟩,
    ⟨some 21, .mv, [.r 20], none, [20]⟩,
    ⟨some 22, (.faddr 2), [.r 1], (some (21, true)), []⟩,
    ⟨some 23, .ld1, [.r 22], (some (21, true)), [22]⟩,
    ⟨some 24, (.bin .geq), [.r 23, .c (.int .i64 0)], (some (21, true)), [23]⟩,
    ⟨some 25, .pick, [.r 21, .r 24, .c (.bool false)], none, [21, 24]⟩,
    ⟨some 26, .mv, [.r 25], none, [25]⟩,
    ⟨some 27, (.faddr 2), [.r 1], (some (26, true)), [1]⟩,
    ⟨some 28, .ld1, [.r 27], (some (26, true)), [27]⟩,
    ⟨some 29, (.bin .leq), [.r 28, .c (.int .i64 4611686018427387904)], (some (26, true)), [28]⟩,
    ⟨some 30, .pick, [.r 26, .r 29, .c (.bool false)], none, [26, 29]⟩,
    ⟨some 2, .mv, [.r 30], none, [30]⟩])
  .ret))
def rs11 : List SR := [.tmp 2]
theorem k11 : okC Try.prog 31 (Try.f11.body.getD .skip) c11 = true := by kernel_rfl
theorem acall11 {args : List AV} (hn : args.length ≤ 31) {H : Heap} {v : AV} {H' : Heap} (h : ac Try.prog c11 (argEnv 0 args) H (Fin H rs11 v H')) : ACall Try.prog 11 args H v H' :=
  acall Try.func11 (c := Try.f11.body.getD .skip) rfl k11 (by kernel_rfl) hn h

/- alidade/lease.Ask -/
def c12 : SC :=
  (.seq (.reg [⟨some 4, .box, [.r 0], none, [0]⟩,
    ⟨some 5, .box, [.r 1], none, [1]⟩,
    ⟨some 8, (.alloc [(.int .i64 0), (.int .i64 0), (.int .i64 0)]), [], none, []⟩,
    ⟨some 9, .mv, [.c (.int .i64 0)], none, []⟩])
  (.seq (.reg [⟨some 11, (.ldn 5), [.r 4], none, [9]⟩,
    ⟨some 12, (.ldn 3), [.r 5], none, []⟩,
    ⟨some 13, .mv, [.r 2], none, [2]⟩,
    ⟨some 14, .mv, [.r 3], none, [3]⟩,
    ⟨some 15, (.call 25), [.r 11, .r 12, .r 13, .r 14], none, [11, 12, 13, 14]⟩,
    ⟨some 10, .mv, [.r 15], none, [15]⟩])
  (.seq (.seq (.reg [⟨some 16, .mv, [.r 10], none, []⟩,
    ⟨some 17, (.bin .gtr), [.r 16, .c (.int .i64 0)], none, [16]⟩])
  (.cond (.r 17)
    (.kl [17] (.reg [⟨some 18, (.faddr 0), [.r 5], none, []⟩,
      ⟨some 19, .ld1, [.r 18], none, [18]⟩,
      ⟨some 20, (.faddr 0), [.r 4], none, [4]⟩,
      ⟨some 21, .ld1, [.r 20], none, [20]⟩,
      ⟨some 22, (.bin .add), [.r 19, .r 21], none, [19, 21]⟩,
      ⟨some 23, (.faddr 1), [.r 5], none, []⟩,
      ⟨none, (.st 1), [.r 23, .r 22], none, [22, 23]⟩]))
    (.kl [4, 17] .skip)))
  (.seq (.reg [⟨some 24, (.ldn 3), [.r 5], none, [5]⟩,
    ⟨some 25, .mv, [.r 10], none, [10]⟩,
    ⟨none, (.st 3), [.r 8, .r 24], none, [24]⟩,
    ⟨some 9, .mv, [.r 25], none, [25]⟩])
  .ret))))
def rs12 : List SR := [.celln 8 3, .tmp 9]
theorem k12 : okC Try.prog 26 (Try.f12.body.getD .skip) c12 = true := by kernel_rfl
theorem acall12 {args : List AV} (hn : args.length ≤ 26) {H : Heap} {v : AV} {H' : Heap} (h : ac Try.prog c12 (argEnv 0 args) H (Fin H rs12 v H')) : ACall Try.prog 12 args H v H' :=
  acall Try.func12 (c := Try.f12.body.getD .skip) rfl k12 (by kernel_rfl) hn h

/- alidade/alidaderef16.Ask -/
def c13 : SC :=
  (.seq (.reg [⟨some 4, .box, [.r 0], none, [0]⟩,
    ⟨some 5, .box, [.r 1], none, [1]⟩,
    ⟨some 8, (.alloc [(.int .i64 0), (.int .i64 0), (.int .i64 0)]), [], none, []⟩,
    ⟨some 9, .mv, [.c (.int .i64 0)], none, []⟩])
  (.seq (.reg [⟨some 12, (.faddr 0), [.r 5], none, [9]⟩,
    ⟨some 13, .ld1, [.r 12], none, [12]⟩,
    ⟨some 14, (.faddr 0), [.r 5], none, []⟩,
    ⟨some 15, .ld1, [.r 14], none, [14]⟩,
    ⟨some 16, (.faddr 0), [.r 4], none, []⟩,
    ⟨some 17, .ld1, [.r 16], none, [16]⟩,
    ⟨some 18, (.bin .add), [.r 15, .r 17], none, [15, 17]⟩,
    ⟨some 19, (.faddr 2), [.r 5], none, []⟩,
    ⟨some 20, .ld1, [.r 19], none, [19]⟩,
    ⟨some 21, (.build [(.int .i64 0), (.int .i64 0), (.int .i64 0)] [(0, 1), (1, 1), (2, 1)]), [.r 13, .r 18, .r 20], none, [13, 18, 20]⟩,
    ⟨some 10, (.alloc [(.int .i64 0), (.int .i64 0), (.int .i64 0)]), [], none, []⟩,
    ⟨none, (.st 3), [.r 10, .r 21], none, [21]⟩])
  (.seq (.seq (.reg [⟨some 22, (.faddr 0), [.r 5], none, []⟩,
    ⟨some 23, .ld1, [.r 22], none, [22]⟩,
    ⟨some 24, (.faddr 2), [.r 5], none, []⟩,
    ⟨some 25, .ld1, [.r 24], none, [24]⟩,
    ⟨some 26, (.bin .lss), [.r 23, .r 25], none, [23, 25]⟩])
  (.cond (.r 26)
    (.kl [2, 3, 4, 10, 26] (.seq (.reg [⟨some 27, (.ldn 3), [.r 5], none, [5]⟩,
      ⟨none, (.st 3), [.r 8, .r 27], none, [27]⟩,
      ⟨some 9, .mv, [.c (.int .i64 0)], none, []⟩])
    .ret))
    (.kl [26] .skip)))
  (.seq (.seq (.reg [⟨some 28, (.faddr 0), [.r 5], none, []⟩,
    ⟨some 29, .ld1, [.r 28], none, [28]⟩,
    ⟨some 30, (.faddr 1), [.r 5], none, []⟩,
    ⟨some 31, .ld1, [.r 30], none, [30]⟩,
    ⟨some 32, (.bin .lss), [.r 29, .r 31], none, [29, 31]⟩])
  (.cond (.r 32)
    (.kl [3, 4, 32] (.seq (.seq (.reg [⟨some 33, .mv, [.r 2], none, [2]⟩])
    (.cond (.r 33)
      (.kl [5, 33] (.seq (.reg [⟨some 34, (.ldn 3), [.r 10], none, [10]⟩,
        ⟨none, (.st 3), [.r 8, .r 34], none, [34]⟩,
        ⟨some 9, .mv, [.c (.int .i64 1)], none, []⟩])
      .ret))
      (.kl [10, 33] .skip)))
    (.seq (.reg [⟨some 35, (.ldn 3), [.r 5], none, [5]⟩,
      ⟨none, (.st 3), [.r 8, .r 35], none, [35]⟩,
      ⟨some 9, .mv, [.c (.int .i64 0)], none, []⟩])
    .ret)))
    (.kl [32] .skip)))
  (.seq (.seq (.reg [⟨some 36, .mv, [.r 2], none, [2]⟩])
  (.cond (.r 36)
    (.kl [3, 4, 5, 36] (.seq (.reg [⟨some 37, (.ldn 3), [.r 10], none, [10]⟩,
      ⟨none, (.st 3), [.r 8, .r 37], none, [37]⟩,
      ⟨some 9, .mv, [.c (.int .i64 2)], none, []⟩])
    .ret))
    (.kl [36] .skip)))
  (.seq (.seq (.reg [⟨some 38, .mv, [.r 3], none, [3]⟩])
  (.cond (.r 38)
    (.kl [4, 5, 38] (.seq (.reg [⟨some 39, (.ldn 3), [.r 10], none, [10]⟩,
      ⟨none, (.st 3), [.r 8, .r 39], none, [39]⟩,
      ⟨some 9, .mv, [.c (.int .i64 3)], none, []⟩])
    .ret))
    (.kl [38] .skip)))
  (.seq (.reg [⟨some 40, (.faddr 1), [.r 5], none, []⟩,
    ⟨some 41, .ld1, [.r 40], none, [40]⟩,
    ⟨some 11, .mv, [.r 41], none, [41]⟩])
  (.seq (.seq (.reg [⟨some 42, (.faddr 2), [.r 5], none, []⟩,
    ⟨some 43, .ld1, [.r 42], none, [42]⟩,
    ⟨some 44, .mv, [.r 11], none, []⟩,
    ⟨some 45, (.bin .gtr), [.r 43, .r 44], none, [43, 44]⟩])
  (.cond (.r 45)
    (.kl [11, 45] (.reg [⟨some 46, (.faddr 2), [.r 5], none, []⟩,
      ⟨some 47, .ld1, [.r 46], none, [46]⟩,
      ⟨some 11, .mv, [.r 47], none, [47]⟩]))
    (.kl [45] .skip)))
  (.seq (.seq (.reg [⟨some 48, (.faddr 0), [.r 5], none, []⟩,
    ⟨some 49, .ld1, [.r 48], none, [48]⟩,
    ⟨some 50, .mv, [.r 11], none, [11]⟩,
    ⟨some 51, (.faddr 2), [.r 4], none, [4]⟩,
    ⟨some 52, .ld1, [.r 51], none, [51]⟩,
    ⟨some 53, (.bin .add), [.r 50, .r 52], none, [50, 52]⟩,
    ⟨some 54, (.bin .geq), [.r 49, .r 53], none, [49, 53]⟩])
  (.cond (.r 54)
    (.kl [5, 54] (.seq (.reg [⟨some 55, (.ldn 3), [.r 10], none, [10]⟩,
      ⟨none, (.st 3), [.r 8, .r 55], none, [55]⟩,
      ⟨some 9, .mv, [.c (.int .i64 4)], none, []⟩])
    .ret))
    (.kl [10, 54] .skip)))
  (.seq (.reg [⟨some 56, (.ldn 3), [.r 5], none, [5]⟩,
    ⟨none, (.st 3), [.r 8, .r 56], none, [56]⟩,
    ⟨some 9, .mv, [.c (.int .i64 0)], none, []⟩])
  .ret))))))))))
def rs13 : List SR := [.celln 8 3, .tmp 9]
theorem k13 : okC Try.prog 57 (Try.f13.body.getD .skip) c13 = true := by kernel_rfl
theorem acall13 {args : List AV} (hn : args.length ≤ 57) {H : Heap} {v : AV} {H' : Heap} (h : ac Try.prog c13 (argEnv 0 args) H (Fin H rs13 v H')) : ACall Try.prog 13 args H v H' :=
  acall Try.func13 (c := Try.f13.body.getD .skip) rfl k13 (by kernel_rfl) hn h

/- alidade/lease.Reset -/
def c14 : SC :=
  (.seq (.reg [⟨some 1, .box, [.r 0], none, [0]⟩,
    ⟨some 2, (.alloc [(.int .i64 0), (.int .i64 0), (.int .i64 0)]), [], none, []⟩])
  (.seq (.reg [⟨some 3, (.faddr 1), [.r 1], none, [1]⟩,
    ⟨some 4, .ld1, [.r 3], none, [3]⟩,
    ⟨some 5, (.build [(.int .i64 0), (.int .i64 0), (.int .i64 0)] [(2, 1)]), [.r 4], none, [4]⟩,
    ⟨none, (.st 3), [.r 2, .r 5], none, [5]⟩])
  .ret))
def rs14 : List SR := [.celln 2 3]
theorem k14 : okC Try.prog 6 (Try.f14.body.getD .skip) c14 = true := by kernel_rfl
theorem acall14 {args : List AV} (hn : args.length ≤ 6) {H : Heap} {v : AV} {H' : Heap} (h : ac Try.prog c14 (argEnv 0 args) H (Fin H rs14 v H')) : ACall Try.prog 14 args H v H' :=
  acall Try.func14 (c := Try.f14.body.getD .skip) rfl k14 (by kernel_rfl) hn h

/- alidade/alidaderef16.Reset -/
def c15 : SC :=
  (.seq (.reg [⟨some 1, .box, [.r 0], none, [0]⟩,
    ⟨some 2, (.alloc [(.int .i64 0), (.int .i64 0), (.int .i64 0)]), [], none, []⟩])
  (.seq (.reg [⟨some 3, (.faddr 1), [.r 1], none, [1]⟩,
    ⟨some 4, .ld1, [.r 3], none, [3]⟩,
    ⟨some 5, (.build [(.int .i64 0), (.int .i64 0), (.int .i64 0)] [(0, 1), (1, 1), (2, 1)]), [.c (.int .i64 0), .c (.int .i64 0), .r 4], none, [4]⟩,
    ⟨none, (.st 3), [.r 2, .r 5], none, [5]⟩])
  .ret))
def rs15 : List SR := [.celln 2 3]
theorem k15 : okC Try.prog 6 (Try.f15.body.getD .skip) c15 = true := by kernel_rfl
theorem acall15 {args : List AV} (hn : args.length ≤ 6) {H : Heap} {v : AV} {H' : Heap} (h : ac Try.prog c15 (argEnv 0 args) H (Fin H rs15 v H')) : ACall Try.prog 15 args H v H' :=
  acall Try.func15 (c := Try.f15.body.getD .skip) rfl k15 (by kernel_rfl) hn h

/- alidade/lease.Tick -/
def c16 : SC :=
  (.seq (.reg [⟨some 2, .box, [.r 0], none, [0]⟩,
    ⟨some 4, (.alloc [(.int .i64 0), (.int .i64 0), (.int .i64 0)]), [], none, []⟩])
  (.seq (.reg [⟨some 5, .mv, [.r 1], none, [1]⟩,
    ⟨some 6, .mx, [.r 5, .c (.int .i64 0)], none, [5]⟩,
    ⟨some 7, .mn, [.r 6, .c (.int .i64 2305843009213693952)], none, [6]⟩,
    ⟨some 1, .mv, [.r 7], none, [7]⟩])
  (.seq (.reg [⟨some 8, (.faddr 0), [.r 2], none, []⟩,
    ⟨some 9, .ld1, [.r 8], none, [8]⟩,
    ⟨some 10, (.faddr 0), [.r 2], none, []⟩,
    ⟨some 11, .ld1, [.r 10], none, [10]⟩,
    ⟨some 12, .mv, [.r 1], none, [1]⟩,
    ⟨some 13, (.bin .add), [.r 11, .r 12], none, [11, 12]⟩,
    ⟨some 14, .mn, [.r 13, .c (.int .i64 2305843009213693952)], none, [13]⟩,
    ⟨some 15, .mx, [.r 9, .r 14], none, [9, 14]⟩,
    ⟨some 16, (.faddr 0), [.r 2], none, []⟩,
    ⟨none, (.st 1), [.r 16, .r 15], none, [15, 16]⟩])
  (.seq (.reg [⟨some 17, (.ldn 3), [.r 2], none, [2]⟩,
    ⟨none, (.st 3), [.r 4, .r 17], none, [17]⟩])
  .ret))))
def rs16 : List SR := [.celln 4 3]
theorem k16 : okC Try.prog 18 (Try.f16.body.getD .skip) c16 = true := by kernel_rfl
theorem acall16 {args : List AV} (hn : args.length ≤ 18) {H : Heap} {v : AV} {H' : Heap} (h : ac Try.prog c16 (argEnv 0 args) H (Fin H rs16 v H')) : ACall Try.prog 16 args H v H' :=
  acall Try.func16 (c := Try.f16.body.getD .skip) rfl k16 (by kernel_rfl) hn h

/- alidade/alidaderef16.Tick -/
def c17 : SC :=
  (.seq (.reg [⟨some 2, .box, [.r 0], none, [0]⟩,
    ⟨some 4, (.alloc [(.int .i64 0), (.int .i64 0), (.int .i64 0)]), [], none, []⟩])
  (.seq (.seq (.reg [⟨some 6, .mv, [.r 1], none, []⟩,
    ⟨some 7, (.bin .leq), [.r 6, .c (.int .i64 0)], none, [6]⟩,
    ⟨some 8, .mv, [.r 7], none, [7]⟩,
    ⟨some 9, (.faddr 0), [.r 2], (some (8, false)), []⟩,
    ⟨some 10, .ld1, [.r 9], (some (8, false)), [9]⟩,
    ⟨some 11, (.bin .geq), [.r 10, .c (.int .i64 2305843009213693952)], (some (8, false)), [10]⟩,
    ⟨some 12, .pick, [.r 8, .c (.bool true), .r 11], none, [8, 11]⟩])
  (.cond (.r 12)
    (.kl [1, 12] (.seq (.reg [⟨some 13, (.ldn 3), [.r 2], none, [2]⟩,
      ⟨none, (.st 3), [.r 4, .r 13], none, [13]⟩])
    .ret))
    (.kl [12] .skip)))
  (.seq (.reg [⟨some 5, .mv, [.c (.int .i64 2305843009213693952)], none, []⟩])
  (.seq (.seq (.reg [⟨some 14, .mv, [.r 1], none, []⟩,
    ⟨some 15, (.faddr 0), [.r 2], none, []⟩,
    ⟨some 16, .ld1, [.r 15], none, [15]⟩,
    ⟨some 17, (.bin .sub), [.c (.int .i64 2305843009213693952), .r 16], none, [16]⟩,
    ⟨some 18, (.bin .lss), [.r 14, .r 17], none, [14, 17]⟩])
  (.cond (.r 18)
    (.kl [5, 18] (.reg [⟨some 19, (.faddr 0), [.r 2], none, []⟩,
      ⟨some 20, .ld1, [.r 19], none, [19]⟩,
      ⟨some 21, .mv, [.r 1], none, [1]⟩,
      ⟨some 22, (.bin .add), [.r 20, .r 21], none, [20, 21]⟩,
      ⟨some 5, .mv, [.r 22], none, [22]⟩]))
    (.kl [1, 18] .skip)))
  (.seq (.reg [⟨some 23, .mv, [.r 5], none, [5]⟩,
    ⟨some 24, (.faddr 1), [.r 2], none, []⟩,
    ⟨some 25, .ld1, [.r 24], none, [24]⟩,
    ⟨some 26, (.faddr 2), [.r 2], none, [2]⟩,
    ⟨some 27, .ld1, [.r 26], none, [26]⟩,
    ⟨some 28, (.build [(.int .i64 0), (.int .i64 0), (.int .i64 0)] [(0, 1), (1, 1), (2, 1)]), [.r 23, .r 25, .r 27], none, [23, 25, 27]⟩,
    ⟨none, (.st 3), [.r 4, .r 28], none, [28]⟩])
  .ret)))))
def rs17 : List SR := [.celln 4 3]
theorem k17 : okC Try.prog 29 (Try.f17.body.getD .skip) c17 = true := by kernel_rfl
theorem acall17 {args : List AV} (hn : args.length ≤ 29) {H : Heap} {v : AV} {H' : Heap} (h : ac Try.prog c17 (argEnv 0 args) H (Fin H rs17 v H')) : ACall Try.prog 17 args H v H' :=
  acall Try.func17 (c := Try.f17.body.getD .skip) rfl k17 (by kernel_rfl) hn h

/- alidade/lease.Left -/
def c18 : SC :=
  (.seq (.reg [⟨some 1, .box, [.r 0], none, [0]⟩,
    ⟨some 2, .mv, [.c (.int .i64 0)], none, []⟩])
  (.seq (.reg [⟨some 3, (.faddr 1), [.r 1], none, [2]⟩,
    ⟨some 4, .ld1, [.r 3], none, [3]⟩,
    ⟨some 5, (.faddr 0), [.r 1], none, [1]⟩,
    ⟨some 6, .ld1, [.r 5], none, [5]⟩,
    ⟨some 7, (.bin .sub), [.r 4, .r 6], none, [4, 6]⟩,
    ⟨some 8, .mx, [.r 7, .c (.int .i64 0)], none, [7]⟩,
    ⟨some 2, .mv, [.r 8], none, [8]⟩])
  .ret))
def rs18 : List SR := [.tmp 2]
theorem k18 : okC Try.prog 9 (Try.f18.body.getD .skip) c18 = true := by kernel_rfl
theorem acall18 {args : List AV} (hn : args.length ≤ 9) {H : Heap} {v : AV} {H' : Heap} (h : ac Try.prog c18 (argEnv 0 args) H (Fin H rs18 v H')) : ACall Try.prog 18 args H v H' :=
  acall Try.func18 (c := Try.f18.body.getD .skip) rfl k18 (by kernel_rfl) hn h

/- alidade/alidaderef16.Left -/
def c19 : SC :=
  (.seq (.reg [⟨some 1, .box, [.r 0], none, [0]⟩,
    ⟨some 2, .mv, [.c (.int .i64 0)], none, []⟩])
  (.seq (.seq (.reg [⟨some 3, (.faddr 1), [.r 1], none, [2]⟩,
    ⟨some 4, .ld1, [.r 3], none, [3]⟩,
    ⟨some 5, (.faddr 0), [.r 1], none, []⟩,
    ⟨some 6, .ld1, [.r 5], none, [5]⟩,
    ⟨some 7, (.bin .gtr), [.r 4, .r 6], none, [4, 6]⟩])
  (.cond (.r 7)
    (.kl [7] (.seq (.reg [⟨some 8, (.faddr 1), [.r 1], none, []⟩,
      ⟨some 9, .ld1, [.r 8], none, [8]⟩,
      ⟨some 10, (.faddr 0), [.r 1], none, [1]⟩,
      ⟨some 11, .ld1, [.r 10], none, [10]⟩,
      ⟨some 12, (.bin .sub), [.r 9, .r 11], none, [9, 11]⟩,
      ⟨some 2, .mv, [.r 12], none, [12]⟩])
    .ret))
    (.kl [1, 7] .skip)))
  (.seq (.reg [⟨some 2, .mv, [.c (.int .i64 0)], none, []⟩])
  .ret)))
def rs19 : List SR := [.tmp 2]
theorem k19 : okC Try.prog 13 (Try.f19.body.getD .skip) c19 = true := by kernel_rfl
theorem acall19 {args : List AV} (hn : args.length ≤ 13) {H : Heap} {v : AV} {H' : Heap} (h : ac Try.prog c19 (argEnv 0 args) H (Fin H rs19 v H')) : ACall Try.prog 19 args H v H' :=
  acall Try.func19 (c := Try.f19.body.getD .skip) rfl k19 (by kernel_rfl) hn h

/- alidade/alidadelaw16.times -/
def c20 : SC :=
  (.seq (.reg [⟨some 0, (.alloc [(.int .i64 0), (.int .i64 0), (.int .i64 0), (.int .i64 0), (.int .i64 0)]), [], none, []⟩])
  (.seq (.reg [⟨some 1, (.build [(.int .i64 0), (.int .i64 0), (.int .i64 0), (.int .i64 0), (.int .i64 0)] [(0, 1), (1, 1), (2, 1), (3, 1), (4, 1)]), [.c (.int .i64 5), .c (.int .i64 8), .c (.int .i64 20), .c (.int .i64 10), .c (.int .i64 16777216)], none, []⟩,
    ⟨none, (.st 5), [.r 0, .r 1], none, [1]⟩])
  .ret))
def rs20 : List SR := [.celln 0 5]
theorem k20 : okC Try.prog 2 (Try.f20.body.getD .skip) c20 = true := by kernel_rfl
theorem acall20 {args : List AV} (hn : args.length ≤ 2) {H : Heap} {v : AV} {H' : Heap} (h : ac Try.prog c20 (argEnv 0 args) H (Fin H rs20 v H')) : ACall Try.prog 20 args H v H' :=
  acall Try.func20 (c := Try.f20.body.getD .skip) rfl k20 (by kernel_rfl) hn h

/- alidade/lease.May$1 -/
def c21 : SC :=
  (.seq (.reg [⟨some 2, .mv, [.c (.bool false)], none, []⟩])
  (.seq (.reg [⟨some 3, .mv, [.r 0], none, [2]⟩,
    ⟨some 4, (.bin .lss), [.r 3, .c (.int .i64 1)], none, [3]⟩,
    ⟨some 5, .mv, [.r 4], none, [4]⟩,
    ⟨some 6, .mv, [.r 0], (some (5, false)), [0]⟩,
    ⟨some 7, (.bin .gtr), [.r 6, .c (.int .i64 1000000000)], (some (5, false)), [6]⟩,
    ⟨some 8, .pick, [.r 5, .c (.bool true), .r 7], none, [5, 7]⟩,
    ⟨some 2, .mv, [.r 8], none, [8]⟩])
  .ret))
def rs21 : List SR := [.tmp 2]
theorem k21 : okC Try.prog 9 (Try.f21.body.getD .skip) c21 = true := by kernel_rfl
theorem acall21 {args : List AV} (hn : args.length ≤ 9) {H : Heap} {v : AV} {H' : Heap} (h : ac Try.prog c21 (argEnv 0 args) H (Fin H rs21 v H')) : ACall Try.prog 21 args H v H' :=
  acall Try.func21 (c := Try.f21.body.getD .skip) rfl k21 (by kernel_rfl) hn h

/- slices.ContainsFunc[[]int64,int64] -/
def c22 : SC :=
  (.seq (.reg [⟨some 4, .mv, [.c (.bool false)], none, []⟩])
  (.seq (.reg [⟨some 5, .mv, [.r 0], none, [0, 4]⟩,
    ⟨some 6, .mv, [.r 1], none, [1]⟩,
    ⟨some 7, (.call 26), [.r 5, .r 6], none, [5, 6]⟩,
    ⟨some 8, (.bin .geq), [.r 7, .c (.int .i64 0)], none, [7]⟩,
    ⟨some 4, .mv, [.r 8], none, [8]⟩])
  .ret))
def rs22 : List SR := [.tmp 4]
theorem k22 : okC Try.prog 9 (Try.f22.body.getD .skip) c22 = true := by kernel_rfl
theorem acall22 {args : List AV} (hn : args.length ≤ 9) {H : Heap} {v : AV} {H' : Heap} (h : ac Try.prog c22 (argEnv 0 args) H (Fin H rs22 v H')) : ACall Try.prog 22 args H v H' :=
  acall Try.func22 (c := Try.f22.body.getD .skip) rfl k22 (by kernel_rfl) hn h

/- alidade/alidaderef16.time -/
def c23 : SC :=
  (.seq (.reg [⟨some 2, .mv, [.c (.bool false)], none, []⟩])
  (.seq (.reg [⟨some 3, .mv, [.r 0], none, [2]⟩,
    ⟨some 4, (.bin .gtr), [.r 3, .c (.int .i64 0)], none, [3]⟩,
    ⟨some 5, .mv, [.r 4], none, [4]⟩,
    ⟨some 6, .mv, [.r 0], (some (5, true)), [0]⟩,
    ⟨some 7, (.bin .leq), [.r 6, .c (.int .i64 1000000000)], (some (5, true)), [6]⟩,
    ⟨some 8, .pick, [.r 5, .r 7, .c (.bool false)], none, [5, 7]⟩,
    ⟨some 2, .mv, [.r 8], none, [8]⟩])
  .ret))
def rs23 : List SR := [.tmp 2]
theorem k23 : okC Try.prog 9 (Try.f23.body.getD .skip) c23 = true := by kernel_rfl
theorem acall23 {args : List AV} (hn : args.length ≤ 9) {H : Heap} {v : AV} {H' : Heap} (h : ac Try.prog c23 (argEnv 0 args) H (Fin H rs23 v H')) : ACall Try.prog 23 args H v H' :=
  acall Try.func23 (c := Try.f23.body.getD .skip) rfl k23 (by kernel_rfl) hn h

/- alidade/lease.Right$1 -/
def c24 : SC :=
  (.seq (.reg [⟨some 2, .mv, [.c (.bool false)], none, []⟩])
  (.seq (.reg [⟨some 3, .mv, [.r 0], none, [2]⟩,
    ⟨some 4, (.bin .lss), [.r 3, .c (.int .i64 0)], none, [3]⟩,
    ⟨some 5, .mv, [.r 4], none, [4]⟩,
    ⟨some 6, .mv, [.r 0], (some (5, false)), [0]⟩,
    ⟨some 7, (.bin .gtr), [.r 6, .c (.int .i64 4611686018427387904)], (some (5, false)), [6]⟩,
    ⟨some 8, .pick, [.r 5, .c (.bool true), .r 7], none, [5, 7]⟩,
    ⟨some 2, .mv, [.r 8], none, [8]⟩])
  .ret))
def rs24 : List SR := [.tmp 2]
theorem k24 : okC Try.prog 9 (Try.f24.body.getD .skip) c24 = true := by kernel_rfl
theorem acall24 {args : List AV} (hn : args.length ≤ 9) {H : Heap} {v : AV} {H' : Heap} (h : ac Try.prog c24 (argEnv 0 args) H (Fin H rs24 v H')) : ACall Try.prog 24 args H v H' :=
  acall Try.func24 (c := Try.f24.body.getD .skip) rfl k24 (by kernel_rfl) hn h

/- alidade/lease.asked -/
def c25 : SC :=
  (.seq (.reg [⟨some 4, .box, [.r 0], none, [0]⟩,
    ⟨some 5, .box, [.r 1], none, [1]⟩,
    ⟨some 8, .mv, [.c (.int .i64 0)], none, []⟩])
  (.seq (.reg [⟨some 10, (.faddr 0), [.r 5], none, [8]⟩,
    ⟨some 11, .ld1, [.r 10], none, [10]⟩,
    ⟨some 12, (.faddr 1), [.r 5], none, []⟩,
    ⟨some 13, .ld1, [.r 12], none, [12]⟩,
    ⟨some 14, (.bin .lss), [.r 11, .r 13], none, [11, 13]⟩,
    ⟨some 9, .mv, [.r 14], none, [14]⟩])
  (.seq (.block 0 (.seq (.reg [⟨some 16, (.faddr 0), [.r 5], none, []⟩,
    ⟨some 17, .ld1, [.r 16], none, [16]⟩,
    ⟨some 18, (.faddr 2), [.r 5], none, []⟩,
    ⟨some 19, .ld1, [.r 18], none, [18]⟩,
    ⟨some 20, (.bin .lss), [.r 17, .r 19], none, [17, 19]⟩,
    ⟨some 21, .mv, [.r 20], none, [20]⟩,
    ⟨some 22, .mv, [.r 9], (some (21, false)), []⟩,
    ⟨some 23, .mv, [.r 22], (some (21, false)), [22]⟩,
    ⟨some 24, .mv, [.r 2], (some (23, true)), []⟩,
    ⟨some 25, (.un .not), [.r 24], (some (23, true)), [24]⟩,
    ⟨some 26, .pick, [.r 23, .r 25, .c (.bool false)], (some (21, false)), [23, 25]⟩,
    ⟨some 27, .pick, [.r 21, .c (.bool true), .r 26], none, [21, 26]⟩,
    ⟨some 15, .mv, [.r 27], none, [27]⟩])
  (.cond (.r 15)
    (.kl [2, 3, 4, 5, 9, 15] (.seq (.reg [⟨some 8, .mv, [.c (.int .i64 0)], none, []⟩])
    .ret))
    (.kl [15] (.seq (.reg [⟨some 29, .mv, [.r 9], none, [9]⟩,
      ⟨some 28, .mv, [.r 29], none, [29]⟩])
    (.cond (.r 28)
      (.kl [2, 3, 4, 5, 28] (.seq (.reg [⟨some 8, .mv, [.c (.int .i64 1)], none, []⟩])
      .ret))
      (.kl [28] (.seq (.reg [⟨some 31, .mv, [.r 2], none, [2]⟩,
        ⟨some 30, .mv, [.r 31], none, [31]⟩])
      (.cond (.r 30)
        (.kl [3, 4, 5, 30] (.seq (.reg [⟨some 8, .mv, [.c (.int .i64 2)], none, []⟩])
        .ret))
        (.kl [30] (.seq (.reg [⟨some 33, .mv, [.r 3], none, [3]⟩,
          ⟨some 32, .mv, [.r 33], none, [33]⟩])
        (.cond (.r 32)
          (.kl [4, 5, 32] (.seq (.reg [⟨some 8, .mv, [.c (.int .i64 3)], none, []⟩])
          .ret))
          (.kl [32] (.seq (.reg [⟨some 35, (.faddr 0), [.r 5], none, []⟩,
            ⟨some 36, .ld1, [.r 35], none, [35]⟩,
            ⟨some 37, (.faddr 1), [.r 5], none, []⟩,
            ⟨some 38, .ld1, [.r 37], none, [37]⟩,
            ⟨some 39, (.faddr 2), [.r 5], none, [5]⟩,
            ⟨some 40, .ld1, [.r 39], none, [39]⟩,
            ⟨some 41, .mx, [.r 38, .r 40], none, [38, 40]⟩,
            ⟨some 42, (.bin .sub), [.r 36, .r 41], none, [36, 41]⟩,
            ⟨some 43, (.faddr 2), [.r 4], none, [4]⟩,
            ⟨some 44, .ld1, [.r 43], none, [43]⟩,
            ⟨some 45, (.bin .geq), [.r 42, .r 44], none, [42, 44]⟩,
            ⟨some 34, .mv, [.r 45], none, [45]⟩])
          (.cond (.r 34)
            (.kl [34] (.seq (.reg [⟨some 8, .mv, [.c (.int .i64 4)], none, []⟩])
            .ret))
            (.kl [34] .skip))))))))))))))))
  (.seq (.reg [⟨some 8, .mv, [.c (.int .i64 0)], none, []⟩])
  .ret))))
def rs25 : List SR := [.tmp 8]
theorem k25 : okC Try.prog 46 (Try.f25.body.getD .skip) c25 = true := by kernel_rfl
theorem acall25 {args : List AV} (hn : args.length ≤ 46) {H : Heap} {v : AV} {H' : Heap} (h : ac Try.prog c25 (argEnv 0 args) H (Fin H rs25 v H')) : ACall Try.prog 25 args H v H' :=
  acall Try.func25 (c := Try.f25.body.getD .skip) rfl k25 (by kernel_rfl) hn h

/- slices.IndexFunc[[]int64,int64] -/
def c26l0 : SC :=
  (.seq (.reg [⟨some 9, (.bin .lss), [.r 8, .r 7], none, []⟩])
    (.seq (.cond (.r 9)
      (.kl [9] .skip)
      (.kl [0, 1, 7, 8, 9] (.exit 0)))
    (.seq (.block 1 (.seq (.reg [⟨some 10, .mv, [.r 8], none, []⟩,
      ⟨some 5, .mv, [.r 10], none, [10]⟩])
    (.seq (.reg [⟨some 11, .mv, [.r 1], none, []⟩,
      ⟨some 12, .mv, [.r 0], none, []⟩,
      ⟨some 13, .mv, [.r 5], none, []⟩,
      ⟨some 14, (.iaddrS 1), [.r 12, .r 13], none, [12, 13]⟩,
      ⟨some 15, .ld1, [.r 14], none, [14]⟩,
      ⟨some 16, .callv, [.r 11, .r 15], none, [11, 15]⟩])
    (.cond (.r 16)
      (.kl [0, 1, 7, 8, 16] (.seq (.reg [⟨some 17, .mv, [.r 5], none, [5]⟩,
        ⟨some 4, .mv, [.r 17], none, [17]⟩])
      .ret))
      (.kl [5, 16] .skip)))))
    (.reg [⟨some 18, (.bin .add), [.r 8, .c (.int .i64 1)], none, [8]⟩,
      ⟨some 8, .mv, [.r 18], none, [18]⟩]))))
def c26 : SC :=
  (.seq (.reg [⟨some 4, .mv, [.c (.int .i64 0)], none, []⟩])
  (.seq (.seq (.reg [⟨some 6, .mv, [.r 0], none, [4]⟩,
    ⟨some 7, .len, [.r 6], none, [6]⟩,
    ⟨some 8, .mv, [.c (.int .i64 0)], none, []⟩])
  (.block 0 (.loop c26l0)))
  (.seq (.reg [⟨some 4, .mv, [.c (.int .i64 (-1))], none, []⟩])
  .ret)))
def rs26 : List SR := [.tmp 4]
theorem k26 : okC Try.prog 19 (Try.f26.body.getD .skip) c26 = true := by kernel_rfl
theorem acall26 {args : List AV} (hn : args.length ≤ 19) {H : Heap} {v : AV} {H' : Heap} (h : ac Try.prog c26 (argEnv 0 args) H (Fin H rs26 v H')) : ACall Try.prog 26 args H v H' :=
  acall Try.func26 (c := Try.f26.body.getD .skip) rfl k26 (by kernel_rfl) hn h

end Go.Proofs.Ytboaddjafilabaa.Ah
