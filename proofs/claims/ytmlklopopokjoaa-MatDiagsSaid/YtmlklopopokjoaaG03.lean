/- G03: a part of the proof: contracts of functions, or plain laws. Conditions: none. -/
import Derived.Test.YtmlklopopokjoaaEb
import Derived.Test.YtmlklopopokjoaaProg
import Derived.KernelRfl
namespace Go.Proofs.Ytmlklopopokjoaa.Ah
open Go
/- alidade/alidadelaw03.MatScales -/
def c3l0 : SC :=
  (.seq (.seq (.reg [⟨some 52, .mv, [.r 12], none, []⟩,
      ⟨some 53, (.faddr 2), [.r 2], none, []⟩,
      ⟨some 54, .ld1, [.r 53], none, [53]⟩,
      ⟨some 55, .len, [.r 54], none, [54]⟩,
      ⟨some 56, (.bin .lss), [.r 52, .r 55], none, [52, 55]⟩])
    (.cond (.r 56)
      (.kl [56] .skip)
      (.kl [1, 8, 10, 12, 56] (.exit 0))))
    (.seq (.block 1 (.seq (.reg [⟨some 60, (.faddr 2), [.r 2], none, []⟩,
      ⟨some 61, .ld1, [.r 60], none, [60]⟩,
      ⟨some 62, .mv, [.r 12], none, []⟩,
      ⟨some 63, (.iaddrS 1), [.r 61, .r 62], none, [61, 62]⟩,
      ⟨some 64, .ld1, [.r 63], none, [63]⟩,
      ⟨some 65, .mv, [.r 1], none, []⟩,
      ⟨some 66, (.call 12), [.r 64, .r 65], none, [64, 65]⟩,
      ⟨some 59, .mv, [.r 66], none, [66]⟩,
      ⟨some 67, (.ext 0), [.r 59], none, []⟩,
      ⟨some 68, (.ext 1), [.r 59], none, [59]⟩,
      ⟨some 13, .mv, [.r 67], none, [67]⟩,
      ⟨some 14, .mv, [.r 68], none, [68]⟩])
    (.seq (.reg [⟨some 69, (.faddr 2), [.r 10], none, [14]⟩,
      ⟨some 70, .ld1, [.r 69], none, [69]⟩,
      ⟨some 71, .mv, [.r 12], none, []⟩,
      ⟨some 72, (.iaddrS 1), [.r 70, .r 71], none, [70, 71]⟩,
      ⟨some 73, .ld1, [.r 72], none, [72]⟩,
      ⟨some 74, .mv, [.r 13], none, [13]⟩,
      ⟨some 75, (.bin .neq), [.r 73, .r 74], none, [73, 74]⟩,
      ⟨some 76, .mv, [.r 75], none, [75]⟩,
      ⟨some 77, (.faddr 2), [.r 8], (some (76, false)), []⟩,
      ⟨some 78, .ld1, [.r 77], (some (76, false)), [77]⟩,
      ⟨some 79, .mv, [.r 12], (some (76, false)), []⟩,
      ⟨some 80, (.iaddrS 1), [.r 78, .r 79], (some (76, false)), [78, 79]⟩,
      ⟨some 81, .ld1, [.r 80], (some (76, false)), [80]⟩,
      ⟨some 82, (.bin .neq), [.r 81, .c (.int .i64 0)], (some (76, false)), [81]⟩,
      ⟨some 83, .pick, [.r 76, .c (.bool true), .r 82], none, [76, 82]⟩])
    (.cond (.r 83)
      (.kl [1, 2, 5, 6, 7, 8, 9, 10, 12, 83] (.seq (.reg [⟨some 4, .mv, [.c (.bool false)], none, []⟩])
      .ret))
      (.kl [83] .skip)))))
    (.reg [⟨some 57, .mv, [.r 12], none, [12]⟩,
      ⟨some 58, (.bin .add), [.r 57, .c (.int .i64 1)], none, [57]⟩,
      ⟨some 12, .mv, [.r 58], none, [58]⟩])))
def c3 : SC :=
  (.seq (.reg [⟨some 2, .box, [.r 0], none, [0]⟩,
    ⟨some 4, .mv, [.c (.bool false)], none, []⟩])
  (.seq (.reg [⟨some 15, (.call 9), [], none, [4]⟩,
    ⟨some 5, .mv, [.r 15], none, [15]⟩])
  (.seq (.seq (.reg [⟨some 16, (.ldn 3), [.r 2], none, []⟩,
    ⟨some 17, (.call 10), [.r 16], none, [16]⟩,
    ⟨some 18, (.un .not), [.r 17], none, [17]⟩])
  (.cond (.r 18)
    (.kl [1, 2, 18] (.seq (.reg [⟨some 19, .mv, [.r 5], none, [5]⟩,
      ⟨some 4, .mv, [.r 19], none, [19]⟩])
    .ret))
    (.kl [18] .skip)))
  (.seq (.reg [⟨some 21, (.ldn 3), [.r 2], none, []⟩,
    ⟨some 22, (.call 11), [.r 21, .c (.int .i64 16777216)], none, [21]⟩,
    ⟨some 20, .mv, [.r 22], none, [22]⟩,
    ⟨some 23, (.ext 0), [.r 20], none, []⟩,
    ⟨some 24, (.ext 1), [.r 20], none, [20]⟩,
    ⟨some 6, (.alloc [(.int .i64 0), (.int .i64 0), .nils]), [], none, []⟩,
    ⟨none, (.st 3), [.r 6, .r 23], none, [23]⟩,
    ⟨some 7, .mv, [.r 24], none, [24]⟩])
  (.seq (.reg [⟨some 26, (.ldn 3), [.r 2], none, []⟩,
    ⟨some 27, (.call 11), [.r 26, .c (.int .i64 0)], none, [26]⟩,
    ⟨some 25, .mv, [.r 27], none, [27]⟩,
    ⟨some 28, (.ext 0), [.r 25], none, []⟩,
    ⟨some 29, (.ext 1), [.r 25], none, [25]⟩,
    ⟨some 8, (.alloc [(.int .i64 0), (.int .i64 0), .nils]), [], none, []⟩,
    ⟨none, (.st 3), [.r 8, .r 28], none, [28]⟩,
    ⟨some 9, .mv, [.r 29], none, [29]⟩])
  (.seq (.reg [⟨some 31, (.ldn 3), [.r 2], none, []⟩,
    ⟨some 32, .mv, [.r 1], none, []⟩,
    ⟨some 33, (.call 11), [.r 31, .r 32], none, [31, 32]⟩,
    ⟨some 30, .mv, [.r 33], none, [33]⟩,
    ⟨some 34, (.ext 0), [.r 30], none, []⟩,
    ⟨some 35, (.ext 1), [.r 30], none, [30]⟩,
    ⟨some 10, (.alloc [(.int .i64 0), (.int .i64 0), .nils]), [], none, []⟩,
    ⟨none, (.st 3), [.r 10, .r 34], none, [34]⟩,
    ⟨some 11, .mv, [.r 35], none, [35]⟩])
  (.seq (.seq (.reg [⟨some 36, (.faddr 2), [.r 10], none, [11]⟩,
    ⟨some 37, .ld1, [.r 36], none, [36]⟩,
    ⟨some 38, .len, [.r 37], none, [37]⟩,
    ⟨some 39, (.faddr 2), [.r 2], none, []⟩,
    ⟨some 40, .ld1, [.r 39], none, [39]⟩,
    ⟨some 41, .len, [.r 40], none, [40]⟩,
    ⟨some 42, (.bin .neq), [.r 38, .r 41], none, [38, 41]⟩,
    ⟨some 43, .mv, [.r 42], none, [42]⟩,
    ⟨some 44, (.faddr 2), [.r 8], (some (43, false)), []⟩,
    ⟨some 45, .ld1, [.r 44], (some (43, false)), [44]⟩,
    ⟨some 46, .len, [.r 45], (some (43, false)), [45]⟩,
    ⟨some 47, (.faddr 2), [.r 2], (some (43, false)), []⟩,
    ⟨some 48, .ld1, [.r 47], (some (43, false)), [47]⟩,
    ⟨some 49, .len, [.r 48], (some (43, false)), [48]⟩,
    ⟨some 50, (.bin .neq), [.r 46, .r 49], (some (43, false)), [46, 49]⟩,
    ⟨some 51, .pick, [.r 43, .c (.bool true), .r 50], none, [43, 50]⟩])
  (.cond (.r 51)
    (.kl [1, 2, 5, 6, 7, 8, 9, 10, 51] (.seq (.reg [⟨some 4, .mv, [.c (.bool false)], none, []⟩])
    .ret))
    (.kl [51] .skip)))
  (.seq (.seq (.reg [⟨some 12, .mv, [.c (.int .i64 0)], none, []⟩])
  (.block 0 (.loop c3l0)))
  (.seq (.reg [⟨some 84, .mv, [.r 5], none, [5]⟩,
    ⟨some 85, .mv, [.r 84], none, [84]⟩,
    ⟨some 86, (.ldn 3), [.r 6], (some (85, true)), [6]⟩,
    ⟨some 87, (.ldn 3), [.r 2], (some (85, true)), [2]⟩,
    ⟨some 88, (.call 13), [.r 86, .r 87], (some (85, true)), [86, 87]⟩,
    ⟨some 89, .pick, [.r 85, .r 88, .c (.bool false)], none, [85, 88]⟩,
    ⟨some 90, .mv, [.r 89], none, [89]⟩,
    ⟨some 91, .mv, [.r 7], (some (90, true)), [7]⟩,
    ⟨some 92, (.un .not), [.r 91], (some (90, true)), [91]⟩,
    ⟨some 93, .pick, [.r 90, .r 92, .c (.bool false)], none, [90, 92]⟩,
    ⟨some 94, .mv, [.r 93], none, [93]⟩,
    ⟨some 95, .mv, [.r 9], (some (94, true)), [9]⟩,
    ⟨some 96, (.un .not), [.r 95], (some (94, true)), [95]⟩,
    ⟨some 97, .pick, [.r 94, .r 96, .c (.bool false)], none, [94, 96]⟩,
    ⟨some 4, .mv, [.r 97], none, [97]⟩])
  .ret)))))))))
def rs3 : List SR := [.tmp 4]
theorem k3 : okC Try.prog 98 (Try.f3.body.getD .skip) c3 = true := by kernel_rfl
theorem acall3 {args : List AV} (hn : args.length ≤ 98) {H : Heap} {v : AV} {H' : Heap} (h : ac Try.prog c3 (argEnv 0 args) H (Fin H rs3 v H')) : ACall Try.prog 3 args H v H' :=
  acall Try.func3 (c := Try.f3.body.getD .skip) rfl k3 (by kernel_rfl) hn h
theorem acallK3 {args : List AV} (hn : args.length ≤ 98) {H : Heap} {v : AV} {H' : Heap} (h : ac Try.prog c3 (argEnv 0 args) H (FinK rs3 v H')) : ACall Try.prog 3 args H v H' :=
  acallK Try.func3 (c := Try.f3.body.getD .skip) rfl k3 (by kernel_rfl) hn h

/- alidade/alidadelaw03.MatSums -/
def c4l0 : SC :=
  (.seq (.seq (.reg [⟨some 71, .mv, [.r 18], none, []⟩,
      ⟨some 72, (.faddr 2), [.r 12], none, []⟩,
      ⟨some 73, .ld1, [.r 72], none, [72]⟩,
      ⟨some 74, .len, [.r 73], none, [73]⟩,
      ⟨some 75, (.bin .lss), [.r 71, .r 74], none, [71, 74]⟩])
    (.cond (.r 75)
      (.kl [75] .skip)
      (.kl [18, 75] (.exit 0))))
    (.seq (.block 1 (.seq (.reg [⟨some 78, (.faddr 2), [.r 12], none, []⟩,
      ⟨some 79, .ld1, [.r 78], none, [78]⟩,
      ⟨some 80, .mv, [.r 18], none, []⟩,
      ⟨some 81, (.iaddrS 1), [.r 79, .r 80], none, [79, 80]⟩,
      ⟨some 82, .ld1, [.r 81], none, [81]⟩,
      ⟨some 83, (.bin .neq), [.r 82, .c (.int .i64 0)], none, [82]⟩])
    (.cond (.r 83)
      (.kl [2, 5, 6, 7, 9, 10, 12, 13, 15, 16, 18, 83] (.seq (.reg [⟨some 4, .mv, [.c (.bool false)], none, []⟩])
      .ret))
      (.kl [83] .skip))))
    (.reg [⟨some 76, .mv, [.r 18], none, [18]⟩,
      ⟨some 77, (.bin .add), [.r 76, .c (.int .i64 1)], none, [76]⟩,
      ⟨some 18, .mv, [.r 77], none, [77]⟩])))
def c4 : SC :=
  (.seq (.reg [⟨some 2, .box, [.r 0], none, [0]⟩,
    ⟨some 3, .box, [.r 1], none, [1]⟩,
    ⟨some 4, .mv, [.c (.bool false)], none, []⟩])
  (.seq (.reg [⟨some 19, (.call 9), [], none, [4]⟩,
    ⟨some 5, .mv, [.r 19], none, [19]⟩])
  (.seq (.seq (.reg [⟨some 20, (.ldn 3), [.r 2], none, []⟩,
    ⟨some 21, (.call 10), [.r 20], none, [20]⟩,
    ⟨some 22, (.un .not), [.r 21], none, [21]⟩,
    ⟨some 23, .mv, [.r 22], none, [22]⟩,
    ⟨some 24, (.ldn 3), [.r 3], (some (23, false)), []⟩,
    ⟨some 25, (.call 10), [.r 24], (some (23, false)), [24]⟩,
    ⟨some 26, (.un .not), [.r 25], (some (23, false)), [25]⟩,
    ⟨some 27, .pick, [.r 23, .c (.bool true), .r 26], none, [23, 26]⟩,
    ⟨some 28, .mv, [.r 27], none, [27]⟩,
    ⟨some 29, (.faddr 0), [.r 2], (some (28, false)), []⟩,
    ⟨some 30, .ld1, [.r 29], (some (28, false)), [29]⟩,
    ⟨some 31, (.faddr 0), [.r 3], (some (28, false)), []⟩,
    ⟨some 32, .ld1, [.r 31], (some (28, false)), [31]⟩,
    ⟨some 33, (.bin .neq), [.r 30, .r 32], (some (28, false)), [30, 32]⟩,
    ⟨some 34, .pick, [.r 28, .c (.bool true), .r 33], none, [28, 33]⟩,
    ⟨some 35, .mv, [.r 34], none, [34]⟩,
    ⟨some 36, (.faddr 1), [.r 2], (some (35, false)), []⟩,
    ⟨some 37, .ld1, [.r 36], (some (35, false)), [36]⟩,
    ⟨some 38, (.faddr 1), [.r 3], (some (35, false)), []⟩,
    ⟨some 39, .ld1, [.r 38], (some (35, false)), [38]⟩,
    ⟨some 40, (.bin .neq), [.r 37, .r 39], (some (35, false)), [37, 39]⟩,
    ⟨some 41, .pick, [.r 35, .c (.bool true), .r 40], none, [35, 40]⟩])
  (.cond (.r 41)
    (.kl [2, 3, 41] (.seq (.reg [⟨some 42, .mv, [.r 5], none, [5]⟩,
      ⟨some 4, .mv, [.r 42], none, [42]⟩])
    .ret))
    (.kl [41] .skip)))
  (.seq (.reg [⟨some 44, (.ldn 3), [.r 2], none, []⟩,
    ⟨some 45, (.ldn 3), [.r 3], none, []⟩,
    ⟨some 46, (.call 14), [.r 44, .r 45], none, [44, 45]⟩,
    ⟨some 43, .mv, [.r 46], none, [46]⟩,
    ⟨some 47, (.ext 0), [.r 43], none, []⟩,
    ⟨some 48, (.ext 1), [.r 43], none, []⟩,
    ⟨some 49, (.ext 2), [.r 43], none, [43]⟩,
    ⟨some 6, (.alloc [(.int .i64 0), (.int .i64 0), .nils]), [], none, []⟩,
    ⟨none, (.st 3), [.r 6, .r 47], none, [47]⟩,
    ⟨some 7, .mv, [.r 48], none, [48]⟩,
    ⟨some 8, .mv, [.r 49], none, [49]⟩])
  (.seq (.reg [⟨some 51, (.ldn 3), [.r 3], none, [3, 8]⟩,
    ⟨some 52, (.ldn 3), [.r 2], none, []⟩,
    ⟨some 53, (.call 14), [.r 51, .r 52], none, [51, 52]⟩,
    ⟨some 50, .mv, [.r 53], none, [53]⟩,
    ⟨some 54, (.ext 0), [.r 50], none, []⟩,
    ⟨some 55, (.ext 1), [.r 50], none, []⟩,
    ⟨some 56, (.ext 2), [.r 50], none, [50]⟩,
    ⟨some 9, (.alloc [(.int .i64 0), (.int .i64 0), .nils]), [], none, []⟩,
    ⟨none, (.st 3), [.r 9, .r 54], none, [54]⟩,
    ⟨some 10, .mv, [.r 55], none, [55]⟩,
    ⟨some 11, .mv, [.r 56], none, [56]⟩])
  (.seq (.reg [⟨some 58, (.ldn 3), [.r 2], none, [11]⟩,
    ⟨some 59, (.ldn 3), [.r 2], none, []⟩,
    ⟨some 60, (.call 15), [.r 58, .r 59], none, [58, 59]⟩,
    ⟨some 57, .mv, [.r 60], none, [60]⟩,
    ⟨some 61, (.ext 0), [.r 57], none, []⟩,
    ⟨some 62, (.ext 1), [.r 57], none, []⟩,
    ⟨some 63, (.ext 2), [.r 57], none, [57]⟩,
    ⟨some 12, (.alloc [(.int .i64 0), (.int .i64 0), .nils]), [], none, []⟩,
    ⟨none, (.st 3), [.r 12, .r 61], none, [61]⟩,
    ⟨some 13, .mv, [.r 62], none, [62]⟩,
    ⟨some 14, .mv, [.r 63], none, [63]⟩])
  (.seq (.reg [⟨some 65, (.ldn 3), [.r 2], none, [14]⟩,
    ⟨some 66, (.ldn 3), [.r 12], none, []⟩,
    ⟨some 67, (.call 14), [.r 65, .r 66], none, [65, 66]⟩,
    ⟨some 64, .mv, [.r 67], none, [67]⟩,
    ⟨some 68, (.ext 0), [.r 64], none, []⟩,
    ⟨some 69, (.ext 1), [.r 64], none, []⟩,
    ⟨some 70, (.ext 2), [.r 64], none, [64]⟩,
    ⟨some 15, (.alloc [(.int .i64 0), (.int .i64 0), .nils]), [], none, []⟩,
    ⟨none, (.st 3), [.r 15, .r 68], none, [68]⟩,
    ⟨some 16, .mv, [.r 69], none, [69]⟩,
    ⟨some 17, .mv, [.r 70], none, [70]⟩])
  (.seq (.seq (.reg [⟨some 18, .mv, [.c (.int .i64 0)], none, [17]⟩])
  (.block 0 (.loop c4l0)))
  (.seq (.reg [⟨some 84, .mv, [.r 5], none, [5]⟩,
    ⟨some 85, .mv, [.r 84], none, [84]⟩,
    ⟨some 86, (.ldn 3), [.r 6], (some (85, true)), [6]⟩,
    ⟨some 87, (.ldn 3), [.r 9], (some (85, true)), [9]⟩,
    ⟨some 88, (.call 13), [.r 86, .r 87], (some (85, true)), [86, 87]⟩,
    ⟨some 89, .pick, [.r 85, .r 88, .c (.bool false)], none, [85, 88]⟩,
    ⟨some 90, .mv, [.r 89], none, [89]⟩,
    ⟨some 91, .mv, [.r 7], (some (90, true)), [7]⟩,
    ⟨some 92, .mv, [.r 10], (some (90, true)), [10]⟩,
    ⟨some 93, (.eqb false), [.r 91, .r 92], (some (90, true)), [91, 92]⟩,
    ⟨some 94, .pick, [.r 90, .r 93, .c (.bool false)], none, [90, 93]⟩,
    ⟨some 95, .mv, [.r 94], none, [94]⟩,
    ⟨some 96, .mv, [.r 13], (some (95, true)), [13]⟩,
    ⟨some 97, (.un .not), [.r 96], (some (95, true)), [96]⟩,
    ⟨some 98, .pick, [.r 95, .r 97, .c (.bool false)], none, [95, 97]⟩,
    ⟨some 99, .mv, [.r 98], none, [98]⟩,
    ⟨some 100, .mv, [.r 16], (some (99, true)), [16]⟩,
    ⟨some 101, (.un .not), [.r 100], (some (99, true)), [100]⟩,
    ⟨some 102, .pick, [.r 99, .r 101, .c (.bool false)], none, [99, 101]⟩,
    ⟨some 103, .mv, [.r 102], none, [102]⟩,
    ⟨some 104, (.ldn 3), [.r 15], (some (103, true)), [15]⟩,
    ⟨some 105, (.ldn 3), [.r 2], (some (103, true)), []⟩,
    ⟨some 106, (.call 13), [.r 104, .r 105], (some (103, true)), [104, 105]⟩,
    ⟨some 107, .pick, [.r 103, .r 106, .c (.bool false)], none, [103, 106]⟩,
    ⟨some 108, .mv, [.r 107], none, [107]⟩,
    ⟨some 109, (.faddr 2), [.r 12], (some (108, true)), [12]⟩,
    ⟨some 110, .ld1, [.r 109], (some (108, true)), [109]⟩,
    ⟨some 111, .len, [.r 110], (some (108, true)), [110]⟩,
    ⟨some 112, (.faddr 2), [.r 2], (some (108, true)), [2]⟩,
    ⟨some 113, .ld1, [.r 112], (some (108, true)), [112]⟩,
    ⟨some 114, .len, [.r 113], (some (108, true)), [113]⟩,
    ⟨some 115, (.bin .eql), [.r 111, .r 114], (some (108, true)), [111, 114]⟩,
    ⟨some 116, .pick, [.r 108, .r 115, .c (.bool false)], none, [108, 115]⟩,
    ⟨some 4, .mv, [.r 116], none, [116]⟩])
  .ret)))))))))
def rs4 : List SR := [.tmp 4]
theorem k4 : okC Try.prog 117 (Try.f4.body.getD .skip) c4 = true := by kernel_rfl
theorem acall4 {args : List AV} (hn : args.length ≤ 117) {H : Heap} {v : AV} {H' : Heap} (h : ac Try.prog c4 (argEnv 0 args) H (Fin H rs4 v H')) : ACall Try.prog 4 args H v H' :=
  acall Try.func4 (c := Try.f4.body.getD .skip) rfl k4 (by kernel_rfl) hn h
theorem acallK4 {args : List AV} (hn : args.length ≤ 117) {H : Heap} {v : AV} {H' : Heap} (h : ac Try.prog c4 (argEnv 0 args) H (FinK rs4 v H')) : ACall Try.prog 4 args H v H' :=
  acallK Try.func4 (c := Try.f4.body.getD .skip) rfl k4 (by kernel_rfl) hn h

/- alidade/alidadelaw03.MatEvens -/
def c5 : SC :=
  (.seq (.reg [⟨some 1, .box, [.r 0], none, [0]⟩,
    ⟨some 2, .mv, [.c (.bool false)], none, []⟩])
  (.seq (.reg [⟨some 10, (.call 9), [], none, [2]⟩,
    ⟨some 3, .mv, [.r 10], none, [10]⟩])
  (.seq (.seq (.reg [⟨some 11, (.ldn 3), [.r 1], none, []⟩,
    ⟨some 12, (.call 10), [.r 11], none, [11]⟩,
    ⟨some 13, (.un .not), [.r 12], none, [12]⟩])
  (.cond (.r 13)
    (.kl [1, 13] (.seq (.reg [⟨some 14, .mv, [.r 3], none, [3]⟩,
      ⟨some 2, .mv, [.r 14], none, [14]⟩])
    .ret))
    (.kl [13] .skip)))
  (.seq (.reg [⟨some 16, (.ldn 3), [.r 1], none, []⟩,
    ⟨some 17, (.call 16), [.r 16], none, [16]⟩,
    ⟨some 15, .mv, [.r 17], none, [17]⟩,
    ⟨some 18, (.ext 0), [.r 15], none, []⟩,
    ⟨some 19, (.ext 1), [.r 15], none, []⟩,
    ⟨some 20, (.ext 2), [.r 15], none, [15]⟩,
    ⟨some 4, (.alloc [(.int .i64 0), (.int .i64 0), .nils]), [], none, []⟩,
    ⟨none, (.st 3), [.r 4, .r 18], none, [18]⟩,
    ⟨some 5, .mv, [.r 19], none, [19]⟩,
    ⟨some 6, .mv, [.r 20], none, [20]⟩])
  (.seq (.seq (.reg [⟨some 21, (.faddr 0), [.r 1], none, []⟩,
    ⟨some 22, .ld1, [.r 21], none, [21]⟩,
    ⟨some 23, (.faddr 1), [.r 1], none, [1]⟩,
    ⟨some 24, .ld1, [.r 23], none, [23]⟩,
    ⟨some 25, (.bin .neq), [.r 22, .r 24], none, [22, 24]⟩])
  (.cond (.r 25)
    (.kl [4, 5, 25] (.seq (.reg [⟨some 26, .mv, [.r 3], none, [3]⟩,
      ⟨some 27, .mv, [.r 26], none, [26]⟩,
      ⟨some 28, .mv, [.r 6], (some (27, true)), [6]⟩,
      ⟨some 29, (.bin .eql), [.r 28, .c (.int .i64 9)], (some (27, true)), [28]⟩,
      ⟨some 30, .pick, [.r 27, .r 29, .c (.bool false)], none, [27, 29]⟩,
      ⟨some 2, .mv, [.r 30], none, [30]⟩])
    .ret))
    (.kl [25] .skip)))
  (.seq (.reg [⟨some 32, (.ldn 3), [.r 4], none, []⟩,
    ⟨some 33, (.call 16), [.r 32], none, [32]⟩,
    ⟨some 31, .mv, [.r 33], none, [33]⟩,
    ⟨some 34, (.ext 0), [.r 31], none, []⟩,
    ⟨some 35, (.ext 1), [.r 31], none, []⟩,
    ⟨some 36, (.ext 2), [.r 31], none, [31]⟩,
    ⟨some 7, (.alloc [(.int .i64 0), (.int .i64 0), .nils]), [], none, []⟩,
    ⟨none, (.st 3), [.r 7, .r 34], none, [34]⟩,
    ⟨some 8, .mv, [.r 35], none, [35]⟩,
    ⟨some 9, .mv, [.r 36], none, [8, 36]⟩])
  (.seq (.dreg [⟨0, 0, false, false, ⟨some 37, .mv, [.r 3], none, [3]⟩⟩,
    ⟨1, 1, false, false, ⟨some 38, .mv, [.r 37], none, [37]⟩⟩,
    ⟨2, 3, false, false, ⟨some 39, .mv, [.r 6], (some (38, true)), [6]⟩⟩,
    ⟨3, 7, false, false, ⟨some 40, (.bin .eql), [.r 39, .c (.int .i64 0)], (some (38, true)), [39]⟩⟩,
    ⟨4, 15, false, false, ⟨some 41, .pick, [.r 38, .r 40, .c (.bool false)], none, [38, 40]⟩⟩,
    ⟨5, 31, false, false, ⟨some 42, .mv, [.r 41], none, [41]⟩⟩,
    ⟨6, 63, false, false, ⟨some 43, .mv, [.r 9], (some (42, true)), [9]⟩⟩,
    ⟨7, 127, false, false, ⟨some 44, (.bin .eql), [.r 43, .c (.int .i64 0)], (some (42, true)), [43]⟩⟩,
    ⟨8, 255, false, false, ⟨some 45, .pick, [.r 42, .r 44, .c (.bool false)], none, [42, 44]⟩⟩,
    ⟨9, 511, false, false, ⟨some 46, .mv, [.r 45], none, [45]⟩⟩,
    ⟨10, 1023, false, false, ⟨some 47, .mv, [.r 5], (some (46, true)), [5]⟩⟩,
    ⟨11, 2047, false, false, ⟨some 48, (.un .not), [.r 47], (some (46, true)), [47]⟩⟩,
    ⟨12, 4095, false, false, ⟨some 49, .pick, [.r 46, .r 48, .c (.bool false)], none, [46, 48]⟩⟩,
    ⟨13, 8191, false, false, ⟨some 50, .mv, [.r 49], none, [49]⟩⟩,
    ⟨14, 16383, false, false, ⟨some 51, (.ldn 3), [.r 4], (some (50, true)), []⟩⟩,
    ⟨15, 32767, false, false, ⟨some 52, (.call 10), [.r 51], (some (50, true)), [51]⟩⟩,
    ⟨16, 65535, false, false, ⟨some 53, .pick, [.r 50, .r 52, .c (.bool false)], none, [50, 52]⟩⟩,
    ⟨17, 131071, false, false, ⟨some 54, .mv, [.r 53], none, [53]⟩⟩,
    ⟨18, 262143, false, false, ⟨some 55, (.ldn 3), [.r 4], (some (54, true)), []⟩⟩,
    ⟨19, 524287, true, false, ⟨some 56, (.call 17), [.r 55], (some (54, true)), [55]⟩⟩,
    ⟨20, 262143, false, false, ⟨some 57, (.ldn 3), [.r 4], (some (54, true)), []⟩⟩,
    ⟨21, 2097151, false, false, ⟨some 58, (.call 13), [.r 56, .r 57], (some (54, true)), [56, 57]⟩⟩,
    ⟨22, 4194303, false, false, ⟨some 59, .pick, [.r 54, .r 58, .c (.bool false)], none, [54, 58]⟩⟩,
    ⟨23, 8388607, false, false, ⟨some 60, .mv, [.r 59], none, [59]⟩⟩,
    ⟨24, 16777215, false, false, ⟨some 61, (.ldn 3), [.r 7], (some (60, true)), [7]⟩⟩,
    ⟨25, 16777215, false, false, ⟨some 62, (.ldn 3), [.r 4], (some (60, true)), [4]⟩⟩,
    ⟨26, 67108863, false, false, ⟨some 63, (.call 13), [.r 61, .r 62], (some (60, true)), [61, 62]⟩⟩,
    ⟨27, 134217727, false, false, ⟨some 64, .pick, [.r 60, .r 63, .c (.bool false)], none, [60, 63]⟩⟩,
    ⟨28, 268435455, false, false, ⟨some 2, .mv, [.r 64], none, [64]⟩⟩])
  .ret)))))))
def rs5 : List SR := [.tmp 2]
theorem k5 : okC Try.prog 65 (Try.f5.body.getD .skip) c5 = true := by kernel_rfl
theorem acall5 {args : List AV} (hn : args.length ≤ 65) {H : Heap} {v : AV} {H' : Heap} (h : ac Try.prog c5 (argEnv 0 args) H (Fin H rs5 v H')) : ACall Try.prog 5 args H v H' :=
  acall Try.func5 (c := Try.f5.body.getD .skip) rfl k5 (by kernel_rfl) hn h
theorem acallK5 {args : List AV} (hn : args.length ≤ 65) {H : Heap} {v : AV} {H' : Heap} (h : ac Try.prog c5 (argEnv 0 args) H (FinK rs5 v H')) : ACall Try.prog 5 args H v H' :=
  acallK Try.func5 (c := Try.f5.body.getD .skip) rfl k5 (by kernel_rfl) hn h

/- alidade/alidadelaw03.MatTwo -/
def c6 : SC :=
  (.seq (.reg [⟨some 2, .box, [.r 0], none, [0]⟩,
    ⟨some 3, .box, [.r 1], none, [1]⟩,
    ⟨some 4, .mv, [.c (.bool false)], none, []⟩])
  (.seq (.reg [⟨some 25, (.call 9), [], none, [4]⟩,
    ⟨some 5, .mv, [.r 25], none, [25]⟩])
  (.seq (.seq (.reg [⟨some 26, (.ldn 3), [.r 2], none, []⟩,
    ⟨some 27, (.call 10), [.r 26], none, [26]⟩,
    ⟨some 28, (.un .not), [.r 27], none, [27]⟩,
    ⟨some 29, .mv, [.r 28], none, [28]⟩,
    ⟨some 30, (.ldn 3), [.r 3], (some (29, false)), []⟩,
    ⟨some 31, (.call 10), [.r 30], (some (29, false)), [30]⟩,
    ⟨some 32, (.un .not), [.r 31], (some (29, false)), [31]⟩,
    ⟨some 33, .pick, [.r 29, .c (.bool true), .r 32], none, [29, 32]⟩])
  (.cond (.r 33)
    (.kl [2, 3, 33] (.seq (.reg [⟨some 34, .mv, [.r 5], none, [5]⟩,
      ⟨some 4, .mv, [.r 34], none, [34]⟩])
    .ret))
    (.kl [33] .skip)))
  (.seq (.reg [⟨some 36, (.ldn 3), [.r 2], none, []⟩,
    ⟨some 37, (.ldn 3), [.r 3], none, []⟩,
    ⟨some 38, (.call 14), [.r 36, .r 37], none, [36, 37]⟩,
    ⟨some 35, .mv, [.r 38], none, [38]⟩,
    ⟨some 39, (.ext 0), [.r 35], none, []⟩,
    ⟨some 40, (.ext 1), [.r 35], none, []⟩,
    ⟨some 41, (.ext 2), [.r 35], none, [35]⟩,
    ⟨some 6, (.alloc [(.int .i64 0), (.int .i64 0), .nils]), [], none, []⟩,
    ⟨none, (.st 3), [.r 6, .r 39], none, [39]⟩,
    ⟨some 7, .mv, [.r 40], none, [40]⟩,
    ⟨some 8, .mv, [.r 41], none, [41]⟩])
  (.seq (.reg [⟨some 43, (.ldn 3), [.r 2], none, []⟩,
    ⟨some 44, (.ldn 3), [.r 3], none, []⟩,
    ⟨some 45, (.call 18), [.r 43, .r 44], none, [43, 44]⟩,
    ⟨some 42, .mv, [.r 45], none, [45]⟩,
    ⟨some 46, (.ext 0), [.r 42], none, []⟩,
    ⟨some 47, (.ext 1), [.r 42], none, []⟩,
    ⟨some 48, (.ext 2), [.r 42], none, [42]⟩,
    ⟨some 9, (.alloc [(.int .i64 0), (.int .i64 0), .nils]), [], none, []⟩,
    ⟨none, (.st 3), [.r 9, .r 46], none, [46]⟩,
    ⟨some 10, .mv, [.r 47], none, [47]⟩,
    ⟨some 11, .mv, [.r 48], none, [48]⟩])
  (.seq (.reg [⟨some 50, (.ldn 3), [.r 2], none, []⟩,
    ⟨some 51, (.ldn 3), [.r 3], none, []⟩,
    ⟨some 52, (.call 15), [.r 50, .r 51], none, [50, 51]⟩,
    ⟨some 49, .mv, [.r 52], none, [52]⟩,
    ⟨some 53, (.ext 0), [.r 49], none, []⟩,
    ⟨some 54, (.ext 1), [.r 49], none, []⟩,
    ⟨some 55, (.ext 2), [.r 49], none, [49]⟩,
    ⟨some 12, (.alloc [(.int .i64 0), (.int .i64 0), .nils]), [], none, []⟩,
    ⟨none, (.st 3), [.r 12, .r 53], none, [53]⟩,
    ⟨some 13, .mv, [.r 54], none, [54]⟩,
    ⟨some 14, .mv, [.r 55], none, [55]⟩])
  (.seq (.reg [⟨some 57, (.ldn 3), [.r 2], none, []⟩,
    ⟨some 58, (.ldn 3), [.r 3], none, []⟩,
    ⟨some 59, (.call 19), [.r 57, .r 58], none, [57, 58]⟩,
    ⟨some 56, .mv, [.r 59], none, [59]⟩,
    ⟨some 60, (.ext 0), [.r 56], none, []⟩,
    ⟨some 61, (.ext 1), [.r 56], none, []⟩,
    ⟨some 62, (.ext 2), [.r 56], none, [56]⟩,
    ⟨some 15, (.alloc [(.int .i64 0), (.int .i64 0), .nils]), [], none, []⟩,
    ⟨none, (.st 3), [.r 15, .r 60], none, [60]⟩,
    ⟨some 16, .mv, [.r 61], none, [61]⟩,
    ⟨some 17, .mv, [.r 62], none, [62]⟩])
  (.seq (.reg [⟨some 64, (.ldn 3), [.r 2], none, []⟩,
    ⟨some 65, (.ldn 3), [.r 3], none, []⟩,
    ⟨some 66, (.call 20), [.r 64, .r 65], none, [64, 65]⟩,
    ⟨some 63, .mv, [.r 66], none, [66]⟩,
    ⟨some 67, (.ext 0), [.r 63], none, []⟩,
    ⟨some 68, (.ext 1), [.r 63], none, []⟩,
    ⟨some 69, (.ext 2), [.r 63], none, [63]⟩,
    ⟨some 18, (.alloc [(.int .i64 0), (.int .i64 0), .nils]), [], none, []⟩,
    ⟨none, (.st 3), [.r 18, .r 67], none, [67]⟩,
    ⟨some 19, .mv, [.r 68], none, [68]⟩,
    ⟨some 20, .mv, [.r 69], none, [69]⟩])
  (.seq (.reg [⟨some 71, (.ldn 3), [.r 2], none, []⟩,
    ⟨some 72, (.ldn 3), [.r 3], none, []⟩,
    ⟨some 73, (.call 21), [.r 71, .r 72], none, [71, 72]⟩,
    ⟨some 70, .mv, [.r 73], none, [73]⟩,
    ⟨some 74, (.ext 0), [.r 70], none, []⟩,
    ⟨some 75, (.ext 1), [.r 70], none, []⟩,
    ⟨some 76, (.ext 2), [.r 70], none, [70]⟩,
    ⟨some 21, (.alloc [(.int .i64 0), (.int .i64 0), .nils]), [], none, []⟩,
    ⟨none, (.st 3), [.r 21, .r 74], none, [74]⟩,
    ⟨some 22, .mv, [.r 75], none, [75]⟩,
    ⟨some 23, .mv, [.r 76], none, [76]⟩])
  (.seq (.reg [⟨some 77, (.ldn 3), [.r 6], none, [6]⟩,
    ⟨some 78, (.ldn 3), [.r 9], none, [9]⟩,
    ⟨some 79, (.call 13), [.r 77, .r 78], none, [77, 78]⟩,
    ⟨some 80, .mv, [.r 79], none, [79]⟩,
    ⟨some 81, .mv, [.r 7], (some (80, true)), [7]⟩,
    ⟨some 82, .mv, [.r 10], (some (80, true)), [10]⟩,
    ⟨some 83, (.eqb false), [.r 81, .r 82], (some (80, true)), [81, 82]⟩,
    ⟨some 84, .pick, [.r 80, .r 83, .c (.bool false)], none, [80, 83]⟩,
    ⟨some 85, .mv, [.r 84], none, [84]⟩,
    ⟨some 86, .mv, [.r 8], (some (85, true)), [8]⟩,
    ⟨some 87, .mv, [.r 11], (some (85, true)), [11]⟩,
    ⟨some 88, (.bin .eql), [.r 86, .r 87], (some (85, true)), [86, 87]⟩,
    ⟨some 89, .pick, [.r 85, .r 88, .c (.bool false)], none, [85, 88]⟩,
    ⟨some 90, .mv, [.r 89], none, [89]⟩,
    ⟨some 91, (.ldn 3), [.r 12], (some (90, true)), [12]⟩,
    ⟨some 92, (.ldn 3), [.r 15], (some (90, true)), [15]⟩,
    ⟨some 93, (.call 13), [.r 91, .r 92], (some (90, true)), [91, 92]⟩,
    ⟨some 94, .pick, [.r 90, .r 93, .c (.bool false)], none, [90, 93]⟩,
    ⟨some 95, .mv, [.r 94], none, [94]⟩,
    ⟨some 96, .mv, [.r 13], (some (95, true)), [13]⟩,
    ⟨some 97, .mv, [.r 16], (some (95, true)), [16]⟩,
    ⟨some 98, (.eqb false), [.r 96, .r 97], (some (95, true)), [96, 97]⟩,
    ⟨some 99, .pick, [.r 95, .r 98, .c (.bool false)], none, [95, 98]⟩,
    ⟨some 100, .mv, [.r 99], none, [99]⟩,
    ⟨some 101, .mv, [.r 14], (some (100, true)), [14]⟩,
    ⟨some 102, .mv, [.r 17], (some (100, true)), [17]⟩,
    ⟨some 103, (.bin .eql), [.r 101, .r 102], (some (100, true)), [101, 102]⟩,
    ⟨some 104, .pick, [.r 100, .r 103, .c (.bool false)], none, [100, 103]⟩,
    ⟨some 24, .mv, [.r 104], none, [104]⟩])
  (.seq (.dreg [⟨0, 0, false, false, ⟨some 105, .mv, [.r 5], none, [5]⟩⟩,
    ⟨1, 1, false, false, ⟨some 106, .mv, [.r 105], none, [105]⟩⟩,
    ⟨2, 3, false, false, ⟨some 107, .mv, [.r 24], (some (106, true)), [24]⟩⟩,
    ⟨3, 7, false, false, ⟨some 108, .pick, [.r 106, .r 107, .c (.bool false)], none, [106, 107]⟩⟩,
    ⟨4, 15, false, false, ⟨some 109, .mv, [.r 108], none, [108]⟩⟩,
    ⟨5, 31, false, false, ⟨some 110, (.ldn 3), [.r 18], (some (109, true)), [18]⟩⟩,
    ⟨6, 31, false, false, ⟨some 111, (.ldn 3), [.r 21], (some (109, true)), [21]⟩⟩,
    ⟨7, 127, false, false, ⟨some 112, (.call 13), [.r 110, .r 111], (some (109, true)), [110, 111]⟩⟩,
    ⟨8, 255, false, false, ⟨some 113, .pick, [.r 109, .r 112, .c (.bool false)], none, [109, 112]⟩⟩,
    ⟨9, 511, false, false, ⟨some 114, .mv, [.r 113], none, [113]⟩⟩,
    ⟨10, 1023, false, false, ⟨some 115, .mv, [.r 19], (some (114, true)), [19]⟩⟩,
    ⟨11, 1023, false, false, ⟨some 116, .mv, [.r 22], (some (114, true)), [22]⟩⟩,
    ⟨12, 4095, false, false, ⟨some 117, (.eqb false), [.r 115, .r 116], (some (114, true)), [115, 116]⟩⟩,
    ⟨13, 8191, false, false, ⟨some 118, .pick, [.r 114, .r 117, .c (.bool false)], none, [114, 117]⟩⟩,
    ⟨14, 16383, false, false, ⟨some 119, .mv, [.r 118], none, [118]⟩⟩,
    ⟨15, 32767, false, false, ⟨some 120, .mv, [.r 20], (some (119, true)), [20]⟩⟩,
    ⟨16, 32767, false, false, ⟨some 121, .mv, [.r 23], (some (119, true)), [23]⟩⟩,
    ⟨17, 131071, false, false, ⟨some 122, (.bin .eql), [.r 120, .r 121], (some (119, true)), [120, 121]⟩⟩,
    ⟨18, 262143, false, false, ⟨some 123, .pick, [.r 119, .r 122, .c (.bool false)], none, [119, 122]⟩⟩,
    ⟨19, 524287, false, false, ⟨some 124, .mv, [.r 123], none, [123]⟩⟩,
    ⟨20, 1048575, false, false, ⟨some 125, (.ldn 3), [.r 2], (some (124, true)), []⟩⟩,
    ⟨21, 1048575, false, false, ⟨some 126, (.ldn 3), [.r 3], (some (124, true)), []⟩⟩,
    ⟨22, 4194303, false, true, ⟨some 127, (.call 22), [.r 125, .r 126], (some (124, true)), [125, 126]⟩⟩,
    ⟨23, 1048575, false, false, ⟨some 128, (.ldn 3), [.r 2], (some (124, true)), [2]⟩⟩,
    ⟨24, 1048575, false, false, ⟨some 129, (.ldn 3), [.r 3], (some (124, true)), [3]⟩⟩,
    ⟨25, 33554431, false, false, ⟨some 130, (.call 13), [.r 128, .r 129], (some (124, true)), [128, 129]⟩⟩,
    ⟨26, 67108863, false, false, ⟨some 131, (.eqb false), [.r 127, .r 130], (some (124, true)), [127, 130]⟩⟩,
    ⟨27, 134217727, false, false, ⟨some 132, .pick, [.r 124, .r 131, .c (.bool false)], none, [124, 131]⟩⟩,
    ⟨28, 268435455, false, false, ⟨some 4, .mv, [.r 132], none, [132]⟩⟩])
  .ret)))))))))))
def rs6 : List SR := [.tmp 4]
theorem k6 : okC Try.prog 133 (Try.f6.body.getD .skip) c6 = true := by kernel_rfl
theorem acall6 {args : List AV} (hn : args.length ≤ 133) {H : Heap} {v : AV} {H' : Heap} (h : ac Try.prog c6 (argEnv 0 args) H (Fin H rs6 v H')) : ACall Try.prog 6 args H v H' :=
  acall Try.func6 (c := Try.f6.body.getD .skip) rfl k6 (by kernel_rfl) hn h
theorem acallK6 {args : List AV} (hn : args.length ≤ 133) {H : Heap} {v : AV} {H' : Heap} (h : ac Try.prog c6 (argEnv 0 args) H (FinK rs6 v H')) : ACall Try.prog 6 args H v H' :=
  acallK Try.func6 (c := Try.f6.body.getD .skip) rfl k6 (by kernel_rfl) hn h

/- alidade/alidadelaw03.MatTurns -/
def c7 : SC :=
  (.seq (.reg [⟨some 2, .box, [.r 0], none, [0]⟩,
    ⟨some 3, .box, [.r 1], none, [1]⟩,
    ⟨some 4, .mv, [.c (.bool false)], none, []⟩])
  (.seq (.reg [⟨some 17, (.call 9), [], none, [4]⟩,
    ⟨some 5, .mv, [.r 17], none, [17]⟩])
  (.seq (.seq (.reg [⟨some 18, (.ldn 3), [.r 2], none, []⟩,
    ⟨some 19, (.call 10), [.r 18], none, [18]⟩,
    ⟨some 20, (.un .not), [.r 19], none, [19]⟩,
    ⟨some 21, .mv, [.r 20], none, [20]⟩,
    ⟨some 22, (.ldn 3), [.r 3], (some (21, false)), []⟩,
    ⟨some 23, (.call 10), [.r 22], (some (21, false)), [22]⟩,
    ⟨some 24, (.un .not), [.r 23], (some (21, false)), [23]⟩,
    ⟨some 25, .pick, [.r 21, .c (.bool true), .r 24], none, [21, 24]⟩])
  (.cond (.r 25)
    (.kl [2, 3, 25] (.seq (.reg [⟨some 26, .mv, [.r 5], none, [5]⟩,
      ⟨some 4, .mv, [.r 26], none, [26]⟩])
    .ret))
    (.kl [25] .skip)))
  (.seq (.reg [⟨some 28, (.faddr 1), [.r 2], none, []⟩,
    ⟨some 29, .ld1, [.r 28], none, [28]⟩,
    ⟨some 30, (.call 23), [.r 29], none, [29]⟩,
    ⟨some 27, .mv, [.r 30], none, [30]⟩,
    ⟨some 31, (.ext 0), [.r 27], none, []⟩,
    ⟨some 32, (.ext 1), [.r 27], none, [27]⟩,
    ⟨some 6, (.alloc [(.int .i64 0), (.int .i64 0), .nils]), [], none, []⟩,
    ⟨none, (.st 3), [.r 6, .r 31], none, [31]⟩,
    ⟨some 7, .mv, [.r 32], none, [32]⟩])
  (.seq (.reg [⟨some 34, (.ldn 3), [.r 2], none, [7]⟩,
    ⟨some 35, (.ldn 3), [.r 6], none, [6]⟩,
    ⟨some 36, (.call 20), [.r 34, .r 35], none, [34, 35]⟩,
    ⟨some 33, .mv, [.r 36], none, [36]⟩,
    ⟨some 37, (.ext 0), [.r 33], none, []⟩,
    ⟨some 38, (.ext 1), [.r 33], none, []⟩,
    ⟨some 39, (.ext 2), [.r 33], none, [33]⟩,
    ⟨some 8, (.alloc [(.int .i64 0), (.int .i64 0), .nils]), [], none, []⟩,
    ⟨none, (.st 3), [.r 8, .r 37], none, [37]⟩,
    ⟨some 9, .mv, [.r 38], none, [38]⟩,
    ⟨some 10, .mv, [.r 39], none, [39]⟩])
  (.seq (.seq (.dreg [⟨0, 0, false, false, ⟨some 40, (.ldn 3), [.r 2], none, []⟩⟩,
    ⟨1, 1, true, false, ⟨some 41, (.call 17), [.r 40], none, [40]⟩⟩,
    ⟨2, 3, true, false, ⟨some 42, (.call 17), [.r 41], none, [41]⟩⟩,
    ⟨3, 0, false, false, ⟨some 43, (.ldn 3), [.r 2], none, []⟩⟩,
    ⟨4, 15, false, false, ⟨some 44, (.call 13), [.r 42, .r 43], none, [42, 43]⟩⟩,
    ⟨5, 31, false, false, ⟨some 45, (.un .not), [.r 44], none, [44]⟩⟩,
    ⟨6, 63, false, false, ⟨some 46, .mv, [.r 45], none, [45]⟩⟩,
    ⟨7, 127, false, false, ⟨some 47, .mv, [.r 10], (some (46, false)), [10]⟩⟩,
    ⟨8, 255, false, false, ⟨some 48, (.bin .neq), [.r 47, .c (.int .i64 0)], (some (46, false)), [47]⟩⟩,
    ⟨9, 511, false, false, ⟨some 49, .pick, [.r 46, .c (.bool true), .r 48], none, [46, 48]⟩⟩,
    ⟨10, 1023, false, false, ⟨some 50, .mv, [.r 49], none, [49]⟩⟩,
    ⟨11, 2047, false, false, ⟨some 51, .mv, [.r 9], (some (50, false)), [9]⟩⟩,
    ⟨12, 4095, false, false, ⟨some 52, .pick, [.r 50, .c (.bool true), .r 51], none, [50, 51]⟩⟩,
    ⟨13, 8191, false, false, ⟨some 53, .mv, [.r 52], none, [52]⟩⟩,
    ⟨14, 16383, false, false, ⟨some 54, (.ldn 3), [.r 8], (some (53, false)), [8]⟩⟩,
    ⟨15, 16383, false, false, ⟨some 55, (.ldn 3), [.r 2], (some (53, false)), []⟩⟩,
    ⟨16, 65535, false, false, ⟨some 56, (.call 13), [.r 54, .r 55], (some (53, false)), [54, 55]⟩⟩,
    ⟨17, 131071, false, false, ⟨some 57, (.un .not), [.r 56], (some (53, false)), [56]⟩⟩,
    ⟨18, 262143, false, false, ⟨some 58, .pick, [.r 53, .c (.bool true), .r 57], none, [53, 57]⟩⟩])
  (.cond (.r 58)
    (.kl [2, 3, 5, 58] (.seq (.reg [⟨some 4, .mv, [.c (.bool false)], none, []⟩])
    .ret))
    (.kl [58] .skip)))
  (.seq (.seq (.reg [⟨some 59, (.faddr 1), [.r 2], none, []⟩,
    ⟨some 60, .ld1, [.r 59], none, [59]⟩,
    ⟨some 61, (.faddr 0), [.r 3], none, []⟩,
    ⟨some 62, .ld1, [.r 61], none, [61]⟩,
    ⟨some 63, (.bin .neq), [.r 60, .r 62], none, [60, 62]⟩])
  (.cond (.r 63)
    (.kl [2, 3, 63] (.seq (.reg [⟨some 64, .mv, [.r 5], none, [5]⟩,
      ⟨some 4, .mv, [.r 64], none, [64]⟩])
    .ret))
    (.kl [63] .skip)))
  (.seq (.reg [⟨some 66, (.ldn 3), [.r 2], none, []⟩,
    ⟨some 67, (.ldn 3), [.r 3], none, []⟩,
    ⟨some 68, (.call 20), [.r 66, .r 67], none, [66, 67]⟩,
    ⟨some 65, .mv, [.r 68], none, [68]⟩,
    ⟨some 69, (.ext 0), [.r 65], none, []⟩,
    ⟨some 70, (.ext 1), [.r 65], none, []⟩,
    ⟨some 71, (.ext 2), [.r 65], none, [65]⟩,
    ⟨some 11, (.alloc [(.int .i64 0), (.int .i64 0), .nils]), [], none, []⟩,
    ⟨none, (.st 3), [.r 11, .r 69], none, [69]⟩,
    ⟨some 12, .mv, [.r 70], none, [70]⟩,
    ⟨some 13, .mv, [.r 71], none, [71]⟩])
  (.seq (.freg [⟨0, 0, false, false, ⟨some 73, (.ldn 3), [.r 3], none, [3]⟩⟩,
    ⟨1, 1, true, false, ⟨some 74, (.call 17), [.r 73], none, [73]⟩⟩,
    ⟨2, 0, false, false, ⟨some 75, (.ldn 3), [.r 2], none, [2]⟩⟩,
    ⟨3, 7, true, false, ⟨some 76, (.call 17), [.r 75], none, [75]⟩⟩,
    ⟨4, 15, true, false, ⟨some 77, (.call 20), [.r 74, .r 76], none, [74, 76]⟩⟩,
    ⟨5, 31, false, false, ⟨some 72, .mv, [.r 77], none, [77]⟩⟩,
    ⟨6, 63, false, false, ⟨some 78, (.ext 0), [.r 72], none, []⟩⟩,
    ⟨7, 63, false, false, ⟨some 79, (.ext 1), [.r 72], none, []⟩⟩,
    ⟨8, 63, false, false, ⟨some 80, (.ext 2), [.r 72], none, [72]⟩⟩]
   [⟨9, 0, false, true, ⟨some 14, (.alloc [(.int .i64 0), (.int .i64 0), .nils]), [], none, []⟩⟩]
   [⟨10, 639, false, false, ⟨none, (.st 3), [.r 14, .r 78], none, [78]⟩⟩,
    ⟨11, 1791, false, false, ⟨some 15, .mv, [.r 79], none, [79]⟩⟩,
    ⟨12, 4095, false, false, ⟨some 16, .mv, [.r 80], none, [80]⟩⟩])
  (.seq (.dreg [⟨0, 0, false, false, ⟨some 81, .mv, [.r 5], none, [5]⟩⟩,
    ⟨1, 1, false, false, ⟨some 82, .mv, [.r 81], none, [81]⟩⟩,
    ⟨2, 3, false, false, ⟨some 83, .mv, [.r 13], (some (82, true)), [13]⟩⟩,
    ⟨3, 7, false, false, ⟨some 84, (.bin .eql), [.r 83, .c (.int .i64 0)], (some (82, true)), [83]⟩⟩,
    ⟨4, 15, false, false, ⟨some 85, .pick, [.r 82, .r 84, .c (.bool false)], none, [82, 84]⟩⟩,
    ⟨5, 31, false, false, ⟨some 86, .mv, [.r 85], none, [85]⟩⟩,
    ⟨6, 63, false, false, ⟨some 87, .mv, [.r 16], (some (86, true)), [16]⟩⟩,
    ⟨7, 127, false, false, ⟨some 88, (.bin .eql), [.r 87, .c (.int .i64 0)], (some (86, true)), [87]⟩⟩,
    ⟨8, 255, false, false, ⟨some 89, .pick, [.r 86, .r 88, .c (.bool false)], none, [86, 88]⟩⟩,
    ⟨9, 511, false, false, ⟨some 90, .mv, [.r 89], none, [89]⟩⟩,
    ⟨10, 1023, false, false, ⟨some 91, .mv, [.r 12], (some (90, true)), [12]⟩⟩,
    ⟨11, 1023, false, false, ⟨some 92, .mv, [.r 15], (some (90, true)), [15]⟩⟩,
    ⟨12, 4095, false, false, ⟨some 93, (.eqb false), [.r 91, .r 92], (some (90, true)), [91, 92]⟩⟩,
    ⟨13, 8191, false, false, ⟨some 94, .pick, [.r 90, .r 93, .c (.bool false)], none, [90, 93]⟩⟩,
    ⟨14, 16383, false, false, ⟨some 95, .mv, [.r 94], none, [94]⟩⟩,
    ⟨15, 32767, false, false, ⟨some 96, (.ldn 3), [.r 11], (some (95, true)), []⟩⟩,
    ⟨16, 65535, true, false, ⟨some 97, (.call 17), [.r 96], (some (95, true)), [96]⟩⟩,
    ⟨17, 32767, false, false, ⟨some 98, (.ldn 3), [.r 14], (some (95, true)), [14]⟩⟩,
    ⟨18, 262143, false, false, ⟨some 99, (.call 13), [.r 97, .r 98], (some (95, true)), [97, 98]⟩⟩,
    ⟨19, 524287, false, false, ⟨some 100, .pick, [.r 95, .r 99, .c (.bool false)], none, [95, 99]⟩⟩,
    ⟨20, 1048575, false, false, ⟨some 101, .mv, [.r 100], none, [100]⟩⟩,
    ⟨21, 2097151, false, false, ⟨some 102, (.ldn 3), [.r 11], (some (101, true)), [11]⟩⟩,
    ⟨22, 4194303, false, false, ⟨some 103, (.call 24), [.r 102], (some (101, true)), [102]⟩⟩,
    ⟨23, 8388607, false, false, ⟨some 104, .pick, [.r 101, .r 103, .c (.bool false)], none, [101, 103]⟩⟩,
    ⟨24, 16777215, false, false, ⟨some 4, .mv, [.r 104], none, [104]⟩⟩])
  .ret))))))))))
def rs7 : List SR := [.tmp 4]
theorem k7 : okC Try.prog 105 (Try.f7.body.getD .skip) c7 = true := by kernel_rfl
theorem acall7 {args : List AV} (hn : args.length ≤ 105) {H : Heap} {v : AV} {H' : Heap} (h : ac Try.prog c7 (argEnv 0 args) H (Fin H rs7 v H')) : ACall Try.prog 7 args H v H' :=
  acall Try.func7 (c := Try.f7.body.getD .skip) rfl k7 (by kernel_rfl) hn h
theorem acallK7 {args : List AV} (hn : args.length ≤ 105) {H : Heap} {v : AV} {H' : Heap} (h : ac Try.prog c7 (argEnv 0 args) H (FinK rs7 v H')) : ACall Try.prog 7 args H v H' :=
  acallK Try.func7 (c := Try.f7.body.getD .skip) rfl k7 (by kernel_rfl) hn h

/- alidade/alidadelaw03.MatDiags -/
def c8l0 : SC :=
  (.seq (.seq (.reg [⟨some 26, .mv, [.r 10], none, []⟩,
      ⟨some 27, (.bin .lss), [.r 26, .c (.int .i64 3)], none, [26]⟩])
    (.cond (.r 27)
      (.kl [27] .skip)
      (.kl [2, 3, 10, 27] (.exit 0))))
    (.seq (.block 1 (.seq (.reg [⟨some 30, .mv, [.r 6], none, [6]⟩,
      ⟨some 31, .mv, [.r 10], none, []⟩,
      ⟨some 32, (.iaddrA 1 3), [.r 2, .r 31], none, [31]⟩,
      ⟨some 33, .ld1, [.r 32], none, [32]⟩,
      ⟨some 34, (.conv .i64), [.r 33], none, [33]⟩,
      ⟨some 35, (.bin .mul), [.r 34, .c (.int .i64 16777216)], none, [34]⟩,
      ⟨some 36, (.bslice 1 1 [(.int .i64 0)] [(0, 1)]), [.r 35], none, [35]⟩,
      ⟨some 37, (.app 1 8), [.r 30, .r 36], none, [30, 36]⟩,
      ⟨some 6, .mv, [.r 37], none, [37]⟩])
    (.seq (.reg [⟨some 38, .mv, [.r 7], none, [7]⟩,
      ⟨some 39, .mv, [.r 10], none, []⟩,
      ⟨some 40, (.iaddrA 1 3), [.r 3, .r 39], none, [39]⟩,
      ⟨some 41, .ld1, [.r 40], none, [40]⟩,
      ⟨some 42, (.conv .i64), [.r 41], none, [41]⟩,
      ⟨some 43, (.bin .mul), [.r 42, .c (.int .i64 16777216)], none, [42]⟩,
      ⟨some 44, (.bslice 1 1 [(.int .i64 0)] [(0, 1)]), [.r 43], none, [43]⟩,
      ⟨some 45, (.app 1 8), [.r 38, .r 44], none, [38, 44]⟩,
      ⟨some 7, .mv, [.r 45], none, [45]⟩])
    (.seq (.dreg [⟨0, 0, false, false, ⟨some 46, .mv, [.r 8], none, [8]⟩⟩,
      ⟨1, 0, false, false, ⟨some 47, .mv, [.r 10], none, []⟩⟩,
      ⟨2, 2, false, false, ⟨some 48, (.iaddrA 1 3), [.r 2, .r 47], none, [47]⟩⟩,
      ⟨3, 6, false, false, ⟨some 49, .ld1, [.r 48], none, [48]⟩⟩,
      ⟨4, 14, false, false, ⟨some 50, (.conv .i64), [.r 49], none, [49]⟩⟩,
      ⟨5, 0, false, false, ⟨some 51, .mv, [.r 10], none, []⟩⟩,
      ⟨6, 32, false, false, ⟨some 52, (.iaddrA 1 3), [.r 3, .r 51], none, [51]⟩⟩,
      ⟨7, 96, false, false, ⟨some 53, .ld1, [.r 52], none, [52]⟩⟩,
      ⟨8, 224, false, false, ⟨some 54, (.conv .i64), [.r 53], none, [53]⟩⟩,
      ⟨9, 510, false, false, ⟨some 55, (.bin .mul), [.r 50, .r 54], none, [50, 54]⟩⟩,
      ⟨10, 1022, false, false, ⟨some 56, (.bin .mul), [.r 55, .c (.int .i64 16777216)], none, [55]⟩⟩,
      ⟨11, 2046, false, false, ⟨some 57, (.bslice 1 1 [(.int .i64 0)] [(0, 1)]), [.r 56], none, [56]⟩⟩,
      ⟨12, 4095, false, false, ⟨some 58, (.app 1 8), [.r 46, .r 57], none, [46, 57]⟩⟩,
      ⟨13, 8191, false, false, ⟨some 8, .mv, [.r 58], none, [58]⟩⟩])
    (.reg [⟨some 59, .mv, [.r 9], none, [9]⟩,
      ⟨some 60, (.bslice 1 1 [(.int .i64 0)] [(0, 1)]), [.c (.int .i64 16777216)], none, []⟩,
      ⟨some 61, (.app 1 8), [.r 59, .r 60], none, [59, 60]⟩,
      ⟨some 9, .mv, [.r 61], none, [61]⟩])))))
    (.reg [⟨some 28, .mv, [.r 10], none, [10]⟩,
      ⟨some 29, (.bin .add), [.r 28, .c (.int .i64 1)], none, [28]⟩,
      ⟨some 10, .mv, [.r 29], none, [29]⟩])))
def c8 : SC :=
  (.seq (.reg [⟨some 2, .box, [.r 0], none, [0]⟩,
    ⟨some 3, .box, [.r 1], none, [1]⟩,
    ⟨some 4, .mv, [.c (.bool false)], none, []⟩])
  (.seq (.reg [⟨some 25, (.call 9), [], none, [4]⟩,
    ⟨some 5, .mv, [.r 25], none, [25]⟩])
  (.seq (.reg [⟨some 6, .mv, [.c .nils], none, []⟩])
  (.seq (.reg [⟨some 7, .mv, [.c .nils], none, []⟩])
  (.seq (.reg [⟨some 8, .mv, [.c .nils], none, []⟩])
  (.seq (.reg [⟨some 9, .mv, [.c .nils], none, []⟩])
  (.seq (.seq (.reg [⟨some 10, .mv, [.c (.int .i64 0)], none, []⟩])
  (.block 0 (.loop c8l0)))
  (.seq (.reg [⟨some 63, .mv, [.r 6], none, [6]⟩,
    ⟨some 64, (.call 25), [.r 63], none, [63]⟩,
    ⟨some 62, .mv, [.r 64], none, [64]⟩,
    ⟨some 65, (.ext 0), [.r 62], none, []⟩,
    ⟨some 66, (.ext 1), [.r 62], none, [62]⟩,
    ⟨some 11, (.alloc [(.int .i64 0), (.int .i64 0), .nils]), [], none, []⟩,
    ⟨none, (.st 3), [.r 11, .r 65], none, [65]⟩,
    ⟨some 12, .mv, [.r 66], none, [66]⟩])
  (.seq (.reg [⟨some 68, .mv, [.r 7], none, [7]⟩,
    ⟨some 69, (.call 25), [.r 68], none, [68]⟩,
    ⟨some 67, .mv, [.r 69], none, [69]⟩,
    ⟨some 70, (.ext 0), [.r 67], none, []⟩,
    ⟨some 71, (.ext 1), [.r 67], none, [67]⟩,
    ⟨some 13, (.alloc [(.int .i64 0), (.int .i64 0), .nils]), [], none, []⟩,
    ⟨none, (.st 3), [.r 13, .r 70], none, [70]⟩,
    ⟨some 14, .mv, [.r 71], none, [71]⟩])
  (.seq (.reg [⟨some 73, .mv, [.r 8], none, [8]⟩,
    ⟨some 74, (.call 25), [.r 73], none, [73]⟩,
    ⟨some 72, .mv, [.r 74], none, [74]⟩,
    ⟨some 75, (.ext 0), [.r 72], none, []⟩,
    ⟨some 76, (.ext 1), [.r 72], none, [72]⟩,
    ⟨some 15, (.alloc [(.int .i64 0), (.int .i64 0), .nils]), [], none, []⟩,
    ⟨none, (.st 3), [.r 15, .r 75], none, [75]⟩,
    ⟨some 16, .mv, [.r 76], none, [76]⟩])
  (.seq (.reg [⟨some 78, (.ldn 3), [.r 11], none, [11]⟩,
    ⟨some 79, (.ldn 3), [.r 13], none, [13]⟩,
    ⟨some 80, (.call 20), [.r 78, .r 79], none, [78, 79]⟩,
    ⟨some 77, .mv, [.r 80], none, [80]⟩,
    ⟨some 81, (.ext 0), [.r 77], none, []⟩,
    ⟨some 82, (.ext 1), [.r 77], none, []⟩,
    ⟨some 83, (.ext 2), [.r 77], none, [77]⟩,
    ⟨some 17, (.alloc [(.int .i64 0), (.int .i64 0), .nils]), [], none, []⟩,
    ⟨none, (.st 3), [.r 17, .r 81], none, [81]⟩,
    ⟨some 18, .mv, [.r 82], none, [82]⟩,
    ⟨some 19, .mv, [.r 83], none, [83]⟩])
  (.seq (.reg [⟨some 85, (.call 23), [.c (.int .i64 3)], none, []⟩,
    ⟨some 84, .mv, [.r 85], none, [85]⟩,
    ⟨some 86, (.ext 0), [.r 84], none, []⟩,
    ⟨some 87, (.ext 1), [.r 84], none, [84]⟩,
    ⟨some 20, (.alloc [(.int .i64 0), (.int .i64 0), .nils]), [], none, []⟩,
    ⟨none, (.st 3), [.r 20, .r 86], none, [86]⟩,
    ⟨some 21, .mv, [.r 87], none, [87]⟩])
  (.seq (.reg [⟨some 89, .mv, [.r 9], none, [9]⟩,
    ⟨some 90, (.call 25), [.r 89], none, [89]⟩,
    ⟨some 88, .mv, [.r 90], none, [90]⟩,
    ⟨some 91, (.ext 0), [.r 88], none, []⟩,
    ⟨some 92, (.ext 1), [.r 88], none, [88]⟩,
    ⟨some 22, (.alloc [(.int .i64 0), (.int .i64 0), .nils]), [], none, []⟩,
    ⟨none, (.st 3), [.r 22, .r 91], none, [91]⟩,
    ⟨some 23, .mv, [.r 92], none, [92]⟩])
  (.seq (.reg [⟨some 93, .mv, [.r 12], none, [12]⟩,
    ⟨some 94, (.bin .eql), [.r 93, .c (.int .i64 0)], none, [93]⟩,
    ⟨some 95, .mv, [.r 94], none, [94]⟩,
    ⟨some 96, .mv, [.r 14], (some (95, true)), [14]⟩,
    ⟨some 97, (.bin .eql), [.r 96, .c (.int .i64 0)], (some (95, true)), [96]⟩,
    ⟨some 98, .pick, [.r 95, .r 97, .c (.bool false)], none, [95, 97]⟩,
    ⟨some 99, .mv, [.r 98], none, [98]⟩,
    ⟨some 100, .mv, [.r 16], (some (99, true)), [16]⟩,
    ⟨some 101, (.bin .eql), [.r 100, .c (.int .i64 0)], (some (99, true)), [100]⟩,
    ⟨some 102, .pick, [.r 99, .r 101, .c (.bool false)], none, [99, 101]⟩,
    ⟨some 103, .mv, [.r 102], none, [102]⟩,
    ⟨some 104, .mv, [.r 19], (some (103, true)), [19]⟩,
    ⟨some 105, (.bin .eql), [.r 104, .c (.int .i64 0)], (some (103, true)), [104]⟩,
    ⟨some 106, .pick, [.r 103, .r 105, .c (.bool false)], none, [103, 105]⟩,
    ⟨some 107, .mv, [.r 106], none, [106]⟩,
    ⟨some 108, .mv, [.r 21], (some (107, true)), [21]⟩,
    ⟨some 109, (.bin .eql), [.r 108, .c (.int .i64 0)], (some (107, true)), [108]⟩,
    ⟨some 110, .pick, [.r 107, .r 109, .c (.bool false)], none, [107, 109]⟩,
    ⟨some 111, .mv, [.r 110], none, [110]⟩,
    ⟨some 112, .mv, [.r 23], (some (111, true)), [23]⟩,
    ⟨some 113, (.bin .eql), [.r 112, .c (.int .i64 0)], (some (111, true)), [112]⟩,
    ⟨some 114, .pick, [.r 111, .r 113, .c (.bool false)], none, [111, 113]⟩,
    ⟨some 24, .mv, [.r 114], none, [114]⟩])
  (.seq (.reg [⟨some 115, .mv, [.r 5], none, [5]⟩,
    ⟨some 116, .mv, [.r 115], none, [115]⟩,
    ⟨some 117, .mv, [.r 24], (some (116, true)), [24]⟩,
    ⟨some 118, .pick, [.r 116, .r 117, .c (.bool false)], none, [116, 117]⟩,
    ⟨some 119, .mv, [.r 118], none, [118]⟩,
    ⟨some 120, .mv, [.r 18], (some (119, true)), [18]⟩,
    ⟨some 121, (.un .not), [.r 120], (some (119, true)), [120]⟩,
    ⟨some 122, .pick, [.r 119, .r 121, .c (.bool false)], none, [119, 121]⟩,
    ⟨some 123, .mv, [.r 122], none, [122]⟩,
    ⟨some 124, (.ldn 3), [.r 17], (some (123, true)), [17]⟩,
    ⟨some 125, (.ldn 3), [.r 15], (some (123, true)), [15]⟩,
    ⟨some 126, (.call 13), [.r 124, .r 125], (some (123, true)), [124, 125]⟩,
    ⟨some 127, .pick, [.r 123, .r 126, .c (.bool false)], none, [123, 126]⟩,
    ⟨some 128, .mv, [.r 127], none, [127]⟩,
    ⟨some 129, (.ldn 3), [.r 20], (some (128, true)), [20]⟩,
    ⟨some 130, (.ldn 3), [.r 22], (some (128, true)), [22]⟩,
    ⟨some 131, (.call 13), [.r 129, .r 130], (some (128, true)), [129, 130]⟩,
    ⟨some 132, .pick, [.r 128, .r 131, .c (.bool false)], none, [128, 131]⟩,
    ⟨some 4, .mv, [.r 132], none, [132]⟩])
  .ret)))))))))))))))
def rs8 : List SR := [.tmp 4]
theorem k8 : okC Try.prog 133 (Try.f8.body.getD .skip) c8 = true := by kernel_rfl
theorem acall8 {args : List AV} (hn : args.length ≤ 133) {H : Heap} {v : AV} {H' : Heap} (h : ac Try.prog c8 (argEnv 0 args) H (Fin H rs8 v H')) : ACall Try.prog 8 args H v H' :=
  acall Try.func8 (c := Try.f8.body.getD .skip) rfl k8 (by kernel_rfl) hn h
theorem acallK8 {args : List AV} (hn : args.length ≤ 133) {H : Heap} {v : AV} {H' : Heap} (h : ac Try.prog c8 (argEnv 0 args) H (FinK rs8 v H')) : ACall Try.prog 8 args H v H' :=
  acallK Try.func8 (c := Try.f8.body.getD .skip) rfl k8 (by kernel_rfl) hn h

/- alidade/alidadelaw03.shown -/
def c9 : SC :=
  (.seq (.reg [⟨some 0, .mv, [.c (.bool false)], none, []⟩])
  (.seq (.reg [⟨some 5, (.bslice 1 2 [(.int .i64 0), (.int .i64 0)] [(0, 1), (1, 1)]), [.c (.int .i64 16777216), .c (.int .i64 33554432)], none, [0]⟩,
    ⟨some 6, (.build [(.int .i64 0), (.int .i64 0), .nils] [(0, 1), (1, 1), (2, 1)]), [.c (.int .i64 1), .c (.int .i64 2), .r 5], none, [5]⟩,
    ⟨some 1, (.alloc [(.int .i64 0), (.int .i64 0), .nils]), [], none, []⟩,
    ⟨none, (.st 3), [.r 1, .r 6], none, [6]⟩])
  (.seq (.freg [⟨0, 0, false, false, ⟨some 8, (.ldn 3), [.r 1], none, []⟩⟩,
    ⟨1, 0, false, false, ⟨some 9, (.ldn 3), [.r 1], none, [1]⟩⟩,
    ⟨2, 2, true, false, ⟨some 10, (.call 17), [.r 9], none, [9]⟩⟩,
    ⟨3, 7, true, false, ⟨some 11, (.call 20), [.r 8, .r 10], none, [8, 10]⟩⟩,
    ⟨4, 15, false, false, ⟨some 7, .mv, [.r 11], none, [11]⟩⟩,
    ⟨5, 31, false, false, ⟨some 12, (.ext 0), [.r 7], none, []⟩⟩,
    ⟨6, 31, false, false, ⟨some 13, (.ext 1), [.r 7], none, []⟩⟩,
    ⟨7, 31, false, false, ⟨some 14, (.ext 2), [.r 7], none, [7]⟩⟩]
   [⟨8, 0, false, true, ⟨some 2, (.alloc [(.int .i64 0), (.int .i64 0), .nils]), [], none, []⟩⟩]
   [⟨9, 319, false, false, ⟨none, (.st 3), [.r 2, .r 12], none, [12]⟩⟩,
    ⟨10, 895, false, false, ⟨some 3, .mv, [.r 13], none, [13]⟩⟩,
    ⟨11, 2047, false, false, ⟨some 4, .mv, [.r 14], none, [14]⟩⟩])
  (.seq (.reg [⟨some 15, .mv, [.r 4], none, [4]⟩,
    ⟨some 16, (.bin .eql), [.r 15, .c (.int .i64 0)], none, [15]⟩,
    ⟨some 17, .mv, [.r 16], none, [16]⟩,
    ⟨some 18, .mv, [.r 3], (some (17, true)), [3]⟩,
    ⟨some 19, (.un .not), [.r 18], (some (17, true)), [18]⟩,
    ⟨some 20, .pick, [.r 17, .r 19, .c (.bool false)], none, [17, 19]⟩,
    ⟨some 21, .mv, [.r 20], none, [20]⟩,
    ⟨some 22, (.faddr 0), [.r 2], (some (21, true)), []⟩,
    ⟨some 23, .ld1, [.r 22], (some (21, true)), [22]⟩,
    ⟨some 24, (.bin .eql), [.r 23, .c (.int .i64 1)], (some (21, true)), [23]⟩,
    ⟨some 25, .pick, [.r 21, .r 24, .c (.bool false)], none, [21, 24]⟩,
    ⟨some 26, .mv, [.r 25], none, [25]⟩,
    ⟨some 27, (.faddr 1), [.r 2], (some (26, true)), []⟩,
    ⟨some 28, .ld1, [.r 27], (some (26, true)), [27]⟩,
    ⟨some 29, (.bin .eql), [.r 28, .c (.int .i64 1)], (some (26, true)), [28]⟩,
    ⟨some 30, .pick, [.r 26, .r 29, .c (.bool false)], none, [26, 29]⟩,
    ⟨some 31, .mv, [.r 30], none, [30]⟩,
    ⟨some 32, (.faddr 2), [.r 2], (some (31, true)), []⟩,
    ⟨some 33, .ld1, [.r 32], (some (31, true)), [32]⟩,
    ⟨some 34, .len, [.r 33], (some (31, true)), [33]⟩,
    ⟨some 35, (.bin .eql), [.r 34, .c (.int .i64 1)], (some (31, true)), [34]⟩,
    ⟨some 36, .pick, [.r 31, .r 35, .c (.bool false)], none, [31, 35]⟩,
    ⟨some 37, .mv, [.r 36], none, [36]⟩,
    ⟨some 38, (.faddr 2), [.r 2], (some (37, true)), []⟩,
    ⟨some 39, .ld1, [.r 38], (some (37, true)), [38]⟩,
    ⟨some 40, (.iaddrS 1), [.r 39, .c (.int .i64 0)], (some (37, true)), [39]⟩,
    ⟨some 41, .ld1, [.r 40], (some (37, true)), [40]⟩,
    ⟨some 42, (.bin .eql), [.r 41, .c (.int .i64 83886080)], (some (37, true)), [41]⟩,
    ⟨some 43, .pick, [.r 37, .r 42, .c (.bool false)], none, [37, 42]⟩,
    ⟨some 44, .mv, [.r 43], none, [43]⟩,
    ⟨some 45, (.ldn 3), [.r 2], (some (44, true)), [2]⟩,
    ⟨some 46, (.call 24), [.r 45], (some (44, true)), [45]⟩,
    ⟨some 47, .pick, [.r 44, .r 46, .c (.bool false)], none, [44, 46]⟩,
    ⟨some 0, .mv, [.r 47], none, [47]⟩])
  .ret))))
def rs9 : List SR := [.tmp 0]
theorem k9 : okC Try.prog 48 (Try.f9.body.getD .skip) c9 = true := by kernel_rfl
theorem acall9 {args : List AV} (hn : args.length ≤ 48) {H : Heap} {v : AV} {H' : Heap} (h : ac Try.prog c9 (argEnv 0 args) H (Fin H rs9 v H')) : ACall Try.prog 9 args H v H' :=
  acall Try.func9 (c := Try.f9.body.getD .skip) rfl k9 (by kernel_rfl) hn h
theorem acallK9 {args : List AV} (hn : args.length ≤ 48) {H : Heap} {v : AV} {H' : Heap} (h : ac Try.prog c9 (argEnv 0 args) H (FinK rs9 v H')) : ACall Try.prog 9 args H v H' :=
  acallK Try.func9 (c := Try.f9.body.getD .skip) rfl k9 (by kernel_rfl) hn h

/- alidade/alidaderef03.Right -/
def c10l0 : SC :=
  (.seq (.seq (.reg [⟨some 34, .mv, [.r 3], none, []⟩,
      ⟨some 35, (.faddr 2), [.r 1], none, []⟩,
      ⟨some 36, .ld1, [.r 35], none, [35]⟩,
      ⟨some 37, .len, [.r 36], none, [36]⟩,
      ⟨some 38, (.bin .lss), [.r 34, .r 37], none, [34, 37]⟩])
    (.cond (.r 38)
      (.kl [38] .skip)
      (.kl [1, 3, 38] (.exit 0))))
    (.seq (.block 1 (.seq (.reg [⟨some 41, (.faddr 2), [.r 1], none, []⟩,
      ⟨some 42, .ld1, [.r 41], none, [41]⟩,
      ⟨some 43, .mv, [.r 3], none, []⟩,
      ⟨some 44, (.iaddrS 1), [.r 42, .r 43], none, [42, 43]⟩,
      ⟨some 45, .ld1, [.r 44], none, [44]⟩,
      ⟨some 46, (.call 26), [.r 45], none, [45]⟩,
      ⟨some 4, .mv, [.r 46], none, [46]⟩])
    (.seq (.reg [⟨some 47, .mv, [.r 4], none, [4]⟩,
      ⟨some 48, (.un .not), [.r 47], none, [47]⟩])
    (.cond (.r 48)
      (.kl [1, 3, 48] (.seq (.reg [⟨some 2, .mv, [.c (.bool false)], none, []⟩])
      .ret))
      (.kl [48] .skip)))))
    (.reg [⟨some 39, .mv, [.r 3], none, [3]⟩,
      ⟨some 40, (.bin .add), [.r 39, .c (.int .i64 1)], none, [39]⟩,
      ⟨some 3, .mv, [.r 40], none, [40]⟩])))
def c10 : SC :=
  (.seq (.reg [⟨some 1, .box, [.r 0], none, [0]⟩,
    ⟨some 2, .mv, [.c (.bool false)], none, []⟩])
  (.seq (.seq (.reg [⟨some 5, (.faddr 0), [.r 1], none, [2]⟩,
    ⟨some 6, .ld1, [.r 5], none, [5]⟩,
    ⟨some 7, (.bin .lss), [.r 6, .c (.int .i64 1)], none, [6]⟩,
    ⟨some 8, .mv, [.r 7], none, [7]⟩,
    ⟨some 9, (.faddr 0), [.r 1], (some (8, false)), []⟩,
    ⟨some 10, .ld1, [.r 9], (some (8, false)), [9]⟩,
    ⟨some 11, (.bin .gtr), [.r 10, .c (.int .i64 8)], (some (8, false)), [10]⟩,
    ⟨some 12, .pick, [.r 8, .c (.bool true), .r 11], none, [8, 11]⟩,
    ⟨some 13, .mv, [.r 12], none, [12]⟩,
    ⟨some 14, (.faddr 1), [.r 1], (some (13, false)), []⟩,
    ⟨some 15, .ld1, [.r 14], (some (13, false)), [14]⟩,
    ⟨some 16, (.bin .lss), [.r 15, .c (.int .i64 1)], (some (13, false)), [15]⟩,
    ⟨some 17, .pick, [.r 13, .c (.bool true), .r 16], none, [13, 16]⟩,
    ⟨some 18, .mv, [.r 17], none, [17]⟩,
    ⟨some 19, (.faddr 1), [.r 1], (some (18, false)), []⟩,
    ⟨some 20, .ld1, [.r 19], (some (18, false)), [19]⟩,
    ⟨some 21, (.bin .gtr), [.r 20, .c (.int .i64 8)], (some (18, false)), [20]⟩,
    ⟨some 22, .pick, [.r 18, .c (.bool true), .r 21], none, [18, 21]⟩,
    ⟨some 23, .mv, [.r 22], none, [22]⟩,
    ⟨some 24, (.faddr 2), [.r 1], (some (23, false)), []⟩,
    ⟨some 25, .ld1, [.r 24], (some (23, false)), [24]⟩,
    ⟨some 26, .len, [.r 25], (some (23, false)), [25]⟩,
    ⟨some 27, (.faddr 0), [.r 1], (some (23, false)), []⟩,
    ⟨some 28, .ld1, [.r 27], (some (23, false)), [27]⟩,
    ⟨some 29, (.faddr 1), [.r 1], (some (23, false)), []⟩,
    ⟨some 30, .ld1, [.r 29], (some (23, false)), [29]⟩,
    ⟨some 31, (.bin .mul), [.r 28, .r 30], (some (23, false)), [28, 30]⟩,
    ⟨some 32, (.bin .neq), [.r 26, .r 31], (some (23, false)), [26, 31]⟩,
    ⟨some 33, .pick, [.r 23, .c (.bool true), .r 32], none, [23, 32]⟩])
  (.cond (.r 33)
    (.kl [1, 33] (.seq (.reg [⟨some 2, .mv, [.c (.bool false)], none, []⟩])
    .ret))
    (.kl [33] .skip)))
  (.seq (.seq (.reg [⟨some 3, .mv, [.c (.int .i64 0)], none, []⟩])
  (.block 0 (.loop c10l0)))
  (.seq (.reg [⟨some 2, .mv, [.c (.bool true)], none, []⟩])
  .ret))))
def rs10 : List SR := [.tmp 2]
theorem k10 : okC Try.prog 49 (Try.f10.body.getD .skip) c10 = true := by kernel_rfl
theorem acall10 {args : List AV} (hn : args.length ≤ 49) {H : Heap} {v : AV} {H' : Heap} (h : ac Try.prog c10 (argEnv 0 args) H (Fin H rs10 v H')) : ACall Try.prog 10 args H v H' :=
  acall Try.func10 (c := Try.f10.body.getD .skip) rfl k10 (by kernel_rfl) hn h
theorem acallK10 {args : List AV} (hn : args.length ≤ 49) {H : Heap} {v : AV} {H' : Heap} (h : ac Try.prog c10 (argEnv 0 args) H (FinK rs10 v H')) : ACall Try.prog 10 args H v H' :=
  acallK Try.func10 (c := Try.f10.body.getD .skip) rfl k10 (by kernel_rfl) hn h

/- alidade/mat.Scale -/
def c11 : SC :=
  (.seq (.reg [⟨some 2, .box, [.r 0], none, [0]⟩,
    ⟨some 3, .box, [.r 1], none, [1]⟩,
    ⟨some 4, (.alloc [(.int .i64 0), (.int .i64 0), .nils]), [], none, []⟩,
    ⟨some 5, .mv, [.c (.bool false)], none, []⟩])
  (.seq (.reg [⟨some 6, (.ldn 3), [.r 2], none, [5]⟩,
    ⟨some 7, (.call 28), [.r 6], none, [6]⟩,
    ⟨some 8, (.mkfn (.func 29) 0), [.r 2, .r 3], none, [2, 3]⟩,
    ⟨some 9, (.call 27), [.r 7, .r 8], none, [7, 8]⟩,
    ⟨some 10, (.ext 0), [.r 9], none, []⟩,
    ⟨some 11, (.ext 1), [.r 9], none, [9]⟩,
    ⟨none, (.st 3), [.r 4, .r 10], none, [10]⟩,
    ⟨some 5, .mv, [.r 11], none, [11]⟩])
  .ret))
def rs11 : List SR := [.celln 4 3, .tmp 5]
theorem k11 : okC Try.prog 12 (Try.f11.body.getD .skip) c11 = true := by kernel_rfl
theorem acall11 {args : List AV} (hn : args.length ≤ 12) {H : Heap} {v : AV} {H' : Heap} (h : ac Try.prog c11 (argEnv 0 args) H (Fin H rs11 v H')) : ACall Try.prog 11 args H v H' :=
  acall Try.func11 (c := Try.f11.body.getD .skip) rfl k11 (by kernel_rfl) hn h
theorem acallK11 {args : List AV} (hn : args.length ≤ 12) {H : Heap} {v : AV} {H' : Heap} (h : ac Try.prog c11 (argEnv 0 args) H (FinK rs11 v H')) : ACall Try.prog 11 args H v H' :=
  acallK Try.func11 (c := Try.f11.body.getD .skip) rfl k11 (by kernel_rfl) hn h

/- alidade/alidaderef01.Mul -/
def c12 : SC :=
  (.seq (.reg [⟨some 4, .mv, [.c (.int .i64 0)], none, []⟩,
    ⟨some 5, .mv, [.c (.bool false)], none, [4]⟩])
  (.seq (.reg [⟨some 22, .mv, [.r 0], none, [0, 5]⟩,
    ⟨some 23, (.call 32), [.r 22], none, [22]⟩,
    ⟨some 21, .mv, [.r 23], none, [23]⟩,
    ⟨some 24, (.ext 0), [.r 21], none, []⟩,
    ⟨some 25, (.ext 1), [.r 21], none, [21]⟩,
    ⟨some 6, .mv, [.r 24], none, [24]⟩,
    ⟨some 7, .mv, [.r 25], none, [25]⟩])
  (.seq (.reg [⟨some 27, .mv, [.r 1], none, [1]⟩,
    ⟨some 28, (.call 32), [.r 27], none, [27]⟩,
    ⟨some 26, .mv, [.r 28], none, [28]⟩,
    ⟨some 29, (.ext 0), [.r 26], none, []⟩,
    ⟨some 30, (.ext 1), [.r 26], none, [26]⟩,
    ⟨some 8, .mv, [.r 29], none, [29]⟩,
    ⟨some 9, .mv, [.r 30], none, [30]⟩])
  (.seq (.reg [⟨some 31, .mv, [.r 6], none, []⟩,
    ⟨some 32, (.call 33), [.r 31], none, [31]⟩,
    ⟨some 10, .mv, [.r 32], none, [32]⟩])
  (.seq (.reg [⟨some 33, .mv, [.r 8], none, []⟩,
    ⟨some 34, (.call 33), [.r 33], none, [33]⟩,
    ⟨some 11, .mv, [.r 34], none, [34]⟩])
  (.seq (.reg [⟨some 35, .mv, [.r 10], none, []⟩,
    ⟨some 36, (.bin .quo), [.r 35, .c (.int .i64 16777216)], none, [35]⟩,
    ⟨some 12, .mv, [.r 36], none, [36]⟩])
  (.seq (.reg [⟨some 37, .mv, [.r 10], none, [10]⟩,
    ⟨some 38, (.bin .rem), [.r 37, .c (.int .i64 16777216)], none, [37]⟩,
    ⟨some 13, .mv, [.r 38], none, [38]⟩])
  (.seq (.reg [⟨some 39, .mv, [.r 11], none, []⟩,
    ⟨some 40, (.bin .quo), [.r 39, .c (.int .i64 16777216)], none, [39]⟩,
    ⟨some 14, .mv, [.r 40], none, [40]⟩])
  (.seq (.reg [⟨some 41, .mv, [.r 11], none, [11]⟩,
    ⟨some 42, (.bin .rem), [.r 41, .c (.int .i64 16777216)], none, [41]⟩,
    ⟨some 15, .mv, [.r 42], none, [42]⟩])
  (.seq (.reg [⟨some 43, .mv, [.r 12], none, []⟩,
    ⟨some 44, .mv, [.r 14], none, []⟩,
    ⟨some 45, (.bin .mul), [.r 43, .r 44], none, [43, 44]⟩,
    ⟨some 46, (.bin .geq), [.r 45, .c (.int .i64 16777216)], none, [45]⟩,
    ⟨some 16, .mv, [.r 46], none, [46]⟩])
  (.seq (.reg [⟨some 17, .mv, [.c (.int .i64 0)], none, []⟩])
  (.seq (.seq (.reg [⟨some 47, .mv, [.r 16], none, []⟩,
    ⟨some 48, (.un .not), [.r 47], none, [47]⟩])
  (.cond (.r 48)
    (.kl [17, 48] (.seq (.reg [⟨some 49, .mv, [.r 12], none, []⟩,
      ⟨some 50, .mv, [.r 14], none, []⟩,
      ⟨some 51, (.bin .mul), [.r 49, .r 50], none, [49, 50]⟩,
      ⟨some 52, (.bin .mul), [.r 51, .c (.int .i64 16777216)], none, [51]⟩,
      ⟨some 53, .mv, [.r 12], none, [12]⟩,
      ⟨some 54, .mv, [.r 15], none, []⟩,
      ⟨some 55, (.bin .mul), [.r 53, .r 54], none, [53, 54]⟩,
      ⟨some 56, (.bin .add), [.r 52, .r 55], none, [52, 55]⟩,
      ⟨some 57, .mv, [.r 13], none, []⟩,
      ⟨some 58, .mv, [.r 14], none, [14]⟩,
      ⟨some 59, (.bin .mul), [.r 57, .r 58], none, [57, 58]⟩,
      ⟨some 60, (.bin .add), [.r 56, .r 59], none, [56, 59]⟩,
      ⟨some 61, .mv, [.r 13], none, []⟩,
      ⟨some 62, .mv, [.r 15], none, []⟩,
      ⟨some 63, (.bin .mul), [.r 61, .r 62], none, [61, 62]⟩,
      ⟨some 64, (.bin .quo), [.r 63, .c (.int .i64 16777216)], none, [63]⟩,
      ⟨some 65, (.bin .add), [.r 60, .r 64], none, [60, 64]⟩,
      ⟨some 17, .mv, [.r 65], none, [65]⟩])
    (.seq (.reg [⟨some 66, .mv, [.r 13], none, [13]⟩,
      ⟨some 67, .mv, [.r 15], none, [15]⟩,
      ⟨some 68, (.bin .mul), [.r 66, .r 67], none, [66, 67]⟩,
      ⟨some 69, (.bin .rem), [.r 68, .c (.int .i64 16777216)], none, [68]⟩,
      ⟨some 18, .mv, [.r 69], none, [69]⟩])
    (.seq (.reg [⟨some 70, .mv, [.r 18], none, []⟩,
      ⟨some 71, (.bin .mul), [.r 70, .c (.int .i64 2)], none, [70]⟩,
      ⟨some 72, (.bin .gtr), [.r 71, .c (.int .i64 16777216)], none, [71]⟩,
      ⟨some 73, .mv, [.r 72], none, [72]⟩,
      ⟨some 74, .mv, [.r 18], (some (73, false)), [18]⟩,
      ⟨some 75, (.bin .mul), [.r 74, .c (.int .i64 2)], (some (73, false)), [74]⟩,
      ⟨some 76, (.bin .eql), [.r 75, .c (.int .i64 16777216)], (some (73, false)), [75]⟩,
      ⟨some 77, .mv, [.r 76], (some (73, false)), [76]⟩,
      ⟨some 78, .mv, [.r 17], (some (77, true)), []⟩,
      ⟨some 79, (.bin .rem), [.r 78, .c (.int .i64 2)], (some (77, true)), [78]⟩,
      ⟨some 80, (.bin .eql), [.r 79, .c (.int .i64 1)], (some (77, true)), [79]⟩,
      ⟨some 81, .pick, [.r 77, .r 80, .c (.bool false)], (some (73, false)), [77, 80]⟩,
      ⟨some 82, .pick, [.r 73, .c (.bool true), .r 81], none, [73, 81]⟩])
    (.cond (.r 82)
      (.kl [82] (.reg [⟨some 83, .mv, [.r 17], none, [17]⟩,
        ⟨some 84, (.bin .add), [.r 83, .c (.int .i64 1)], none, [83]⟩,
        ⟨some 17, .mv, [.r 84], none, [84]⟩]))
      (.kl [82] .skip))))))
    (.kl [12, 13, 14, 15, 48] .skip)))
  (.seq (.reg [⟨some 86, .mv, [.r 17], none, [17]⟩,
    ⟨some 87, .mv, [.r 16], none, [16]⟩,
    ⟨some 88, .mv, [.r 6], none, [6]⟩,
    ⟨some 89, (.bin .lss), [.r 88, .c (.int .i64 0)], none, [88]⟩,
    ⟨some 90, .mv, [.r 8], none, [8]⟩,
    ⟨some 91, (.bin .lss), [.r 90, .c (.int .i64 0)], none, [90]⟩,
    ⟨some 92, (.eqb true), [.r 89, .r 91], none, [89, 91]⟩,
    ⟨some 93, (.call 34), [.r 86, .r 87, .r 92], none, [86, 87, 92]⟩,
    ⟨some 85, .mv, [.r 93], none, [93]⟩,
    ⟨some 94, (.ext 0), [.r 85], none, []⟩,
    ⟨some 95, (.ext 1), [.r 85], none, [85]⟩,
    ⟨some 19, .mv, [.r 94], none, [94]⟩,
    ⟨some 20, .mv, [.r 95], none, [95]⟩])
  (.seq (.reg [⟨some 96, .mv, [.r 19], none, [19]⟩,
    ⟨some 97, .mv, [.r 7], none, [7]⟩,
    ⟨some 98, .mv, [.r 97], none, [97]⟩,
    ⟨some 99, .mv, [.r 9], (some (98, false)), [9]⟩,
    ⟨some 100, .pick, [.r 98, .c (.bool true), .r 99], none, [98, 99]⟩,
    ⟨some 101, .mv, [.r 100], none, [100]⟩,
    ⟨some 102, .mv, [.r 20], (some (101, false)), [20]⟩,
    ⟨some 103, .pick, [.r 101, .c (.bool true), .r 102], none, [101, 102]⟩,
    ⟨some 4, .mv, [.r 96], none, [96]⟩,
    ⟨some 5, .mv, [.r 103], none, [103]⟩])
  .ret))))))))))))))
def rs12 : List SR := [.tmp 4, .tmp 5]
theorem k12 : okC Try.prog 104 (Try.f12.body.getD .skip) c12 = true := by kernel_rfl
theorem acall12 {args : List AV} (hn : args.length ≤ 104) {H : Heap} {v : AV} {H' : Heap} (h : ac Try.prog c12 (argEnv 0 args) H (Fin H rs12 v H')) : ACall Try.prog 12 args H v H' :=
  acall Try.func12 (c := Try.f12.body.getD .skip) rfl k12 (by kernel_rfl) hn h
theorem acallK12 {args : List AV} (hn : args.length ≤ 104) {H : Heap} {v : AV} {H' : Heap} (h : ac Try.prog c12 (argEnv 0 args) H (FinK rs12 v H')) : ACall Try.prog 12 args H v H' :=
  acallK Try.func12 (c := Try.f12.body.getD .skip) rfl k12 (by kernel_rfl) hn h

/- alidade/alidaderef03.Same -/
def c13l0 : SC :=
  (.seq (.seq (.reg [⟨some 27, .mv, [.r 5], none, []⟩,
      ⟨some 28, (.faddr 2), [.r 2], none, []⟩,
      ⟨some 29, .ld1, [.r 28], none, [28]⟩,
      ⟨some 30, .len, [.r 29], none, [29]⟩,
      ⟨some 31, (.bin .lss), [.r 27, .r 30], none, [27, 30]⟩])
    (.cond (.r 31)
      (.kl [31] .skip)
      (.kl [2, 3, 5, 31] (.exit 0))))
    (.seq (.block 1 (.seq (.dreg [⟨0, 0, false, false, ⟨some 34, (.faddr 2), [.r 2], none, []⟩⟩,
      ⟨1, 1, false, false, ⟨some 35, .ld1, [.r 34], none, [34]⟩⟩,
      ⟨2, 0, false, false, ⟨some 36, .mv, [.r 5], none, []⟩⟩,
      ⟨3, 7, false, false, ⟨some 37, (.iaddrS 1), [.r 35, .r 36], none, [35, 36]⟩⟩,
      ⟨4, 15, false, false, ⟨some 38, .ld1, [.r 37], none, [37]⟩⟩,
      ⟨5, 0, false, false, ⟨some 39, (.faddr 2), [.r 3], none, []⟩⟩,
      ⟨6, 32, false, false, ⟨some 40, .ld1, [.r 39], none, [39]⟩⟩,
      ⟨7, 0, false, false, ⟨some 41, .mv, [.r 5], none, []⟩⟩,
      ⟨8, 224, false, false, ⟨some 42, (.iaddrS 1), [.r 40, .r 41], none, [40, 41]⟩⟩,
      ⟨9, 480, false, false, ⟨some 43, .ld1, [.r 42], none, [42]⟩⟩,
      ⟨10, 1023, false, false, ⟨some 44, (.bin .neq), [.r 38, .r 43], none, [38, 43]⟩⟩])
    (.cond (.r 44)
      (.kl [2, 3, 5, 44] (.seq (.reg [⟨some 4, .mv, [.c (.bool false)], none, []⟩])
      .ret))
      (.kl [44] .skip))))
    (.reg [⟨some 32, .mv, [.r 5], none, [5]⟩,
      ⟨some 33, (.bin .add), [.r 32, .c (.int .i64 1)], none, [32]⟩,
      ⟨some 5, .mv, [.r 33], none, [33]⟩])))
def c13 : SC :=
  (.seq (.reg [⟨some 2, .box, [.r 0], none, [0]⟩,
    ⟨some 3, .box, [.r 1], none, [1]⟩,
    ⟨some 4, .mv, [.c (.bool false)], none, []⟩])
  (.seq (.seq (.reg [⟨some 6, (.faddr 0), [.r 2], none, [4]⟩,
    ⟨some 7, .ld1, [.r 6], none, [6]⟩,
    ⟨some 8, (.faddr 0), [.r 3], none, []⟩,
    ⟨some 9, .ld1, [.r 8], none, [8]⟩,
    ⟨some 10, (.bin .neq), [.r 7, .r 9], none, [7, 9]⟩,
    ⟨some 11, .mv, [.r 10], none, [10]⟩,
    ⟨some 12, (.faddr 1), [.r 2], (some (11, false)), []⟩,
    ⟨some 13, .ld1, [.r 12], (some (11, false)), [12]⟩,
    ⟨some 14, (.faddr 1), [.r 3], (some (11, false)), []⟩,
    ⟨some 15, .ld1, [.r 14], (some (11, false)), [14]⟩,
    ⟨some 16, (.bin .neq), [.r 13, .r 15], (some (11, false)), [13, 15]⟩,
    ⟨some 17, .pick, [.r 11, .c (.bool true), .r 16], none, [11, 16]⟩,
    ⟨some 18, .mv, [.r 17], none, [17]⟩,
    ⟨some 19, (.faddr 2), [.r 2], (some (18, false)), []⟩,
    ⟨some 20, .ld1, [.r 19], (some (18, false)), [19]⟩,
    ⟨some 21, .len, [.r 20], (some (18, false)), [20]⟩,
    ⟨some 22, (.faddr 2), [.r 3], (some (18, false)), []⟩,
    ⟨some 23, .ld1, [.r 22], (some (18, false)), [22]⟩,
    ⟨some 24, .len, [.r 23], (some (18, false)), [23]⟩,
    ⟨some 25, (.bin .neq), [.r 21, .r 24], (some (18, false)), [21, 24]⟩,
    ⟨some 26, .pick, [.r 18, .c (.bool true), .r 25], none, [18, 25]⟩])
  (.cond (.r 26)
    (.kl [2, 3, 26] (.seq (.reg [⟨some 4, .mv, [.c (.bool false)], none, []⟩])
    .ret))
    (.kl [26] .skip)))
  (.seq (.seq (.reg [⟨some 5, .mv, [.c (.int .i64 0)], none, []⟩])
  (.block 0 (.loop c13l0)))
  (.seq (.reg [⟨some 4, .mv, [.c (.bool true)], none, []⟩])
  .ret))))
def rs13 : List SR := [.tmp 4]
theorem k13 : okC Try.prog 45 (Try.f13.body.getD .skip) c13 = true := by kernel_rfl
theorem acall13 {args : List AV} (hn : args.length ≤ 45) {H : Heap} {v : AV} {H' : Heap} (h : ac Try.prog c13 (argEnv 0 args) H (Fin H rs13 v H')) : ACall Try.prog 13 args H v H' :=
  acall Try.func13 (c := Try.f13.body.getD .skip) rfl k13 (by kernel_rfl) hn h
theorem acallK13 {args : List AV} (hn : args.length ≤ 45) {H : Heap} {v : AV} {H' : Heap} (h : ac Try.prog c13 (argEnv 0 args) H (FinK rs13 v H')) : ACall Try.prog 13 args H v H' :=
  acallK Try.func13 (c := Try.f13.body.getD .skip) rfl k13 (by kernel_rfl) hn h

/- alidade/mat.Add -/
def c14 : SC :=
  (.seq (.reg [⟨some 2, .box, [.r 0], none, [0]⟩,
    ⟨some 3, .box, [.r 1], none, [1]⟩,
    ⟨some 4, (.alloc [(.int .i64 0), (.int .i64 0), .nils]), [], none, []⟩,
    ⟨some 5, .mv, [.c (.bool false)], none, []⟩,
    ⟨some 6, .mv, [.c (.int .i64 0)], none, [5]⟩])
  (.seq (.reg [⟨some 7, (.ldn 3), [.r 2], none, [2, 6]⟩,
    ⟨some 8, (.ldn 3), [.r 3], none, [3]⟩,
    ⟨some 9, (.call 35), [.r 7, .r 8, .c (.fn (.func 36) [] [])], none, [7, 8]⟩,
    ⟨some 10, (.ext 0), [.r 9], none, []⟩,
    ⟨some 11, (.ext 1), [.r 9], none, []⟩,
    ⟨some 12, (.ext 2), [.r 9], none, [9]⟩,
    ⟨none, (.st 3), [.r 4, .r 10], none, [10]⟩,
    ⟨some 5, .mv, [.r 11], none, [11]⟩,
    ⟨some 6, .mv, [.r 12], none, [12]⟩])
  .ret))
def rs14 : List SR := [.celln 4 3, .tmp 5, .tmp 6]
theorem k14 : okC Try.prog 13 (Try.f14.body.getD .skip) c14 = true := by kernel_rfl
theorem acall14 {args : List AV} (hn : args.length ≤ 13) {H : Heap} {v : AV} {H' : Heap} (h : ac Try.prog c14 (argEnv 0 args) H (Fin H rs14 v H')) : ACall Try.prog 14 args H v H' :=
  acall Try.func14 (c := Try.f14.body.getD .skip) rfl k14 (by kernel_rfl) hn h
theorem acallK14 {args : List AV} (hn : args.length ≤ 13) {H : Heap} {v : AV} {H' : Heap} (h : ac Try.prog c14 (argEnv 0 args) H (FinK rs14 v H')) : ACall Try.prog 14 args H v H' :=
  acallK Try.func14 (c := Try.f14.body.getD .skip) rfl k14 (by kernel_rfl) hn h

/- alidade/mat.Sub -/
def c15 : SC :=
  (.seq (.reg [⟨some 2, .box, [.r 0], none, [0]⟩,
    ⟨some 3, .box, [.r 1], none, [1]⟩,
    ⟨some 4, (.alloc [(.int .i64 0), (.int .i64 0), .nils]), [], none, []⟩,
    ⟨some 5, .mv, [.c (.bool false)], none, []⟩,
    ⟨some 6, .mv, [.c (.int .i64 0)], none, [5]⟩])
  (.seq (.reg [⟨some 7, (.ldn 3), [.r 2], none, [2, 6]⟩,
    ⟨some 8, (.ldn 3), [.r 3], none, [3]⟩,
    ⟨some 9, (.call 35), [.r 7, .r 8, .c (.fn (.func 37) [] [])], none, [7, 8]⟩,
    ⟨some 10, (.ext 0), [.r 9], none, []⟩,
    ⟨some 11, (.ext 1), [.r 9], none, []⟩,
    ⟨some 12, (.ext 2), [.r 9], none, [9]⟩,
    ⟨none, (.st 3), [.r 4, .r 10], none, [10]⟩,
    ⟨some 5, .mv, [.r 11], none, [11]⟩,
    ⟨some 6, .mv, [.r 12], none, [12]⟩])
  .ret))
def rs15 : List SR := [.celln 4 3, .tmp 5, .tmp 6]
theorem k15 : okC Try.prog 13 (Try.f15.body.getD .skip) c15 = true := by kernel_rfl
theorem acall15 {args : List AV} (hn : args.length ≤ 13) {H : Heap} {v : AV} {H' : Heap} (h : ac Try.prog c15 (argEnv 0 args) H (Fin H rs15 v H')) : ACall Try.prog 15 args H v H' :=
  acall Try.func15 (c := Try.f15.body.getD .skip) rfl k15 (by kernel_rfl) hn h
theorem acallK15 {args : List AV} (hn : args.length ≤ 13) {H : Heap} {v : AV} {H' : Heap} (h : ac Try.prog c15 (argEnv 0 args) H (FinK rs15 v H')) : ACall Try.prog 15 args H v H' :=
  acallK Try.func15 (c := Try.f15.body.getD .skip) rfl k15 (by kernel_rfl) hn h

/- alidade/mat.Even -/
def c16 : SC :=
  (.seq (.reg [⟨some 1, .box, [.r 0], none, [0]⟩,
    ⟨some 2, (.alloc [(.int .i64 0), (.int .i64 0), .nils]), [], none, []⟩,
    ⟨some 3, .mv, [.c (.bool false)], none, []⟩,
    ⟨some 4, .mv, [.c (.int .i64 0)], none, [3]⟩])
  (.seq (.dreg [⟨0, 0, false, false, ⟨some 5, (.ldn 3), [.r 1], none, [4]⟩⟩,
    ⟨1, 0, false, false, ⟨some 6, (.ldn 3), [.r 1], none, [1]⟩⟩,
    ⟨2, 2, true, false, ⟨some 7, (.call 17), [.r 6], none, [6]⟩⟩,
    ⟨3, 7, false, false, ⟨some 8, (.call 35), [.r 5, .r 7, .c (.fn (.func 38) [] [])], none, [5, 7]⟩⟩,
    ⟨4, 15, false, false, ⟨some 9, (.ext 0), [.r 8], none, []⟩⟩,
    ⟨5, 15, false, false, ⟨some 10, (.ext 1), [.r 8], none, []⟩⟩,
    ⟨6, 15, false, false, ⟨some 11, (.ext 2), [.r 8], none, [8]⟩⟩,
    ⟨7, 127, false, false, ⟨none, (.st 3), [.r 2, .r 9], none, [9]⟩⟩,
    ⟨8, 255, false, false, ⟨some 3, .mv, [.r 10], none, [10]⟩⟩,
    ⟨9, 511, false, false, ⟨some 4, .mv, [.r 11], none, [11]⟩⟩])
  .ret))
def rs16 : List SR := [.celln 2 3, .tmp 3, .tmp 4]
theorem k16 : okC Try.prog 12 (Try.f16.body.getD .skip) c16 = true := by kernel_rfl
theorem acall16 {args : List AV} (hn : args.length ≤ 12) {H : Heap} {v : AV} {H' : Heap} (h : ac Try.prog c16 (argEnv 0 args) H (Fin H rs16 v H')) : ACall Try.prog 16 args H v H' :=
  acall Try.func16 (c := Try.f16.body.getD .skip) rfl k16 (by kernel_rfl) hn h
theorem acallK16 {args : List AV} (hn : args.length ≤ 12) {H : Heap} {v : AV} {H' : Heap} (h : ac Try.prog c16 (argEnv 0 args) H (FinK rs16 v H')) : ACall Try.prog 16 args H v H' :=
  acallK Try.func16 (c := Try.f16.body.getD .skip) rfl k16 (by kernel_rfl) hn h

/- alidade/mat.Trans -/
def c17 : SC :=
  (.seq (.reg [⟨some 1, .box, [.r 0], none, [0]⟩,
    ⟨some 2, (.alloc [(.int .i64 0), (.int .i64 0), .nils]), [], none, []⟩])
  (.seq (.reg [⟨some 6, (.faddr 1), [.r 1], none, []⟩,
    ⟨some 7, .ld1, [.r 6], none, [6]⟩,
    ⟨some 8, (.faddr 0), [.r 1], none, []⟩,
    ⟨some 9, .ld1, [.r 8], none, [8]⟩,
    ⟨some 10, (.build [(.int .i64 0), (.int .i64 0)] [(0, 1), (1, 1)]), [.r 7, .r 9], none, [7, 9]⟩,
    ⟨some 11, (.mkfn (.func 40) 0), [.r 1], none, [1]⟩,
    ⟨some 12, (.call 27), [.r 10, .r 11], none, [10, 11]⟩,
    ⟨some 5, .mv, [.r 12], none, [12]⟩,
    ⟨some 13, (.ext 0), [.r 5], none, []⟩,
    ⟨some 14, (.ext 1), [.r 5], none, [5]⟩,
    ⟨some 3, (.alloc [(.int .i64 0), (.int .i64 0), .nils]), [], none, []⟩,
    ⟨none, (.st 3), [.r 3, .r 13], none, [13]⟩,
    ⟨some 4, .mv, [.r 14], none, [14]⟩])
  (.seq (.reg [⟨some 15, (.ldn 3), [.r 3], none, [3, 4]⟩,
    ⟨none, (.st 3), [.r 2, .r 15], none, [15]⟩])
  .ret)))
def rs17 : List SR := [.celln 2 3]
theorem k17 : okC Try.prog 16 (Try.f17.body.getD .skip) c17 = true := by kernel_rfl
theorem acall17 {args : List AV} (hn : args.length ≤ 16) {H : Heap} {v : AV} {H' : Heap} (h : ac Try.prog c17 (argEnv 0 args) H (Fin H rs17 v H')) : ACall Try.prog 17 args H v H' :=
  acall Try.func17 (c := Try.f17.body.getD .skip) rfl k17 (by kernel_rfl) hn h
theorem acallK17 {args : List AV} (hn : args.length ≤ 16) {H : Heap} {v : AV} {H' : Heap} (h : ac Try.prog c17 (argEnv 0 args) H (FinK rs17 v H')) : ACall Try.prog 17 args H v H' :=
  acallK Try.func17 (c := Try.f17.body.getD .skip) rfl k17 (by kernel_rfl) hn h

/- alidade/alidaderef03.Add -/
def c18l0 : SC :=
  (.seq (.seq (.reg [⟨some 30, .mv, [.r 9], none, []⟩,
      ⟨some 31, (.faddr 2), [.r 2], none, []⟩,
      ⟨some 32, .ld1, [.r 31], none, [31]⟩,
      ⟨some 33, .len, [.r 32], none, [32]⟩,
      ⟨some 34, (.bin .lss), [.r 30, .r 33], none, [30, 33]⟩])
    (.cond (.r 34)
      (.kl [34] .skip)
      (.kl [2, 3, 9, 34] (.exit 0))))
    (.seq (.block 1 (.seq (.dreg [⟨0, 0, false, false, ⟨some 38, (.faddr 2), [.r 2], none, []⟩⟩,
      ⟨1, 1, false, false, ⟨some 39, .ld1, [.r 38], none, [38]⟩⟩,
      ⟨2, 0, false, false, ⟨some 40, .mv, [.r 9], none, []⟩⟩,
      ⟨3, 7, false, false, ⟨some 41, (.iaddrS 1), [.r 39, .r 40], none, [39, 40]⟩⟩,
      ⟨4, 15, false, false, ⟨some 42, .ld1, [.r 41], none, [41]⟩⟩,
      ⟨5, 0, false, false, ⟨some 43, (.faddr 2), [.r 3], none, []⟩⟩,
      ⟨6, 32, false, false, ⟨some 44, .ld1, [.r 43], none, [43]⟩⟩,
      ⟨7, 0, false, false, ⟨some 45, .mv, [.r 9], none, []⟩⟩,
      ⟨8, 224, false, false, ⟨some 46, (.iaddrS 1), [.r 44, .r 45], none, [44, 45]⟩⟩,
      ⟨9, 480, false, false, ⟨some 47, .ld1, [.r 46], none, [46]⟩⟩,
      ⟨10, 1023, false, false, ⟨some 48, (.call 42), [.r 42, .r 47], none, [42, 47]⟩⟩,
      ⟨11, 2047, false, false, ⟨some 37, .mv, [.r 48], none, [48]⟩⟩,
      ⟨12, 4095, false, false, ⟨some 49, (.ext 0), [.r 37], none, []⟩⟩,
      ⟨13, 4095, false, false, ⟨some 50, (.ext 1), [.r 37], none, [37]⟩⟩,
      ⟨14, 8191, false, false, ⟨some 10, .mv, [.r 49], none, [49]⟩⟩,
      ⟨15, 32767, false, false, ⟨some 11, .mv, [.r 50], none, [50]⟩⟩])
    (.seq (.reg [⟨some 51, (.faddr 2), [.r 7], none, []⟩,
      ⟨some 52, .ld1, [.r 51], none, [51]⟩,
      ⟨some 53, .mv, [.r 9], none, []⟩,
      ⟨some 54, .mv, [.r 10], none, [10]⟩,
      ⟨some 55, (.iaddrS 1), [.r 52, .r 53], none, [52, 53]⟩,
      ⟨none, (.st 1), [.r 55, .r 54], none, [54, 55]⟩])
    (.reg [⟨some 56, .mv, [.r 8], none, [8]⟩,
      ⟨some 57, .mv, [.r 56], none, [56]⟩,
      ⟨some 58, .mv, [.r 11], (some (57, false)), [11]⟩,
      ⟨some 59, .pick, [.r 57, .c (.bool true), .r 58], none, [57, 58]⟩,
      ⟨some 8, .mv, [.r 59], none, [59]⟩]))))
    (.reg [⟨some 35, .mv, [.r 9], none, [9]⟩,
      ⟨some 36, (.bin .add), [.r 35, .c (.int .i64 1)], none, [35]⟩,
      ⟨some 9, .mv, [.r 36], none, [36]⟩])))
def c18 : SC :=
  (.seq (.reg [⟨some 2, .box, [.r 0], none, [0]⟩,
    ⟨some 3, .box, [.r 1], none, [1]⟩,
    ⟨some 4, (.alloc [(.int .i64 0), (.int .i64 0), .nils]), [], none, []⟩,
    ⟨some 5, .mv, [.c (.bool false)], none, []⟩,
    ⟨some 6, .mv, [.c (.int .i64 0)], none, [5]⟩])
  (.seq (.seq (.reg [⟨some 12, (.faddr 0), [.r 2], none, [6]⟩,
    ⟨some 13, .ld1, [.r 12], none, [12]⟩,
    ⟨some 14, (.faddr 0), [.r 3], none, []⟩,
    ⟨some 15, .ld1, [.r 14], none, [14]⟩,
    ⟨some 16, (.bin .neq), [.r 13, .r 15], none, [13, 15]⟩,
    ⟨some 17, .mv, [.r 16], none, [16]⟩,
    ⟨some 18, (.faddr 1), [.r 2], (some (17, false)), []⟩,
    ⟨some 19, .ld1, [.r 18], (some (17, false)), [18]⟩,
    ⟨some 20, (.faddr 1), [.r 3], (some (17, false)), []⟩,
    ⟨some 21, .ld1, [.r 20], (some (17, false)), [20]⟩,
    ⟨some 22, (.bin .neq), [.r 19, .r 21], (some (17, false)), [19, 21]⟩,
    ⟨some 23, .pick, [.r 17, .c (.bool true), .r 22], none, [17, 22]⟩])
  (.cond (.r 23)
    (.kl [2, 3, 23] (.seq (.reg [⟨some 24, (.build [(.int .i64 0), (.int .i64 0), .nils] []), [], none, []⟩,
      ⟨none, (.st 3), [.r 4, .r 24], none, [24]⟩,
      ⟨some 5, .mv, [.c (.bool false)], none, []⟩,
      ⟨some 6, .mv, [.c (.int .i64 9)], none, []⟩])
    .ret))
    (.kl [23] .skip)))
  (.seq (.reg [⟨some 25, (.faddr 0), [.r 2], none, []⟩,
    ⟨some 26, .ld1, [.r 25], none, [25]⟩,
    ⟨some 27, (.faddr 1), [.r 2], none, []⟩,
    ⟨some 28, .ld1, [.r 27], none, [27]⟩,
    ⟨some 29, (.call 41), [.r 26, .r 28], none, [26, 28]⟩,
    ⟨some 7, (.alloc [(.int .i64 0), (.int .i64 0), .nils]), [], none, []⟩,
    ⟨none, (.st 3), [.r 7, .r 29], none, [29]⟩])
  (.seq (.reg [⟨some 8, .mv, [.c (.bool false)], none, []⟩])
  (.seq (.seq (.reg [⟨some 9, .mv, [.c (.int .i64 0)], none, []⟩])
  (.block 0 (.loop c18l0)))
  (.seq (.reg [⟨some 60, (.ldn 3), [.r 7], none, [7]⟩,
    ⟨some 61, .mv, [.r 8], none, [8]⟩,
    ⟨none, (.st 3), [.r 4, .r 60], none, [60]⟩,
    ⟨some 5, .mv, [.r 61], none, [61]⟩,
    ⟨some 6, .mv, [.c (.int .i64 0)], none, []⟩])
  .ret))))))
def rs18 : List SR := [.celln 4 3, .tmp 5, .tmp 6]
theorem k18 : okC Try.prog 62 (Try.f18.body.getD .skip) c18 = true := by kernel_rfl
theorem acall18 {args : List AV} (hn : args.length ≤ 62) {H : Heap} {v : AV} {H' : Heap} (h : ac Try.prog c18 (argEnv 0 args) H (Fin H rs18 v H')) : ACall Try.prog 18 args H v H' :=
  acall Try.func18 (c := Try.f18.body.getD .skip) rfl k18 (by kernel_rfl) hn h
theorem acallK18 {args : List AV} (hn : args.length ≤ 62) {H : Heap} {v : AV} {H' : Heap} (h : ac Try.prog c18 (argEnv 0 args) H (FinK rs18 v H')) : ACall Try.prog 18 args H v H' :=
  acallK Try.func18 (c := Try.f18.body.getD .skip) rfl k18 (by kernel_rfl) hn h

/- alidade/alidaderef03.Sub -/
def c19l0 : SC :=
  (.seq (.seq (.reg [⟨some 30, .mv, [.r 9], none, []⟩,
      ⟨some 31, (.faddr 2), [.r 2], none, []⟩,
      ⟨some 32, .ld1, [.r 31], none, [31]⟩,
      ⟨some 33, .len, [.r 32], none, [32]⟩,
      ⟨some 34, (.bin .lss), [.r 30, .r 33], none, [30, 33]⟩])
    (.cond (.r 34)
      (.kl [34] .skip)
      (.kl [2, 3, 9, 34] (.exit 0))))
    (.seq (.block 1 (.seq (.dreg [⟨0, 0, false, false, ⟨some 38, (.faddr 2), [.r 2], none, []⟩⟩,
      ⟨1, 1, false, false, ⟨some 39, .ld1, [.r 38], none, [38]⟩⟩,
      ⟨2, 0, false, false, ⟨some 40, .mv, [.r 9], none, []⟩⟩,
      ⟨3, 7, false, false, ⟨some 41, (.iaddrS 1), [.r 39, .r 40], none, [39, 40]⟩⟩,
      ⟨4, 15, false, false, ⟨some 42, .ld1, [.r 41], none, [41]⟩⟩,
      ⟨5, 0, false, false, ⟨some 43, (.faddr 2), [.r 3], none, []⟩⟩,
      ⟨6, 32, false, false, ⟨some 44, .ld1, [.r 43], none, [43]⟩⟩,
      ⟨7, 0, false, false, ⟨some 45, .mv, [.r 9], none, []⟩⟩,
      ⟨8, 224, false, false, ⟨some 46, (.iaddrS 1), [.r 44, .r 45], none, [44, 45]⟩⟩,
      ⟨9, 480, false, false, ⟨some 47, .ld1, [.r 46], none, [46]⟩⟩,
      ⟨10, 1023, false, false, ⟨some 48, (.call 43), [.r 42, .r 47], none, [42, 47]⟩⟩,
      ⟨11, 2047, false, false, ⟨some 37, .mv, [.r 48], none, [48]⟩⟩,
      ⟨12, 4095, false, false, ⟨some 49, (.ext 0), [.r 37], none, []⟩⟩,
      ⟨13, 4095, false, false, ⟨some 50, (.ext 1), [.r 37], none, [37]⟩⟩,
      ⟨14, 8191, false, false, ⟨some 10, .mv, [.r 49], none, [49]⟩⟩,
      ⟨15, 32767, false, false, ⟨some 11, .mv, [.r 50], none, [50]⟩⟩])
    (.seq (.reg [⟨some 51, (.faddr 2), [.r 7], none, []⟩,
      ⟨some 52, .ld1, [.r 51], none, [51]⟩,
      ⟨some 53, .mv, [.r 9], none, []⟩,
      ⟨some 54, .mv, [.r 10], none, [10]⟩,
      ⟨some 55, (.iaddrS 1), [.r 52, .r 53], none, [52, 53]⟩,
      ⟨none, (.st 1), [.r 55, .r 54], none, [54, 55]⟩])
    (.reg [⟨some 56, .mv, [.r 8], none, [8]⟩,
      ⟨some 57, .mv, [.r 56], none, [56]⟩,
      ⟨some 58, .mv, [.r 11], (some (57, false)), [11]⟩,
      ⟨some 59, .pick, [.r 57, .c (.bool true), .r 58], none, [57, 58]⟩,
      ⟨some 8, .mv, [.r 59], none, [59]⟩]))))
    (.reg [⟨some 35, .mv, [.r 9], none, [9]⟩,
      ⟨some 36, (.bin .add), [.r 35, .c (.int .i64 1)], none, [35]⟩,
      ⟨some 9, .mv, [.r 36], none, [36]⟩])))
def c19 : SC :=
  (.seq (.reg [⟨some 2, .box, [.r 0], none, [0]⟩,
    ⟨some 3, .box, [.r 1], none, [1]⟩,
    ⟨some 4, (.alloc [(.int .i64 0), (.int .i64 0), .nils]), [], none, []⟩,
    ⟨some 5, .mv, [.c (.bool false)], none, []⟩,
    ⟨some 6, .mv, [.c (.int .i64 0)], none, [5]⟩])
  (.seq (.seq (.reg [⟨some 12, (.faddr 0), [.r 2], none, [6]⟩,
    ⟨some 13, .ld1, [.r 12], none, [12]⟩,
    ⟨some 14, (.faddr 0), [.r 3], none, []⟩,
    ⟨some 15, .ld1, [.r 14], none, [14]⟩,
    ⟨some 16, (.bin .neq), [.r 13, .r 15], none, [13, 15]⟩,
    ⟨some 17, .mv, [.r 16], none, [16]⟩,
    ⟨some 18, (.faddr 1), [.r 2], (some (17, false)), []⟩,
    ⟨some 19, .ld1, [.r 18], (some (17, false)), [18]⟩,
    ⟨some 20, (.faddr 1), [.r 3], (some (17, false)), []⟩,
    ⟨some 21, .ld1, [.r 20], (some (17, false)), [20]⟩,
    ⟨some 22, (.bin .neq), [.r 19, .r 21], (some (17, false)), [19, 21]⟩,
    ⟨some 23, .pick, [.r 17, .c (.bool true), .r 22], none, [17, 22]⟩])
  (.cond (.r 23)
    (.kl [2, 3, 23] (.seq (.reg [⟨some 24, (.build [(.int .i64 0), (.int .i64 0), .nils] []), [], none, []⟩,
      ⟨none, (.st 3), [.r 4, .r 24], none, [24]⟩,
      ⟨some 5, .mv, [.c (.bool false)], none, []⟩,
      ⟨some 6, .mv, [.c (.int .i64 9)], none, []⟩])
    .ret))
    (.kl [23] .skip)))
  (.seq (.reg [⟨some 25, (.faddr 0), [.r 2], none, []⟩,
    ⟨some 26, .ld1, [.r 25], none, [25]⟩,
    ⟨some 27, (.faddr 1), [.r 2], none, []⟩,
    ⟨some 28, .ld1, [.r 27], none, [27]⟩,
    ⟨some 29, (.call 41), [.r 26, .r 28], none, [26, 28]⟩,
    ⟨some 7, (.alloc [(.int .i64 0), (.int .i64 0), .nils]), [], none, []⟩,
    ⟨none, (.st 3), [.r 7, .r 29], none, [29]⟩])
  (.seq (.reg [⟨some 8, .mv, [.c (.bool false)], none, []⟩])
  (.seq (.seq (.reg [⟨some 9, .mv, [.c (.int .i64 0)], none, []⟩])
  (.block 0 (.loop c19l0)))
  (.seq (.reg [⟨some 60, (.ldn 3), [.r 7], none, [7]⟩,
    ⟨some 61, .mv, [.r 8], none, [8]⟩,
    ⟨none, (.st 3), [.r 4, .r 60], none, [60]⟩,
    ⟨some 5, .mv, [.r 61], none, [61]⟩,
    ⟨some 6, .mv, [.c (.int .i64 0)], none, []⟩])
  .ret))))))
def rs19 : List SR := [.celln 4 3, .tmp 5, .tmp 6]
theorem k19 : okC Try.prog 62 (Try.f19.body.getD .skip) c19 = true := by kernel_rfl
theorem acall19 {args : List AV} (hn : args.length ≤ 62) {H : Heap} {v : AV} {H' : Heap} (h : ac Try.prog c19 (argEnv 0 args) H (Fin H rs19 v H')) : ACall Try.prog 19 args H v H' :=
  acall Try.func19 (c := Try.f19.body.getD .skip) rfl k19 (by kernel_rfl) hn h
theorem acallK19 {args : List AV} (hn : args.length ≤ 62) {H : Heap} {v : AV} {H' : Heap} (h : ac Try.prog c19 (argEnv 0 args) H (FinK rs19 v H')) : ACall Try.prog 19 args H v H' :=
  acallK Try.func19 (c := Try.f19.body.getD .skip) rfl k19 (by kernel_rfl) hn h

/- alidade/mat.Mul -/
def c20 : SC :=
  (.seq (.reg [⟨some 2, .box, [.r 0], none, [0]⟩,
    ⟨some 3, .box, [.r 1], none, [1]⟩,
    ⟨some 4, (.alloc [(.int .i64 0), (.int .i64 0), .nils]), [], none, []⟩,
    ⟨some 5, .mv, [.c (.bool false)], none, []⟩,
    ⟨some 6, .mv, [.c (.int .i64 0)], none, [5]⟩])
  (.seq (.seq (.reg [⟨some 9, (.faddr 1), [.r 2], none, [6]⟩,
    ⟨some 10, .ld1, [.r 9], none, [9]⟩,
    ⟨some 11, (.faddr 0), [.r 3], none, []⟩,
    ⟨some 12, .ld1, [.r 11], none, [11]⟩,
    ⟨some 13, (.bin .neq), [.r 10, .r 12], none, [10, 12]⟩])
  (.cond (.r 13)
    (.kl [2, 3, 13] (.seq (.reg [⟨some 14, (.build [(.int .i64 0), (.int .i64 0), .nils] []), [], none, []⟩,
      ⟨none, (.st 3), [.r 4, .r 14], none, [14]⟩,
      ⟨some 5, .mv, [.c (.bool false)], none, []⟩,
      ⟨some 6, .mv, [.c (.int .i64 9)], none, []⟩])
    .ret))
    (.kl [13] .skip)))
  (.seq (.reg [⟨some 16, (.faddr 0), [.r 2], none, []⟩,
    ⟨some 17, .ld1, [.r 16], none, [16]⟩,
    ⟨some 18, (.faddr 1), [.r 3], none, []⟩,
    ⟨some 19, .ld1, [.r 18], none, [18]⟩,
    ⟨some 20, (.build [(.int .i64 0), (.int .i64 0)] [(0, 1), (1, 1)]), [.r 17, .r 19], none, [17, 19]⟩,
    ⟨some 21, (.mkfn (.func 44) 0), [.r 2, .r 3], none, [2, 3]⟩,
    ⟨some 22, (.call 27), [.r 20, .r 21], none, [20, 21]⟩,
    ⟨some 15, .mv, [.r 22], none, [22]⟩,
    ⟨some 23, (.ext 0), [.r 15], none, []⟩,
    ⟨some 24, (.ext 1), [.r 15], none, [15]⟩,
    ⟨some 7, (.alloc [(.int .i64 0), (.int .i64 0), .nils]), [], none, []⟩,
    ⟨none, (.st 3), [.r 7, .r 23], none, [23]⟩,
    ⟨some 8, .mv, [.r 24], none, [24]⟩])
  (.seq (.reg [⟨some 25, (.ldn 3), [.r 7], none, [7]⟩,
    ⟨some 26, .mv, [.r 8], none, [8]⟩,
    ⟨none, (.st 3), [.r 4, .r 25], none, [25]⟩,
    ⟨some 5, .mv, [.r 26], none, [26]⟩,
    ⟨some 6, .mv, [.c (.int .i64 0)], none, []⟩])
  .ret))))
def rs20 : List SR := [.celln 4 3, .tmp 5, .tmp 6]
theorem k20 : okC Try.prog 27 (Try.f20.body.getD .skip) c20 = true := by kernel_rfl
theorem acall20 {args : List AV} (hn : args.length ≤ 27) {H : Heap} {v : AV} {H' : Heap} (h : ac Try.prog c20 (argEnv 0 args) H (Fin H rs20 v H')) : ACall Try.prog 20 args H v H' :=
  acall Try.func20 (c := Try.f20.body.getD .skip) rfl k20 (by kernel_rfl) hn h
theorem acallK20 {args : List AV} (hn : args.length ≤ 27) {H : Heap} {v : AV} {H' : Heap} (h : ac Try.prog c20 (argEnv 0 args) H (FinK rs20 v H')) : ACall Try.prog 20 args H v H' :=
  acallK Try.func20 (c := Try.f20.body.getD .skip) rfl k20 (by kernel_rfl) hn h

/- alidade/alidaderef03.Mul -/
def c21l0 : SC :=
  (.seq (.seq (.reg [⟨some 46, .mv, [.r 12], none, []⟩,
          ⟨some 47, (.faddr 1), [.r 2], none, []⟩,
          ⟨some 48, .ld1, [.r 47], none, [47]⟩,
          ⟨some 49, (.bin .lss), [.r 46, .r 48], none, [46, 48]⟩])
        (.cond (.r 49)
          (.kl [49] .skip)
          (.kl [11, 12, 49] (.exit 4))))
        (.seq (.block 5 (.seq (.dreg [⟨0, 0, false, false, ⟨some 53, (.faddr 2), [.r 2], none, []⟩⟩,
          ⟨1, 1, false, false, ⟨some 54, .ld1, [.r 53], none, [53]⟩⟩,
          ⟨2, 0, false, false, ⟨some 55, .mv, [.r 9], none, []⟩⟩,
          ⟨3, 0, false, false, ⟨some 56, (.faddr 1), [.r 2], none, []⟩⟩,
          ⟨4, 8, false, false, ⟨some 57, .ld1, [.r 56], none, [56]⟩⟩,
          ⟨5, 28, false, false, ⟨some 58, (.bin .mul), [.r 55, .r 57], none, [55, 57]⟩⟩,
          ⟨6, 0, false, false, ⟨some 59, .mv, [.r 12], none, []⟩⟩,
          ⟨7, 124, false, false, ⟨some 60, (.bin .add), [.r 58, .r 59], none, [58, 59]⟩⟩,
          ⟨8, 255, false, false, ⟨some 61, (.iaddrS 1), [.r 54, .r 60], none, [54, 60]⟩⟩,
          ⟨9, 511, false, false, ⟨some 62, .ld1, [.r 61], none, [61]⟩⟩,
          ⟨10, 0, false, false, ⟨some 63, (.faddr 2), [.r 3], none, []⟩⟩,
          ⟨11, 1024, false, false, ⟨some 64, .ld1, [.r 63], none, [63]⟩⟩,
          ⟨12, 0, false, false, ⟨some 65, .mv, [.r 12], none, []⟩⟩,
          ⟨13, 0, false, false, ⟨some 66, (.faddr 1), [.r 3], none, []⟩⟩,
          ⟨14, 8192, false, false, ⟨some 67, .ld1, [.r 66], none, [66]⟩⟩,
          ⟨15, 28672, false, false, ⟨some 68, (.bin .mul), [.r 65, .r 67], none, [65, 67]⟩⟩,
          ⟨16, 0, false, false, ⟨some 69, .mv, [.r 10], none, []⟩⟩,
          ⟨17, 126976, false, false, ⟨some 70, (.bin .add), [.r 68, .r 69], none, [68, 69]⟩⟩,
          ⟨18, 261120, false, false, ⟨some 71, (.iaddrS 1), [.r 64, .r 70], none, [64, 70]⟩⟩,
          ⟨19, 523264, false, false, ⟨some 72, .ld1, [.r 71], none, [71]⟩⟩,
          ⟨20, 1048575, false, false, ⟨some 73, (.call 12), [.r 62, .r 72], none, [62, 72]⟩⟩,
          ⟨21, 2097151, false, false, ⟨some 52, .mv, [.r 73], none, [73]⟩⟩,
          ⟨22, 4194303, false, false, ⟨some 74, (.ext 0), [.r 52], none, []⟩⟩,
          ⟨23, 4194303, false, false, ⟨some 75, (.ext 1), [.r 52], none, [52]⟩⟩,
          ⟨24, 8388607, false, false, ⟨some 13, .mv, [.r 74], none, [74]⟩⟩,
          ⟨25, 33554431, false, false, ⟨some 14, .mv, [.r 75], none, [75]⟩⟩])
        (.seq (.reg [⟨some 77, (.faddr 2), [.r 7], none, []⟩,
          ⟨some 78, .ld1, [.r 77], none, [77]⟩,
          ⟨some 79, .mv, [.r 11], none, []⟩,
          ⟨some 80, (.iaddrS 1), [.r 78, .r 79], none, [78, 79]⟩,
          ⟨some 81, .ld1, [.r 80], none, [80]⟩,
          ⟨some 82, .mv, [.r 13], none, [13]⟩,
          ⟨some 83, (.call 42), [.r 81, .r 82], none, [81, 82]⟩,
          ⟨some 76, .mv, [.r 83], none, [83]⟩,
          ⟨some 84, (.ext 0), [.r 76], none, []⟩,
          ⟨some 85, (.ext 1), [.r 76], none, [76]⟩,
          ⟨some 15, .mv, [.r 84], none, [84]⟩,
          ⟨some 16, .mv, [.r 85], none, [85]⟩])
        (.seq (.reg [⟨some 86, (.faddr 2), [.r 7], none, []⟩,
          ⟨some 87, .ld1, [.r 86], none, [86]⟩,
          ⟨some 88, .mv, [.r 11], none, []⟩,
          ⟨some 89, .mv, [.r 15], none, [15]⟩,
          ⟨some 90, (.iaddrS 1), [.r 87, .r 88], none, [87, 88]⟩,
          ⟨none, (.st 1), [.r 90, .r 89], none, [89, 90]⟩])
        (.reg [⟨some 91, .mv, [.r 8], none, [8]⟩,
          ⟨some 92, .mv, [.r 91], none, [91]⟩,
          ⟨some 93, .mv, [.r 14], (some (92, false)), [14]⟩,
          ⟨some 94, .pick, [.r 92, .c (.bool true), .r 93], none, [92, 93]⟩,
          ⟨some 95, .mv, [.r 94], none, [94]⟩,
          ⟨some 96, .mv, [.r 16], (some (95, false)), [16]⟩,
          ⟨some 97, .pick, [.r 95, .c (.bool true), .r 96], none, [95, 96]⟩,
          ⟨some 8, .mv, [.r 97], none, [97]⟩])))))
        (.reg [⟨some 50, .mv, [.r 12], none, [12]⟩,
          ⟨some 51, (.bin .add), [.r 50, .c (.int .i64 1)], none, [50]⟩,
          ⟨some 12, .mv, [.r 51], none, [51]⟩])))
def c21l1 : SC :=
  (.seq (.seq (.reg [⟨some 34, .mv, [.r 10], none, []⟩,
        ⟨some 35, (.faddr 1), [.r 3], none, []⟩,
        ⟨some 36, .ld1, [.r 35], none, [35]⟩,
        ⟨some 37, (.bin .lss), [.r 34, .r 36], none, [34, 36]⟩])
      (.cond (.r 37)
        (.kl [37] .skip)
        (.kl [10, 37] (.exit 2))))
      (.seq (.block 3 (.seq (.reg [⟨some 40, .mv, [.r 9], none, []⟩,
        ⟨some 41, (.faddr 1), [.r 3], none, []⟩,
        ⟨some 42, .ld1, [.r 41], none, [41]⟩,
        ⟨some 43, (.bin .mul), [.r 40, .r 42], none, [40, 42]⟩,
        ⟨some 44, .mv, [.r 10], none, []⟩,
        ⟨some 45, (.bin .add), [.r 43, .r 44], none, [43, 44]⟩,
        ⟨some 11, .mv, [.r 45], none, [45]⟩])
      (.seq (.reg [⟨some 12, .mv, [.c (.int .i64 0)], none, []⟩])
      (.block 4 (.loop c21l0)))))
      (.reg [⟨some 38, .mv, [.r 10], none, [10]⟩,
        ⟨some 39, (.bin .add), [.r 38, .c (.int .i64 1)], none, [38]⟩,
        ⟨some 10, .mv, [.r 39], none, [39]⟩])))
def c21l2 : SC :=
  (.seq (.seq (.reg [⟨some 28, .mv, [.r 9], none, []⟩,
      ⟨some 29, (.faddr 0), [.r 2], none, []⟩,
      ⟨some 30, .ld1, [.r 29], none, [29]⟩,
      ⟨some 31, (.bin .lss), [.r 28, .r 30], none, [28, 30]⟩])
    (.cond (.r 31)
      (.kl [31] .skip)
      (.kl [2, 3, 9, 31] (.exit 0))))
    (.seq (.block 1 (.seq (.reg [⟨some 10, .mv, [.c (.int .i64 0)], none, []⟩])
    (.block 2 (.loop c21l1))))
    (.reg [⟨some 32, .mv, [.r 9], none, [9]⟩,
      ⟨some 33, (.bin .add), [.r 32, .c (.int .i64 1)], none, [32]⟩,
      ⟨some 9, .mv, [.r 33], none, [33]⟩])))
def c21 : SC :=
  (.seq (.reg [⟨some 2, .box, [.r 0], none, [0]⟩,
    ⟨some 3, .box, [.r 1], none, [1]⟩,
    ⟨some 4, (.alloc [(.int .i64 0), (.int .i64 0), .nils]), [], none, []⟩,
    ⟨some 5, .mv, [.c (.bool false)], none, []⟩,
    ⟨some 6, .mv, [.c (.int .i64 0)], none, [5]⟩])
  (.seq (.seq (.reg [⟨some 17, (.faddr 1), [.r 2], none, [6]⟩,
    ⟨some 18, .ld1, [.r 17], none, [17]⟩,
    ⟨some 19, (.faddr 0), [.r 3], none, []⟩,
    ⟨some 20, .ld1, [.r 19], none, [19]⟩,
    ⟨some 21, (.bin .neq), [.r 18, .r 20], none, [18, 20]⟩])
  (.cond (.r 21)
    (.kl [2, 3, 21] (.seq (.reg [⟨some 22, (.build [(.int .i64 0), (.int .i64 0), .nils] []), [], none, []⟩,
      ⟨none, (.st 3), [.r 4, .r 22], none, [22]⟩,
      ⟨some 5, .mv, [.c (.bool false)], none, []⟩,
      ⟨some 6, .mv, [.c (.int .i64 9)], none, []⟩])
    .ret))
    (.kl [21] .skip)))
  (.seq (.reg [⟨some 23, (.faddr 0), [.r 2], none, []⟩,
    ⟨some 24, .ld1, [.r 23], none, [23]⟩,
    ⟨some 25, (.faddr 1), [.r 3], none, []⟩,
    ⟨some 26, .ld1, [.r 25], none, [25]⟩,
    ⟨some 27, (.call 41), [.r 24, .r 26], none, [24, 26]⟩,
    ⟨some 7, (.alloc [(.int .i64 0), (.int .i64 0), .nils]), [], none, []⟩,
    ⟨none, (.st 3), [.r 7, .r 27], none, [27]⟩])
  (.seq (.reg [⟨some 8, .mv, [.c (.bool false)], none, []⟩])
  (.seq (.seq (.reg [⟨some 9, .mv, [.c (.int .i64 0)], none, []⟩])
  (.block 0 (.loop c21l2)))
  (.seq (.reg [⟨some 98, (.ldn 3), [.r 7], none, [7]⟩,
    ⟨some 99, .mv, [.r 8], none, [8]⟩,
    ⟨none, (.st 3), [.r 4, .r 98], none, [98]⟩,
    ⟨some 5, .mv, [.r 99], none, [99]⟩,
    ⟨some 6, .mv, [.c (.int .i64 0)], none, []⟩])
  .ret))))))
def rs21 : List SR := [.celln 4 3, .tmp 5, .tmp 6]
theorem k21 : okC Try.prog 100 (Try.f21.body.getD .skip) c21 = true := by kernel_rfl
theorem acall21 {args : List AV} (hn : args.length ≤ 100) {H : Heap} {v : AV} {H' : Heap} (h : ac Try.prog c21 (argEnv 0 args) H (Fin H rs21 v H')) : ACall Try.prog 21 args H v H' :=
  acall Try.func21 (c := Try.f21.body.getD .skip) rfl k21 (by kernel_rfl) hn h
theorem acallK21 {args : List AV} (hn : args.length ≤ 100) {H : Heap} {v : AV} {H' : Heap} (h : ac Try.prog c21 (argEnv 0 args) H (FinK rs21 v H')) : ACall Try.prog 21 args H v H' :=
  acallK Try.func21 (c := Try.f21.body.getD .skip) rfl k21 (by kernel_rfl) hn h

/- alidade/mat.Same -/
def c22 : SC :=
  (.seq (.reg [⟨some 2, .box, [.r 0], none, [0]⟩,
    ⟨some 3, .box, [.r 1], none, [1]⟩,
    ⟨some 4, .mv, [.c (.bool false)], none, []⟩])
  (.seq (.dreg [⟨0, 0, false, false, ⟨some 5, (.ldn 3), [.r 2], none, [4]⟩⟩,
    ⟨1, 1, false, true, ⟨some 6, (.call 28), [.r 5], none, [5]⟩⟩,
    ⟨2, 0, false, false, ⟨some 7, (.ldn 3), [.r 3], none, []⟩⟩,
    ⟨3, 7, false, false, ⟨some 8, (.call 28), [.r 7], none, [7]⟩⟩,
    ⟨4, 15, false, false, ⟨some 9, (.eqv false [.int, .int]), [.r 6, .r 8], none, [6, 8]⟩⟩,
    ⟨5, 31, false, false, ⟨some 10, .mv, [.r 9], none, [9]⟩⟩,
    ⟨6, 63, false, false, ⟨some 11, (.faddr 2), [.r 2], (some (10, true)), [2]⟩⟩,
    ⟨7, 127, false, false, ⟨some 12, .ld1, [.r 11], (some (10, true)), [11]⟩⟩,
    ⟨8, 63, false, false, ⟨some 13, (.faddr 2), [.r 3], (some (10, true)), [3]⟩⟩,
    ⟨9, 319, false, false, ⟨some 14, .ld1, [.r 13], (some (10, true)), [13]⟩⟩,
    ⟨10, 1023, false, false, ⟨some 15, (.call 45), [.r 12, .r 14], (some (10, true)), [12, 14]⟩⟩,
    ⟨11, 2047, false, false, ⟨some 16, .pick, [.r 10, .r 15, .c (.bool false)], none, [10, 15]⟩⟩,
    ⟨12, 4095, false, false, ⟨some 4, .mv, [.r 16], none, [16]⟩⟩])
  .ret))
def rs22 : List SR := [.tmp 4]
theorem k22 : okC Try.prog 17 (Try.f22.body.getD .skip) c22 = true := by kernel_rfl
theorem acall22 {args : List AV} (hn : args.length ≤ 17) {H : Heap} {v : AV} {H' : Heap} (h : ac Try.prog c22 (argEnv 0 args) H (Fin H rs22 v H')) : ACall Try.prog 22 args H v H' :=
  acall Try.func22 (c := Try.f22.body.getD .skip) rfl k22 (by kernel_rfl) hn h
theorem acallK22 {args : List AV} (hn : args.length ≤ 17) {H : Heap} {v : AV} {H' : Heap} (h : ac Try.prog c22 (argEnv 0 args) H (FinK rs22 v H')) : ACall Try.prog 22 args H v H' :=
  acallK Try.func22 (c := Try.f22.body.getD .skip) rfl k22 (by kernel_rfl) hn h

/- alidade/mat.Eye -/
def c23 : SC :=
  (.seq (.reg [⟨some 2, (.alloc [(.int .i64 0), (.int .i64 0), .nils]), [], none, []⟩,
    ⟨some 3, .mv, [.c (.int .i64 0)], none, []⟩])
  (.seq (.seq (.reg [⟨some 4, .mv, [.r 0], none, [3]⟩,
    ⟨some 5, (.bin .lss), [.r 4, .c (.int .i64 1)], none, [4]⟩,
    ⟨some 6, .mv, [.r 5], none, [5]⟩,
    ⟨some 7, .mv, [.r 0], (some (6, false)), []⟩,
    ⟨some 8, (.bin .gtr), [.r 7, .c (.int .i64 8)], (some (6, false)), [7]⟩,
    ⟨some 9, .pick, [.r 6, .c (.bool true), .r 8], none, [6, 8]⟩])
  (.cond (.r 9)
    (.kl [0, 9] (.seq (.reg [⟨some 10, (.build [(.int .i64 0), (.int .i64 0), .nils] []), [], none, []⟩,
      ⟨none, (.st 3), [.r 2, .r 10], none, [10]⟩,
      ⟨some 3, .mv, [.c (.int .i64 1)], none, []⟩])
    .ret))
    (.kl [9] .skip)))
  (.seq (.reg [⟨some 11, (.bslice 1 1 [(.int .i64 0)] [(0, 1)]), [.c (.int .i64 16777216)], none, []⟩,
    ⟨some 12, .mv, [.r 0], none, [0]⟩,
    ⟨some 13, (.call 46), [.r 11, .r 12], none, [11, 12]⟩,
    ⟨some 14, (.call 25), [.r 13], none, [13]⟩,
    ⟨some 15, (.ext 0), [.r 14], none, []⟩,
    ⟨some 16, (.ext 1), [.r 14], none, [14]⟩,
    ⟨none, (.st 3), [.r 2, .r 15], none, [15]⟩,
    ⟨some 3, .mv, [.r 16], none, [16]⟩])
  .ret)))
def rs23 : List SR := [.celln 2 3, .tmp 3]
theorem k23 : okC Try.prog 17 (Try.f23.body.getD .skip) c23 = true := by kernel_rfl
theorem acall23 {args : List AV} (hn : args.length ≤ 17) {H : Heap} {v : AV} {H' : Heap} (h : ac Try.prog c23 (argEnv 0 args) H (Fin H rs23 v H')) : ACall Try.prog 23 args H v H' :=
  acall Try.func23 (c := Try.f23.body.getD .skip) rfl k23 (by kernel_rfl) hn h
theorem acallK23 {args : List AV} (hn : args.length ≤ 17) {H : Heap} {v : AV} {H' : Heap} (h : ac Try.prog c23 (argEnv 0 args) H (FinK rs23 v H')) : ACall Try.prog 23 args H v H' :=
  acallK Try.func23 (c := Try.f23.body.getD .skip) rfl k23 (by kernel_rfl) hn h

/- alidade/mat.Right -/
def c24 : SC :=
  (.seq (.reg [⟨some 1, .box, [.r 0], none, [0]⟩,
    ⟨some 2, .mv, [.c (.bool false)], none, []⟩])
  (.seq (.reg [⟨some 3, .mv, [.c (.fn (.func 47) [] [])], none, [2]⟩])
  (.seq (.reg [⟨some 4, (.faddr 0), [.r 1], none, []⟩,
    ⟨some 5, .ld1, [.r 4], none, [4]⟩,
    ⟨some 6, (.bin .geq), [.r 5, .c (.int .i64 1)], none, [5]⟩,
    ⟨some 7, .mv, [.r 6], none, [6]⟩,
    ⟨some 8, (.faddr 0), [.r 1], (some (7, true)), []⟩,
    ⟨some 9, .ld1, [.r 8], (some (7, true)), [8]⟩,
    ⟨some 10, (.bin .leq), [.r 9, .c (.int .i64 8)], (some (7, true)), [9]⟩,
    ⟨some 11, .pick, [.r 7, .r 10, .c (.bool false)], none, [7, 10]⟩,
    ⟨some 12, .mv, [.r 11], none, [11]⟩,
    ⟨some 13, (.faddr 1), [.r 1], (some (12, true)), []⟩,
    ⟨some 14, .ld1, [.r 13], (some (12, true)), [13]⟩,
    ⟨some 15, (.bin .geq), [.r 14, .c (.int .i64 1)], (some (12, true)), [14]⟩,
    ⟨some 16, .pick, [.r 12, .r 15, .c (.bool false)], none, [12, 15]⟩,
    ⟨some 17, .mv, [.r 16], none, [16]⟩,
    ⟨some 18, (.faddr 1), [.r 1], (some (17, true)), []⟩,
    ⟨some 19, .ld1, [.r 18], (some (17, true)), [18]⟩,
    ⟨some 20, (.bin .leq), [.r 19, .c (.int .i64 8)], (some (17, true)), [19]⟩,
    ⟨some 21, .pick, [.r 17, .r 20, .c (.bool false)], none, [17, 20]⟩,
    ⟨some 22, .mv, [.r 21], none, [21]⟩,
    ⟨some 23, (.faddr 2), [.r 1], (some (22, true)), []⟩,
    ⟨some 24, .ld1, [.r 23], (some (22, true)), [23]⟩,
    ⟨some 25, .len, [.r 24], (some (22, true)), [24]⟩,
    ⟨some 26, (.faddr 0), [.r 1], (some (22, true)), []⟩,
    ⟨some 27, .ld1, [.r 26], (some (22, true)), [26]⟩,
    ⟨some 28, (.faddr 1), [.r 1], (some (22, true)), []⟩,
    ⟨some 29, .ld1, [.r 28], (some (22, true)), [28]⟩,
    ⟨some 30, (.bin .mul), [.r 27, .r 29], (some (22, true)), [27, 29]⟩,
    ⟨some 31, (.bin .eql), [.r 25, .r 30], (some (22, true)), [25, 30]⟩,
    ⟨some 32, .pick, [.r 22, .r 31, .c (.bool false)], none, [22, 31]⟩,
    ⟨some 33, .mv, [.r 32], none, [32]⟩,
    ⟨some 34, (.faddr 2), [.r 1], (some (33, true)), [1]⟩,
    ⟨some 35, .ld1, [.r 34], (some (33, true)), [34]⟩,
    ⟨some 36, .mv, [.r 3], (some (33, true)), [3]⟩,
    ⟨some 37, (.call 48), [.r 35, .r 36], (some (33, true)), [35, 36]⟩,
    ⟨some 38, (.un .not), [.r 37], (some (33, true)), [37]⟩,
    ⟨some 39, .pick, [.r 33, .r 38, .c (.bool false)], none, [33, 38]⟩,
    ⟨some 2, .mv, [.r 39], none, [39]⟩])
  .ret)))
def rs24 : List SR := [.tmp 2]
theorem k24 : okC Try.prog 40 (Try.f24.body.getD .skip) c24 = true := by kernel_rfl
theorem acall24 {args : List AV} (hn : args.length ≤ 40) {H : Heap} {v : AV} {H' : Heap} (h : ac Try.prog c24 (argEnv 0 args) H (Fin H rs24 v H')) : ACall Try.prog 24 args H v H' :=
  acall Try.func24 (c := Try.f24.body.getD .skip) rfl k24 (by kernel_rfl) hn h
theorem acallK24 {args : List AV} (hn : args.length ≤ 40) {H : Heap} {v : AV} {H' : Heap} (h : ac Try.prog c24 (argEnv 0 args) H (FinK rs24 v H')) : ACall Try.prog 24 args H v H' :=
  acallK Try.func24 (c := Try.f24.body.getD .skip) rfl k24 (by kernel_rfl) hn h

/- alidade/mat.Diag -/
def c25 : SC :=
  (.seq (.reg [⟨some 1, .box, [.r 0], none, [0]⟩,
    ⟨some 2, (.alloc [(.int .i64 0), (.int .i64 0), .nils]), [], none, []⟩,
    ⟨some 3, .mv, [.c (.int .i64 0)], none, []⟩])
  (.seq (.reg [⟨some 7, .ld1, [.r 1], none, [3]⟩,
    ⟨some 8, .len, [.r 7], none, [7]⟩,
    ⟨some 4, .mv, [.r 8], none, [8]⟩])
  (.seq (.seq (.reg [⟨some 9, .mv, [.r 4], none, []⟩,
    ⟨some 10, (.bin .lss), [.r 9, .c (.int .i64 1)], none, [9]⟩,
    ⟨some 11, .mv, [.r 10], none, [10]⟩,
    ⟨some 12, .mv, [.r 4], (some (11, false)), []⟩,
    ⟨some 13, (.bin .gtr), [.r 12, .c (.int .i64 8)], (some (11, false)), [12]⟩,
    ⟨some 14, .pick, [.r 11, .c (.bool true), .r 13], none, [11, 13]⟩,
    ⟨some 15, .mv, [.r 14], none, [14]⟩,
    ⟨some 16, .mv, [.r 4], (some (15, false)), []⟩,
    ⟨some 17, .ld1, [.r 1], (some (15, false)), []⟩,
    ⟨some 18, (.build [(.int .i64 0), (.int .i64 0), .nils] [(0, 1), (1, 1), (2, 1)]), [.c (.int .i64 1), .r 16, .r 17], (some (15, false)), [16, 17]⟩,
    ⟨some 19, (.call 24), [.r 18], (some (15, false)), [18]⟩,
    ⟨some 20, (.un .not), [.r 19], (some (15, false)), [19]⟩,
    ⟨some 21, .pick, [.r 15, .c (.bool true), .r 20], none, [15, 20]⟩])
  (.cond (.r 21)
    (.kl [1, 4, 21] (.seq (.reg [⟨some 22, (.build [(.int .i64 0), (.int .i64 0), .nils] []), [], none, []⟩,
      ⟨none, (.st 3), [.r 2, .r 22], none, [22]⟩,
      ⟨some 3, .mv, [.c (.int .i64 1)], none, []⟩])
    .ret))
    (.kl [21] .skip)))
  (.seq (.reg [⟨some 24, .mv, [.r 4], none, []⟩,
    ⟨some 25, .mv, [.r 4], none, [4]⟩,
    ⟨some 26, (.build [(.int .i64 0), (.int .i64 0)] [(0, 1), (1, 1)]), [.r 24, .r 25], none, [24, 25]⟩,
    ⟨some 27, (.mkfn (.func 49) 0), [.r 1], none, [1]⟩,
    ⟨some 28, (.call 27), [.r 26, .r 27], none, [26, 27]⟩,
    ⟨some 23, .mv, [.r 28], none, [28]⟩,
    ⟨some 29, (.ext 0), [.r 23], none, []⟩,
    ⟨some 30, (.ext 1), [.r 23], none, [23]⟩,
    ⟨some 5, (.alloc [(.int .i64 0), (.int .i64 0), .nils]), [], none, []⟩,
    ⟨none, (.st 3), [.r 5, .r 29], none, [29]⟩,
    ⟨some 6, .mv, [.r 30], none, [30]⟩])
  (.seq (.reg [⟨some 31, (.ldn 3), [.r 5], none, [5, 6]⟩,
    ⟨none, (.st 3), [.r 2, .r 31], none, [31]⟩,
    ⟨some 3, .mv, [.c (.int .i64 0)], none, []⟩])
  .ret)))))
def rs25 : List SR := [.celln 2 3, .tmp 3]
theorem k25 : okC Try.prog 32 (Try.f25.body.getD .skip) c25 = true := by kernel_rfl
theorem acall25 {args : List AV} (hn : args.length ≤ 32) {H : Heap} {v : AV} {H' : Heap} (h : ac Try.prog c25 (argEnv 0 args) H (Fin H rs25 v H')) : ACall Try.prog 25 args H v H' :=
  acall Try.func25 (c := Try.f25.body.getD .skip) rfl k25 (by kernel_rfl) hn h
theorem acallK25 {args : List AV} (hn : args.length ≤ 32) {H : Heap} {v : AV} {H' : Heap} (h : ac Try.prog c25 (argEnv 0 args) H (FinK rs25 v H')) : ACall Try.prog 25 args H v H' :=
  acallK Try.func25 (c := Try.f25.body.getD .skip) rfl k25 (by kernel_rfl) hn h

/- alidade/alidaderef01.In -/
def c26 : SC :=
  (.seq (.reg [⟨some 2, .mv, [.c (.bool false)], none, []⟩])
  (.seq (.reg [⟨some 3, .mv, [.r 0], none, [2]⟩,
    ⟨some 4, (.bin .geq), [.r 3, .c (.int .i64 (-70368744177664))], none, [3]⟩,
    ⟨some 5, .mv, [.r 4], none, [4]⟩,
    ⟨some 6, .mv, [.r 0], (some (5, true)), [0]⟩,
    ⟨some 7, (.bin .leq), [.r 6, .c (.int .i64 70368744177663)], (some (5, true)), [6]⟩,
    ⟨some 8, .pick, [.r 5, .r 7, .c (.bool false)], none, [5, 7]⟩,
    ⟨some 2, .mv, [.r 8], none, [8]⟩])
  .ret))
def rs26 : List SR := [.tmp 2]
theorem k26 : okC Try.prog 9 (Try.f26.body.getD .skip) c26 = true := by kernel_rfl
theorem acall26 {args : List AV} (hn : args.length ≤ 9) {H : Heap} {v : AV} {H' : Heap} (h : ac Try.prog c26 (argEnv 0 args) H (Fin H rs26 v H')) : ACall Try.prog 26 args H v H' :=
  acall Try.func26 (c := Try.f26.body.getD .skip) rfl k26 (by kernel_rfl) hn h
theorem acallK26 {args : List AV} (hn : args.length ≤ 9) {H : Heap} {v : AV} {H' : Heap} (h : ac Try.prog c26 (argEnv 0 args) H (FinK rs26 v H')) : ACall Try.prog 26 args H v H' :=
  acallK Try.func26 (c := Try.f26.body.getD .skip) rfl k26 (by kernel_rfl) hn h

/- alidade/mat.made -/
def c27l0 : SC :=
  (.seq (.reg [⟨some 25, (.bin .lss), [.r 24, .r 23], none, []⟩])
      (.seq (.cond (.r 25)
        (.kl [25] .skip)
        (.kl [8, 23, 24, 25] (.exit 2)))
      (.seq (.block 3 (.seq (.reg [⟨some 26, .mv, [.r 24], none, []⟩,
        ⟨some 9, .mv, [.r 26], none, [26]⟩])
      (.seq (.reg [⟨some 28, .mv, [.r 1], none, []⟩,
        ⟨some 29, .mv, [.r 8], none, []⟩,
        ⟨some 30, .mv, [.r 9], none, [9]⟩,
        ⟨some 31, .callv, [.r 28, .r 29, .r 30], none, [28, 29, 30]⟩,
        ⟨some 27, .mv, [.r 31], none, [31]⟩,
        ⟨some 32, (.ext 0), [.r 27], none, []⟩,
        ⟨some 33, (.ext 1), [.r 27], none, [27]⟩,
        ⟨some 10, .mv, [.r 32], none, [32]⟩,
        ⟨some 11, .mv, [.r 33], none, [33]⟩])
      (.seq (.reg [⟨some 34, (.faddr 2), [.r 6], none, []⟩,
        ⟨some 35, .ld1, [.r 34], none, [34]⟩,
        ⟨some 36, .mv, [.r 10], none, [10]⟩,
        ⟨some 37, (.bslice 1 1 [(.int .i64 0)] [(0, 1)]), [.r 36], none, [36]⟩,
        ⟨some 38, (.app 1 8), [.r 35, .r 37], none, [35, 37]⟩,
        ⟨some 39, (.faddr 2), [.r 6], none, []⟩,
        ⟨none, (.st 1), [.r 39, .r 38], none, [38, 39]⟩])
      (.reg [⟨some 40, .mv, [.r 7], none, [7]⟩,
        ⟨some 41, .mv, [.r 40], none, [40]⟩,
        ⟨some 42, .mv, [.r 11], (some (41, false)), [11]⟩,
        ⟨some 43, .pick, [.r 41, .c (.bool true), .r 42], none, [41, 42]⟩,
        ⟨some 7, .mv, [.r 43], none, [43]⟩])))))
      (.reg [⟨some 44, (.bin .add), [.r 24, .c (.int .i64 1)], none, [24]⟩,
        ⟨some 24, .mv, [.r 44], none, [44]⟩]))))
def c27l1 : SC :=
  (.seq (.reg [⟨some 20, (.bin .lss), [.r 19, .r 18], none, []⟩])
    (.seq (.cond (.r 20)
      (.kl [20] .skip)
      (.kl [1, 2, 18, 19, 20] (.exit 0)))
    (.seq (.block 1 (.seq (.reg [⟨some 21, .mv, [.r 19], none, []⟩,
      ⟨some 8, .mv, [.r 21], none, [21]⟩])
    (.seq (.reg [⟨some 22, (.faddr 1), [.r 2], none, []⟩,
      ⟨some 23, .ld1, [.r 22], none, [22]⟩,
      ⟨some 24, .mv, [.c (.int .i64 0)], none, []⟩])
    (.block 2 (.loop c27l0)))))
    (.reg [⟨some 45, (.bin .add), [.r 19, .c (.int .i64 1)], none, [19]⟩,
      ⟨some 19, .mv, [.r 45], none, [45]⟩]))))
def c27 : SC :=
  (.seq (.reg [⟨some 2, .box, [.r 0], none, [0]⟩,
    ⟨some 4, (.alloc [(.int .i64 0), (.int .i64 0), .nils]), [], none, []⟩,
    ⟨some 5, .mv, [.c (.bool false)], none, []⟩])
  (.seq (.reg [⟨some 12, (.faddr 0), [.r 2], none, [5]⟩,
    ⟨some 13, .ld1, [.r 12], none, [12]⟩,
    ⟨some 14, (.faddr 1), [.r 2], none, []⟩,
    ⟨some 15, .ld1, [.r 14], none, [14]⟩,
    ⟨some 16, (.build [(.int .i64 0), (.int .i64 0), .nils] [(0, 1), (1, 1)]), [.r 13, .r 15], none, [13, 15]⟩,
    ⟨some 6, (.alloc [(.int .i64 0), (.int .i64 0), .nils]), [], none, []⟩,
    ⟨none, (.st 3), [.r 6, .r 16], none, [16]⟩])
  (.seq (.reg [⟨some 7, .mv, [.c (.bool false)], none, []⟩])
  (.seq (.seq (.reg [⟨some 17, (.faddr 0), [.r 2], none, []⟩,
    ⟨some 18, .ld1, [.r 17], none, [17]⟩,
    ⟨some 19, .mv, [.c (.int .i64 0)], none, []⟩])
  (.block 0 (.loop c27l1)))
  (.seq (.reg [⟨some 46, (.ldn 3), [.r 6], none, [6]⟩,
    ⟨some 47, .mv, [.r 7], none, [7]⟩,
    ⟨none, (.st 3), [.r 4, .r 46], none, [46]⟩,
    ⟨some 5, .mv, [.r 47], none, [47]⟩])
  .ret)))))
def rs27 : List SR := [.celln 4 3, .tmp 5]
theorem k27 : okC Try.prog 48 (Try.f27.body.getD .skip) c27 = true := by kernel_rfl
theorem acall27 {args : List AV} (hn : args.length ≤ 48) {H : Heap} {v : AV} {H' : Heap} (h : ac Try.prog c27 (argEnv 0 args) H (Fin H rs27 v H')) : ACall Try.prog 27 args H v H' :=
  acall Try.func27 (c := Try.f27.body.getD .skip) rfl k27 (by kernel_rfl) hn h
theorem acallK27 {args : List AV} (hn : args.length ≤ 48) {H : Heap} {v : AV} {H' : Heap} (h : ac Try.prog c27 (argEnv 0 args) H (FinK rs27 v H')) : ACall Try.prog 27 args H v H' :=
  acallK Try.func27 (c := Try.f27.body.getD .skip) rfl k27 (by kernel_rfl) hn h

/- alidade/mat.of -/
def c28 : SC :=
  (.seq (.reg [⟨some 1, .box, [.r 0], none, [0]⟩,
    ⟨some 2, (.alloc [(.int .i64 0), (.int .i64 0)]), [], none, []⟩])
  (.seq (.reg [⟨some 3, (.faddr 0), [.r 1], none, []⟩,
    ⟨some 4, .ld1, [.r 3], none, [3]⟩,
    ⟨some 5, (.faddr 1), [.r 1], none, [1]⟩,
    ⟨some 6, .ld1, [.r 5], none, [5]⟩,
    ⟨some 7, (.build [(.int .i64 0), (.int .i64 0)] [(0, 1), (1, 1)]), [.r 4, .r 6], none, [4, 6]⟩,
    ⟨none, (.st 2), [.r 2, .r 7], none, [7]⟩])
  .ret))
def rs28 : List SR := [.celln 2 2]
theorem k28 : okC Try.prog 8 (Try.f28.body.getD .skip) c28 = true := by kernel_rfl
theorem acall28 {args : List AV} (hn : args.length ≤ 8) {H : Heap} {v : AV} {H' : Heap} (h : ac Try.prog c28 (argEnv 0 args) H (Fin H rs28 v H')) : ACall Try.prog 28 args H v H' :=
  acall Try.func28 (c := Try.f28.body.getD .skip) rfl k28 (by kernel_rfl) hn h
theorem acallK28 {args : List AV} (hn : args.length ≤ 8) {H : Heap} {v : AV} {H' : Heap} (h : ac Try.prog c28 (argEnv 0 args) H (FinK rs28 v H')) : ACall Try.prog 28 args H v H' :=
  acallK Try.func28 (c := Try.f28.body.getD .skip) rfl k28 (by kernel_rfl) hn h

/- alidade/mat.Scale$1 -/
def c29 : SC :=
  (.seq (.reg [⟨some 6, .mv, [.c (.int .i64 0)], none, []⟩,
    ⟨some 7, .mv, [.c (.bool false)], none, [6]⟩])
  (.seq (.dreg [⟨0, 0, false, false, ⟨some 8, (.ldn 3), [.r 2], none, [2, 7]⟩⟩,
    ⟨1, 0, false, false, ⟨some 9, .mv, [.r 0], none, [0]⟩⟩,
    ⟨2, 0, false, false, ⟨some 10, .mv, [.r 1], none, [1]⟩⟩,
    ⟨3, 7, false, true, ⟨some 11, (.call 31), [.r 8, .r 9, .r 10], none, [8, 9, 10]⟩⟩,
    ⟨4, 0, false, false, ⟨some 12, .ld1, [.r 3], none, [3]⟩⟩,
    ⟨5, 31, false, false, ⟨some 13, (.call 30), [.r 11, .r 12], none, [11, 12]⟩⟩,
    ⟨6, 63, false, false, ⟨some 14, (.ext 0), [.r 13], none, []⟩⟩,
    ⟨7, 63, false, false, ⟨some 15, (.ext 1), [.r 13], none, [13]⟩⟩,
    ⟨8, 255, false, false, ⟨some 6, .mv, [.r 14], none, [14]⟩⟩,
    ⟨9, 511, false, false, ⟨some 7, .mv, [.r 15], none, [15]⟩⟩])
  .ret))
def rs29 : List SR := [.tmp 6, .tmp 7]
theorem k29 : okC Try.prog 16 (Try.f29.body.getD .skip) c29 = true := by kernel_rfl
theorem acall29 {args : List AV} (hn : args.length ≤ 16) {H : Heap} {v : AV} {H' : Heap} (h : ac Try.prog c29 (argEnv 0 args) H (Fin H rs29 v H')) : ACall Try.prog 29 args H v H' :=
  acall Try.func29 (c := Try.f29.body.getD .skip) rfl k29 (by kernel_rfl) hn h
theorem acallK29 {args : List AV} (hn : args.length ≤ 16) {H : Heap} {v : AV} {H' : Heap} (h : ac Try.prog c29 (argEnv 0 args) H (FinK rs29 v H')) : ACall Try.prog 29 args H v H' :=
  acallK Try.func29 (c := Try.f29.body.getD .skip) rfl k29 (by kernel_rfl) hn h

/- alidade/qfix.Mul -/
def c30 : SC :=
  (.seq (.reg [⟨some 4, .mv, [.c (.int .i64 0)], none, []⟩,
    ⟨some 5, .mv, [.c (.bool false)], none, [4]⟩])
  (.seq (.reg [⟨some 13, .mv, [.r 0], none, [0, 5]⟩,
    ⟨some 14, .mv, [.r 1], none, [1]⟩,
    ⟨some 15, (.call 50), [.r 13, .r 14], none, [13, 14]⟩,
    ⟨some 12, .mv, [.r 15], none, [15]⟩,
    ⟨some 16, (.ext 0), [.r 12], none, []⟩,
    ⟨some 17, (.ext 1), [.r 12], none, []⟩,
    ⟨some 18, (.ext 2), [.r 12], none, [12]⟩,
    ⟨some 0, .mv, [.r 16], none, [16]⟩,
    ⟨some 1, .mv, [.r 17], none, [17]⟩,
    ⟨some 6, .mv, [.r 18], none, [18]⟩])
  (.seq (.reg [⟨some 20, .mv, [.r 0], none, []⟩,
    ⟨some 21, (.call 52), [.r 20], none, [20]⟩,
    ⟨some 22, .mv, [.r 1], none, []⟩,
    ⟨some 23, (.call 52), [.r 22], none, [22]⟩,
    ⟨some 24, (.call 51), [.r 21, .r 23], none, [21, 23]⟩,
    ⟨some 19, .mv, [.r 24], none, [24]⟩,
    ⟨some 25, (.ext 0), [.r 19], none, []⟩,
    ⟨some 26, (.ext 1), [.r 19], none, [19]⟩,
    ⟨some 7, .mv, [.r 25], none, [25]⟩,
    ⟨some 8, .mv, [.r 26], none, [26]⟩])
  (.seq (.reg [⟨some 27, .mv, [.r 8], none, []⟩,
    ⟨some 28, (.bin .and), [.r 27, .c (.int .u64 16777215)], none, [27]⟩,
    ⟨some 9, .mv, [.r 28], none, [28]⟩])
  (.seq (.reg [⟨some 29, .mv, [.r 8], none, [8]⟩,
    ⟨some 30, (.bin .shr), [.r 29, .c (.int .u64 24)], none, [29]⟩,
    ⟨some 31, .mv, [.r 7], none, []⟩,
    ⟨some 32, (.bin .shl), [.r 31, .c (.int .u64 40)], none, [31]⟩,
    ⟨some 33, (.bin .or), [.r 30, .r 32], none, [30, 32]⟩,
    ⟨some 8, .mv, [.r 33], none, [33]⟩])
  (.seq (.reg [⟨some 34, .mv, [.r 7], none, [7]⟩,
    ⟨some 35, (.bin .shr), [.r 34, .c (.int .u64 24)], none, [34]⟩,
    ⟨some 7, .mv, [.r 35], none, [35]⟩])
  (.seq (.seq (.reg [⟨some 36, .mv, [.r 9], none, []⟩,
    ⟨some 37, (.bin .gtr), [.r 36, .c (.int .u64 8388608)], none, [36]⟩,
    ⟨some 38, .mv, [.r 37], none, [37]⟩,
    ⟨some 39, .mv, [.r 9], (some (38, false)), [9]⟩,
    ⟨some 40, (.bin .eql), [.r 39, .c (.int .u64 8388608)], (some (38, false)), [39]⟩,
    ⟨some 41, .mv, [.r 40], (some (38, false)), [40]⟩,
    ⟨some 42, .mv, [.r 8], (some (41, true)), []⟩,
    ⟨some 43, (.bin .and), [.r 42, .c (.int .u64 1)], (some (41, true)), [42]⟩,
    ⟨some 44, (.bin .eql), [.r 43, .c (.int .u64 1)], (some (41, true)), [43]⟩,
    ⟨some 45, .pick, [.r 41, .r 44, .c (.bool false)], (some (38, false)), [41, 44]⟩,
    ⟨some 46, .pick, [.r 38, .c (.bool true), .r 45], none, [38, 45]⟩])
  (.cond (.r 46)
    (.kl [46] (.reg [⟨some 47, .mv, [.r 8], none, [8]⟩,
      ⟨some 48, (.bin .add), [.r 47, .c (.int .u64 1)], none, [47]⟩,
      ⟨some 8, .mv, [.r 48], none, [48]⟩]))
    (.kl [46] .skip)))
  (.seq (.reg [⟨some 50, .mv, [.r 7], none, [7]⟩,
    ⟨some 51, .mv, [.r 8], none, [8]⟩,
    ⟨some 52, .mv, [.r 0], none, [0]⟩,
    ⟨some 53, (.bin .lss), [.r 52, .c (.int .i64 0)], none, [52]⟩,
    ⟨some 54, .mv, [.r 1], none, [1]⟩,
    ⟨some 55, (.bin .lss), [.r 54, .c (.int .i64 0)], none, [54]⟩,
    ⟨some 56, (.eqb true), [.r 53, .r 55], none, [53, 55]⟩,
    ⟨some 57, (.call 53), [.r 50, .r 51, .r 56], none, [50, 51, 56]⟩,
    ⟨some 49, .mv, [.r 57], none, [57]⟩,
    ⟨some 58, (.ext 0), [.r 49], none, []⟩,
    ⟨some 59, (.ext 1), [.r 49], none, [49]⟩,
    ⟨some 10, .mv, [.r 58], none, [58]⟩,
    ⟨some 11, .mv, [.r 59], none, [59]⟩])
  (.seq (.reg [⟨some 60, .mv, [.r 10], none, [10]⟩,
    ⟨some 61, .mv, [.r 6], none, [6]⟩,
    ⟨some 62, .mv, [.r 61], none, [61]⟩,
    ⟨some 63, .mv, [.r 11], (some (62, false)), [11]⟩,
    ⟨some 64, .pick, [.r 62, .c (.bool true), .r 63], none, [62, 63]⟩,
    ⟨some 4, .mv, [.r 60], none, [60]⟩,
    ⟨some 5, .mv, [.r 64], none, [64]⟩])
  .ret)))))))))
def rs30 : List SR := [.tmp 4, .tmp 5]
theorem k30 : okC Try.prog 65 (Try.f30.body.getD .skip) c30 = true := by kernel_rfl
theorem acall30 {args : List AV} (hn : args.length ≤ 65) {H : Heap} {v : AV} {H' : Heap} (h : ac Try.prog c30 (argEnv 0 args) H (Fin H rs30 v H')) : ACall Try.prog 30 args H v H' :=
  acall Try.func30 (c := Try.f30.body.getD .skip) rfl k30 (by kernel_rfl) hn h
theorem acallK30 {args : List AV} (hn : args.length ≤ 65) {H : Heap} {v : AV} {H' : Heap} (h : ac Try.prog c30 (argEnv 0 args) H (FinK rs30 v H')) : ACall Try.prog 30 args H v H' :=
  acallK Try.func30 (c := Try.f30.body.getD .skip) rfl k30 (by kernel_rfl) hn h

/- alidade/mat.at -/
def c31 : SC :=
  (.seq (.reg [⟨some 3, .box, [.r 0], none, [0]⟩,
    ⟨some 6, .mv, [.c (.int .i64 0)], none, []⟩])
  (.seq (.reg [⟨some 7, (.faddr 2), [.r 3], none, [6]⟩,
    ⟨some 8, .ld1, [.r 7], none, [7]⟩,
    ⟨some 9, .mv, [.r 1], none, [1]⟩,
    ⟨some 10, (.faddr 1), [.r 3], none, [3]⟩,
    ⟨some 11, .ld1, [.r 10], none, [10]⟩,
    ⟨some 12, (.bin .mul), [.r 9, .r 11], none, [9, 11]⟩,
    ⟨some 13, .mv, [.r 2], none, [2]⟩,
    ⟨some 14, (.bin .add), [.r 12, .r 13], none, [12, 13]⟩,
    ⟨some 15, (.iaddrS 1), [.r 8, .r 14], none, [8, 14]⟩,
    ⟨some 16, .ld1, [.r 15], none, [15]⟩,
    ⟨some 6, .mv, [.r 16], none, [16]⟩])
  .ret))
def rs31 : List SR := [.tmp 6]
theorem k31 : okC Try.prog 17 (Try.f31.body.getD .skip) c31 = true := by kernel_rfl
theorem acall31 {args : List AV} (hn : args.length ≤ 17) {H : Heap} {v : AV} {H' : Heap} (h : ac Try.prog c31 (argEnv 0 args) H (Fin H rs31 v H')) : ACall Try.prog 31 args H v H' :=
  acall Try.func31 (c := Try.f31.body.getD .skip) rfl k31 (by kernel_rfl) hn h
theorem acallK31 {args : List AV} (hn : args.length ≤ 17) {H : Heap} {v : AV} {H' : Heap} (h : ac Try.prog c31 (argEnv 0 args) H (FinK rs31 v H')) : ACall Try.prog 31 args H v H' :=
  acallK Try.func31 (c := Try.f31.body.getD .skip) rfl k31 (by kernel_rfl) hn h

/- alidade/alidaderef01.Clamp -/
def c32 : SC :=
  (.seq (.reg [⟨some 2, .mv, [.c (.int .i64 0)], none, []⟩,
    ⟨some 3, .mv, [.c (.bool false)], none, [2]⟩])
  (.seq (.seq (.reg [⟨some 4, .mv, [.r 0], none, [3]⟩,
    ⟨some 5, (.bin .gtr), [.r 4, .c (.int .i64 70368744177663)], none, [4]⟩])
  (.cond (.r 5)
    (.kl [0, 5] (.seq (.reg [⟨some 2, .mv, [.c (.int .i64 70368744177663)], none, []⟩,
      ⟨some 3, .mv, [.c (.bool true)], none, []⟩])
    .ret))
    (.kl [5] .skip)))
  (.seq (.seq (.reg [⟨some 6, .mv, [.r 0], none, []⟩,
    ⟨some 7, (.bin .lss), [.r 6, .c (.int .i64 (-70368744177664))], none, [6]⟩])
  (.cond (.r 7)
    (.kl [0, 7] (.seq (.reg [⟨some 2, .mv, [.c (.int .i64 (-70368744177664))], none, []⟩,
      ⟨some 3, .mv, [.c (.bool true)], none, []⟩])
    .ret))
    (.kl [7] .skip)))
  (.seq (.reg [⟨some 8, .mv, [.r 0], none, [0]⟩,
    ⟨some 2, .mv, [.r 8], none, [8]⟩,
    ⟨some 3, .mv, [.c (.bool false)], none, []⟩])
  .ret))))
def rs32 : List SR := [.tmp 2, .tmp 3]
theorem k32 : okC Try.prog 9 (Try.f32.body.getD .skip) c32 = true := by kernel_rfl
theorem acall32 {args : List AV} (hn : args.length ≤ 9) {H : Heap} {v : AV} {H' : Heap} (h : ac Try.prog c32 (argEnv 0 args) H (Fin H rs32 v H')) : ACall Try.prog 32 args H v H' :=
  acall Try.func32 (c := Try.f32.body.getD .skip) rfl k32 (by kernel_rfl) hn h
theorem acallK32 {args : List AV} (hn : args.length ≤ 9) {H : Heap} {v : AV} {H' : Heap} (h : ac Try.prog c32 (argEnv 0 args) H (FinK rs32 v H')) : ACall Try.prog 32 args H v H' :=
  acallK Try.func32 (c := Try.f32.body.getD .skip) rfl k32 (by kernel_rfl) hn h

/- alidade/alidaderef01.abs -/
def c33 : SC :=
  (.seq (.reg [⟨some 2, .mv, [.c (.int .i64 0)], none, []⟩])
  (.seq (.seq (.reg [⟨some 3, .mv, [.r 0], none, [2]⟩,
    ⟨some 4, (.bin .lss), [.r 3, .c (.int .i64 0)], none, [3]⟩])
  (.cond (.r 4)
    (.kl [4] (.seq (.reg [⟨some 5, .mv, [.r 0], none, [0]⟩,
      ⟨some 6, (.bin .sub), [.c (.int .i64 0), .r 5], none, [5]⟩,
      ⟨some 2, .mv, [.r 6], none, [6]⟩])
    .ret))
    (.kl [4] .skip)))
  (.seq (.reg [⟨some 7, .mv, [.r 0], none, [0]⟩,
    ⟨some 2, .mv, [.r 7], none, [7]⟩])
  .ret)))
def rs33 : List SR := [.tmp 2]
theorem k33 : okC Try.prog 8 (Try.f33.body.getD .skip) c33 = true := by kernel_rfl
theorem acall33 {args : List AV} (hn : args.length ≤ 8) {H : Heap} {v : AV} {H' : Heap} (h : ac Try.prog c33 (argEnv 0 args) H (Fin H rs33 v H')) : ACall Try.prog 33 args H v H' :=
  acall Try.func33 (c := Try.f33.body.getD .skip) rfl k33 (by kernel_rfl) hn h
theorem acallK33 {args : List AV} (hn : args.length ≤ 8) {H : Heap} {v : AV} {H' : Heap} (h : ac Try.prog c33 (argEnv 0 args) H (FinK rs33 v H')) : ACall Try.prog 33 args H v H' :=
  acallK Try.func33 (c := Try.f33.body.getD .skip) rfl k33 (by kernel_rfl) hn h

/- alidade/alidaderef01.back -/
def c34 : SC :=
  (.seq (.reg [⟨some 6, .mv, [.c (.int .i64 0)], none, []⟩,
    ⟨some 7, .mv, [.c (.bool false)], none, [6]⟩])
  (.seq (.seq (.reg [⟨some 8, .mv, [.r 2], none, [2, 7]⟩])
  (.cond (.r 8)
    (.kl [8] (.seq (.seq (.reg [⟨some 9, .mv, [.r 1], none, [1]⟩,
      ⟨some 10, .mv, [.r 9], none, [9]⟩,
      ⟨some 11, .mv, [.r 0], (some (10, false)), []⟩,
      ⟨some 12, (.bin .gtr), [.r 11, .c (.int .i64 70368744177664)], (some (10, false)), [11]⟩,
      ⟨some 13, .pick, [.r 10, .c (.bool true), .r 12], none, [10, 12]⟩])
    (.cond (.r 13)
      (.kl [0, 13] (.seq (.reg [⟨some 6, .mv, [.c (.int .i64 (-70368744177664))], none, []⟩,
        ⟨some 7, .mv, [.c (.bool true)], none, []⟩])
      .ret))
      (.kl [13] .skip)))
    (.seq (.reg [⟨some 14, .mv, [.r 0], none, [0]⟩,
      ⟨some 15, (.bin .sub), [.c (.int .i64 0), .r 14], none, [14]⟩,
      ⟨some 6, .mv, [.r 15], none, [15]⟩,
      ⟨some 7, .mv, [.c (.bool false)], none, []⟩])
    .ret)))
    (.kl [8] .skip)))
  (.seq (.seq (.reg [⟨some 16, .mv, [.r 1], none, [1]⟩,
    ⟨some 17, .mv, [.r 16], none, [16]⟩,
    ⟨some 18, .mv, [.r 0], (some (17, false)), []⟩,
    ⟨some 19, (.bin .gtr), [.r 18, .c (.int .i64 70368744177663)], (some (17, false)), [18]⟩,
    ⟨some 20, .pick, [.r 17, .c (.bool true), .r 19], none, [17, 19]⟩])
  (.cond (.r 20)
    (.kl [0, 20] (.seq (.reg [⟨some 6, .mv, [.c (.int .i64 70368744177663)], none, []⟩,
      ⟨some 7, .mv, [.c (.bool true)], none, []⟩])
    .ret))
    (.kl [20] .skip)))
  (.seq (.reg [⟨some 21, .mv, [.r 0], none, [0]⟩,
    ⟨some 6, .mv, [.r 21], none, [21]⟩,
    ⟨some 7, .mv, [.c (.bool false)], none, []⟩])
  .ret))))
def rs34 : List SR := [.tmp 6, .tmp 7]
theorem k34 : okC Try.prog 22 (Try.f34.body.getD .skip) c34 = true := by kernel_rfl
theorem acall34 {args : List AV} (hn : args.length ≤ 22) {H : Heap} {v : AV} {H' : Heap} (h : ac Try.prog c34 (argEnv 0 args) H (Fin H rs34 v H')) : ACall Try.prog 34 args H v H' :=
  acall Try.func34 (c := Try.f34.body.getD .skip) rfl k34 (by kernel_rfl) hn h
theorem acallK34 {args : List AV} (hn : args.length ≤ 22) {H : Heap} {v : AV} {H' : Heap} (h : ac Try.prog c34 (argEnv 0 args) H (FinK rs34 v H')) : ACall Try.prog 34 args H v H' :=
  acallK Try.func34 (c := Try.f34.body.getD .skip) rfl k34 (by kernel_rfl) hn h

/- alidade/mat.each -/
def c35 : SC :=
  (.seq (.reg [⟨some 3, .box, [.r 0], none, [0]⟩,
    ⟨some 4, .box, [.r 1], none, [1]⟩,
    ⟨some 5, .box, [.r 2], none, [2]⟩,
    ⟨some 6, (.alloc [(.int .i64 0), (.int .i64 0), .nils]), [], none, []⟩,
    ⟨some 7, .mv, [.c (.bool false)], none, []⟩,
    ⟨some 8, .mv, [.c (.int .i64 0)], none, [7]⟩])
  (.seq (.seq (.dreg [⟨0, 0, false, false, ⟨some 11, (.ldn 3), [.r 3], none, [8]⟩⟩,
    ⟨1, 1, false, true, ⟨some 12, (.call 28), [.r 11], none, [11]⟩⟩,
    ⟨2, 0, false, false, ⟨some 13, (.ldn 3), [.r 4], none, []⟩⟩,
    ⟨3, 7, false, false, ⟨some 14, (.call 28), [.r 13], none, [13]⟩⟩,
    ⟨4, 15, false, false, ⟨some 15, (.eqv true [.int, .int]), [.r 12, .r 14], none, [12, 14]⟩⟩])
  (.cond (.r 15)
    (.kl [3, 4, 5, 15] (.seq (.reg [⟨some 16, (.build [(.int .i64 0), (.int .i64 0), .nils] []), [], none, []⟩,
      ⟨none, (.st 3), [.r 6, .r 16], none, [16]⟩,
      ⟨some 7, .mv, [.c (.bool false)], none, []⟩,
      ⟨some 8, .mv, [.c (.int .i64 9)], none, []⟩])
    .ret))
    (.kl [15] .skip)))
  (.seq (.reg [⟨some 18, (.ldn 3), [.r 3], none, []⟩,
    ⟨some 19, (.call 28), [.r 18], none, [18]⟩,
    ⟨some 20, (.mkfn (.func 54) 0), [.r 5, .r 3, .r 4], none, [3, 4, 5]⟩,
    ⟨some 21, (.call 27), [.r 19, .r 20], none, [19, 20]⟩,
    ⟨some 17, .mv, [.r 21], none, [21]⟩,
    ⟨some 22, (.ext 0), [.r 17], none, []⟩,
    ⟨some 23, (.ext 1), [.r 17], none, [17]⟩,
    ⟨some 9, (.alloc [(.int .i64 0), (.int .i64 0), .nils]), [], none, []⟩,
    ⟨none, (.st 3), [.r 9, .r 22], none, [22]⟩,
    ⟨some 10, .mv, [.r 23], none, [23]⟩])
  (.seq (.reg [⟨some 24, (.ldn 3), [.r 9], none, [9]⟩,
    ⟨some 25, .mv, [.r 10], none, [10]⟩,
    ⟨none, (.st 3), [.r 6, .r 24], none, [24]⟩,
    ⟨some 7, .mv, [.r 25], none, [25]⟩,
    ⟨some 8, .mv, [.c (.int .i64 0)], none, []⟩])
  .ret))))
def rs35 : List SR := [.celln 6 3, .tmp 7, .tmp 8]
theorem k35 : okC Try.prog 26 (Try.f35.body.getD .skip) c35 = true := by kernel_rfl
theorem acall35 {args : List AV} (hn : args.length ≤ 26) {H : Heap} {v : AV} {H' : Heap} (h : ac Try.prog c35 (argEnv 0 args) H (Fin H rs35 v H')) : ACall Try.prog 35 args H v H' :=
  acall Try.func35 (c := Try.f35.body.getD .skip) rfl k35 (by kernel_rfl) hn h
theorem acallK35 {args : List AV} (hn : args.length ≤ 26) {H : Heap} {v : AV} {H' : Heap} (h : ac Try.prog c35 (argEnv 0 args) H (FinK rs35 v H')) : ACall Try.prog 35 args H v H' :=
  acallK Try.func35 (c := Try.f35.body.getD .skip) rfl k35 (by kernel_rfl) hn h

/- alidade/qfix.Add -/
def c36 : SC :=
  (.seq (.reg [⟨some 4, .mv, [.c (.int .i64 0)], none, []⟩,
    ⟨some 5, .mv, [.c (.bool false)], none, [4]⟩])
  (.seq (.reg [⟨some 10, .mv, [.r 0], none, [0, 5]⟩,
    ⟨some 11, .mv, [.r 1], none, [1]⟩,
    ⟨some 12, (.call 50), [.r 10, .r 11], none, [10, 11]⟩,
    ⟨some 9, .mv, [.r 12], none, [12]⟩,
    ⟨some 13, (.ext 0), [.r 9], none, []⟩,
    ⟨some 14, (.ext 1), [.r 9], none, []⟩,
    ⟨some 15, (.ext 2), [.r 9], none, [9]⟩,
    ⟨some 0, .mv, [.r 13], none, [13]⟩,
    ⟨some 1, .mv, [.r 14], none, [14]⟩,
    ⟨some 6, .mv, [.r 15], none, [15]⟩])
  (.seq (.reg [⟨some 17, .mv, [.r 0], none, [0]⟩,
    ⟨some 18, .mv, [.r 1], none, [1]⟩,
    ⟨some 19, (.bin .add), [.r 17, .r 18], none, [17, 18]⟩,
    ⟨some 20, (.call 55), [.r 19], none, [19]⟩,
    ⟨some 16, .mv, [.r 20], none, [20]⟩,
    ⟨some 21, (.ext 0), [.r 16], none, []⟩,
    ⟨some 22, (.ext 1), [.r 16], none, [16]⟩,
    ⟨some 7, .mv, [.r 21], none, [21]⟩,
    ⟨some 8, .mv, [.r 22], none, [22]⟩])
  (.seq (.reg [⟨some 23, .mv, [.r 7], none, [7]⟩,
    ⟨some 24, .mv, [.r 6], none, [6]⟩,
    ⟨some 25, .mv, [.r 24], none, [24]⟩,
    ⟨some 26, .mv, [.r 8], (some (25, false)), [8]⟩,
    ⟨some 27, .pick, [.r 25, .c (.bool true), .r 26], none, [25, 26]⟩,
    ⟨some 4, .mv, [.r 23], none, [23]⟩,
    ⟨some 5, .mv, [.r 27], none, [27]⟩])
  .ret))))
def rs36 : List SR := [.tmp 4, .tmp 5]
theorem k36 : okC Try.prog 28 (Try.f36.body.getD .skip) c36 = true := by kernel_rfl
theorem acall36 {args : List AV} (hn : args.length ≤ 28) {H : Heap} {v : AV} {H' : Heap} (h : ac Try.prog c36 (argEnv 0 args) H (Fin H rs36 v H')) : ACall Try.prog 36 args H v H' :=
  acall Try.func36 (c := Try.f36.body.getD .skip) rfl k36 (by kernel_rfl) hn h
theorem acallK36 {args : List AV} (hn : args.length ≤ 28) {H : Heap} {v : AV} {H' : Heap} (h : ac Try.prog c36 (argEnv 0 args) H (FinK rs36 v H')) : ACall Try.prog 36 args H v H' :=
  acallK Try.func36 (c := Try.f36.body.getD .skip) rfl k36 (by kernel_rfl) hn h

/- alidade/qfix.Sub -/
def c37 : SC :=
  (.seq (.reg [⟨some 4, .mv, [.c (.int .i64 0)], none, []⟩,
    ⟨some 5, .mv, [.c (.bool false)], none, [4]⟩])
  (.seq (.reg [⟨some 10, .mv, [.r 0], none, [0, 5]⟩,
    ⟨some 11, .mv, [.r 1], none, [1]⟩,
    ⟨some 12, (.call 50), [.r 10, .r 11], none, [10, 11]⟩,
    ⟨some 9, .mv, [.r 12], none, [12]⟩,
    ⟨some 13, (.ext 0), [.r 9], none, []⟩,
    ⟨some 14, (.ext 1), [.r 9], none, []⟩,
    ⟨some 15, (.ext 2), [.r 9], none, [9]⟩,
    ⟨some 0, .mv, [.r 13], none, [13]⟩,
    ⟨some 1, .mv, [.r 14], none, [14]⟩,
    ⟨some 6, .mv, [.r 15], none, [15]⟩])
  (.seq (.reg [⟨some 17, .mv, [.r 0], none, [0]⟩,
    ⟨some 18, .mv, [.r 1], none, [1]⟩,
    ⟨some 19, (.bin .sub), [.r 17, .r 18], none, [17, 18]⟩,
    ⟨some 20, (.call 55), [.r 19], none, [19]⟩,
    ⟨some 16, .mv, [.r 20], none, [20]⟩,
    ⟨some 21, (.ext 0), [.r 16], none, []⟩,
    ⟨some 22, (.ext 1), [.r 16], none, [16]⟩,
    ⟨some 7, .mv, [.r 21], none, [21]⟩,
    ⟨some 8, .mv, [.r 22], none, [22]⟩])
  (.seq (.reg [⟨some 23, .mv, [.r 7], none, [7]⟩,
    ⟨some 24, .mv, [.r 6], none, [6]⟩,
    ⟨some 25, .mv, [.r 24], none, [24]⟩,
    ⟨some 26, .mv, [.r 8], (some (25, false)), [8]⟩,
    ⟨some 27, .pick, [.r 25, .c (.bool true), .r 26], none, [25, 26]⟩,
    ⟨some 4, .mv, [.r 23], none, [23]⟩,
    ⟨some 5, .mv, [.r 27], none, [27]⟩])
  .ret))))
def rs37 : List SR := [.tmp 4, .tmp 5]
theorem k37 : okC Try.prog 28 (Try.f37.body.getD .skip) c37 = true := by kernel_rfl
theorem acall37 {args : List AV} (hn : args.length ≤ 28) {H : Heap} {v : AV} {H' : Heap} (h : ac Try.prog c37 (argEnv 0 args) H (Fin H rs37 v H')) : ACall Try.prog 37 args H v H' :=
  acall Try.func37 (c := Try.f37.body.getD .skip) rfl k37 (by kernel_rfl) hn h
theorem acallK37 {args : List AV} (hn : args.length ≤ 28) {H : Heap} {v : AV} {H' : Heap} (h : ac Try.prog c37 (argEnv 0 args) H (FinK rs37 v H')) : ACall Try.prog 37 args H v H' :=
  acallK Try.func37 (c := Try.f37.body.getD .skip) rfl k37 (by kernel_rfl) hn h

/- alidade/mat.Even$1 -/
def c38 : SC :=
  (.seq (.reg [⟨some 4, .mv, [.c (.int .i64 0)], none, []⟩,
    ⟨some 5, .mv, [.c (.bool false)], none, [4]⟩])
  (.seq (.reg [⟨some 6, .mv, [.r 0], none, [0, 5]⟩,
    ⟨some 7, .mv, [.r 1], none, [1]⟩,
    ⟨some 8, (.bin .add), [.r 6, .r 7], none, [6, 7]⟩,
    ⟨some 9, (.call 39), [.r 8, .c (.int .i64 1)], none, [8]⟩,
    ⟨some 4, .mv, [.r 9], none, [9]⟩,
    ⟨some 5, .mv, [.c (.bool false)], none, []⟩])
  .ret))
def rs38 : List SR := [.tmp 4, .tmp 5]
theorem k38 : okC Try.prog 10 (Try.f38.body.getD .skip) c38 = true := by kernel_rfl
theorem acall38 {args : List AV} (hn : args.length ≤ 10) {H : Heap} {v : AV} {H' : Heap} (h : ac Try.prog c38 (argEnv 0 args) H (Fin H rs38 v H')) : ACall Try.prog 38 args H v H' :=
  acall Try.func38 (c := Try.f38.body.getD .skip) rfl k38 (by kernel_rfl) hn h
theorem acallK38 {args : List AV} (hn : args.length ≤ 10) {H : Heap} {v : AV} {H' : Heap} (h : ac Try.prog c38 (argEnv 0 args) H (FinK rs38 v H')) : ACall Try.prog 38 args H v H' :=
  acallK Try.func38 (c := Try.f38.body.getD .skip) rfl k38 (by kernel_rfl) hn h

/- alidade/qfix.Half -/
def c39 : SC :=
  (.seq (.reg [⟨some 4, .mv, [.c (.int .i64 0)], none, []⟩])
  (.seq (.reg [⟨some 7, .mv, [.r 1], none, [1, 4]⟩,
    ⟨some 8, .mx, [.r 7, .c (.int .i64 0)], none, [7]⟩,
    ⟨some 9, .mn, [.r 8, .c (.int .i64 62)], none, [8]⟩,
    ⟨some 1, .mv, [.r 9], none, [9]⟩])
  (.seq (.reg [⟨some 10, .mv, [.r 0], none, []⟩,
    ⟨some 11, .mv, [.r 1], none, []⟩,
    ⟨some 12, (.bin .shr), [.r 10, .r 11], none, [10, 11]⟩,
    ⟨some 5, .mv, [.r 12], none, [12]⟩])
  (.seq (.reg [⟨some 13, .mv, [.r 0], none, [0]⟩,
    ⟨some 14, (.conv .u64), [.r 13], none, [13]⟩,
    ⟨some 15, .mv, [.r 1], none, []⟩,
    ⟨some 16, (.bin .shl), [.c (.int .u64 1), .r 15], none, [15]⟩,
    ⟨some 17, (.bin .sub), [.r 16, .c (.int .u64 1)], none, [16]⟩,
    ⟨some 18, (.bin .and), [.r 14, .r 17], none, [14, 17]⟩,
    ⟨some 6, .mv, [.r 18], none, [18]⟩])
  (.seq (.seq (.reg [⟨some 19, .mv, [.r 1], none, []⟩,
    ⟨some 20, (.bin .gtr), [.r 19, .c (.int .i64 0)], none, [19]⟩,
    ⟨some 21, .mv, [.r 20], none, [20]⟩,
    ⟨some 22, .mv, [.r 6], (some (21, true)), []⟩,
    ⟨some 23, .mv, [.r 1], (some (21, true)), []⟩,
    ⟨some 24, (.bin .sub), [.r 23, .c (.int .i64 1)], (some (21, true)), [23]⟩,
    ⟨some 25, (.bin .shl), [.c (.int .u64 1), .r 24], (some (21, true)), [24]⟩,
    ⟨some 26, (.bin .gtr), [.r 22, .r 25], (some (21, true)), [22, 25]⟩,
    ⟨some 27, .mv, [.r 26], (some (21, true)), [26]⟩,
    ⟨some 28, .mv, [.r 6], (some (27, false)), [6]⟩,
    ⟨some 29, .mv, [.r 1], (some (27, false)), [1]⟩,
    ⟨some 30, (.bin .sub), [.r 29, .c (.int .i64 1)], (some (27, false)), [29]⟩,
    ⟨some 31, (.bin .shl), [.c (.int .u64 1), .r 30], (some (27, false)), [30]⟩,
    ⟨some 32, (.bin .eql), [.r 28, .r 31], (some (27, false)), [28, 31]⟩,
    ⟨some 33, .mv, [.r 32], (some (27, false)), [32]⟩,
    ⟨some 34, .mv, [.r 5], (some (33, true)), []⟩,
    ⟨some 35, (.bin .and), [.r 34, .c (.int .i64 1)], (some (33, true)), [34]⟩,
    ⟨some 36, (.bin .eql), [.r 35, .c (.int .i64 1)], (some (33, true)), [35]⟩,
    ⟨some 37, .pick, [.r 33, .r 36, .c (.bool false)], (some (27, false)), [33, 36]⟩,
    ⟨some 38, .pick, [.r 27, .c (.bool true), .r 37], (some (21, true)), [27, 37]⟩,
    ⟨some 39, .pick, [.r 21, .r 38, .c (.bool false)], none, [21, 38]⟩])
  (.cond (.r 39)
    (.kl [39] (.reg [⟨some 40, .mv, [.r 5], none, [5]⟩,
      ⟨some 41, (.bin .add), [.r 40, .c (.int .i64 1)], none, [40]⟩,
      ⟨some 5, .mv, [.r 41], none, [41]⟩]))
    (.kl [39] .skip)))
  (.seq (.reg [⟨some 42, .mv, [.r 5], none, [5]⟩,
    ⟨some 4, .mv, [.r 42], none, [42]⟩])
  .ret))))))
def rs39 : List SR := [.tmp 4]
theorem k39 : okC Try.prog 43 (Try.f39.body.getD .skip) c39 = true := by kernel_rfl
theorem acall39 {args : List AV} (hn : args.length ≤ 43) {H : Heap} {v : AV} {H' : Heap} (h : ac Try.prog c39 (argEnv 0 args) H (Fin H rs39 v H')) : ACall Try.prog 39 args H v H' :=
  acall Try.func39 (c := Try.f39.body.getD .skip) rfl k39 (by kernel_rfl) hn h
theorem acallK39 {args : List AV} (hn : args.length ≤ 43) {H : Heap} {v : AV} {H' : Heap} (h : ac Try.prog c39 (argEnv 0 args) H (FinK rs39 v H')) : ACall Try.prog 39 args H v H' :=
  acallK Try.func39 (c := Try.f39.body.getD .skip) rfl k39 (by kernel_rfl) hn h

/- alidade/mat.Trans$1 -/
def c40 : SC :=
  (.seq (.reg [⟨some 5, .mv, [.c (.int .i64 0)], none, []⟩,
    ⟨some 6, .mv, [.c (.bool false)], none, [5]⟩])
  (.seq (.reg [⟨some 7, (.ldn 3), [.r 2], none, [2, 6]⟩,
    ⟨some 8, .mv, [.r 1], none, [1]⟩,
    ⟨some 9, .mv, [.r 0], none, [0]⟩,
    ⟨some 10, (.call 31), [.r 7, .r 8, .r 9], none, [7, 8, 9]⟩,
    ⟨some 5, .mv, [.r 10], none, [10]⟩,
    ⟨some 6, .mv, [.c (.bool false)], none, []⟩])
  .ret))
def rs40 : List SR := [.tmp 5, .tmp 6]
theorem k40 : okC Try.prog 11 (Try.f40.body.getD .skip) c40 = true := by kernel_rfl
theorem acall40 {args : List AV} (hn : args.length ≤ 11) {H : Heap} {v : AV} {H' : Heap} (h : ac Try.prog c40 (argEnv 0 args) H (Fin H rs40 v H')) : ACall Try.prog 40 args H v H' :=
  acall Try.func40 (c := Try.f40.body.getD .skip) rfl k40 (by kernel_rfl) hn h
theorem acallK40 {args : List AV} (hn : args.length ≤ 11) {H : Heap} {v : AV} {H' : Heap} (h : ac Try.prog c40 (argEnv 0 args) H (FinK rs40 v H')) : ACall Try.prog 40 args H v H' :=
  acallK Try.func40 (c := Try.f40.body.getD .skip) rfl k40 (by kernel_rfl) hn h

/- alidade/alidaderef03.None -/
def c41l0 : SC :=
  (.seq (.seq (.reg [⟨some 7, .mv, [.r 6], none, []⟩,
      ⟨some 8, .mv, [.r 0], none, []⟩,
      ⟨some 9, .mv, [.r 1], none, []⟩,
      ⟨some 10, (.bin .mul), [.r 8, .r 9], none, [8, 9]⟩,
      ⟨some 11, (.bin .lss), [.r 7, .r 10], none, [7, 10]⟩])
    (.cond (.r 11)
      (.kl [11] .skip)
      (.kl [6, 11] (.exit 0))))
    (.seq (.block 1 (.reg [⟨some 14, .mv, [.r 5], none, [5]⟩,
      ⟨some 15, (.bslice 1 1 [(.int .i64 0)] [(0, 1)]), [.c (.int .i64 0)], none, []⟩,
      ⟨some 16, (.app 1 8), [.r 14, .r 15], none, [14, 15]⟩,
      ⟨some 5, .mv, [.r 16], none, [16]⟩]))
    (.reg [⟨some 12, .mv, [.r 6], none, [6]⟩,
      ⟨some 13, (.bin .add), [.r 12, .c (.int .i64 1)], none, [12]⟩,
      ⟨some 6, .mv, [.r 13], none, [13]⟩])))
def c41 : SC :=
  (.seq (.reg [⟨some 4, (.alloc [(.int .i64 0), (.int .i64 0), .nils]), [], none, []⟩])
  (.seq (.reg [⟨some 5, .mv, [.c .nils], none, []⟩])
  (.seq (.seq (.reg [⟨some 6, .mv, [.c (.int .i64 0)], none, []⟩])
  (.block 0 (.loop c41l0)))
  (.seq (.reg [⟨some 17, .mv, [.r 0], none, [0]⟩,
    ⟨some 18, .mv, [.r 1], none, [1]⟩,
    ⟨some 19, .mv, [.r 5], none, [5]⟩,
    ⟨some 20, (.build [(.int .i64 0), (.int .i64 0), .nils] [(0, 1), (1, 1), (2, 1)]), [.r 17, .r 18, .r 19], none, [17, 18, 19]⟩,
    ⟨none, (.st 3), [.r 4, .r 20], none, [20]⟩])
  .ret))))
def rs41 : List SR := [.celln 4 3]
theorem k41 : okC Try.prog 21 (Try.f41.body.getD .skip) c41 = true := by kernel_rfl
theorem acall41 {args : List AV} (hn : args.length ≤ 21) {H : Heap} {v : AV} {H' : Heap} (h : ac Try.prog c41 (argEnv 0 args) H (Fin H rs41 v H')) : ACall Try.prog 41 args H v H' :=
  acall Try.func41 (c := Try.f41.body.getD .skip) rfl k41 (by kernel_rfl) hn h
theorem acallK41 {args : List AV} (hn : args.length ≤ 21) {H : Heap} {v : AV} {H' : Heap} (h : ac Try.prog c41 (argEnv 0 args) H (FinK rs41 v H')) : ACall Try.prog 41 args H v H' :=
  acallK Try.func41 (c := Try.f41.body.getD .skip) rfl k41 (by kernel_rfl) hn h

/- alidade/alidaderef01.Add -/
def c42 : SC :=
  (.seq (.reg [⟨some 4, .mv, [.c (.int .i64 0)], none, []⟩,
    ⟨some 5, .mv, [.c (.bool false)], none, [4]⟩])
  (.seq (.reg [⟨some 13, .mv, [.r 0], none, [0, 5]⟩,
    ⟨some 14, (.call 32), [.r 13], none, [13]⟩,
    ⟨some 12, .mv, [.r 14], none, [14]⟩,
    ⟨some 15, (.ext 0), [.r 12], none, []⟩,
    ⟨some 16, (.ext 1), [.r 12], none, [12]⟩,
    ⟨some 6, .mv, [.r 15], none, [15]⟩,
    ⟨some 7, .mv, [.r 16], none, [16]⟩])
  (.seq (.reg [⟨some 18, .mv, [.r 1], none, [1]⟩,
    ⟨some 19, (.call 32), [.r 18], none, [18]⟩,
    ⟨some 17, .mv, [.r 19], none, [19]⟩,
    ⟨some 20, (.ext 0), [.r 17], none, []⟩,
    ⟨some 21, (.ext 1), [.r 17], none, [17]⟩,
    ⟨some 8, .mv, [.r 20], none, [20]⟩,
    ⟨some 9, .mv, [.r 21], none, [21]⟩])
  (.seq (.reg [⟨some 23, .mv, [.r 6], none, [6]⟩,
    ⟨some 24, .mv, [.r 8], none, [8]⟩,
    ⟨some 25, (.bin .add), [.r 23, .r 24], none, [23, 24]⟩,
    ⟨some 26, (.call 32), [.r 25], none, [25]⟩,
    ⟨some 22, .mv, [.r 26], none, [26]⟩,
    ⟨some 27, (.ext 0), [.r 22], none, []⟩,
    ⟨some 28, (.ext 1), [.r 22], none, [22]⟩,
    ⟨some 10, .mv, [.r 27], none, [27]⟩,
    ⟨some 11, .mv, [.r 28], none, [28]⟩])
  (.seq (.reg [⟨some 29, .mv, [.r 10], none, [10]⟩,
    ⟨some 30, .mv, [.r 7], none, [7]⟩,
    ⟨some 31, .mv, [.r 30], none, [30]⟩,
    ⟨some 32, .mv, [.r 9], (some (31, false)), [9]⟩,
    ⟨some 33, .pick, [.r 31, .c (.bool true), .r 32], none, [31, 32]⟩,
    ⟨some 34, .mv, [.r 33], none, [33]⟩,
    ⟨some 35, .mv, [.r 11], (some (34, false)), [11]⟩,
    ⟨some 36, .pick, [.r 34, .c (.bool true), .r 35], none, [34, 35]⟩,
    ⟨some 4, .mv, [.r 29], none, [29]⟩,
    ⟨some 5, .mv, [.r 36], none, [36]⟩])
  .ret)))))
def rs42 : List SR := [.tmp 4, .tmp 5]
theorem k42 : okC Try.prog 37 (Try.f42.body.getD .skip) c42 = true := by kernel_rfl
theorem acall42 {args : List AV} (hn : args.length ≤ 37) {H : Heap} {v : AV} {H' : Heap} (h : ac Try.prog c42 (argEnv 0 args) H (Fin H rs42 v H')) : ACall Try.prog 42 args H v H' :=
  acall Try.func42 (c := Try.f42.body.getD .skip) rfl k42 (by kernel_rfl) hn h
theorem acallK42 {args : List AV} (hn : args.length ≤ 37) {H : Heap} {v : AV} {H' : Heap} (h : ac Try.prog c42 (argEnv 0 args) H (FinK rs42 v H')) : ACall Try.prog 42 args H v H' :=
  acallK Try.func42 (c := Try.f42.body.getD .skip) rfl k42 (by kernel_rfl) hn h

/- alidade/alidaderef01.Sub -/
def c43 : SC :=
  (.seq (.reg [⟨some 4, .mv, [.c (.int .i64 0)], none, []⟩,
    ⟨some 5, .mv, [.c (.bool false)], none, [4]⟩])
  (.seq (.reg [⟨some 13, .mv, [.r 0], none, [0, 5]⟩,
    ⟨some 14, (.call 32), [.r 13], none, [13]⟩,
    ⟨some 12, .mv, [.r 14], none, [14]⟩,
    ⟨some 15, (.ext 0), [.r 12], none, []⟩,
    ⟨some 16, (.ext 1), [.r 12], none, [12]⟩,
    ⟨some 6, .mv, [.r 15], none, [15]⟩,
    ⟨some 7, .mv, [.r 16], none, [16]⟩])
  (.seq (.reg [⟨some 18, .mv, [.r 1], none, [1]⟩,
    ⟨some 19, (.call 32), [.r 18], none, [18]⟩,
    ⟨some 17, .mv, [.r 19], none, [19]⟩,
    ⟨some 20, (.ext 0), [.r 17], none, []⟩,
    ⟨some 21, (.ext 1), [.r 17], none, [17]⟩,
    ⟨some 8, .mv, [.r 20], none, [20]⟩,
    ⟨some 9, .mv, [.r 21], none, [21]⟩])
  (.seq (.reg [⟨some 23, .mv, [.r 6], none, [6]⟩,
    ⟨some 24, .mv, [.r 8], none, [8]⟩,
    ⟨some 25, (.bin .sub), [.r 23, .r 24], none, [23, 24]⟩,
    ⟨some 26, (.call 32), [.r 25], none, [25]⟩,
    ⟨some 22, .mv, [.r 26], none, [26]⟩,
    ⟨some 27, (.ext 0), [.r 22], none, []⟩,
    ⟨some 28, (.ext 1), [.r 22], none, [22]⟩,
    ⟨some 10, .mv, [.r 27], none, [27]⟩,
    ⟨some 11, .mv, [.r 28], none, [28]⟩])
  (.seq (.reg [⟨some 29, .mv, [.r 10], none, [10]⟩,
    ⟨some 30, .mv, [.r 7], none, [7]⟩,
    ⟨some 31, .mv, [.r 30], none, [30]⟩,
    ⟨some 32, .mv, [.r 9], (some (31, false)), [9]⟩,
    ⟨some 33, .pick, [.r 31, .c (.bool true), .r 32], none, [31, 32]⟩,
    ⟨some 34, .mv, [.r 33], none, [33]⟩,
    ⟨some 35, .mv, [.r 11], (some (34, false)), [11]⟩,
    ⟨some 36, .pick, [.r 34, .c (.bool true), .r 35], none, [34, 35]⟩,
    ⟨some 4, .mv, [.r 29], none, [29]⟩,
    ⟨some 5, .mv, [.r 36], none, [36]⟩])
  .ret)))))
def rs43 : List SR := [.tmp 4, .tmp 5]
theorem k43 : okC Try.prog 37 (Try.f43.body.getD .skip) c43 = true := by kernel_rfl
theorem acall43 {args : List AV} (hn : args.length ≤ 37) {H : Heap} {v : AV} {H' : Heap} (h : ac Try.prog c43 (argEnv 0 args) H (Fin H rs43 v H')) : ACall Try.prog 43 args H v H' :=
  acall Try.func43 (c := Try.f43.body.getD .skip) rfl k43 (by kernel_rfl) hn h
theorem acallK43 {args : List AV} (hn : args.length ≤ 37) {H : Heap} {v : AV} {H' : Heap} (h : ac Try.prog c43 (argEnv 0 args) H (FinK rs43 v H')) : ACall Try.prog 43 args H v H' :=
  acallK Try.func43 (c := Try.f43.body.getD .skip) rfl k43 (by kernel_rfl) hn h

/- alidade/mat.Mul$1 -/
def c44l0 : SC :=
  (.seq (.reg [⟨some 18, (.bin .lss), [.r 17, .r 16], none, []⟩])
    (.seq (.cond (.r 18)
      (.kl [18] .skip)
      (.kl [0, 1, 2, 3, 16, 17, 18] (.exit 0)))
    (.seq (.block 1 (.seq (.reg [⟨some 19, .mv, [.r 17], none, []⟩,
      ⟨some 10, .mv, [.r 19], none, [19]⟩])
    (.seq (.dreg [⟨0, 0, false, false, ⟨some 21, (.ldn 3), [.r 2], none, []⟩⟩,
      ⟨1, 0, false, false, ⟨some 22, .mv, [.r 0], none, []⟩⟩,
      ⟨2, 0, false, false, ⟨some 23, .mv, [.r 10], none, []⟩⟩,
      ⟨3, 7, false, true, ⟨some 24, (.call 31), [.r 21, .r 22, .r 23], none, [21, 22, 23]⟩⟩,
      ⟨4, 0, false, false, ⟨some 25, (.ldn 3), [.r 3], none, []⟩⟩,
      ⟨5, 0, false, false, ⟨some 26, .mv, [.r 10], none, [10]⟩⟩,
      ⟨6, 0, false, false, ⟨some 27, .mv, [.r 1], none, []⟩⟩,
      ⟨7, 127, false, false, ⟨some 28, (.call 31), [.r 25, .r 26, .r 27], none, [25, 26, 27]⟩⟩,
      ⟨8, 255, false, false, ⟨some 29, (.call 30), [.r 24, .r 28], none, [24, 28]⟩⟩,
      ⟨9, 511, false, false, ⟨some 20, .mv, [.r 29], none, [29]⟩⟩,
      ⟨10, 1023, false, false, ⟨some 30, (.ext 0), [.r 20], none, []⟩⟩,
      ⟨11, 1023, false, false, ⟨some 31, (.ext 1), [.r 20], none, [20]⟩⟩,
      ⟨12, 2047, false, false, ⟨some 11, .mv, [.r 30], none, [30]⟩⟩,
      ⟨13, 8191, false, false, ⟨some 12, .mv, [.r 31], none, [31]⟩⟩])
    (.seq (.reg [⟨some 33, .mv, [.r 8], none, [8]⟩,
      ⟨some 34, .mv, [.r 11], none, [11]⟩,
      ⟨some 35, (.call 36), [.r 33, .r 34], none, [33, 34]⟩,
      ⟨some 32, .mv, [.r 35], none, [35]⟩,
      ⟨some 36, (.ext 0), [.r 32], none, []⟩,
      ⟨some 37, (.ext 1), [.r 32], none, [32]⟩,
      ⟨some 13, .mv, [.r 36], none, [36]⟩,
      ⟨some 14, .mv, [.r 37], none, [37]⟩])
    (.reg [⟨some 38, .mv, [.r 13], none, [13]⟩,
      ⟨some 39, .mv, [.r 9], none, [9]⟩,
      ⟨some 40, .mv, [.r 39], none, [39]⟩,
      ⟨some 41, .mv, [.r 12], (some (40, false)), [12]⟩,
      ⟨some 42, .pick, [.r 40, .c (.bool true), .r 41], none, [40, 41]⟩,
      ⟨some 43, .mv, [.r 42], none, [42]⟩,
      ⟨some 44, .mv, [.r 14], (some (43, false)), [14]⟩,
      ⟨some 45, .pick, [.r 43, .c (.bool true), .r 44], none, [43, 44]⟩,
      ⟨some 8, .mv, [.r 38], none, [38]⟩,
      ⟨some 9, .mv, [.r 45], none, [45]⟩])))))
    (.reg [⟨some 46, (.bin .add), [.r 17, .c (.int .i64 1)], none, [17]⟩,
      ⟨some 17, .mv, [.r 46], none, [46]⟩]))))
def c44 : SC :=
  (.seq (.reg [⟨some 6, .mv, [.c (.int .i64 0)], none, []⟩,
    ⟨some 7, .mv, [.c (.bool false)], none, [6]⟩])
  (.seq (.reg [⟨some 8, .mv, [.c (.int .i64 0)], none, [7]⟩,
    ⟨some 9, .mv, [.c (.bool false)], none, []⟩])
  (.seq (.seq (.reg [⟨some 15, (.faddr 1), [.r 2], none, []⟩,
    ⟨some 16, .ld1, [.r 15], none, [15]⟩,
    ⟨some 17, .mv, [.c (.int .i64 0)], none, []⟩])
  (.block 0 (.loop c44l0)))
  (.seq (.reg [⟨some 47, .mv, [.r 8], none, [8]⟩,
    ⟨some 48, .mv, [.r 9], none, [9]⟩,
    ⟨some 6, .mv, [.r 47], none, [47]⟩,
    ⟨some 7, .mv, [.r 48], none, [48]⟩])
  .ret))))
def rs44 : List SR := [.tmp 6, .tmp 7]
theorem k44 : okC Try.prog 49 (Try.f44.body.getD .skip) c44 = true := by kernel_rfl
theorem acall44 {args : List AV} (hn : args.length ≤ 49) {H : Heap} {v : AV} {H' : Heap} (h : ac Try.prog c44 (argEnv 0 args) H (Fin H rs44 v H')) : ACall Try.prog 44 args H v H' :=
  acall Try.func44 (c := Try.f44.body.getD .skip) rfl k44 (by kernel_rfl) hn h
theorem acallK44 {args : List AV} (hn : args.length ≤ 49) {H : Heap} {v : AV} {H' : Heap} (h : ac Try.prog c44 (argEnv 0 args) H (FinK rs44 v H')) : ACall Try.prog 44 args H v H' :=
  acallK Try.func44 (c := Try.f44.body.getD .skip) rfl k44 (by kernel_rfl) hn h

/- slices.Equal[[]alidade/api.Q,alidade/api.Q] -/
def c45l0 : SC :=
  (.seq (.reg [⟨some 14, (.bin .lss), [.r 13, .r 12], none, []⟩])
    (.seq (.cond (.r 14)
      (.kl [14] .skip)
      (.kl [0, 1, 12, 13, 14] (.exit 0)))
    (.seq (.block 1 (.seq (.reg [⟨some 15, .mv, [.r 13], none, []⟩,
      ⟨some 5, .mv, [.r 15], none, [15]⟩])
    (.seq (.dreg [⟨0, 0, false, false, ⟨some 16, .mv, [.r 0], none, []⟩⟩,
      ⟨1, 0, false, false, ⟨some 17, .mv, [.r 5], none, []⟩⟩,
      ⟨2, 3, false, false, ⟨some 18, (.iaddrS 1), [.r 16, .r 17], none, [16, 17]⟩⟩,
      ⟨3, 7, false, false, ⟨some 19, .ld1, [.r 18], none, [18]⟩⟩,
      ⟨4, 0, false, false, ⟨some 20, .mv, [.r 1], none, []⟩⟩,
      ⟨5, 0, false, false, ⟨some 21, .mv, [.r 5], none, [5]⟩⟩,
      ⟨6, 48, false, false, ⟨some 22, (.iaddrS 1), [.r 20, .r 21], none, [20, 21]⟩⟩,
      ⟨7, 112, false, false, ⟨some 23, .ld1, [.r 22], none, [22]⟩⟩,
      ⟨8, 255, false, false, ⟨some 24, (.bin .neq), [.r 19, .r 23], none, [19, 23]⟩⟩])
    (.cond (.r 24)
      (.kl [0, 1, 12, 13, 24] (.seq (.reg [⟨some 4, .mv, [.c (.bool false)], none, []⟩])
      .ret))
      (.kl [24] .skip)))))
    (.reg [⟨some 25, (.bin .add), [.r 13, .c (.int .i64 1)], none, [13]⟩,
      ⟨some 13, .mv, [.r 25], none, [25]⟩]))))
def c45 : SC :=
  (.seq (.reg [⟨some 4, .mv, [.c (.bool false)], none, []⟩])
  (.seq (.seq (.reg [⟨some 6, .mv, [.r 0], none, [4]⟩,
    ⟨some 7, .len, [.r 6], none, [6]⟩,
    ⟨some 8, .mv, [.r 1], none, []⟩,
    ⟨some 9, .len, [.r 8], none, [8]⟩,
    ⟨some 10, (.bin .neq), [.r 7, .r 9], none, [7, 9]⟩])
  (.cond (.r 10)
    (.kl [0, 1, 10] (.seq (.reg [⟨some 4, .mv, [.c (.bool false)], none, []⟩])
    .ret))
    (.kl [10] .skip)))
  (.seq (.seq (.reg [⟨some 11, .mv, [.r 0], none, []⟩,
    ⟨some 12, .len, [.r 11], none, [11]⟩,
    ⟨some 13, .mv, [.c (.int .i64 0)], none, []⟩])
  (.block 0 (.loop c45l0)))
  (.seq (.reg [⟨some 4, .mv, [.c (.bool true)], none, []⟩])
  .ret))))
def rs45 : List SR := [.tmp 4]
theorem k45 : okC Try.prog 26 (Try.f45.body.getD .skip) c45 = true := by kernel_rfl
theorem acall45 {args : List AV} (hn : args.length ≤ 26) {H : Heap} {v : AV} {H' : Heap} (h : ac Try.prog c45 (argEnv 0 args) H (Fin H rs45 v H')) : ACall Try.prog 45 args H v H' :=
  acall Try.func45 (c := Try.f45.body.getD .skip) rfl k45 (by kernel_rfl) hn h
theorem acallK45 {args : List AV} (hn : args.length ≤ 26) {H : Heap} {v : AV} {H' : Heap} (h : ac Try.prog c45 (argEnv 0 args) H (FinK rs45 v H')) : ACall Try.prog 45 args H v H' :=
  acallK Try.func45 (c := Try.f45.body.getD .skip) rfl k45 (by kernel_rfl) hn h

/- slices.Repeat[[]alidade/api.Q,alidade/api.Q] -/
def c46l0 : SC :=
  (.seq (.seq (.reg [⟨some 34, .mv, [.r 8], none, []⟩,
      ⟨some 35, .mv, [.r 7], none, []⟩,
      ⟨some 36, .len, [.r 35], none, [35]⟩,
      ⟨some 37, (.bin .lss), [.r 34, .r 36], none, [34, 36]⟩])
    (.cond (.r 37)
      (.kl [37] .skip)
      (.kl [8, 37] (.exit 0))))
    (.block 1 (.dreg [⟨0, 0, false, false, ⟨some 38, .mv, [.r 8], none, []⟩⟩,
      ⟨1, 0, false, false, ⟨some 39, .mv, [.r 7], none, []⟩⟩,
      ⟨2, 0, false, false, ⟨some 40, .mv, [.r 8], none, []⟩⟩,
      ⟨3, 6, false, false, ⟨some 41, (.slice 1 true false false), [.r 39, .r 40], none, [39, 40]⟩⟩,
      ⟨4, 0, false, false, ⟨some 42, .mv, [.r 7], none, []⟩⟩,
      ⟨5, 0, false, false, ⟨some 43, .mv, [.r 8], none, [8]⟩⟩,
      ⟨6, 48, false, false, ⟨some 44, (.slice 1 false true false), [.r 42, .r 43], none, [42, 43]⟩⟩,
      ⟨7, 126, false, false, ⟨some 45, (.copy 1), [.r 41, .r 44], none, [41, 44]⟩⟩,
      ⟨8, 255, false, false, ⟨some 46, (.bin .add), [.r 38, .r 45], none, [38, 45]⟩⟩,
      ⟨9, 511, false, false, ⟨some 8, .mv, [.r 46], none, [46]⟩⟩])))
def c46 : SC :=
  (.seq (.reg [⟨some 4, .mv, [.c .nils], none, []⟩])
  (.seq (.seq (.reg [⟨some 9, .mv, [.r 1], none, [4]⟩,
    ⟨some 10, (.bin .lss), [.r 9, .c (.int .i64 0)], none, [9]⟩])
  (.cond (.r 10)
    (.kl [10] (.reg [⟨some 11, .dead, [], none, []⟩,
      ⟨none, .dead, [], none, [11]⟩]))
    (.kl [10] .skip)))
  (.seq (.reg [⟨some 13, .mv, [.r 0], none, []⟩,
    ⟨some 14, .len, [.r 13], none, [13]⟩,
    ⟨some 15, (.conv .u64), [.r 14], none, [14]⟩,
    ⟨some 16, .mv, [.r 1], none, [1]⟩,
    ⟨some 17, (.conv .u64), [.r 16], none, [16]⟩,
    ⟨some 18, (.call 56), [.r 15, .r 17], none, [15, 17]⟩,
    ⟨some 12, .mv, [.r 18], none, [18]⟩,
    ⟨some 19, (.ext 0), [.r 12], none, []⟩,
    ⟨some 20, (.ext 1), [.r 12], none, [12]⟩,
    ⟨some 5, .mv, [.r 19], none, [19]⟩,
    ⟨some 6, .mv, [.r 20], none, [20]⟩])
  (.seq (.seq (.reg [⟨some 21, .mv, [.r 5], none, [5]⟩,
    ⟨some 22, (.bin .gtr), [.r 21, .c (.int .u64 0)], none, [21]⟩,
    ⟨some 23, .mv, [.r 22], none, [22]⟩,
    ⟨some 24, .mv, [.r 6], (some (23, false)), []⟩,
    ⟨some 25, (.bin .gtr), [.r 24, .c (.int .u64 9223372036854775807)], (some (23, false)), [24]⟩,
    ⟨some 26, .pick, [.r 23, .c (.bool true), .r 25], none, [23, 25]⟩])
  (.cond (.r 26)
    (.kl [26] (.reg [⟨some 27, .dead, [], none, []⟩,
      ⟨none, .dead, [], none, [27]⟩]))
    (.kl [26] .skip)))
  (.seq (.reg [⟨some 28, .mv, [.r 6], none, [6]⟩,
    ⟨some 29, (.conv .i64), [.r 28], none, [28]⟩,
    ⟨some 30, (.mksl 1 8 [(.int .i64 0)]), [.r 29, .r 29], none, [29]⟩,
    ⟨some 7, .mv, [.r 30], none, [30]⟩])
  (.seq (.reg [⟨some 31, .mv, [.r 7], none, []⟩,
    ⟨some 32, .mv, [.r 0], none, [0]⟩,
    ⟨some 33, (.copy 1), [.r 31, .r 32], none, [31, 32]⟩,
    ⟨some 8, .mv, [.r 33], none, [33]⟩])
  (.seq (.block 0 (.loop c46l0))
  (.seq (.reg [⟨some 47, .mv, [.r 7], none, [7]⟩,
    ⟨some 4, .mv, [.r 47], none, [47]⟩])
  .ret))))))))
def rs46 : List SR := [.tmp 4]
theorem k46 : okC Try.prog 48 (Try.f46.body.getD .skip) c46 = true := by kernel_rfl
theorem acall46 {args : List AV} (hn : args.length ≤ 48) {H : Heap} {v : AV} {H' : Heap} (h : ac Try.prog c46 (argEnv 0 args) H (Fin H rs46 v H')) : ACall Try.prog 46 args H v H' :=
  acall Try.func46 (c := Try.f46.body.getD .skip) rfl k46 (by kernel_rfl) hn h
theorem acallK46 {args : List AV} (hn : args.length ≤ 48) {H : Heap} {v : AV} {H' : Heap} (h : ac Try.prog c46 (argEnv 0 args) H (FinK rs46 v H')) : ACall Try.prog 46 args H v H' :=
  acallK Try.func46 (c := Try.f46.body.getD .skip) rfl k46 (by kernel_rfl) hn h

/- alidade/mat.Right$1 -/
def c47 : SC :=
  (.seq (.reg [⟨some 2, .mv, [.c (.bool false)], none, []⟩])
  (.seq (.reg [⟨some 3, .mv, [.r 0], none, [2]⟩,
    ⟨some 4, (.bin .lss), [.r 3, .c (.int .i64 (-70368744177664))], none, [3]⟩,
    ⟨some 5, .mv, [.r 4], none, [4]⟩,
    ⟨some 6, .mv, [.r 0], (some (5, false)), [0]⟩,
    ⟨some 7, (.bin .gtr), [.r 6, .c (.int .i64 70368744177663)], (some (5, false)), [6]⟩,
    ⟨some 8, .pick, [.r 5, .c (.bool true), .r 7], none, [5, 7]⟩,
    ⟨some 2, .mv, [.r 8], none, [8]⟩])
  .ret))
def rs47 : List SR := [.tmp 2]
theorem k47 : okC Try.prog 9 (Try.f47.body.getD .skip) c47 = true := by kernel_rfl
theorem acall47 {args : List AV} (hn : args.length ≤ 9) {H : Heap} {v : AV} {H' : Heap} (h : ac Try.prog c47 (argEnv 0 args) H (Fin H rs47 v H')) : ACall Try.prog 47 args H v H' :=
  acall Try.func47 (c := Try.f47.body.getD .skip) rfl k47 (by kernel_rfl) hn h
theorem acallK47 {args : List AV} (hn : args.length ≤ 9) {H : Heap} {v : AV} {H' : Heap} (h : ac Try.prog c47 (argEnv 0 args) H (FinK rs47 v H')) : ACall Try.prog 47 args H v H' :=
  acallK Try.func47 (c := Try.f47.body.getD .skip) rfl k47 (by kernel_rfl) hn h

/- slices.ContainsFunc[[]alidade/api.Q,alidade/api.Q] -/
def c48 : SC :=
  (.seq (.reg [⟨some 4, .mv, [.c (.bool false)], none, []⟩])
  (.seq (.reg [⟨some 5, .mv, [.r 0], none, [0, 4]⟩,
    ⟨some 6, .mv, [.r 1], none, [1]⟩,
    ⟨some 7, (.call 57), [.r 5, .r 6], none, [5, 6]⟩,
    ⟨some 8, (.bin .geq), [.r 7, .c (.int .i64 0)], none, [7]⟩,
    ⟨some 4, .mv, [.r 8], none, [8]⟩])
  .ret))
def rs48 : List SR := [.tmp 4]
theorem k48 : okC Try.prog 9 (Try.f48.body.getD .skip) c48 = true := by kernel_rfl
theorem acall48 {args : List AV} (hn : args.length ≤ 9) {H : Heap} {v : AV} {H' : Heap} (h : ac Try.prog c48 (argEnv 0 args) H (Fin H rs48 v H')) : ACall Try.prog 48 args H v H' :=
  acall Try.func48 (c := Try.f48.body.getD .skip) rfl k48 (by kernel_rfl) hn h
theorem acallK48 {args : List AV} (hn : args.length ≤ 9) {H : Heap} {v : AV} {H' : Heap} (h : ac Try.prog c48 (argEnv 0 args) H (FinK rs48 v H')) : ACall Try.prog 48 args H v H' :=
  acallK Try.func48 (c := Try.f48.body.getD .skip) rfl k48 (by kernel_rfl) hn h

/- alidade/mat.Diag$1 -/
def c49 : SC :=
  (.seq (.reg [⟨some 5, .mv, [.c (.int .i64 0)], none, []⟩,
    ⟨some 6, .mv, [.c (.bool false)], none, [5]⟩])
  (.seq (.seq (.reg [⟨some 7, .mv, [.r 0], none, [6]⟩,
    ⟨some 8, .mv, [.r 1], none, [1]⟩,
    ⟨some 9, (.bin .eql), [.r 7, .r 8], none, [7, 8]⟩])
  (.cond (.r 9)
    (.kl [9] (.seq (.reg [⟨some 10, .ld1, [.r 2], none, [2]⟩,
      ⟨some 11, .mv, [.r 0], none, [0]⟩,
      ⟨some 12, (.iaddrS 1), [.r 10, .r 11], none, [10, 11]⟩,
      ⟨some 13, .ld1, [.r 12], none, [12]⟩,
      ⟨some 5, .mv, [.r 13], none, [13]⟩,
      ⟨some 6, .mv, [.c (.bool false)], none, []⟩])
    .ret))
    (.kl [0, 2, 9] .skip)))
  (.seq (.reg [⟨some 5, .mv, [.c (.int .i64 0)], none, []⟩,
    ⟨some 6, .mv, [.c (.bool false)], none, []⟩])
  .ret)))
def rs49 : List SR := [.tmp 5, .tmp 6]
theorem k49 : okC Try.prog 14 (Try.f49.body.getD .skip) c49 = true := by kernel_rfl
theorem acall49 {args : List AV} (hn : args.length ≤ 14) {H : Heap} {v : AV} {H' : Heap} (h : ac Try.prog c49 (argEnv 0 args) H (Fin H rs49 v H')) : ACall Try.prog 49 args H v H' :=
  acall Try.func49 (c := Try.f49.body.getD .skip) rfl k49 (by kernel_rfl) hn h
theorem acallK49 {args : List AV} (hn : args.length ≤ 14) {H : Heap} {v : AV} {H' : Heap} (h : ac Try.prog c49 (argEnv 0 args) H (FinK rs49 v H')) : ACall Try.prog 49 args H v H' :=
  acallK Try.func49 (c := Try.f49.body.getD .skip) rfl k49 (by kernel_rfl) hn h

/- alidade/qfix.both -/
def c50 : SC :=
  (.seq (.reg [⟨some 4, .mv, [.c (.int .i64 0)], none, []⟩,
    ⟨some 5, .mv, [.c (.int .i64 0)], none, [4]⟩,
    ⟨some 6, .mv, [.c (.bool false)], none, [5]⟩])
  (.seq (.reg [⟨some 10, .mv, [.r 0], none, [0, 6]⟩,
    ⟨some 11, (.call 55), [.r 10], none, [10]⟩,
    ⟨some 9, .mv, [.r 11], none, [11]⟩,
    ⟨some 12, (.ext 0), [.r 9], none, []⟩,
    ⟨some 13, (.ext 1), [.r 9], none, [9]⟩,
    ⟨some 0, .mv, [.r 12], none, [12]⟩,
    ⟨some 7, .mv, [.r 13], none, [13]⟩])
  (.seq (.reg [⟨some 15, .mv, [.r 1], none, [1]⟩,
    ⟨some 16, (.call 55), [.r 15], none, [15]⟩,
    ⟨some 14, .mv, [.r 16], none, [16]⟩,
    ⟨some 17, (.ext 0), [.r 14], none, []⟩,
    ⟨some 18, (.ext 1), [.r 14], none, [14]⟩,
    ⟨some 1, .mv, [.r 17], none, [17]⟩,
    ⟨some 8, .mv, [.r 18], none, [18]⟩])
  (.seq (.reg [⟨some 19, .mv, [.r 0], none, [0]⟩,
    ⟨some 20, .mv, [.r 1], none, [1]⟩,
    ⟨some 21, .mv, [.r 7], none, [7]⟩,
    ⟨some 22, .mv, [.r 21], none, [21]⟩,
    ⟨some 23, .mv, [.r 8], (some (22, false)), [8]⟩,
    ⟨some 24, .pick, [.r 22, .c (.bool true), .r 23], none, [22, 23]⟩,
    ⟨some 4, .mv, [.r 19], none, [19]⟩,
    ⟨some 5, .mv, [.r 20], none, [20]⟩,
    ⟨some 6, .mv, [.r 24], none, [24]⟩])
  .ret))))
def rs50 : List SR := [.tmp 4, .tmp 5, .tmp 6]
theorem k50 : okC Try.prog 25 (Try.f50.body.getD .skip) c50 = true := by kernel_rfl
theorem acall50 {args : List AV} (hn : args.length ≤ 25) {H : Heap} {v : AV} {H' : Heap} (h : ac Try.prog c50 (argEnv 0 args) H (Fin H rs50 v H')) : ACall Try.prog 50 args H v H' :=
  acall Try.func50 (c := Try.f50.body.getD .skip) rfl k50 (by kernel_rfl) hn h
theorem acallK50 {args : List AV} (hn : args.length ≤ 25) {H : Heap} {v : AV} {H' : Heap} (h : ac Try.prog c50 (argEnv 0 args) H (FinK rs50 v H')) : ACall Try.prog 50 args H v H' :=
  acallK Try.func50 (c := Try.f50.body.getD .skip) rfl k50 (by kernel_rfl) hn h

/- math/bits.Mul64 -/
def c51 : SC :=
  (.seq (.reg [⟨some 4, .mv, [.c (.int .u64 0)], none, []⟩,
    ⟨some 5, .mv, [.c (.int .u64 0)], none, [4]⟩])
  (.seq (.reg [⟨some 14, .mv, [.r 0], none, [5]⟩,
    ⟨some 15, (.bin .and), [.r 14, .c (.int .u64 4294967295)], none, [14]⟩,
    ⟨some 6, .mv, [.r 15], none, [15]⟩])
  (.seq (.reg [⟨some 16, .mv, [.r 0], none, []⟩,
    ⟨some 17, (.bin .shr), [.r 16, .c (.int .u64 32)], none, [16]⟩,
    ⟨some 7, .mv, [.r 17], none, [17]⟩])
  (.seq (.reg [⟨some 18, .mv, [.r 1], none, []⟩,
    ⟨some 19, (.bin .and), [.r 18, .c (.int .u64 4294967295)], none, [18]⟩,
    ⟨some 8, .mv, [.r 19], none, [19]⟩])
  (.seq (.reg [⟨some 20, .mv, [.r 1], none, []⟩,
    ⟨some 21, (.bin .shr), [.r 20, .c (.int .u64 32)], none, [20]⟩,
    ⟨some 9, .mv, [.r 21], none, [21]⟩])
  (.seq (.reg [⟨some 22, .mv, [.r 6], none, []⟩,
    ⟨some 23, .mv, [.r 8], none, []⟩,
    ⟨some 24, (.bin .mul), [.r 22, .r 23], none, [22, 23]⟩,
    ⟨some 10, .mv, [.r 24], none, [24]⟩])
  (.seq (.reg [⟨some 25, .mv, [.r 7], none, []⟩,
    ⟨some 26, .mv, [.r 8], none, [8]⟩,
    ⟨some 27, (.bin .mul), [.r 25, .r 26], none, [25, 26]⟩,
    ⟨some 28, .mv, [.r 10], none, [10]⟩,
    ⟨some 29, (.bin .shr), [.r 28, .c (.int .u64 32)], none, [28]⟩,
    ⟨some 30, (.bin .add), [.r 27, .r 29], none, [27, 29]⟩,
    ⟨some 11, .mv, [.r 30], none, [30]⟩])
  (.seq (.reg [⟨some 31, .mv, [.r 11], none, []⟩,
    ⟨some 32, (.bin .and), [.r 31, .c (.int .u64 4294967295)], none, [31]⟩,
    ⟨some 12, .mv, [.r 32], none, [32]⟩])
  (.seq (.reg [⟨some 33, .mv, [.r 11], none, [11]⟩,
    ⟨some 34, (.bin .shr), [.r 33, .c (.int .u64 32)], none, [33]⟩,
    ⟨some 13, .mv, [.r 34], none, [34]⟩])
  (.seq (.reg [⟨some 35, .mv, [.r 12], none, [12]⟩,
    ⟨some 36, .mv, [.r 6], none, [6]⟩,
    ⟨some 37, .mv, [.r 9], none, []⟩,
    ⟨some 38, (.bin .mul), [.r 36, .r 37], none, [36, 37]⟩,
    ⟨some 39, (.bin .add), [.r 35, .r 38], none, [35, 38]⟩,
    ⟨some 12, .mv, [.r 39], none, [39]⟩])
  (.seq (.reg [⟨some 40, .mv, [.r 7], none, [7]⟩,
    ⟨some 41, .mv, [.r 9], none, [9]⟩,
    ⟨some 42, (.bin .mul), [.r 40, .r 41], none, [40, 41]⟩,
    ⟨some 43, .mv, [.r 13], none, [13]⟩,
    ⟨some 44, (.bin .add), [.r 42, .r 43], none, [42, 43]⟩,
    ⟨some 45, .mv, [.r 12], none, [12]⟩,
    ⟨some 46, (.bin .shr), [.r 45, .c (.int .u64 32)], none, [45]⟩,
    ⟨some 47, (.bin .add), [.r 44, .r 46], none, [44, 46]⟩,
    ⟨some 4, .mv, [.r 47], none, [47]⟩])
  (.seq (.reg [⟨some 48, .mv, [.r 0], none, [0]⟩,
    ⟨some 49, .mv, [.r 1], none, [1]⟩,
    ⟨some 50, (.bin .mul), [.r 48, .r 49], none, [48, 49]⟩,
    ⟨some 5, .mv, [.r 50], none, [50]⟩])
  .ret))))))))))))
def rs51 : List SR := [.tmp 4, .tmp 5]
theorem k51 : okC Try.prog 51 (Try.f51.body.getD .skip) c51 = true := by kernel_rfl
theorem acall51 {args : List AV} (hn : args.length ≤ 51) {H : Heap} {v : AV} {H' : Heap} (h : ac Try.prog c51 (argEnv 0 args) H (Fin H rs51 v H')) : ACall Try.prog 51 args H v H' :=
  acall Try.func51 (c := Try.f51.body.getD .skip) rfl k51 (by kernel_rfl) hn h
theorem acallK51 {args : List AV} (hn : args.length ≤ 51) {H : Heap} {v : AV} {H' : Heap} (h : ac Try.prog c51 (argEnv 0 args) H (FinK rs51 v H')) : ACall Try.prog 51 args H v H' :=
  acallK Try.func51 (c := Try.f51.body.getD .skip) rfl k51 (by kernel_rfl) hn h

/- alidade/qfix.size -/
def c52 : SC :=
  (.seq (.reg [⟨some 2, .mv, [.c (.int .u64 0)], none, []⟩])
  (.seq (.seq (.reg [⟨some 3, .mv, [.r 0], none, [2]⟩,
    ⟨some 4, (.bin .lss), [.r 3, .c (.int .i64 0)], none, [3]⟩])
  (.cond (.r 4)
    (.kl [4] (.seq (.reg [⟨some 5, .mv, [.r 0], none, [0]⟩,
      ⟨some 6, (.un .neg), [.r 5], none, [5]⟩,
      ⟨some 7, (.conv .u64), [.r 6], none, [6]⟩,
      ⟨some 2, .mv, [.r 7], none, [7]⟩])
    .ret))
    (.kl [4] .skip)))
  (.seq (.reg [⟨some 8, .mv, [.r 0], none, [0]⟩,
    ⟨some 9, (.conv .u64), [.r 8], none, [8]⟩,
    ⟨some 2, .mv, [.r 9], none, [9]⟩])
  .ret)))
def rs52 : List SR := [.tmp 2]
theorem k52 : okC Try.prog 10 (Try.f52.body.getD .skip) c52 = true := by kernel_rfl
theorem acall52 {args : List AV} (hn : args.length ≤ 10) {H : Heap} {v : AV} {H' : Heap} (h : ac Try.prog c52 (argEnv 0 args) H (Fin H rs52 v H')) : ACall Try.prog 52 args H v H' :=
  acall Try.func52 (c := Try.f52.body.getD .skip) rfl k52 (by kernel_rfl) hn h
theorem acallK52 {args : List AV} (hn : args.length ≤ 10) {H : Heap} {v : AV} {H' : Heap} (h : ac Try.prog c52 (argEnv 0 args) H (FinK rs52 v H')) : ACall Try.prog 52 args H v H' :=
  acallK Try.func52 (c := Try.f52.body.getD .skip) rfl k52 (by kernel_rfl) hn h

/- alidade/qfix.signed -/
def c53 : SC :=
  (.seq (.reg [⟨some 5, .box, [.r 2], none, [2]⟩,
    ⟨some 6, .mv, [.c (.int .i64 0)], none, []⟩,
    ⟨some 7, .mv, [.c (.bool false)], none, [6]⟩])
  (.seq (.reg [⟨some 11, (.mkfn (.func 58) 0), [.r 5], none, [5, 7]⟩,
    ⟨some 8, .mv, [.r 11], none, [11]⟩])
  (.seq (.seq (.reg [⟨some 12, .mv, [.r 0], none, [0]⟩,
    ⟨some 13, (.bin .neq), [.r 12, .c (.int .u64 0)], none, [12]⟩,
    ⟨some 14, .mv, [.r 13], none, [13]⟩,
    ⟨some 15, .mv, [.r 1], (some (14, false)), []⟩,
    ⟨some 16, (.bin .gtr), [.r 15, .c (.int .u64 70368744177664)], (some (14, false)), [15]⟩,
    ⟨some 17, .pick, [.r 14, .c (.bool true), .r 16], none, [14, 16]⟩])
  (.cond (.r 17)
    (.kl [1, 17] (.seq (.reg [⟨some 19, .mv, [.r 8], none, [8]⟩,
      ⟨some 20, .callv, [.r 19, .c (.int .i64 70368744177664)], none, [19]⟩,
      ⟨some 21, (.call 55), [.r 20], none, [20]⟩,
      ⟨some 18, .mv, [.r 21], none, [21]⟩,
      ⟨some 22, (.ext 0), [.r 18], none, []⟩,
      ⟨some 23, (.ext 1), [.r 18], none, [18]⟩,
      ⟨some 9, .mv, [.r 22], none, [22]⟩,
      ⟨some 10, .mv, [.r 23], none, [23]⟩])
    (.seq (.reg [⟨some 24, .mv, [.r 9], none, [9, 10]⟩,
      ⟨some 6, .mv, [.r 24], none, [24]⟩,
      ⟨some 7, .mv, [.c (.bool true)], none, []⟩])
    .ret)))
    (.kl [17] .skip)))
  (.seq (.reg [⟨some 25, .mv, [.r 8], none, [8]⟩,
    ⟨some 26, .mv, [.r 1], none, [1]⟩,
    ⟨some 27, (.conv .i64), [.r 26], none, [26]⟩,
    ⟨some 28, .callv, [.r 25, .r 27], none, [25, 27]⟩,
    ⟨some 29, (.call 55), [.r 28], none, [28]⟩,
    ⟨some 30, (.ext 0), [.r 29], none, []⟩,
    ⟨some 31, (.ext 1), [.r 29], none, [29]⟩,
    ⟨some 6, .mv, [.r 30], none, [30]⟩,
    ⟨some 7, .mv, [.r 31], none, [31]⟩])
  .ret))))
def rs53 : List SR := [.tmp 6, .tmp 7]
theorem k53 : okC Try.prog 32 (Try.f53.body.getD .skip) c53 = true := by kernel_rfl
theorem acall53 {args : List AV} (hn : args.length ≤ 32) {H : Heap} {v : AV} {H' : Heap} (h : ac Try.prog c53 (argEnv 0 args) H (Fin H rs53 v H')) : ACall Try.prog 53 args H v H' :=
  acall Try.func53 (c := Try.f53.body.getD .skip) rfl k53 (by kernel_rfl) hn h
theorem acallK53 {args : List AV} (hn : args.length ≤ 32) {H : Heap} {v : AV} {H' : Heap} (h : ac Try.prog c53 (argEnv 0 args) H (FinK rs53 v H')) : ACall Try.prog 53 args H v H' :=
  acallK Try.func53 (c := Try.f53.body.getD .skip) rfl k53 (by kernel_rfl) hn h

/- alidade/mat.each$1 -/
def c54 : SC :=
  (.seq (.reg [⟨some 7, .mv, [.c (.int .i64 0)], none, []⟩,
    ⟨some 8, .mv, [.c (.bool false)], none, [7]⟩])
  (.seq (.dreg [⟨0, 0, false, false, ⟨some 9, .ld1, [.r 2], none, [2, 8]⟩⟩,
    ⟨1, 0, false, false, ⟨some 10, (.ldn 3), [.r 3], none, [3]⟩⟩,
    ⟨2, 0, false, false, ⟨some 11, .mv, [.r 0], none, []⟩⟩,
    ⟨3, 0, false, false, ⟨some 12, .mv, [.r 1], none, []⟩⟩,
    ⟨4, 14, false, true, ⟨some 13, (.call 31), [.r 10, .r 11, .r 12], none, [10, 11, 12]⟩⟩,
    ⟨5, 0, false, false, ⟨some 14, (.ldn 3), [.r 4], none, [4]⟩⟩,
    ⟨6, 0, false, false, ⟨some 15, .mv, [.r 0], none, [0]⟩⟩,
    ⟨7, 0, false, false, ⟨some 16, .mv, [.r 1], none, [1]⟩⟩,
    ⟨8, 254, false, true, ⟨some 17, (.call 31), [.r 14, .r 15, .r 16], none, [14, 15, 16]⟩⟩,
    ⟨9, 511, false, false, ⟨some 18, .callv, [.r 9, .r 13, .r 17], none, [9, 13, 17]⟩⟩,
    ⟨10, 1023, false, false, ⟨some 19, (.ext 0), [.r 18], none, []⟩⟩,
    ⟨11, 1023, false, false, ⟨some 20, (.ext 1), [.r 18], none, [18]⟩⟩,
    ⟨12, 4095, false, false, ⟨some 7, .mv, [.r 19], none, [19]⟩⟩,
    ⟨13, 8191, false, false, ⟨some 8, .mv, [.r 20], none, [20]⟩⟩])
  .ret))
def rs54 : List SR := [.tmp 7, .tmp 8]
theorem k54 : okC Try.prog 21 (Try.f54.body.getD .skip) c54 = true := by kernel_rfl
theorem acall54 {args : List AV} (hn : args.length ≤ 21) {H : Heap} {v : AV} {H' : Heap} (h : ac Try.prog c54 (argEnv 0 args) H (Fin H rs54 v H')) : ACall Try.prog 54 args H v H' :=
  acall Try.func54 (c := Try.f54.body.getD .skip) rfl k54 (by kernel_rfl) hn h
theorem acallK54 {args : List AV} (hn : args.length ≤ 21) {H : Heap} {v : AV} {H' : Heap} (h : ac Try.prog c54 (argEnv 0 args) H (FinK rs54 v H')) : ACall Try.prog 54 args H v H' :=
  acallK Try.func54 (c := Try.f54.body.getD .skip) rfl k54 (by kernel_rfl) hn h

/- alidade/qfix.Clamp -/
def c55 : SC :=
  (.seq (.reg [⟨some 2, .mv, [.c (.int .i64 0)], none, []⟩,
    ⟨some 3, .mv, [.c (.bool false)], none, [2]⟩])
  (.seq (.reg [⟨some 5, .mv, [.r 0], none, [3]⟩,
    ⟨some 6, .mx, [.r 5, .c (.int .i64 (-70368744177664))], none, [5]⟩,
    ⟨some 7, .mn, [.r 6, .c (.int .i64 70368744177663)], none, [6]⟩,
    ⟨some 4, .mv, [.r 7], none, [7]⟩])
  (.seq (.reg [⟨some 8, .mv, [.r 4], none, []⟩,
    ⟨some 9, .mv, [.r 4], none, [4]⟩,
    ⟨some 10, .mv, [.r 0], none, [0]⟩,
    ⟨some 11, (.bin .neq), [.r 9, .r 10], none, [9, 10]⟩,
    ⟨some 2, .mv, [.r 8], none, [8]⟩,
    ⟨some 3, .mv, [.r 11], none, [11]⟩])
  .ret)))
def rs55 : List SR := [.tmp 2, .tmp 3]
theorem k55 : okC Try.prog 12 (Try.f55.body.getD .skip) c55 = true := by kernel_rfl
theorem acall55 {args : List AV} (hn : args.length ≤ 12) {H : Heap} {v : AV} {H' : Heap} (h : ac Try.prog c55 (argEnv 0 args) H (Fin H rs55 v H')) : ACall Try.prog 55 args H v H' :=
  acall Try.func55 (c := Try.f55.body.getD .skip) rfl k55 (by kernel_rfl) hn h
theorem acallK55 {args : List AV} (hn : args.length ≤ 12) {H : Heap} {v : AV} {H' : Heap} (h : ac Try.prog c55 (argEnv 0 args) H (FinK rs55 v H')) : ACall Try.prog 55 args H v H' :=
  acallK Try.func55 (c := Try.f55.body.getD .skip) rfl k55 (by kernel_rfl) hn h

/- math/bits.Mul -/
def c56 : SC :=
  (.seq (.reg [⟨some 4, .mv, [.c (.int .u64 0)], none, []⟩,
    ⟨some 5, .mv, [.c (.int .u64 0)], none, [4]⟩])
  (.seq (.cond (.c (.bool false))
    (.kl [5] (.seq (.reg [⟨some 11, .mv, [.r 0], none, [0]⟩,
      ⟨some 12, (.conv .u32), [.r 11], none, [11]⟩,
      ⟨some 13, .mv, [.r 1], none, [1]⟩,
      ⟨some 14, (.conv .u32), [.r 13], none, [13]⟩,
      ⟨some 15, (.call 59), [.r 12, .r 14], none, [12, 14]⟩,
      ⟨some 10, .mv, [.r 15], none, [15]⟩,
      ⟨some 16, (.ext 0), [.r 10], none, []⟩,
      ⟨some 17, (.ext 1), [.r 10], none, [10]⟩,
      ⟨some 6, .mv, [.r 16], none, [16]⟩,
      ⟨some 7, .mv, [.r 17], none, [17]⟩])
    (.seq (.reg [⟨some 18, .mv, [.r 6], none, [6]⟩,
      ⟨some 19, (.conv .u64), [.r 18], none, [18]⟩,
      ⟨some 20, .mv, [.r 7], none, [7]⟩,
      ⟨some 21, (.conv .u64), [.r 20], none, [20]⟩,
      ⟨some 4, .mv, [.r 19], none, [19]⟩,
      ⟨some 5, .mv, [.r 21], none, [21]⟩])
    .ret)))
    (.kl [5] .skip))
  (.seq (.reg [⟨some 23, .mv, [.r 0], none, [0]⟩,
    ⟨some 24, .mv, [.r 1], none, [1]⟩,
    ⟨some 25, (.call 51), [.r 23, .r 24], none, [23, 24]⟩,
    ⟨some 22, .mv, [.r 25], none, [25]⟩,
    ⟨some 26, (.ext 0), [.r 22], none, []⟩,
    ⟨some 27, (.ext 1), [.r 22], none, [22]⟩,
    ⟨some 8, .mv, [.r 26], none, [26]⟩,
    ⟨some 9, .mv, [.r 27], none, [27]⟩])
  (.seq (.reg [⟨some 28, .mv, [.r 8], none, [8]⟩,
    ⟨some 29, .mv, [.r 9], none, [9]⟩,
    ⟨some 4, .mv, [.r 28], none, [28]⟩,
    ⟨some 5, .mv, [.r 29], none, [29]⟩])
  .ret))))
def rs56 : List SR := [.tmp 4, .tmp 5]
theorem k56 : okC Try.prog 30 (Try.f56.body.getD .skip) c56 = true := by kernel_rfl
theorem acall56 {args : List AV} (hn : args.length ≤ 30) {H : Heap} {v : AV} {H' : Heap} (h : ac Try.prog c56 (argEnv 0 args) H (Fin H rs56 v H')) : ACall Try.prog 56 args H v H' :=
  acall Try.func56 (c := Try.f56.body.getD .skip) rfl k56 (by kernel_rfl) hn h
theorem acallK56 {args : List AV} (hn : args.length ≤ 30) {H : Heap} {v : AV} {H' : Heap} (h : ac Try.prog c56 (argEnv 0 args) H (FinK rs56 v H')) : ACall Try.prog 56 args H v H' :=
  acallK Try.func56 (c := Try.f56.body.getD .skip) rfl k56 (by kernel_rfl) hn h

/- slices.IndexFunc[[]alidade/api.Q,alidade/api.Q] -/
def c57l0 : SC :=
  (.seq (.reg [⟨some 9, (.bin .lss), [.r 8, .r 7], none, []⟩])
    (.seq (.cond (.r 9)
      (.kl [9] .skip)
      (.kl [0, 1, 7, 8, 9] (.exit 0)))
    (.seq (.block 1 (.seq (.reg [⟨some 10, .mv, [.r 8], none, []⟩,
      ⟨some 5, .mv, [.r 10], none, [10]⟩])
    (.seq (.reg [⟨some 11, .mv, [.r 1], none, []⟩,
      ⟨some 12, .mv, [.r 0], none, []⟩,
      ⟨some 13, .mv, [.r 5], none, []⟩,
      ⟨some 14, (.iaddrS 1), [.r 12, .r 13], none, [12, 13]⟩,
      ⟨some 15, .ld1, [.r 14], none, [14]⟩,
      ⟨some 16, .callv, [.r 11, .r 15], none, [11, 15]⟩])
    (.cond (.r 16)
      (.kl [0, 1, 7, 8, 16] (.seq (.reg [⟨some 17, .mv, [.r 5], none, [5]⟩,
        ⟨some 4, .mv, [.r 17], none, [17]⟩])
      .ret))
      (.kl [5, 16] .skip)))))
    (.reg [⟨some 18, (.bin .add), [.r 8, .c (.int .i64 1)], none, [8]⟩,
      ⟨some 8, .mv, [.r 18], none, [18]⟩]))))
def c57 : SC :=
  (.seq (.reg [⟨some 4, .mv, [.c (.int .i64 0)], none, []⟩])
  (.seq (.seq (.reg [⟨some 6, .mv, [.r 0], none, [4]⟩,
    ⟨some 7, .len, [.r 6], none, [6]⟩,
    ⟨some 8, .mv, [.c (.int .i64 0)], none, []⟩])
  (.block 0 (.loop c57l0)))
  (.seq (.reg [⟨some 4, .mv, [.c (.int .i64 (-1))], none, []⟩])
  .ret)))
def rs57 : List SR := [.tmp 4]
theorem k57 : okC Try.prog 19 (Try.f57.body.getD .skip) c57 = true := by kernel_rfl
theorem acall57 {args : List AV} (hn : args.length ≤ 19) {H : Heap} {v : AV} {H' : Heap} (h : ac Try.prog c57 (argEnv 0 args) H (Fin H rs57 v H')) : ACall Try.prog 57 args H v H' :=
  acall Try.func57 (c := Try.f57.body.getD .skip) rfl k57 (by kernel_rfl) hn h
theorem acallK57 {args : List AV} (hn : args.length ≤ 19) {H : Heap} {v : AV} {H' : Heap} (h : ac Try.prog c57 (argEnv 0 args) H (FinK rs57 v H')) : ACall Try.prog 57 args H v H' :=
  acallK Try.func57 (c := Try.f57.body.getD .skip) rfl k57 (by kernel_rfl) hn h

/- alidade/qfix.signed$1 -/
def c58 : SC :=
  (.seq (.reg [⟨some 3, .mv, [.c (.int .i64 0)], none, []⟩])
  (.seq (.seq (.reg [⟨some 4, .ld1, [.r 1], none, [1, 3]⟩])
  (.cond (.r 4)
    (.kl [4] (.seq (.reg [⟨some 5, .mv, [.r 0], none, [0]⟩,
      ⟨some 6, (.un .neg), [.r 5], none, [5]⟩,
      ⟨some 3, .mv, [.r 6], none, [6]⟩])
    .ret))
    (.kl [4] .skip)))
  (.seq (.reg [⟨some 7, .mv, [.r 0], none, [0]⟩,
    ⟨some 3, .mv, [.r 7], none, [7]⟩])
  .ret)))
def rs58 : List SR := [.tmp 3]
theorem k58 : okC Try.prog 8 (Try.f58.body.getD .skip) c58 = true := by kernel_rfl
theorem acall58 {args : List AV} (hn : args.length ≤ 8) {H : Heap} {v : AV} {H' : Heap} (h : ac Try.prog c58 (argEnv 0 args) H (Fin H rs58 v H')) : ACall Try.prog 58 args H v H' :=
  acall Try.func58 (c := Try.f58.body.getD .skip) rfl k58 (by kernel_rfl) hn h
theorem acallK58 {args : List AV} (hn : args.length ≤ 8) {H : Heap} {v : AV} {H' : Heap} (h : ac Try.prog c58 (argEnv 0 args) H (FinK rs58 v H')) : ACall Try.prog 58 args H v H' :=
  acallK Try.func58 (c := Try.f58.body.getD .skip) rfl k58 (by kernel_rfl) hn h

/- math/bits.Mul32 -/
def c59 : SC :=
  (.seq (.reg [⟨some 4, .mv, [.c (.int .u32 0)], none, []⟩,
    ⟨some 5, .mv, [.c (.int .u32 0)], none, [4]⟩])
  (.seq (.reg [⟨some 7, .mv, [.r 0], none, [0, 5]⟩,
    ⟨some 8, (.conv .u64), [.r 7], none, [7]⟩,
    ⟨some 9, .mv, [.r 1], none, [1]⟩,
    ⟨some 10, (.conv .u64), [.r 9], none, [9]⟩,
    ⟨some 11, (.bin .mul), [.r 8, .r 10], none, [8, 10]⟩,
    ⟨some 6, .mv, [.r 11], none, [11]⟩])
  (.seq (.reg [⟨some 12, .mv, [.r 6], none, []⟩,
    ⟨some 13, (.bin .shr), [.r 12, .c (.int .u64 32)], none, [12]⟩,
    ⟨some 14, (.conv .u32), [.r 13], none, [13]⟩,
    ⟨some 15, .mv, [.r 6], none, [6]⟩,
    ⟨some 16, (.conv .u32), [.r 15], none, [15]⟩,
    ⟨some 4, .mv, [.r 14], none, [14]⟩,
    ⟨some 5, .mv, [.r 16], none, [16]⟩])
  .ret)))
def rs59 : List SR := [.tmp 4, .tmp 5]
theorem k59 : okC Try.prog 17 (Try.f59.body.getD .skip) c59 = true := by kernel_rfl
theorem acall59 {args : List AV} (hn : args.length ≤ 17) {H : Heap} {v : AV} {H' : Heap} (h : ac Try.prog c59 (argEnv 0 args) H (Fin H rs59 v H')) : ACall Try.prog 59 args H v H' :=
  acall Try.func59 (c := Try.f59.body.getD .skip) rfl k59 (by kernel_rfl) hn h
theorem acallK59 {args : List AV} (hn : args.length ≤ 17) {H : Heap} {v : AV} {H' : Heap} (h : ac Try.prog c59 (argEnv 0 args) H (FinK rs59 v H')) : ACall Try.prog 59 args H v H' :=
  acallK Try.func59 (c := Try.f59.body.getD .skip) rfl k59 (by kernel_rfl) hn h

end Go.Proofs.Ytmlklopopokjoaa.Ah
