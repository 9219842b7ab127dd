/- G09: a part of the proof: contracts of functions, or plain laws. Conditions: none. -/
import Derived.Test.YtlohehkagaabfaaEc
import Derived.Test.YtlohehkagaabfaaProg
import Derived.KernelRfl
namespace Go.Proofs.Ytlohehkagaabfaa.Ah
open Go
/- alidade/alidadelaw09.DeltaLong -/
def c3l0 : SC :=
  (.seq (.seq (.reg [⟨some 26, .mv, [.r 7], none, []⟩,
      ⟨some 27, .mv, [.r 0], none, []⟩,
      ⟨some 28, .len, [.r 27], none, [27]⟩,
      ⟨some 29, (.bin .lss), [.r 26, .r 28], none, [26, 28]⟩])
    (.cond (.r 29)
      (.kl [29] .skip)
      (.kl [7, 29] (.exit 0))))
    (.seq (.block 1 (.seq (.dreg [⟨0, 0, false, false, ⟨some 32, .mv, [.r 0], none, []⟩⟩,
      ⟨1, 0, false, false, ⟨some 33, .mv, [.r 7], none, []⟩⟩,
      ⟨2, 3, false, false, ⟨some 34, (.iaddrS 1), [.r 32, .r 33], none, [32, 33]⟩⟩,
      ⟨3, 7, false, false, ⟨some 35, .ld1, [.r 34], none, [34]⟩⟩,
      ⟨4, 0, false, false, ⟨some 36, .mv, [.r 1], none, []⟩⟩,
      ⟨5, 0, false, false, ⟨some 37, .mv, [.r 7], none, []⟩⟩,
      ⟨6, 48, false, false, ⟨some 38, (.iaddrS 1), [.r 36, .r 37], none, [36, 37]⟩⟩,
      ⟨7, 112, false, false, ⟨some 39, .ld1, [.r 38], none, [38]⟩⟩,
      ⟨8, 255, false, false, ⟨some 40, (.bin .neq), [.r 35, .r 39], none, [35, 39]⟩⟩])
    (.cond (.r 40)
      (.kl [40] (.reg [⟨some 41, .mv, [.r 6], none, [6]⟩,
        ⟨some 42, (.bin .add), [.r 41, .c (.int .i64 1)], none, [41]⟩,
        ⟨some 6, .mv, [.r 42], none, [42]⟩]))
      (.kl [40] .skip))))
    (.reg [⟨some 30, .mv, [.r 7], none, [7]⟩,
      ⟨some 31, (.bin .add), [.r 30, .c (.int .i64 1)], none, [30]⟩,
      ⟨some 7, .mv, [.r 31], none, [31]⟩])))
def c3 : SC :=
  (.seq (.reg [⟨some 4, .mv, [.c (.bool false)], none, []⟩])
  (.seq (.reg [⟨some 10, (.call 9), [], none, [4]⟩,
    ⟨some 5, .mv, [.r 10], none, [10]⟩])
  (.seq (.seq (.reg [⟨some 11, .mv, [.r 0], none, []⟩,
    ⟨some 12, .len, [.r 11], none, [11]⟩,
    ⟨some 13, .mv, [.r 1], none, []⟩,
    ⟨some 14, .len, [.r 13], none, [13]⟩,
    ⟨some 15, (.bin .neq), [.r 12, .r 14], none, [12, 14]⟩,
    ⟨some 16, .mv, [.r 15], none, [15]⟩,
    ⟨some 17, .mv, [.r 0], (some (16, false)), []⟩,
    ⟨some 18, .len, [.r 17], (some (16, false)), [17]⟩,
    ⟨some 19, (.bin .gtr), [.r 18, .c (.int .i64 600)], (some (16, false)), [18]⟩,
    ⟨some 20, .pick, [.r 16, .c (.bool true), .r 19], none, [16, 19]⟩])
  (.cond (.r 20)
    (.kl [0, 1, 20] (.seq (.reg [⟨some 21, .mv, [.r 5], none, [5]⟩,
      ⟨some 4, .mv, [.r 21], none, [21]⟩])
    .ret))
    (.kl [20] .skip)))
  (.seq (.reg [⟨some 22, .mv, [.r 0], none, []⟩,
    ⟨some 23, .len, [.r 22], none, [22]⟩,
    ⟨some 24, (.bin .add), [.r 23, .c (.int .i64 59)], none, [23]⟩,
    ⟨some 25, (.bin .quo), [.r 24, .c (.int .i64 60)], none, [24]⟩,
    ⟨some 6, .mv, [.r 25], none, [25]⟩])
  (.seq (.seq (.reg [⟨some 7, .mv, [.c (.int .i64 0)], none, []⟩])
  (.block 0 (.loop c3l0)))
  (.seq (.reg [⟨some 44, .mv, [.r 0], none, [0]⟩,
    ⟨some 45, .mv, [.r 1], none, [1]⟩,
    ⟨some 46, (.call 10), [.r 44, .r 45], none, [44, 45]⟩,
    ⟨some 43, .mv, [.r 46], none, [46]⟩,
    ⟨some 47, (.ext 0), [.r 43], none, []⟩,
    ⟨some 48, (.ext 1), [.r 43], none, [43]⟩,
    ⟨some 8, .mv, [.r 47], none, [47]⟩,
    ⟨some 9, .mv, [.r 48], none, [48]⟩])
  (.seq (.reg [⟨some 49, .mv, [.r 5], none, [5]⟩,
    ⟨some 50, .mv, [.r 49], none, [49]⟩,
    ⟨some 51, .mv, [.r 9], (some (50, true)), [9]⟩,
    ⟨some 52, (.bin .eql), [.r 51, .c (.int .i64 0)], (some (50, true)), [51]⟩,
    ⟨some 53, .pick, [.r 50, .r 52, .c (.bool false)], none, [50, 52]⟩,
    ⟨some 54, .mv, [.r 53], none, [53]⟩,
    ⟨some 55, .mv, [.r 8], (some (54, true)), [8]⟩,
    ⟨some 56, .len, [.r 55], (some (54, true)), [55]⟩,
    ⟨some 57, .mv, [.r 6], (some (54, true)), [6]⟩,
    ⟨some 58, (.bin .eql), [.r 56, .r 57], (some (54, true)), [56, 57]⟩,
    ⟨some 59, .pick, [.r 54, .r 58, .c (.bool false)], none, [54, 58]⟩,
    ⟨some 4, .mv, [.r 59], none, [59]⟩])
  .ret)))))))
def rs3 : List SR := [.tmp 4]
theorem k3 : okC Try.prog 60 (Try.f3.body.getD .skip) c3 = true := by kernel_rfl
theorem acall3 {args : List AV} (hn : args.length ≤ 60) {H : Heap} {v : AV} {H' : Heap} (h : ac Try.prog c3 (argEnv 0 args) H (Fin H rs3 v H')) : ACall Try.prog 3 args H v H' :=
  acall Try.func3 (c := Try.f3.body.getD .skip) rfl k3 (by kernel_rfl) hn h
theorem acallK3 {args : List AV} (hn : args.length ≤ 60) {H : Heap} {v : AV} {H' : Heap} (h : ac Try.prog c3 (argEnv 0 args) H (FinK rs3 v H')) : ACall Try.prog 3 args H v H' :=
  acallK Try.func3 (c := Try.f3.body.getD .skip) rfl k3 (by kernel_rfl) hn h

/- alidade/alidadelaw09.DeltaCuts -/
def c4l0 : SC :=
  (.seq (.seq (.reg [⟨some 24, .mv, [.r 5], none, []⟩,
      ⟨some 25, .mv, [.r 4], none, []⟩,
      ⟨some 26, .len, [.r 25], none, [25]⟩,
      ⟨some 27, (.bin .mul), [.c (.int .i64 8), .r 26], none, [26]⟩,
      ⟨some 28, (.bin .lss), [.r 24, .r 27], none, [24, 27]⟩])
    (.cond (.r 28)
      (.kl [28] .skip)
      (.kl [5, 28] (.exit 0))))
    (.seq (.block 1 (.seq (.reg [⟨some 6, .mv, [.c (.int .i64 0)], none, []⟩])
    (.seq (.seq (.reg [⟨some 31, .mv, [.r 5], none, []⟩,
      ⟨some 32, .mv, [.r 0], none, []⟩,
      ⟨some 33, .len, [.r 32], none, [32]⟩,
      ⟨some 34, (.bin .lss), [.r 31, .r 33], none, [31, 33]⟩])
    (.cond (.r 34)
      (.kl [6, 34] (.reg [⟨some 35, .mv, [.r 0], none, []⟩,
        ⟨some 36, .mv, [.r 5], none, []⟩,
        ⟨some 37, (.iaddrS 1), [.r 35, .r 36], none, [35, 36]⟩,
        ⟨some 38, .ld1, [.r 37], none, [37]⟩,
        ⟨some 6, .mv, [.r 38], none, [38]⟩]))
      (.kl [34] .skip)))
    (.seq (.reg [⟨some 39, .mv, [.r 4], none, []⟩,
      ⟨some 40, .mv, [.r 5], none, []⟩,
      ⟨some 41, (.bin .quo), [.r 40, .c (.int .i64 8)], none, [40]⟩,
      ⟨some 42, .mv, [.r 5], none, []⟩,
      ⟨some 43, (.bin .rem), [.r 42, .c (.int .i64 8)], none, [42]⟩,
      ⟨some 44, (.iaddrS 8), [.r 39, .r 41], none, [39, 41]⟩,
      ⟨some 45, (.iaddrA 1 8), [.r 44, .r 43], none, [43, 44]⟩,
      ⟨some 46, .ld1, [.r 45], none, [45]⟩,
      ⟨some 47, .mv, [.r 6], none, [6]⟩,
      ⟨some 48, (.bin .neq), [.r 46, .r 47], none, [46, 47]⟩])
    (.cond (.r 48)
      (.kl [0, 3, 4, 5, 48] (.seq (.reg [⟨some 2, .mv, [.c (.bool false)], none, []⟩])
      .ret))
      (.kl [48] .skip))))))
    (.reg [⟨some 29, .mv, [.r 5], none, [5]⟩,
      ⟨some 30, (.bin .add), [.r 29, .c (.int .i64 1)], none, [29]⟩,
      ⟨some 5, .mv, [.r 30], none, [30]⟩])))
def c4 : SC :=
  (.seq (.reg [⟨some 2, .mv, [.c (.bool false)], none, []⟩])
  (.seq (.reg [⟨some 11, (.call 9), [], none, [2]⟩,
    ⟨some 3, .mv, [.r 11], none, [11]⟩])
  (.seq (.seq (.reg [⟨some 12, .mv, [.r 0], none, []⟩,
    ⟨some 13, .len, [.r 12], none, [12]⟩,
    ⟨some 14, (.bin .gtr), [.r 13, .c (.int .i64 1000)], none, [13]⟩])
  (.cond (.r 14)
    (.kl [0, 14] (.seq (.reg [⟨some 15, .mv, [.r 3], none, [3]⟩,
      ⟨some 2, .mv, [.r 15], none, [15]⟩])
    .ret))
    (.kl [14] .skip)))
  (.seq (.reg [⟨some 16, .mv, [.r 0], none, []⟩,
    ⟨some 17, (.call 11), [.r 16], none, [16]⟩,
    ⟨some 4, .mv, [.r 17], none, [17]⟩])
  (.seq (.seq (.reg [⟨some 18, .mv, [.r 4], none, []⟩,
    ⟨some 19, .len, [.r 18], none, [18]⟩,
    ⟨some 20, .mv, [.r 0], none, []⟩,
    ⟨some 21, .len, [.r 20], none, [20]⟩,
    ⟨some 22, (.call 12), [.r 21], none, [21]⟩,
    ⟨some 23, (.bin .neq), [.r 19, .r 22], none, [19, 22]⟩])
  (.cond (.r 23)
    (.kl [0, 3, 4, 23] (.seq (.reg [⟨some 2, .mv, [.c (.bool false)], none, []⟩])
    .ret))
    (.kl [23] .skip)))
  (.seq (.seq (.reg [⟨some 5, .mv, [.c (.int .i64 0)], none, []⟩])
  (.block 0 (.loop c4l0)))
  (.seq (.reg [⟨some 50, .mv, [.r 4], none, []⟩,
    ⟨some 51, .mv, [.r 0], none, []⟩,
    ⟨some 52, .len, [.r 51], none, [51]⟩,
    ⟨some 53, (.call 13), [.r 50, .r 52], none, [50, 52]⟩,
    ⟨some 49, .mv, [.r 53], none, [53]⟩,
    ⟨some 54, (.ext 0), [.r 49], none, []⟩,
    ⟨some 55, (.ext 1), [.r 49], none, [49]⟩,
    ⟨some 7, .mv, [.r 54], none, [54]⟩,
    ⟨some 8, .mv, [.r 55], none, [55]⟩])
  (.seq (.reg [⟨some 57, .mv, [.r 4], none, [4]⟩,
    ⟨some 58, (.build [(.int .i64 0), (.int .i64 0), (.int .i64 0), (.int .i64 0), (.int .i64 0), (.int .i64 0), (.int .i64 0), (.int .i64 0)] []), [], none, []⟩,
    ⟨some 59, (.bslice 8 1 [(.int .i64 0), (.int .i64 0), (.int .i64 0), (.int .i64 0), (.int .i64 0), (.int .i64 0), (.int .i64 0), (.int .i64 0)] [(0, 8)]), [.r 58], none, [58]⟩,
    ⟨some 60, (.app 8 64), [.r 57, .r 59], none, [57, 59]⟩,
    ⟨some 61, .mv, [.r 0], none, []⟩,
    ⟨some 62, .len, [.r 61], none, [61]⟩,
    ⟨some 63, (.call 13), [.r 60, .r 62], none, [60, 62]⟩,
    ⟨some 56, .mv, [.r 63], none, [63]⟩,
    ⟨some 64, (.ext 0), [.r 56], none, []⟩,
    ⟨some 65, (.ext 1), [.r 56], none, [56]⟩,
    ⟨some 9, .mv, [.r 64], none, [64]⟩,
    ⟨some 10, .mv, [.r 65], none, [9, 65]⟩])
  (.seq (.reg [⟨some 66, .mv, [.r 3], none, [3]⟩,
    ⟨some 67, .mv, [.r 66], none, [66]⟩,
    ⟨some 68, .mv, [.r 8], (some (67, true)), [8]⟩,
    ⟨some 69, (.bin .eql), [.r 68, .c (.int .i64 0)], (some (67, true)), [68]⟩,
    ⟨some 70, .pick, [.r 67, .r 69, .c (.bool false)], none, [67, 69]⟩,
    ⟨some 71, .mv, [.r 70], none, [70]⟩,
    ⟨some 72, .mv, [.r 7], (some (71, true)), [7]⟩,
    ⟨some 73, .mv, [.r 0], (some (71, true)), [0]⟩,
    ⟨some 74, (.call 14), [.r 72, .r 73], (some (71, true)), [72, 73]⟩,
    ⟨some 75, .pick, [.r 71, .r 74, .c (.bool false)], none, [71, 74]⟩,
    ⟨some 76, .mv, [.r 75], none, [75]⟩,
    ⟨some 77, .mv, [.r 10], (some (76, true)), [10]⟩,
    ⟨some 78, (.bin .eql), [.r 77, .c (.int .i64 9)], (some (76, true)), [77]⟩,
    ⟨some 79, .pick, [.r 76, .r 78, .c (.bool false)], none, [76, 78]⟩,
    ⟨some 2, .mv, [.r 79], none, [79]⟩])
  .ret)))))))))
def rs4 : List SR := [.tmp 2]
theorem k4 : okC Try.prog 80 (Try.f4.body.getD .skip) c4 = true := by kernel_rfl
theorem acall4 {args : List AV} (hn : args.length ≤ 80) {H : Heap} {v : AV} {H' : Heap} (h : ac Try.prog c4 (argEnv 0 args) H (Fin H rs4 v H')) : ACall Try.prog 4 args H v H' :=
  acall Try.func4 (c := Try.f4.body.getD .skip) rfl k4 (by kernel_rfl) hn h
theorem acallK4 {args : List AV} (hn : args.length ≤ 80) {H : Heap} {v : AV} {H' : Heap} (h : ac Try.prog c4 (argEnv 0 args) H (FinK rs4 v H')) : ACall Try.prog 4 args H v H' :=
  acallK Try.func4 (c := Try.f4.body.getD .skip) rfl k4 (by kernel_rfl) hn h

/- alidade/alidadelaw09.DeltaTells -/
def c5 : SC :=
  (.seq (.reg [⟨some 6, .mv, [.c (.bool false)], none, []⟩])
  (.seq (.reg [⟨some 16, (.call 9), [], none, [6]⟩,
    ⟨some 7, .mv, [.r 16], none, [16]⟩])
  (.seq (.seq (.reg [⟨some 17, .mv, [.r 0], none, []⟩,
    ⟨some 18, .len, [.r 17], none, [17]⟩,
    ⟨some 19, .mv, [.r 1], none, []⟩,
    ⟨some 20, .len, [.r 19], none, [19]⟩,
    ⟨some 21, (.bin .add), [.r 18, .r 20], none, [18, 20]⟩,
    ⟨some 22, .mv, [.r 2], none, []⟩,
    ⟨some 23, .len, [.r 22], none, [22]⟩,
    ⟨some 24, (.bin .add), [.r 21, .r 23], none, [21, 23]⟩,
    ⟨some 25, (.bin .gtr), [.r 24, .c (.int .i64 1500)], none, [24]⟩])
  (.cond (.r 25)
    (.kl [0, 1, 2, 25] (.seq (.reg [⟨some 26, .mv, [.r 7], none, [7]⟩,
      ⟨some 6, .mv, [.r 26], none, [26]⟩])
    .ret))
    (.kl [25] .skip)))
  (.seq (.reg [⟨some 28, .mv, [.r 0], none, []⟩,
    ⟨some 29, .mv, [.r 1], none, []⟩,
    ⟨some 30, (.call 10), [.r 28, .r 29], none, [28, 29]⟩,
    ⟨some 27, .mv, [.r 30], none, [30]⟩,
    ⟨some 31, (.ext 0), [.r 27], none, []⟩,
    ⟨some 32, (.ext 1), [.r 27], none, [27]⟩,
    ⟨some 8, .mv, [.r 31], none, [31]⟩,
    ⟨some 9, .mv, [.r 32], none, [32]⟩])
  (.seq (.reg [⟨some 34, .mv, [.r 0], none, []⟩,
    ⟨some 35, .mv, [.r 1], none, [1]⟩,
    ⟨some 36, (.call 15), [.r 34, .r 35], none, [34, 35]⟩,
    ⟨some 33, .mv, [.r 36], none, [36]⟩,
    ⟨some 37, (.ext 0), [.r 33], none, []⟩,
    ⟨some 38, (.ext 1), [.r 33], none, [33]⟩,
    ⟨some 10, .mv, [.r 37], none, [37]⟩,
    ⟨some 11, .mv, [.r 38], none, [38]⟩])
  (.seq (.reg [⟨some 40, .mv, [.r 0], none, []⟩,
    ⟨some 41, .mv, [.r 2], none, []⟩,
    ⟨some 42, (.call 16), [.r 40, .r 41], none, [40, 41]⟩,
    ⟨some 39, .mv, [.r 42], none, [42]⟩,
    ⟨some 43, (.ext 0), [.r 39], none, []⟩,
    ⟨some 44, (.ext 1), [.r 39], none, [39]⟩,
    ⟨some 12, .mv, [.r 43], none, [43]⟩,
    ⟨some 13, .mv, [.r 44], none, [44]⟩])
  (.seq (.reg [⟨some 46, .mv, [.r 0], none, [0]⟩,
    ⟨some 47, .mv, [.r 2], none, [2]⟩,
    ⟨some 48, (.call 17), [.r 46, .r 47], none, [46, 47]⟩,
    ⟨some 45, .mv, [.r 48], none, [48]⟩,
    ⟨some 49, (.ext 0), [.r 45], none, []⟩,
    ⟨some 50, (.ext 1), [.r 45], none, [45]⟩,
    ⟨some 14, .mv, [.r 49], none, [49]⟩,
    ⟨some 15, .mv, [.r 50], none, [50]⟩])
  (.seq (.reg [⟨some 51, .mv, [.r 7], none, [7]⟩,
    ⟨some 52, .mv, [.r 51], none, [51]⟩,
    ⟨some 53, .mv, [.r 8], (some (52, true)), [8]⟩,
    ⟨some 54, .mv, [.r 10], (some (52, true)), [10]⟩,
    ⟨some 55, (.call 14), [.r 53, .r 54], (some (52, true)), [53, 54]⟩,
    ⟨some 56, .pick, [.r 52, .r 55, .c (.bool false)], none, [52, 55]⟩,
    ⟨some 57, .mv, [.r 56], none, [56]⟩,
    ⟨some 58, .mv, [.r 9], (some (57, true)), [9]⟩,
    ⟨some 59, .mv, [.r 11], (some (57, true)), [11]⟩,
    ⟨some 60, (.bin .eql), [.r 58, .r 59], (some (57, true)), [58, 59]⟩,
    ⟨some 61, .pick, [.r 57, .r 60, .c (.bool false)], none, [57, 60]⟩,
    ⟨some 62, .mv, [.r 61], none, [61]⟩,
    ⟨some 63, .mv, [.r 12], (some (62, true)), [12]⟩,
    ⟨some 64, .mv, [.r 14], (some (62, true)), [14]⟩,
    ⟨some 65, (.call 14), [.r 63, .r 64], (some (62, true)), [63, 64]⟩,
    ⟨some 66, .pick, [.r 62, .r 65, .c (.bool false)], none, [62, 65]⟩,
    ⟨some 67, .mv, [.r 66], none, [66]⟩,
    ⟨some 68, .mv, [.r 13], (some (67, true)), [13]⟩,
    ⟨some 69, .mv, [.r 15], (some (67, true)), [15]⟩,
    ⟨some 70, (.bin .eql), [.r 68, .r 69], (some (67, true)), [68, 69]⟩,
    ⟨some 71, .pick, [.r 67, .r 70, .c (.bool false)], none, [67, 70]⟩,
    ⟨some 6, .mv, [.r 71], none, [71]⟩])
  .ret))))))))
def rs5 : List SR := [.tmp 6]
theorem k5 : okC Try.prog 72 (Try.f5.body.getD .skip) c5 = true := by kernel_rfl
theorem acall5 {args : List AV} (hn : args.length ≤ 72) {H : Heap} {v : AV} {H' : Heap} (h : ac Try.prog c5 (argEnv 0 args) H (Fin H rs5 v H')) : ACall Try.prog 5 args H v H' :=
  acall Try.func5 (c := Try.f5.body.getD .skip) rfl k5 (by kernel_rfl) hn h
theorem acallK5 {args : List AV} (hn : args.length ≤ 72) {H : Heap} {v : AV} {H' : Heap} (h : ac Try.prog c5 (argEnv 0 args) H (FinK rs5 v H')) : ACall Try.prog 5 args H v H' :=
  acallK Try.func5 (c := Try.f5.body.getD .skip) rfl k5 (by kernel_rfl) hn h

/- alidade/alidadelaw09.DeltaOne -/
def c6 : SC :=
  (.seq (.reg [⟨some 4, .mv, [.c (.bool false)], none, []⟩])
  (.seq (.reg [⟨some 10, (.call 9), [], none, [4]⟩,
    ⟨some 5, .mv, [.r 10], none, [10]⟩])
  (.seq (.seq (.reg [⟨some 11, .mv, [.r 0], none, []⟩,
    ⟨some 12, .len, [.r 11], none, [11]⟩,
    ⟨some 13, (.bin .gtr), [.r 12, .c (.int .i64 600)], none, [12]⟩,
    ⟨some 14, .mv, [.r 13], none, [13]⟩,
    ⟨some 15, .mv, [.r 1], (some (14, false)), []⟩,
    ⟨some 16, .len, [.r 15], (some (14, false)), [15]⟩,
    ⟨some 17, (.bin .gtr), [.r 16, .c (.int .i64 1500)], (some (14, false)), [16]⟩,
    ⟨some 18, .pick, [.r 14, .c (.bool true), .r 17], none, [14, 17]⟩])
  (.cond (.r 18)
    (.kl [0, 1, 18] (.seq (.reg [⟨some 19, .mv, [.r 5], none, [5]⟩,
      ⟨some 4, .mv, [.r 19], none, [19]⟩])
    .ret))
    (.kl [18] .skip)))
  (.seq (.reg [⟨some 21, .mv, [.r 0], none, []⟩,
    ⟨some 22, .mv, [.r 1], none, []⟩,
    ⟨some 23, (.call 16), [.r 21, .r 22], none, [21, 22]⟩,
    ⟨some 20, .mv, [.r 23], none, [23]⟩,
    ⟨some 24, (.ext 0), [.r 20], none, []⟩,
    ⟨some 25, (.ext 1), [.r 20], none, [20]⟩,
    ⟨some 6, .mv, [.r 24], none, [24]⟩,
    ⟨some 7, .mv, [.r 25], none, [25]⟩])
  (.seq (.seq (.reg [⟨some 26, .mv, [.r 7], none, [7]⟩,
    ⟨some 27, (.bin .neq), [.r 26, .c (.int .i64 0)], none, [26]⟩])
  (.cond (.r 27)
    (.kl [0, 1, 27] (.seq (.reg [⟨some 28, .mv, [.r 5], none, [5]⟩,
      ⟨some 29, .mv, [.r 28], none, [28]⟩,
      ⟨some 30, .mv, [.r 6], (some (29, true)), [6]⟩,
      ⟨some 31, .len, [.r 30], (some (29, true)), [30]⟩,
      ⟨some 32, (.bin .eql), [.r 31, .c (.int .i64 0)], (some (29, true)), [31]⟩,
      ⟨some 33, .pick, [.r 29, .r 32, .c (.bool false)], none, [29, 32]⟩,
      ⟨some 4, .mv, [.r 33], none, [33]⟩])
    .ret))
    (.kl [27] .skip)))
  (.seq (.reg [⟨some 35, .mv, [.r 0], none, [0]⟩,
    ⟨some 36, .mv, [.r 6], none, [6]⟩,
    ⟨some 37, (.call 10), [.r 35, .r 36], none, [35, 36]⟩,
    ⟨some 34, .mv, [.r 37], none, [37]⟩,
    ⟨some 38, (.ext 0), [.r 34], none, []⟩,
    ⟨some 39, (.ext 1), [.r 34], none, [34]⟩,
    ⟨some 8, .mv, [.r 38], none, [38]⟩,
    ⟨some 9, .mv, [.r 39], none, [39]⟩])
  (.seq (.reg [⟨some 40, .mv, [.r 5], none, [5]⟩,
    ⟨some 41, .mv, [.r 40], none, [40]⟩,
    ⟨some 42, .mv, [.r 9], (some (41, true)), [9]⟩,
    ⟨some 43, (.bin .eql), [.r 42, .c (.int .i64 0)], (some (41, true)), [42]⟩,
    ⟨some 44, .pick, [.r 41, .r 43, .c (.bool false)], none, [41, 43]⟩,
    ⟨some 45, .mv, [.r 44], none, [44]⟩,
    ⟨some 46, .mv, [.r 8], (some (45, true)), [8]⟩,
    ⟨some 47, .mv, [.r 1], (some (45, true)), [1]⟩,
    ⟨some 48, (.call 14), [.r 46, .r 47], (some (45, true)), [46, 47]⟩,
    ⟨some 49, .pick, [.r 45, .r 48, .c (.bool false)], none, [45, 48]⟩,
    ⟨some 4, .mv, [.r 49], none, [49]⟩])
  .ret)))))))
def rs6 : List SR := [.tmp 4]
theorem k6 : okC Try.prog 50 (Try.f6.body.getD .skip) c6 = true := by kernel_rfl
theorem acall6 {args : List AV} (hn : args.length ≤ 50) {H : Heap} {v : AV} {H' : Heap} (h : ac Try.prog c6 (argEnv 0 args) H (Fin H rs6 v H')) : ACall Try.prog 6 args H v H' :=
  acall Try.func6 (c := Try.f6.body.getD .skip) rfl k6 (by kernel_rfl) hn h
theorem acallK6 {args : List AV} (hn : args.length ≤ 50) {H : Heap} {v : AV} {H' : Heap} (h : ac Try.prog c6 (argEnv 0 args) H (FinK rs6 v H')) : ACall Try.prog 6 args H v H' :=
  acallK Try.func6 (c := Try.f6.body.getD .skip) rfl k6 (by kernel_rfl) hn h

/- alidade/alidadelaw09.DeltaThere -/
def c7 : SC :=
  (.seq (.reg [⟨some 4, .mv, [.c (.bool false)], none, []⟩])
  (.seq (.reg [⟨some 14, (.call 9), [], none, [4]⟩,
    ⟨some 5, .mv, [.r 14], none, [14]⟩])
  (.seq (.seq (.reg [⟨some 15, .mv, [.r 0], none, []⟩,
    ⟨some 16, .len, [.r 15], none, [15]⟩,
    ⟨some 17, .mv, [.r 1], none, []⟩,
    ⟨some 18, .len, [.r 17], none, [17]⟩,
    ⟨some 19, (.bin .neq), [.r 16, .r 18], none, [16, 18]⟩,
    ⟨some 20, .mv, [.r 19], none, [19]⟩,
    ⟨some 21, .mv, [.r 0], (some (20, false)), []⟩,
    ⟨some 22, .len, [.r 21], (some (20, false)), [21]⟩,
    ⟨some 23, (.bin .gtr), [.r 22, .c (.int .i64 600)], (some (20, false)), [22]⟩,
    ⟨some 24, .pick, [.r 20, .c (.bool true), .r 23], none, [20, 23]⟩])
  (.cond (.r 24)
    (.kl [0, 1, 24] (.seq (.reg [⟨some 25, .mv, [.r 5], none, [5]⟩,
      ⟨some 4, .mv, [.r 25], none, [25]⟩])
    .ret))
    (.kl [24] .skip)))
  (.seq (.reg [⟨some 27, .mv, [.r 0], none, []⟩,
    ⟨some 28, .mv, [.r 1], none, []⟩,
    ⟨some 29, (.call 10), [.r 27, .r 28], none, [27, 28]⟩,
    ⟨some 26, .mv, [.r 29], none, [29]⟩,
    ⟨some 30, (.ext 0), [.r 26], none, []⟩,
    ⟨some 31, (.ext 1), [.r 26], none, [26]⟩,
    ⟨some 6, .mv, [.r 30], none, [30]⟩,
    ⟨some 7, .mv, [.r 31], none, [31]⟩])
  (.seq (.reg [⟨some 33, .mv, [.r 1], none, [7]⟩,
    ⟨some 34, .mv, [.r 0], none, []⟩,
    ⟨some 35, (.call 10), [.r 33, .r 34], none, [33, 34]⟩,
    ⟨some 32, .mv, [.r 35], none, [35]⟩,
    ⟨some 36, (.ext 0), [.r 32], none, []⟩,
    ⟨some 37, (.ext 1), [.r 32], none, [32]⟩,
    ⟨some 8, .mv, [.r 36], none, [36]⟩,
    ⟨some 9, .mv, [.r 37], none, [37]⟩])
  (.seq (.reg [⟨some 39, .mv, [.r 0], none, [9]⟩,
    ⟨some 40, .mv, [.r 6], none, []⟩,
    ⟨some 41, (.call 16), [.r 39, .r 40], none, [39, 40]⟩,
    ⟨some 38, .mv, [.r 41], none, [41]⟩,
    ⟨some 42, (.ext 0), [.r 38], none, []⟩,
    ⟨some 43, (.ext 1), [.r 38], none, [38]⟩,
    ⟨some 10, .mv, [.r 42], none, [42]⟩,
    ⟨some 11, .mv, [.r 43], none, [43]⟩])
  (.seq (.reg [⟨some 45, .mv, [.r 10], none, []⟩,
    ⟨some 46, .mv, [.r 8], none, []⟩,
    ⟨some 47, (.call 16), [.r 45, .r 46], none, [45, 46]⟩,
    ⟨some 44, .mv, [.r 47], none, [47]⟩,
    ⟨some 48, (.ext 0), [.r 44], none, []⟩,
    ⟨some 49, (.ext 1), [.r 44], none, [44]⟩,
    ⟨some 12, .mv, [.r 48], none, [48]⟩,
    ⟨some 13, .mv, [.r 49], none, [49]⟩])
  (.seq (.reg [⟨some 50, .mv, [.r 5], none, [5]⟩,
    ⟨some 51, .mv, [.r 50], none, [50]⟩,
    ⟨some 52, .mv, [.r 11], (some (51, true)), [11]⟩,
    ⟨some 53, (.bin .eql), [.r 52, .c (.int .i64 0)], (some (51, true)), [52]⟩,
    ⟨some 54, .pick, [.r 51, .r 53, .c (.bool false)], none, [51, 53]⟩,
    ⟨some 55, .mv, [.r 54], none, [54]⟩,
    ⟨some 56, .mv, [.r 13], (some (55, true)), [13]⟩,
    ⟨some 57, (.bin .eql), [.r 56, .c (.int .i64 0)], (some (55, true)), [56]⟩,
    ⟨some 58, .pick, [.r 55, .r 57, .c (.bool false)], none, [55, 57]⟩,
    ⟨some 59, .mv, [.r 58], none, [58]⟩,
    ⟨some 60, .mv, [.r 10], (some (59, true)), [10]⟩,
    ⟨some 61, .mv, [.r 1], (some (59, true)), [1]⟩,
    ⟨some 62, (.call 14), [.r 60, .r 61], (some (59, true)), [60, 61]⟩,
    ⟨some 63, .pick, [.r 59, .r 62, .c (.bool false)], none, [59, 62]⟩,
    ⟨some 64, .mv, [.r 63], none, [63]⟩,
    ⟨some 65, .mv, [.r 12], (some (64, true)), [12]⟩,
    ⟨some 66, .mv, [.r 0], (some (64, true)), [0]⟩,
    ⟨some 67, (.call 14), [.r 65, .r 66], (some (64, true)), [65, 66]⟩,
    ⟨some 68, .pick, [.r 64, .r 67, .c (.bool false)], none, [64, 67]⟩,
    ⟨some 69, .mv, [.r 68], none, [68]⟩,
    ⟨some 70, .mv, [.r 6], (some (69, true)), [6]⟩,
    ⟨some 71, .len, [.r 70], (some (69, true)), [70]⟩,
    ⟨some 72, .mv, [.r 8], (some (69, true)), [8]⟩,
    ⟨some 73, .len, [.r 72], (some (69, true)), [72]⟩,
    ⟨some 74, (.bin .eql), [.r 71, .r 73], (some (69, true)), [71, 73]⟩,
    ⟨some 75, .pick, [.r 69, .r 74, .c (.bool false)], none, [69, 74]⟩,
    ⟨some 4, .mv, [.r 75], none, [75]⟩])
  .ret))))))))
def rs7 : List SR := [.tmp 4]
theorem k7 : okC Try.prog 76 (Try.f7.body.getD .skip) c7 = true := by kernel_rfl
theorem acall7 {args : List AV} (hn : args.length ≤ 76) {H : Heap} {v : AV} {H' : Heap} (h : ac Try.prog c7 (argEnv 0 args) H (Fin H rs7 v H')) : ACall Try.prog 7 args H v H' :=
  acall Try.func7 (c := Try.f7.body.getD .skip) rfl k7 (by kernel_rfl) hn h
theorem acallK7 {args : List AV} (hn : args.length ≤ 76) {H : Heap} {v : AV} {H' : Heap} (h : ac Try.prog c7 (argEnv 0 args) H (FinK rs7 v H')) : ACall Try.prog 7 args H v H' :=
  acallK Try.func7 (c := Try.f7.body.getD .skip) rfl k7 (by kernel_rfl) hn h

/- alidade/alidadelaw09.DeltaBack -/
def c8l0 : SC :=
  (.seq (.seq (.reg [⟨some 55, .mv, [.r 15], none, []⟩,
      ⟨some 56, .mv, [.r 13], none, []⟩,
      ⟨some 57, .len, [.r 56], none, [56]⟩,
      ⟨some 58, (.bin .lss), [.r 55, .r 57], none, [55, 57]⟩])
    (.cond (.r 58)
      (.kl [58] .skip)
      (.kl [15, 58] (.exit 0))))
    (.seq (.block 1 (.seq (.reg [⟨some 61, .mv, [.r 13], none, []⟩,
      ⟨some 62, .mv, [.r 15], none, []⟩,
      ⟨some 63, (.iaddrS 1), [.r 61, .r 62], none, [61, 62]⟩,
      ⟨some 64, .ld1, [.r 63], none, [63]⟩,
      ⟨some 65, (.bin .neq), [.r 64, .c (.int .i64 0)], none, [64]⟩])
    (.cond (.r 65)
      (.kl [1, 5, 6, 7, 8, 10, 11, 12, 13, 14, 15, 65] (.seq (.reg [⟨some 4, .mv, [.c (.bool false)], none, []⟩])
      .ret))
      (.kl [65] .skip))))
    (.reg [⟨some 59, .mv, [.r 15], none, [15]⟩,
      ⟨some 60, (.bin .add), [.r 59, .c (.int .i64 1)], none, [59]⟩,
      ⟨some 15, .mv, [.r 60], none, [60]⟩])))
def c8 : SC :=
  (.seq (.reg [⟨some 4, .mv, [.c (.bool false)], none, []⟩])
  (.seq (.reg [⟨some 16, (.call 9), [], none, [4]⟩,
    ⟨some 5, .mv, [.r 16], none, [16]⟩])
  (.seq (.seq (.reg [⟨some 17, .mv, [.r 0], none, []⟩,
    ⟨some 18, .len, [.r 17], none, [17]⟩,
    ⟨some 19, .mv, [.r 1], none, []⟩,
    ⟨some 20, .len, [.r 19], none, [19]⟩,
    ⟨some 21, (.bin .neq), [.r 18, .r 20], none, [18, 20]⟩,
    ⟨some 22, .mv, [.r 21], none, [21]⟩,
    ⟨some 23, .mv, [.r 0], (some (22, false)), []⟩,
    ⟨some 24, .len, [.r 23], (some (22, false)), [23]⟩,
    ⟨some 25, (.bin .gtr), [.r 24, .c (.int .i64 600)], (some (22, false)), [24]⟩,
    ⟨some 26, .pick, [.r 22, .c (.bool true), .r 25], none, [22, 25]⟩])
  (.cond (.r 26)
    (.kl [0, 1, 26] (.seq (.reg [⟨some 27, .mv, [.r 5], none, [5]⟩,
      ⟨some 4, .mv, [.r 27], none, [27]⟩])
    .ret))
    (.kl [26] .skip)))
  (.seq (.reg [⟨some 29, .mv, [.r 0], none, []⟩,
    ⟨some 30, .mv, [.r 1], none, []⟩,
    ⟨some 31, (.call 10), [.r 29, .r 30], none, [29, 30]⟩,
    ⟨some 28, .mv, [.r 31], none, [31]⟩,
    ⟨some 32, (.ext 0), [.r 28], none, []⟩,
    ⟨some 33, (.ext 1), [.r 28], none, [28]⟩,
    ⟨some 6, .mv, [.r 32], none, [32]⟩,
    ⟨some 7, .mv, [.r 33], none, [33]⟩])
  (.seq (.reg [⟨some 34, .mv, [.r 6], none, []⟩,
    ⟨some 35, (.call 11), [.r 34], none, [34]⟩,
    ⟨some 8, .mv, [.r 35], none, [35]⟩])
  (.seq (.reg [⟨some 37, .mv, [.r 8], none, []⟩,
    ⟨some 38, .mv, [.r 6], none, []⟩,
    ⟨some 39, .len, [.r 38], none, [38]⟩,
    ⟨some 40, (.call 13), [.r 37, .r 39], none, [37, 39]⟩,
    ⟨some 36, .mv, [.r 40], none, [40]⟩,
    ⟨some 41, (.ext 0), [.r 36], none, []⟩,
    ⟨some 42, (.ext 1), [.r 36], none, [36]⟩,
    ⟨some 9, .mv, [.r 41], none, [41]⟩,
    ⟨some 10, .mv, [.r 42], none, [42]⟩])
  (.seq (.reg [⟨some 44, .mv, [.r 0], none, [0]⟩,
    ⟨some 45, .mv, [.r 9], none, [9]⟩,
    ⟨some 46, (.call 16), [.r 44, .r 45], none, [44, 45]⟩,
    ⟨some 43, .mv, [.r 46], none, [46]⟩,
    ⟨some 47, (.ext 0), [.r 43], none, []⟩,
    ⟨some 48, (.ext 1), [.r 43], none, [43]⟩,
    ⟨some 11, .mv, [.r 47], none, [47]⟩,
    ⟨some 12, .mv, [.r 48], none, [48]⟩])
  (.seq (.reg [⟨some 50, .mv, [.r 1], none, []⟩,
    ⟨some 51, .mv, [.r 1], none, []⟩,
    ⟨some 52, (.call 10), [.r 50, .r 51], none, [50, 51]⟩,
    ⟨some 49, .mv, [.r 52], none, [52]⟩,
    ⟨some 53, (.ext 0), [.r 49], none, []⟩,
    ⟨some 54, (.ext 1), [.r 49], none, [49]⟩,
    ⟨some 13, .mv, [.r 53], none, [53]⟩,
    ⟨some 14, .mv, [.r 54], none, [54]⟩])
  (.seq (.seq (.reg [⟨some 15, .mv, [.c (.int .i64 0)], none, []⟩])
  (.block 0 (.loop c8l0)))
  (.seq (.reg [⟨some 66, .mv, [.r 5], none, [5]⟩,
    ⟨some 67, .mv, [.r 66], none, [66]⟩,
    ⟨some 68, .mv, [.r 7], (some (67, true)), [7]⟩,
    ⟨some 69, (.bin .eql), [.r 68, .c (.int .i64 0)], (some (67, true)), [68]⟩,
    ⟨some 70, .pick, [.r 67, .r 69, .c (.bool false)], none, [67, 69]⟩,
    ⟨some 71, .mv, [.r 70], none, [70]⟩,
    ⟨some 72, .mv, [.r 10], (some (71, true)), [10]⟩,
    ⟨some 73, (.bin .eql), [.r 72, .c (.int .i64 0)], (some (71, true)), [72]⟩,
    ⟨some 74, .pick, [.r 71, .r 73, .c (.bool false)], none, [71, 73]⟩,
    ⟨some 75, .mv, [.r 74], none, [74]⟩,
    ⟨some 76, .mv, [.r 12], (some (75, true)), [12]⟩,
    ⟨some 77, (.bin .eql), [.r 76, .c (.int .i64 0)], (some (75, true)), [76]⟩,
    ⟨some 78, .pick, [.r 75, .r 77, .c (.bool false)], none, [75, 77]⟩,
    ⟨some 79, .mv, [.r 78], none, [78]⟩,
    ⟨some 80, .mv, [.r 14], (some (79, true)), [14]⟩,
    ⟨some 81, (.bin .eql), [.r 80, .c (.int .i64 0)], (some (79, true)), [80]⟩,
    ⟨some 82, .pick, [.r 79, .r 81, .c (.bool false)], none, [79, 81]⟩,
    ⟨some 83, .mv, [.r 82], none, [82]⟩,
    ⟨some 84, .mv, [.r 11], (some (83, true)), [11]⟩,
    ⟨some 85, .mv, [.r 1], (some (83, true)), []⟩,
    ⟨some 86, (.call 14), [.r 84, .r 85], (some (83, true)), [84, 85]⟩,
    ⟨some 87, .pick, [.r 83, .r 86, .c (.bool false)], none, [83, 86]⟩,
    ⟨some 88, .mv, [.r 87], none, [87]⟩,
    ⟨some 89, .mv, [.r 8], (some (88, true)), [8]⟩,
    ⟨some 90, .len, [.r 89], (some (88, true)), [89]⟩,
    ⟨some 91, .mv, [.r 6], (some (88, true)), [6]⟩,
    ⟨some 92, .len, [.r 91], (some (88, true)), [91]⟩,
    ⟨some 93, (.call 12), [.r 92], (some (88, true)), [92]⟩,
    ⟨some 94, (.bin .eql), [.r 90, .r 93], (some (88, true)), [90, 93]⟩,
    ⟨some 95, .pick, [.r 88, .r 94, .c (.bool false)], none, [88, 94]⟩,
    ⟨some 96, .mv, [.r 95], none, [95]⟩,
    ⟨some 97, .mv, [.r 13], (some (96, true)), [13]⟩,
    ⟨some 98, .len, [.r 97], (some (96, true)), [97]⟩,
    ⟨some 99, .mv, [.r 1], (some (96, true)), [1]⟩,
    ⟨some 100, .len, [.r 99], (some (96, true)), [99]⟩,
    ⟨some 101, (.bin .add), [.r 100, .c (.int .i64 59)], (some (96, true)), [100]⟩,
    ⟨some 102, (.bin .quo), [.r 101, .c (.int .i64 60)], (some (96, true)), [101]⟩,
    ⟨some 103, (.bin .eql), [.r 98, .r 102], (some (96, true)), [98, 102]⟩,
    ⟨some 104, .pick, [.r 96, .r 103, .c (.bool false)], none, [96, 103]⟩,
    ⟨some 4, .mv, [.r 104], none, [104]⟩])
  .ret))))))))))
def rs8 : List SR := [.tmp 4]
theorem k8 : okC Try.prog 105 (Try.f8.body.getD .skip) c8 = true := by kernel_rfl
theorem acall8 {args : List AV} (hn : args.length ≤ 105) {H : Heap} {v : AV} {H' : Heap} (h : ac Try.prog c8 (argEnv 0 args) H (Fin H rs8 v H')) : ACall Try.prog 8 args H v H' :=
  acall Try.func8 (c := Try.f8.body.getD .skip) rfl k8 (by kernel_rfl) hn h
theorem acallK8 {args : List AV} (hn : args.length ≤ 105) {H : Heap} {v : AV} {H' : Heap} (h : ac Try.prog c8 (argEnv 0 args) H (FinK rs8 v H')) : ACall Try.prog 8 args H v H' :=
  acallK Try.func8 (c := Try.f8.body.getD .skip) rfl k8 (by kernel_rfl) hn h

/- alidade/alidadelaw09.shown -/
def c9 : SC :=
  (.seq (.reg [⟨some 0, .mv, [.c (.bool false)], none, []⟩])
  (.seq (.reg [⟨some 4, (.bslice 1 3 [(.int .i64 0), (.int .i64 0), (.int .i64 0)] [(0, 1), (1, 1), (2, 1)]), [.c (.int .i64 5), .c (.int .i64 6), .c (.int .i64 7)], none, [0]⟩,
    ⟨some 5, (.bslice 1 3 [(.int .i64 0), (.int .i64 0), (.int .i64 0)] [(0, 1), (1, 1), (2, 1)]), [.c (.int .i64 5), .c (.int .i64 9), .c (.int .i64 7)], none, []⟩,
    ⟨some 6, (.call 10), [.r 4, .r 5], none, [4, 5]⟩,
    ⟨some 3, .mv, [.r 6], none, [6]⟩,
    ⟨some 7, (.ext 0), [.r 3], none, []⟩,
    ⟨some 8, (.ext 1), [.r 3], none, [3]⟩,
    ⟨some 1, .mv, [.r 7], none, [7]⟩,
    ⟨some 2, .mv, [.r 8], none, [8]⟩])
  (.seq (.reg [⟨some 9, .mv, [.r 2], none, [2]⟩,
    ⟨some 10, (.bin .eql), [.r 9, .c (.int .i64 0)], none, [9]⟩,
    ⟨some 11, .mv, [.r 10], none, [10]⟩,
    ⟨some 12, .mv, [.r 1], (some (11, true)), []⟩,
    ⟨some 13, .len, [.r 12], (some (11, true)), [12]⟩,
    ⟨some 14, (.bin .eql), [.r 13, .c (.int .i64 2)], (some (11, true)), [13]⟩,
    ⟨some 15, .pick, [.r 11, .r 14, .c (.bool false)], none, [11, 14]⟩,
    ⟨some 16, .mv, [.r 15], none, [15]⟩,
    ⟨some 17, .mv, [.r 1], (some (16, true)), []⟩,
    ⟨some 18, (.iaddrS 1), [.r 17, .c (.int .i64 0)], (some (16, true)), [17]⟩,
    ⟨some 19, .ld1, [.r 18], (some (16, true)), [18]⟩,
    ⟨some 20, (.bin .eql), [.r 19, .c (.int .i64 2)], (some (16, true)), [19]⟩,
    ⟨some 21, .pick, [.r 16, .r 20, .c (.bool false)], none, [16, 20]⟩,
    ⟨some 22, .mv, [.r 21], none, [21]⟩,
    ⟨some 23, .mv, [.r 1], (some (22, true)), [1]⟩,
    ⟨some 24, (.iaddrS 1), [.r 23, .c (.int .i64 1)], (some (22, true)), [23]⟩,
    ⟨some 25, .ld1, [.r 24], (some (22, true)), [24]⟩,
    ⟨some 26, (.bin .eql), [.r 25, .c (.int .i64 9)], (some (22, true)), [25]⟩,
    ⟨some 27, .pick, [.r 22, .r 26, .c (.bool false)], none, [22, 26]⟩,
    ⟨some 28, .mv, [.r 27], none, [27]⟩,
    ⟨some 29, (.call 12), [.c (.int .i64 9)], (some (28, true)), []⟩,
    ⟨some 30, (.bin .eql), [.r 29, .c (.int .i64 2)], (some (28, true)), [29]⟩,
    ⟨some 31, .pick, [.r 28, .r 30, .c (.bool false)], none, [28, 30]⟩,
    ⟨some 0, .mv, [.r 31], none, [31]⟩])
  .ret)))
def rs9 : List SR := [.tmp 0]
theorem k9 : okC Try.prog 32 (Try.f9.body.getD .skip) c9 = true := by kernel_rfl
theorem acall9 {args : List AV} (hn : args.length ≤ 32) {H : Heap} {v : AV} {H' : Heap} (h : ac Try.prog c9 (argEnv 0 args) H (Fin H rs9 v H')) : ACall Try.prog 9 args H v H' :=
  acall Try.func9 (c := Try.f9.body.getD .skip) rfl k9 (by kernel_rfl) hn h
theorem acallK9 {args : List AV} (hn : args.length ≤ 32) {H : Heap} {v : AV} {H' : Heap} (h : ac Try.prog c9 (argEnv 0 args) H (FinK rs9 v H')) : ACall Try.prog 9 args H v H' :=
  acallK Try.func9 (c := Try.f9.body.getD .skip) rfl k9 (by kernel_rfl) hn h

/- alidade/delta.Diff -/
def c10l0 : SC :=
  (.seq (.reg [⟨some 26, (.bin .lss), [.r 25, .r 24], none, []⟩])
    (.seq (.cond (.r 26)
      (.kl [26] .skip)
      (.kl [0, 23, 24, 25, 26] (.exit 1)))
    (.seq (.block 2 (.seq (.reg [⟨some 27, .mv, [.r 25], none, []⟩,
      ⟨some 28, (.iaddrS 1), [.r 23, .r 25], none, []⟩,
      ⟨some 29, .ld1, [.r 28], none, [28]⟩,
      ⟨some 7, .mv, [.r 27], none, [27]⟩,
      ⟨some 8, .mv, [.r 29], none, [29]⟩])
    (.seq (.reg [⟨some 30, .mv, [.r 8], none, []⟩,
      ⟨some 31, .mv, [.r 0], none, []⟩,
      ⟨some 32, .mv, [.r 7], none, []⟩,
      ⟨some 33, (.iaddrS 1), [.r 31, .r 32], none, [31, 32]⟩,
      ⟨some 34, .ld1, [.r 33], none, [33]⟩,
      ⟨some 35, (.bin .neq), [.r 30, .r 34], none, [30, 34]⟩])
    (.cond (.r 35)
      (.kl [35] (.seq (.dreg [⟨0, 0, false, false, ⟨some 36, .mv, [.r 6], none, []⟩⟩,
        ⟨1, 0, false, false, ⟨some 37, .mv, [.r 7], none, []⟩⟩,
        ⟨2, 2, false, false, ⟨some 38, (.bin .quo), [.r 37, .c (.int .i64 60)], none, [37]⟩⟩,
        ⟨3, 7, false, false, ⟨some 39, (.iaddrS 1), [.r 36, .r 38], none, []⟩⟩,
        ⟨4, 15, false, false, ⟨some 40, .ld1, [.r 39], none, [39]⟩⟩,
        ⟨5, 0, false, false, ⟨some 41, .mv, [.r 7], none, [7]⟩⟩,
        ⟨6, 32, false, false, ⟨some 42, (.bin .rem), [.r 41, .c (.int .i64 60)], none, [41]⟩⟩,
        ⟨7, 96, false, false, ⟨some 43, (.bin .shl), [.c (.int .i64 1), .r 42], none, [42]⟩⟩,
        ⟨8, 255, false, false, ⟨some 44, (.bin .or), [.r 40, .r 43], none, [40, 43]⟩⟩,
        ⟨9, 511, false, false, ⟨some 45, (.iaddrS 1), [.r 36, .r 38], none, [36, 38]⟩⟩,
        ⟨10, 1023, false, false, ⟨none, (.st 1), [.r 45, .r 44], none, [44, 45]⟩⟩])
      (.reg [⟨some 46, .mv, [.r 6], none, [6]⟩,
        ⟨some 47, .mv, [.r 8], none, [8]⟩,
        ⟨some 48, (.bslice 1 1 [(.int .i64 0)] [(0, 1)]), [.r 47], none, [47]⟩,
        ⟨some 49, (.app 1 8), [.r 46, .r 48], none, [46, 48]⟩,
        ⟨some 6, .mv, [.r 49], none, [49]⟩])))
      (.kl [7, 8, 35] .skip)))))
    (.reg [⟨some 50, (.bin .add), [.r 25, .c (.int .i64 1)], none, [25]⟩,
      ⟨some 25, .mv, [.r 50], none, [50]⟩]))))
def c10 : SC :=
  (.seq (.reg [⟨some 4, .mv, [.c .nils], none, []⟩,
    ⟨some 5, .mv, [.c (.int .i64 0)], none, [4]⟩])
  (.seq (.block 0 (.seq (.reg [⟨some 10, .mv, [.r 0], none, [5]⟩,
    ⟨some 11, .len, [.r 10], none, [10]⟩,
    ⟨some 12, .mv, [.r 1], none, []⟩,
    ⟨some 13, .len, [.r 12], none, [12]⟩,
    ⟨some 14, (.bin .neq), [.r 11, .r 13], none, [11, 13]⟩,
    ⟨some 9, .mv, [.r 14], none, [14]⟩])
  (.cond (.r 9)
    (.kl [0, 1, 9] (.seq (.reg [⟨some 4, .mv, [.c .nils], none, []⟩,
      ⟨some 5, .mv, [.c (.int .i64 9)], none, []⟩])
    .ret))
    (.kl [9] (.seq (.reg [⟨some 16, .mv, [.r 0], none, []⟩,
      ⟨some 17, .len, [.r 16], none, [16]⟩,
      ⟨some 18, (.bin .gtr), [.r 17, .c (.int .i64 600)], none, [17]⟩,
      ⟨some 15, .mv, [.r 18], none, [18]⟩])
    (.cond (.r 15)
      (.kl [0, 1, 15] (.seq (.reg [⟨some 4, .mv, [.c .nils], none, []⟩,
        ⟨some 5, .mv, [.c (.int .i64 5)], none, []⟩])
      .ret))
      (.kl [15] .skip)))))))
  (.seq (.reg [⟨some 19, .mv, [.r 1], none, []⟩,
    ⟨some 20, .len, [.r 19], none, [19]⟩,
    ⟨some 21, (.call 18), [.r 20], none, [20]⟩,
    ⟨some 22, (.mksl 1 8 [(.int .i64 0)]), [.r 21, .r 21], none, [21]⟩,
    ⟨some 6, .mv, [.r 22], none, [22]⟩])
  (.seq (.seq (.reg [⟨some 23, .mv, [.r 1], none, [1]⟩,
    ⟨some 24, .len, [.r 23], none, []⟩,
    ⟨some 25, .mv, [.c (.int .i64 0)], none, []⟩])
  (.block 1 (.loop c10l0)))
  (.seq (.reg [⟨some 51, .mv, [.r 6], none, [6]⟩,
    ⟨some 4, .mv, [.r 51], none, [51]⟩,
    ⟨some 5, .mv, [.c (.int .i64 0)], none, []⟩])
  .ret)))))
def rs10 : List SR := [.tmp 4, .tmp 5]
theorem k10 : okC Try.prog 52 (Try.f10.body.getD .skip) c10 = true := by kernel_rfl
theorem acall10 {args : List AV} (hn : args.length ≤ 52) {H : Heap} {v : AV} {H' : Heap} (h : ac Try.prog c10 (argEnv 0 args) H (Fin H rs10 v H')) : ACall Try.prog 10 args H v H' :=
  acall Try.func10 (c := Try.f10.body.getD .skip) rfl k10 (by kernel_rfl) hn h
theorem acallK10 {args : List AV} (hn : args.length ≤ 52) {H : Heap} {v : AV} {H' : Heap} (h : ac Try.prog c10 (argEnv 0 args) H (FinK rs10 v H')) : ACall Try.prog 10 args H v H' :=
  acallK Try.func10 (c := Try.f10.body.getD .skip) rfl k10 (by kernel_rfl) hn h

/- alidade/delta.Parts -/
def c11l0 : SC :=
  (.block 1 (.seq (.reg [⟨some 5, (.alloc [(.int .i64 0), (.int .i64 0), (.int .i64 0), (.int .i64 0), (.int .i64 0), (.int .i64 0), (.int .i64 0), (.int .i64 0)]), [], none, []⟩])
    (.seq (.reg [⟨some 9, (.aslice 1 8 false false false), [.r 5], none, []⟩,
      ⟨some 10, .mv, [.r 4], none, [4]⟩,
      ⟨some 11, (.copy 1), [.r 9, .r 10], none, [9, 10]⟩])
    (.reg [⟨some 12, .ld1, [.r 3], none, [11]⟩,
      ⟨some 13, (.ldn 8), [.r 5], none, [5]⟩,
      ⟨some 14, (.bslice 8 1 [(.int .i64 0), (.int .i64 0), (.int .i64 0), (.int .i64 0), (.int .i64 0), (.int .i64 0), (.int .i64 0), (.int .i64 0)] [(0, 8)]), [.r 13], none, [13]⟩,
      ⟨some 15, (.app 8 64), [.r 12, .r 14], none, [12, 14]⟩,
      ⟨none, (.st 1), [.r 3, .r 15], none, [3, 15]⟩]))))
def c11l1 : SC :=
  (.kl [7] (.reg [⟨some 4, .mv, [.r 8], none, [8]⟩]))
def c11 : SC :=
  (.seq (.reg [⟨some 2, .mv, [.c .nils], none, []⟩])
  (.seq (.reg [⟨some 3, (.alloc [.nils]), [], none, [2]⟩])
  (.seq (.seq (.reg [⟨some 6, .mv, [.r 0], none, [0]⟩,
    ⟨some 7, (.call 19), [.r 6, .c (.int .i64 8)], none, [6]⟩])
  (.block 0 (.rfun (.r 7) 17 [8] c11l1
    c11l0)))
  (.seq (.reg [⟨some 16, .ld1, [.r 3], none, [3, 7]⟩,
    ⟨some 2, .mv, [.r 16], none, [16]⟩])
  .ret))))
def rs11 : List SR := [.tmp 2]
theorem k11 : okC Try.prog 17 (Try.f11.body.getD .skip) c11 = true := by kernel_rfl
theorem acall11 {args : List AV} (hn : args.length ≤ 17) {H : Heap} {v : AV} {H' : Heap} (h : ac Try.prog c11 (argEnv 0 args) H (Fin H rs11 v H')) : ACall Try.prog 11 args H v H' :=
  acall Try.func11 (c := Try.f11.body.getD .skip) rfl k11 (by kernel_rfl) hn h
theorem acallK11 {args : List AV} (hn : args.length ≤ 17) {H : Heap} {v : AV} {H' : Heap} (h : ac Try.prog c11 (argEnv 0 args) H (FinK rs11 v H')) : ACall Try.prog 11 args H v H' :=
  acallK Try.func11 (c := Try.f11.body.getD .skip) rfl k11 (by kernel_rfl) hn h

/- alidade/delta.Many -/
def c12 : SC :=
  (.seq (.reg [⟨some 2, .mv, [.c (.int .i64 0)], none, []⟩])
  (.seq (.seq (.reg [⟨some 3, .mv, [.r 0], none, [2]⟩,
    ⟨some 4, (.bin .lss), [.r 3, .c (.int .i64 1)], none, [3]⟩])
  (.cond (.r 4)
    (.kl [0, 4] (.seq (.reg [⟨some 2, .mv, [.c (.int .i64 0)], none, []⟩])
    .ret))
    (.kl [4] .skip)))
  (.seq (.reg [⟨some 5, .mv, [.r 0], none, [0]⟩,
    ⟨some 6, (.bin .sub), [.r 5, .c (.int .i64 1)], none, [5]⟩,
    ⟨some 7, (.bin .quo), [.r 6, .c (.int .i64 8)], none, [6]⟩,
    ⟨some 8, (.bin .add), [.r 7, .c (.int .i64 1)], none, [7]⟩,
    ⟨some 2, .mv, [.r 8], none, [8]⟩])
  .ret)))
def rs12 : List SR := [.tmp 2]
theorem k12 : okC Try.prog 9 (Try.f12.body.getD .skip) c12 = true := by kernel_rfl
theorem acall12 {args : List AV} (hn : args.length ≤ 9) {H : Heap} {v : AV} {H' : Heap} (h : ac Try.prog c12 (argEnv 0 args) H (Fin H rs12 v H')) : ACall Try.prog 12 args H v H' :=
  acall Try.func12 (c := Try.f12.body.getD .skip) rfl k12 (by kernel_rfl) hn h
theorem acallK12 {args : List AV} (hn : args.length ≤ 9) {H : Heap} {v : AV} {H' : Heap} (h : ac Try.prog c12 (argEnv 0 args) H (FinK rs12 v H')) : ACall Try.prog 12 args H v H' :=
  acallK Try.func12 (c := Try.f12.body.getD .skip) rfl k12 (by kernel_rfl) hn h

/- alidade/delta.Join -/
def c13l0 : SC :=
  (.seq (.reg [⟨some 35, (.bin .lss), [.r 34, .r 33], none, []⟩])
    (.seq (.cond (.r 35)
      (.kl [35] .skip)
      (.kl [32, 33, 34, 35] (.exit 2)))
    (.seq (.block 3 (.seq (.reg [⟨some 36, (.iaddrS 1), [.r 32, .r 34], none, []⟩,
      ⟨some 37, .ld1, [.r 36], none, [36]⟩,
      ⟨some 10, .mv, [.r 37], none, [37]⟩])
    (.seq (.reg [⟨some 38, .mv, [.r 10], none, [10]⟩,
      ⟨some 39, (.bin .neq), [.r 38, .c (.int .i64 0)], none, [38]⟩])
    (.cond (.r 39)
      (.kl [1, 6, 32, 33, 34, 39] (.seq (.reg [⟨some 4, .mv, [.c .nils], none, []⟩,
        ⟨some 5, .mv, [.c (.int .i64 9)], none, []⟩])
      .ret))
      (.kl [39] .skip)))))
    (.reg [⟨some 40, (.bin .add), [.r 34, .c (.int .i64 1)], none, [34]⟩,
      ⟨some 34, .mv, [.r 40], none, [40]⟩]))))
def c13l1 : SC :=
  (.seq (.reg [⟨some 23, (.bin .lss), [.r 22, .r 21], none, []⟩])
    (.seq (.cond (.r 23)
      (.kl [23] .skip)
      (.kl [20, 21, 22, 23] (.exit 0)))
    (.seq (.block 1 (.seq (.reg [⟨some 24, (.iaddrS 8), [.r 20, .r 22], none, []⟩,
      ⟨some 25, (.ldn 8), [.r 24], none, [24]⟩,
      ⟨some 8, (.alloc [(.int .i64 0), (.int .i64 0), (.int .i64 0), (.int .i64 0), (.int .i64 0), (.int .i64 0), (.int .i64 0), (.int .i64 0)]), [], none, []⟩,
      ⟨none, (.st 8), [.r 8, .r 25], none, [25]⟩])
    (.reg [⟨some 26, .mv, [.r 6], none, [6]⟩,
      ⟨some 27, (.aslice 1 8 false false false), [.r 8], none, [8]⟩,
      ⟨some 28, (.app 1 8), [.r 26, .r 27], none, [26, 27]⟩,
      ⟨some 6, .mv, [.r 28], none, [28]⟩])))
    (.reg [⟨some 29, (.bin .add), [.r 22, .c (.int .i64 1)], none, [22]⟩,
      ⟨some 22, .mv, [.r 29], none, [29]⟩]))))
def c13 : SC :=
  (.seq (.reg [⟨some 4, .mv, [.c .nils], none, []⟩,
    ⟨some 5, .mv, [.c (.int .i64 0)], none, [4]⟩])
  (.seq (.seq (.reg [⟨some 11, .mv, [.r 1], none, [5]⟩,
    ⟨some 12, (.bin .lss), [.r 11, .c (.int .i64 0)], none, [11]⟩,
    ⟨some 13, .mv, [.r 12], none, [12]⟩,
    ⟨some 14, .mv, [.r 0], (some (13, false)), []⟩,
    ⟨some 15, .len, [.r 14], (some (13, false)), [14]⟩,
    ⟨some 16, .mv, [.r 1], (some (13, false)), []⟩,
    ⟨some 17, (.call 12), [.r 16], (some (13, false)), [16]⟩,
    ⟨some 18, (.bin .neq), [.r 15, .r 17], (some (13, false)), [15, 17]⟩,
    ⟨some 19, .pick, [.r 13, .c (.bool true), .r 18], none, [13, 18]⟩])
  (.cond (.r 19)
    (.kl [0, 1, 19] (.seq (.reg [⟨some 4, .mv, [.c .nils], none, []⟩,
      ⟨some 5, .mv, [.c (.int .i64 9)], none, []⟩])
    .ret))
    (.kl [19] .skip)))
  (.seq (.reg [⟨some 6, .mv, [.c .nils], none, []⟩])
  (.seq (.seq (.reg [⟨some 20, .mv, [.r 0], none, [0]⟩,
    ⟨some 21, .len, [.r 20], none, []⟩,
    ⟨some 22, .mv, [.c (.int .i64 0)], none, []⟩])
  (.block 0 (.loop c13l1)))
  (.seq (.seq (.reg [⟨some 30, .mv, [.r 6], none, []⟩,
    ⟨some 31, .mv, [.r 1], none, []⟩,
    ⟨some 32, (.slice 1 true false false), [.r 30, .r 31], none, [30, 31]⟩,
    ⟨some 33, .len, [.r 32], none, []⟩,
    ⟨some 34, .mv, [.c (.int .i64 0)], none, []⟩])
  (.block 2 (.loop c13l0)))
  (.seq (.reg [⟨some 41, .mv, [.r 6], none, [6]⟩,
    ⟨some 42, .mv, [.r 1], none, [1]⟩,
    ⟨some 43, (.slice 1 false true false), [.r 41, .r 42], none, [41, 42]⟩,
    ⟨some 4, .mv, [.r 43], none, [43]⟩,
    ⟨some 5, .mv, [.c (.int .i64 0)], none, []⟩])
  .ret))))))
def rs13 : List SR := [.tmp 4, .tmp 5]
theorem k13 : okC Try.prog 44 (Try.f13.body.getD .skip) c13 = true := by kernel_rfl
theorem acall13 {args : List AV} (hn : args.length ≤ 44) {H : Heap} {v : AV} {H' : Heap} (h : ac Try.prog c13 (argEnv 0 args) H (Fin H rs13 v H')) : ACall Try.prog 13 args H v H' :=
  acall Try.func13 (c := Try.f13.body.getD .skip) rfl k13 (by kernel_rfl) hn h
theorem acallK13 {args : List AV} (hn : args.length ≤ 44) {H : Heap} {v : AV} {H' : Heap} (h : ac Try.prog c13 (argEnv 0 args) H (FinK rs13 v H')) : ACall Try.prog 13 args H v H' :=
  acallK Try.func13 (c := Try.f13.body.getD .skip) rfl k13 (by kernel_rfl) hn h

/- alidade/alidaderef06.Ints -/
def c14l0 : SC :=
  (.seq (.seq (.reg [⟨some 11, .mv, [.r 5], none, []⟩,
      ⟨some 12, .mv, [.r 0], none, []⟩,
      ⟨some 13, .len, [.r 12], none, [12]⟩,
      ⟨some 14, (.bin .lss), [.r 11, .r 13], none, [11, 13]⟩])
    (.cond (.r 14)
      (.kl [14] .skip)
      (.kl [0, 1, 5, 14] (.exit 0))))
    (.seq (.block 1 (.seq (.dreg [⟨0, 0, false, false, ⟨some 17, .mv, [.r 0], none, []⟩⟩,
      ⟨1, 0, false, false, ⟨some 18, .mv, [.r 5], none, []⟩⟩,
      ⟨2, 3, false, false, ⟨some 19, (.iaddrS 1), [.r 17, .r 18], none, [17, 18]⟩⟩,
      ⟨3, 7, false, false, ⟨some 20, .ld1, [.r 19], none, [19]⟩⟩,
      ⟨4, 0, false, false, ⟨some 21, .mv, [.r 1], none, []⟩⟩,
      ⟨5, 0, false, false, ⟨some 22, .mv, [.r 5], none, []⟩⟩,
      ⟨6, 48, false, false, ⟨some 23, (.iaddrS 1), [.r 21, .r 22], none, [21, 22]⟩⟩,
      ⟨7, 112, false, false, ⟨some 24, .ld1, [.r 23], none, [23]⟩⟩,
      ⟨8, 255, false, false, ⟨some 25, (.bin .neq), [.r 20, .r 24], none, [20, 24]⟩⟩])
    (.cond (.r 25)
      (.kl [0, 1, 5, 25] (.seq (.reg [⟨some 4, .mv, [.c (.bool false)], none, []⟩])
      .ret))
      (.kl [25] .skip))))
    (.reg [⟨some 15, .mv, [.r 5], none, [5]⟩,
      ⟨some 16, (.bin .add), [.r 15, .c (.int .i64 1)], none, [15]⟩,
      ⟨some 5, .mv, [.r 16], none, [16]⟩])))
def c14 : SC :=
  (.seq (.reg [⟨some 4, .mv, [.c (.bool false)], none, []⟩])
  (.seq (.seq (.reg [⟨some 6, .mv, [.r 0], none, [4]⟩,
    ⟨some 7, .len, [.r 6], none, [6]⟩,
    ⟨some 8, .mv, [.r 1], none, []⟩,
    ⟨some 9, .len, [.r 8], none, [8]⟩,
    ⟨some 10, (.bin .neq), [.r 7, .r 9], none, [7, 9]⟩])
  (.cond (.r 10)
    (.kl [0, 1, 10] (.seq (.reg [⟨some 4, .mv, [.c (.bool false)], none, []⟩])
    .ret))
    (.kl [10] .skip)))
  (.seq (.seq (.reg [⟨some 5, .mv, [.c (.int .i64 0)], none, []⟩])
  (.block 0 (.loop c14l0)))
  (.seq (.reg [⟨some 4, .mv, [.c (.bool true)], none, []⟩])
  .ret))))
def rs14 : List SR := [.tmp 4]
theorem k14 : okC Try.prog 26 (Try.f14.body.getD .skip) c14 = true := by kernel_rfl
theorem acall14 {args : List AV} (hn : args.length ≤ 26) {H : Heap} {v : AV} {H' : Heap} (h : ac Try.prog c14 (argEnv 0 args) H (Fin H rs14 v H')) : ACall Try.prog 14 args H v H' :=
  acall Try.func14 (c := Try.f14.body.getD .skip) rfl k14 (by kernel_rfl) hn h
theorem acallK14 {args : List AV} (hn : args.length ≤ 26) {H : Heap} {v : AV} {H' : Heap} (h : ac Try.prog c14 (argEnv 0 args) H (FinK rs14 v H')) : ACall Try.prog 14 args H v H' :=
  acallK Try.func14 (c := Try.f14.body.getD .skip) rfl k14 (by kernel_rfl) hn h

/- alidade/alidaderef09.Diff -/
def c15l0 : SC :=
  (.seq (.seq (.reg [⟨some 19, .mv, [.r 10], none, []⟩,
      ⟨some 20, .mv, [.r 1], none, []⟩,
      ⟨some 21, .len, [.r 20], none, [20]⟩,
      ⟨some 22, (.bin .lss), [.r 19, .r 21], none, [19, 21]⟩])
    (.cond (.r 22)
      (.kl [22] .skip)
      (.kl [0, 1, 8, 9, 10, 22] (.exit 0))))
    (.seq (.block 1 (.seq (.seq (.dreg [⟨0, 0, false, false, ⟨some 25, .mv, [.r 1], none, []⟩⟩,
      ⟨1, 0, false, false, ⟨some 26, .mv, [.r 10], none, []⟩⟩,
      ⟨2, 3, false, false, ⟨some 27, (.iaddrS 1), [.r 25, .r 26], none, [25, 26]⟩⟩,
      ⟨3, 7, false, false, ⟨some 28, .ld1, [.r 27], none, [27]⟩⟩,
      ⟨4, 0, false, false, ⟨some 29, .mv, [.r 0], none, []⟩⟩,
      ⟨5, 0, false, false, ⟨some 30, .mv, [.r 10], none, []⟩⟩,
      ⟨6, 48, false, false, ⟨some 31, (.iaddrS 1), [.r 29, .r 30], none, [29, 30]⟩⟩,
      ⟨7, 112, false, false, ⟨some 32, .ld1, [.r 31], none, [31]⟩⟩,
      ⟨8, 255, false, false, ⟨some 33, (.bin .neq), [.r 28, .r 32], none, [28, 32]⟩⟩])
    (.cond (.r 33)
      (.kl [33] (.seq (.reg [⟨some 34, .mv, [.r 8], none, [8]⟩,
        ⟨some 35, .mv, [.r 9], none, []⟩,
        ⟨some 36, (.bin .add), [.r 34, .r 35], none, [34, 35]⟩,
        ⟨some 8, .mv, [.r 36], none, [36]⟩])
      (.reg [⟨some 37, .mv, [.r 7], none, [7]⟩,
        ⟨some 38, .mv, [.r 1], none, []⟩,
        ⟨some 39, .mv, [.r 10], none, []⟩,
        ⟨some 40, (.iaddrS 1), [.r 38, .r 39], none, [38, 39]⟩,
        ⟨some 41, .ld1, [.r 40], none, [40]⟩,
        ⟨some 42, (.bslice 1 1 [(.int .i64 0)] [(0, 1)]), [.r 41], none, [41]⟩,
        ⟨some 43, (.app 1 8), [.r 37, .r 42], none, [37, 42]⟩,
        ⟨some 7, .mv, [.r 43], none, [43]⟩])))
      (.kl [33] .skip)))
    (.seq (.reg [⟨some 44, .mv, [.r 9], none, [9]⟩,
      ⟨some 45, (.bin .mul), [.r 44, .c (.int .i64 2)], none, [44]⟩,
      ⟨some 9, .mv, [.r 45], none, [45]⟩])
    (.seq (.reg [⟨some 46, .mv, [.r 10], none, []⟩,
      ⟨some 47, (.bin .rem), [.r 46, .c (.int .i64 60)], none, [46]⟩,
      ⟨some 48, (.bin .eql), [.r 47, .c (.int .i64 59)], none, [47]⟩,
      ⟨some 49, .mv, [.r 48], none, [48]⟩,
      ⟨some 50, .mv, [.r 10], (some (49, false)), []⟩,
      ⟨some 51, .mv, [.r 1], (some (49, false)), []⟩,
      ⟨some 52, .len, [.r 51], (some (49, false)), [51]⟩,
      ⟨some 53, (.bin .sub), [.r 52, .c (.int .i64 1)], (some (49, false)), [52]⟩,
      ⟨some 54, (.bin .eql), [.r 50, .r 53], (some (49, false)), [50, 53]⟩,
      ⟨some 55, .pick, [.r 49, .c (.bool true), .r 54], none, [49, 54]⟩])
    (.cond (.r 55)
      (.kl [9, 55] (.seq (.reg [⟨some 56, .mv, [.r 6], none, [6]⟩,
        ⟨some 57, .mv, [.r 8], none, [8]⟩,
        ⟨some 58, (.bslice 1 1 [(.int .i64 0)] [(0, 1)]), [.r 57], none, [57]⟩,
        ⟨some 59, (.app 1 8), [.r 56, .r 58], none, [56, 58]⟩,
        ⟨some 6, .mv, [.r 59], none, [59]⟩])
      (.seq (.reg [⟨some 8, .mv, [.c (.int .i64 0)], none, []⟩])
      (.reg [⟨some 9, .mv, [.c (.int .i64 1)], none, []⟩]))))
      (.kl [55] .skip))))))
    (.reg [⟨some 23, .mv, [.r 10], none, [10]⟩,
      ⟨some 24, (.bin .add), [.r 23, .c (.int .i64 1)], none, [23]⟩,
      ⟨some 10, .mv, [.r 24], none, [24]⟩])))
def c15 : SC :=
  (.seq (.reg [⟨some 4, .mv, [.c .nils], none, []⟩,
    ⟨some 5, .mv, [.c (.int .i64 0)], none, [4]⟩])
  (.seq (.seq (.reg [⟨some 11, .mv, [.r 0], none, [5]⟩,
    ⟨some 12, .len, [.r 11], none, [11]⟩,
    ⟨some 13, .mv, [.r 1], none, []⟩,
    ⟨some 14, .len, [.r 13], none, [13]⟩,
    ⟨some 15, (.bin .neq), [.r 12, .r 14], none, [12, 14]⟩])
  (.cond (.r 15)
    (.kl [0, 1, 15] (.seq (.reg [⟨some 4, .mv, [.c .nils], none, []⟩,
      ⟨some 5, .mv, [.c (.int .i64 9)], none, []⟩])
    .ret))
    (.kl [15] .skip)))
  (.seq (.seq (.reg [⟨some 16, .mv, [.r 0], none, []⟩,
    ⟨some 17, .len, [.r 16], none, [16]⟩,
    ⟨some 18, (.bin .gtr), [.r 17, .c (.int .i64 600)], none, [17]⟩])
  (.cond (.r 18)
    (.kl [0, 1, 18] (.seq (.reg [⟨some 4, .mv, [.c .nils], none, []⟩,
      ⟨some 5, .mv, [.c (.int .i64 5)], none, []⟩])
    .ret))
    (.kl [18] .skip)))
  (.seq (.reg [⟨some 6, .mv, [.c .nils], none, []⟩])
  (.seq (.reg [⟨some 7, .mv, [.c .nils], none, []⟩])
  (.seq (.reg [⟨some 8, .mv, [.c (.int .i64 0)], none, []⟩])
  (.seq (.reg [⟨some 9, .mv, [.c (.int .i64 1)], none, []⟩])
  (.seq (.seq (.reg [⟨some 10, .mv, [.c (.int .i64 0)], none, []⟩])
  (.block 0 (.loop c15l0)))
  (.seq (.reg [⟨some 60, .mv, [.r 6], none, [6]⟩,
    ⟨some 61, .mv, [.r 7], none, [7]⟩,
    ⟨some 62, (.app 1 8), [.r 60, .r 61], none, [60, 61]⟩,
    ⟨some 4, .mv, [.r 62], none, [62]⟩,
    ⟨some 5, .mv, [.c (.int .i64 0)], none, []⟩])
  .ret)))))))))
def rs15 : List SR := [.tmp 4, .tmp 5]
theorem k15 : okC Try.prog 63 (Try.f15.body.getD .skip) c15 = true := by kernel_rfl
theorem acall15 {args : List AV} (hn : args.length ≤ 63) {H : Heap} {v : AV} {H' : Heap} (h : ac Try.prog c15 (argEnv 0 args) H (Fin H rs15 v H')) : ACall Try.prog 15 args H v H' :=
  acall Try.func15 (c := Try.f15.body.getD .skip) rfl k15 (by kernel_rfl) hn h
theorem acallK15 {args : List AV} (hn : args.length ≤ 63) {H : Heap} {v : AV} {H' : Heap} (h : ac Try.prog c15 (argEnv 0 args) H (FinK rs15 v H')) : ACall Try.prog 15 args H v H' :=
  acallK Try.func15 (c := Try.f15.body.getD .skip) rfl k15 (by kernel_rfl) hn h

/- alidade/delta.Apply -/
def c16l0 : SC :=
  (.seq (.reg [⟨some 44, (.bin .lss), [.r 43, .r 42], none, []⟩])
    (.seq (.cond (.r 44)
      (.kl [44] .skip)
      (.kl [7, 42, 43, 44] (.exit 1)))
    (.seq (.block 2 (.seq (.reg [⟨some 45, .mv, [.r 43], none, []⟩,
      ⟨some 10, .mv, [.r 45], none, [45]⟩])
    (.seq (.seq (.reg [⟨some 46, .mv, [.r 7], none, []⟩,
      ⟨some 47, .mv, [.r 10], none, []⟩,
      ⟨some 48, (.bin .quo), [.r 47, .c (.int .i64 60)], none, [47]⟩,
      ⟨some 49, (.iaddrS 1), [.r 46, .r 48], none, [46, 48]⟩,
      ⟨some 50, .ld1, [.r 49], none, [49]⟩,
      ⟨some 51, .mv, [.r 10], none, []⟩,
      ⟨some 52, (.bin .rem), [.r 51, .c (.int .i64 60)], none, [51]⟩,
      ⟨some 53, (.bin .shr), [.r 50, .r 52], none, [50, 52]⟩,
      ⟨some 54, (.bin .and), [.r 53, .c (.int .i64 1)], none, [53]⟩,
      ⟨some 55, (.bin .eql), [.r 54, .c (.int .i64 0)], none, [54]⟩])
    (.cond (.r 55)
      (.kl [10, 55] (.exit 2))
      (.kl [55] .skip)))
    (.seq (.seq (.dreg [⟨0, 0, false, false, ⟨some 56, .mv, [.r 8], none, []⟩⟩,
      ⟨1, 1, false, false, ⟨some 57, (.iaddrS 1), [.r 56, .c (.int .i64 0)], none, [56]⟩⟩,
      ⟨2, 3, false, false, ⟨some 58, .ld1, [.r 57], none, [57]⟩⟩,
      ⟨3, 0, false, false, ⟨some 59, .mv, [.r 9], none, []⟩⟩,
      ⟨4, 0, false, false, ⟨some 60, .mv, [.r 10], none, []⟩⟩,
      ⟨5, 24, false, false, ⟨some 61, (.iaddrS 1), [.r 59, .r 60], none, [59, 60]⟩⟩,
      ⟨6, 56, false, false, ⟨some 62, .ld1, [.r 61], none, [61]⟩⟩,
      ⟨7, 127, false, false, ⟨some 63, (.bin .eql), [.r 58, .r 62], none, [58, 62]⟩⟩])
    (.cond (.r 63)
      (.kl [7, 8, 9, 10, 42, 43, 63] (.seq (.reg [⟨some 4, .mv, [.c .nils], none, []⟩,
        ⟨some 5, .mv, [.c (.int .i64 2)], none, []⟩])
      .ret))
      (.kl [63] .skip)))
    (.dreg [⟨0, 0, false, false, ⟨some 64, .mv, [.r 9], none, []⟩⟩,
      ⟨1, 0, false, false, ⟨some 65, .mv, [.r 10], none, [10]⟩⟩,
      ⟨2, 0, false, false, ⟨some 66, .mv, [.r 8], none, []⟩⟩,
      ⟨3, 4, false, false, ⟨some 67, (.iaddrS 1), [.r 66, .c (.int .i64 0)], none, [66]⟩⟩,
      ⟨4, 12, false, false, ⟨some 68, .ld1, [.r 67], none, [67]⟩⟩,
      ⟨5, 0, false, false, ⟨some 69, .mv, [.r 8], none, [8]⟩⟩,
      ⟨6, 32, false, false, ⟨some 70, (.slice 1 true false false), [.r 69, .c (.int .i64 1)], none, [69]⟩⟩,
      ⟨7, 31, false, false, ⟨some 71, (.iaddrS 1), [.r 64, .r 65], none, [64, 65]⟩⟩,
      ⟨8, 159, false, false, ⟨none, (.st 1), [.r 71, .r 68], none, [68, 71]⟩⟩,
      ⟨9, 511, false, false, ⟨some 8, .mv, [.r 70], none, [70]⟩⟩])))))
    (.reg [⟨some 72, (.bin .add), [.r 43, .c (.int .i64 1)], none, [43]⟩,
      ⟨some 43, .mv, [.r 72], none, [72]⟩]))))
def c16 : SC :=
  (.seq (.reg [⟨some 4, .mv, [.c .nils], none, []⟩,
    ⟨some 5, .mv, [.c (.int .i64 0)], none, [4]⟩])
  (.seq (.reg [⟨some 11, .mv, [.r 0], none, [5]⟩,
    ⟨some 12, .len, [.r 11], none, [11]⟩,
    ⟨some 13, (.call 18), [.r 12], none, [12]⟩,
    ⟨some 6, .mv, [.r 13], none, [13]⟩])
  (.seq (.block 0 (.seq (.reg [⟨some 15, .mv, [.r 0], none, []⟩,
    ⟨some 16, .len, [.r 15], none, [15]⟩,
    ⟨some 17, (.bin .gtr), [.r 16, .c (.int .i64 600)], none, [16]⟩,
    ⟨some 14, .mv, [.r 17], none, [17]⟩])
  (.cond (.r 14)
    (.kl [0, 1, 6, 14] (.seq (.reg [⟨some 4, .mv, [.c .nils], none, []⟩,
      ⟨some 5, .mv, [.c (.int .i64 5)], none, []⟩])
    .ret))
    (.kl [14] (.seq (.reg [⟨some 19, .mv, [.r 1], none, []⟩,
      ⟨some 20, .len, [.r 19], none, [19]⟩,
      ⟨some 21, .mv, [.r 6], none, []⟩,
      ⟨some 22, (.bin .lss), [.r 20, .r 21], none, [20, 21]⟩,
      ⟨some 18, .mv, [.r 22], none, [22]⟩])
    (.cond (.r 18)
      (.kl [0, 1, 6, 18] (.seq (.reg [⟨some 4, .mv, [.c .nils], none, []⟩,
        ⟨some 5, .mv, [.c (.int .i64 4)], none, []⟩])
      .ret))
      (.kl [18] .skip)))))))
  (.seq (.dreg [⟨0, 0, false, false, ⟨some 23, .mv, [.r 1], none, []⟩⟩,
    ⟨1, 0, false, false, ⟨some 24, .mv, [.r 6], none, []⟩⟩,
    ⟨2, 0, false, false, ⟨some 25, .mv, [.r 6], none, []⟩⟩,
    ⟨3, 7, false, false, ⟨some 26, (.slice 1 false true true), [.r 23, .r 24, .r 25], none, [23, 24, 25]⟩⟩,
    ⟨4, 0, false, false, ⟨some 27, .mv, [.r 1], none, [1]⟩⟩,
    ⟨5, 0, false, false, ⟨some 28, .mv, [.r 6], none, [6]⟩⟩,
    ⟨6, 48, false, false, ⟨some 29, (.slice 1 true false false), [.r 27, .r 28], none, [27, 28]⟩⟩,
    ⟨7, 15, false, false, ⟨some 7, .mv, [.r 26], none, [26]⟩⟩,
    ⟨8, 255, false, false, ⟨some 8, .mv, [.r 29], none, [29]⟩⟩])
  (.seq (.seq (.reg [⟨some 30, .mv, [.r 7], none, []⟩,
    ⟨some 31, (.call 20), [.r 30], none, [30]⟩,
    ⟨some 32, .mv, [.r 8], none, []⟩,
    ⟨some 33, .len, [.r 32], none, [32]⟩,
    ⟨some 34, (.bin .neq), [.r 31, .r 33], none, [31, 33]⟩])
  (.cond (.r 34)
    (.kl [0, 7, 8, 34] (.seq (.reg [⟨some 4, .mv, [.c .nils], none, []⟩,
      ⟨some 5, .mv, [.c (.int .i64 2)], none, []⟩])
    .ret))
    (.kl [34] .skip)))
  (.seq (.reg [⟨some 35, .mv, [.r 0], none, []⟩,
    ⟨some 36, .len, [.r 35], none, [35]⟩,
    ⟨some 37, (.mksl 1 8 [(.int .i64 0)]), [.r 36, .r 36], none, [36]⟩,
    ⟨some 9, .mv, [.r 37], none, [37]⟩])
  (.seq (.reg [⟨some 38, .mv, [.r 9], none, []⟩,
    ⟨some 39, .mv, [.r 0], none, [0]⟩,
    ⟨some 40, (.copy 1), [.r 38, .r 39], none, [38, 39]⟩])
  (.seq (.seq (.reg [⟨some 41, .mv, [.r 9], none, [40]⟩,
    ⟨some 42, .len, [.r 41], none, [41]⟩,
    ⟨some 43, .mv, [.c (.int .i64 0)], none, []⟩])
  (.block 1 (.loop c16l0)))
  (.seq (.seq (.reg [⟨some 73, .mv, [.r 8], none, [8]⟩,
    ⟨some 74, .len, [.r 73], none, [73]⟩,
    ⟨some 75, (.bin .gtr), [.r 74, .c (.int .i64 0)], none, [74]⟩])
  (.cond (.r 75)
    (.kl [9, 75] (.seq (.reg [⟨some 4, .mv, [.c .nils], none, []⟩,
      ⟨some 5, .mv, [.c (.int .i64 2)], none, []⟩])
    .ret))
    (.kl [75] .skip)))
  (.seq (.reg [⟨some 76, .mv, [.r 9], none, [9]⟩,
    ⟨some 4, .mv, [.r 76], none, [76]⟩,
    ⟨some 5, .mv, [.c (.int .i64 0)], none, []⟩])
  .ret))))))))))
def rs16 : List SR := [.tmp 4, .tmp 5]
theorem k16 : okC Try.prog 77 (Try.f16.body.getD .skip) c16 = true := by kernel_rfl
theorem acall16 {args : List AV} (hn : args.length ≤ 77) {H : Heap} {v : AV} {H' : Heap} (h : ac Try.prog c16 (argEnv 0 args) H (Fin H rs16 v H')) : ACall Try.prog 16 args H v H' :=
  acall Try.func16 (c := Try.f16.body.getD .skip) rfl k16 (by kernel_rfl) hn h
theorem acallK16 {args : List AV} (hn : args.length ≤ 77) {H : Heap} {v : AV} {H' : Heap} (h : ac Try.prog c16 (argEnv 0 args) H (FinK rs16 v H')) : ACall Try.prog 16 args H v H' :=
  acallK Try.func16 (c := Try.f16.body.getD .skip) rfl k16 (by kernel_rfl) hn h

/- alidade/alidaderef09.Apply -/
def c17l0 : SC :=
  (.seq (.seq (.reg [⟨some 26, .mv, [.r 9], none, []⟩,
      ⟨some 27, .mv, [.r 6], none, []⟩,
      ⟨some 28, (.bin .mul), [.c (.int .i64 64), .r 27], none, [27]⟩,
      ⟨some 29, (.bin .lss), [.r 26, .r 28], none, [26, 28]⟩])
    (.cond (.r 29)
      (.kl [29] .skip)
      (.kl [0, 6, 9, 29] (.exit 0))))
    (.seq (.block 1 (.seq (.reg [⟨some 32, .mv, [.r 9], none, []⟩,
      ⟨some 33, (.bin .quo), [.r 32, .c (.int .i64 64)], none, [32]⟩,
      ⟨some 10, .mv, [.r 33], none, [33]⟩])
    (.seq (.reg [⟨some 34, .mv, [.r 9], none, []⟩,
      ⟨some 35, (.bin .rem), [.r 34, .c (.int .i64 64)], none, [34]⟩,
      ⟨some 11, .mv, [.r 35], none, [35]⟩])
    (.seq (.reg [⟨some 36, .mv, [.r 1], none, []⟩,
      ⟨some 37, .mv, [.r 10], none, []⟩,
      ⟨some 38, (.iaddrS 1), [.r 36, .r 37], none, [36, 37]⟩,
      ⟨some 39, .ld1, [.r 38], none, [38]⟩,
      ⟨some 40, .mv, [.r 11], none, []⟩,
      ⟨some 41, (.call 21), [.r 39, .r 40], none, [39, 40]⟩,
      ⟨some 12, .mv, [.r 41], none, [41]⟩])
    (.seq (.reg [⟨some 42, .mv, [.r 10], none, [10]⟩,
      ⟨some 43, (.bin .mul), [.c (.int .i64 60), .r 42], none, [42]⟩,
      ⟨some 44, .mv, [.r 11], none, []⟩,
      ⟨some 45, (.bin .add), [.r 43, .r 44], none, [43, 44]⟩,
      ⟨some 13, .mv, [.r 45], none, [45]⟩])
    (.seq (.seq (.reg [⟨some 46, .mv, [.r 11], none, [11]⟩,
      ⟨some 47, (.bin .geq), [.r 46, .c (.int .i64 60)], none, [46]⟩,
      ⟨some 48, .mv, [.r 47], none, [47]⟩,
      ⟨some 49, .mv, [.r 13], (some (48, false)), []⟩,
      ⟨some 50, .mv, [.r 0], (some (48, false)), []⟩,
      ⟨some 51, .len, [.r 50], (some (48, false)), [50]⟩,
      ⟨some 52, (.bin .geq), [.r 49, .r 51], (some (48, false)), [49, 51]⟩,
      ⟨some 53, .pick, [.r 48, .c (.bool true), .r 52], none, [48, 52]⟩])
    (.cond (.r 53)
      (.kl [13, 53] (.seq (.seq (.reg [⟨some 54, .mv, [.r 12], none, [12]⟩])
      (.cond (.r 54)
        (.kl [0, 1, 6, 7, 8, 9, 54] (.seq (.reg [⟨some 4, .mv, [.c .nils], none, []⟩,
          ⟨some 5, .mv, [.c (.int .i64 2)], none, []⟩])
        .ret))
        (.kl [54] .skip)))
      (.exit 1)))
      (.kl [53] .skip)))
    (.seq (.seq (.reg [⟨some 55, .mv, [.r 12], none, [12]⟩,
      ⟨some 56, (.un .not), [.r 55], none, [55]⟩])
    (.cond (.r 56)
      (.kl [56] (.seq (.reg [⟨some 57, .mv, [.r 7], none, [7]⟩,
        ⟨some 58, .mv, [.r 0], none, []⟩,
        ⟨some 59, .mv, [.r 13], none, [13]⟩,
        ⟨some 60, (.iaddrS 1), [.r 58, .r 59], none, [58, 59]⟩,
        ⟨some 61, .ld1, [.r 60], none, [60]⟩,
        ⟨some 62, (.bslice 1 1 [(.int .i64 0)] [(0, 1)]), [.r 61], none, [61]⟩,
        ⟨some 63, (.app 1 8), [.r 57, .r 62], none, [57, 62]⟩,
        ⟨some 7, .mv, [.r 63], none, [63]⟩])
      (.exit 1)))
      (.kl [56] .skip)))
    (.seq (.seq (.dreg [⟨0, 0, false, false, ⟨some 64, .mv, [.r 8], none, []⟩⟩,
      ⟨1, 0, false, false, ⟨some 65, .mv, [.r 1], none, []⟩⟩,
      ⟨2, 2, false, false, ⟨some 66, .len, [.r 65], none, [65]⟩⟩,
      ⟨3, 7, false, false, ⟨some 67, (.bin .geq), [.r 64, .r 66], none, [64, 66]⟩⟩,
      ⟨4, 15, false, false, ⟨some 68, .mv, [.r 67], none, [67]⟩⟩,
      ⟨5, 31, false, false, ⟨some 69, .mv, [.r 1], (some (68, false)), []⟩⟩,
      ⟨6, 31, false, false, ⟨some 70, .mv, [.r 8], (some (68, false)), []⟩⟩,
      ⟨7, 127, false, false, ⟨some 71, (.iaddrS 1), [.r 69, .r 70], (some (68, false)), [69, 70]⟩⟩,
      ⟨8, 255, false, false, ⟨some 72, .ld1, [.r 71], (some (68, false)), [71]⟩⟩,
      ⟨9, 31, false, false, ⟨some 73, .mv, [.r 0], (some (68, false)), []⟩⟩,
      ⟨10, 31, false, false, ⟨some 74, .mv, [.r 13], (some (68, false)), [13]⟩⟩,
      ⟨11, 1567, false, false, ⟨some 75, (.iaddrS 1), [.r 73, .r 74], (some (68, false)), [73, 74]⟩⟩,
      ⟨12, 3615, false, false, ⟨some 76, .ld1, [.r 75], (some (68, false)), [75]⟩⟩,
      ⟨13, 8191, false, false, ⟨some 77, (.bin .eql), [.r 72, .r 76], (some (68, false)), [72, 76]⟩⟩,
      ⟨14, 16383, false, false, ⟨some 78, .pick, [.r 68, .c (.bool true), .r 77], none, [68, 77]⟩⟩])
    (.cond (.r 78)
      (.kl [0, 1, 6, 7, 8, 9, 78] (.seq (.reg [⟨some 4, .mv, [.c .nils], none, []⟩,
        ⟨some 5, .mv, [.c (.int .i64 2)], none, []⟩])
      .ret))
      (.kl [78] .skip)))
    (.seq (.reg [⟨some 79, .mv, [.r 7], none, [7]⟩,
      ⟨some 80, .mv, [.r 1], none, []⟩,
      ⟨some 81, .mv, [.r 8], none, []⟩,
      ⟨some 82, (.iaddrS 1), [.r 80, .r 81], none, [80, 81]⟩,
      ⟨some 83, .ld1, [.r 82], none, [82]⟩,
      ⟨some 84, (.bslice 1 1 [(.int .i64 0)] [(0, 1)]), [.r 83], none, [83]⟩,
      ⟨some 85, (.app 1 8), [.r 79, .r 84], none, [79, 84]⟩,
      ⟨some 7, .mv, [.r 85], none, [85]⟩])
    (.reg [⟨some 86, .mv, [.r 8], none, [8]⟩,
      ⟨some 87, (.bin .add), [.r 86, .c (.int .i64 1)], none, [86]⟩,
      ⟨some 8, .mv, [.r 87], none, [87]⟩]))))))))))
    (.reg [⟨some 30, .mv, [.r 9], none, [9]⟩,
      ⟨some 31, (.bin .add), [.r 30, .c (.int .i64 1)], none, [30]⟩,
      ⟨some 9, .mv, [.r 31], none, [31]⟩])))
def c17 : SC :=
  (.seq (.reg [⟨some 4, .mv, [.c .nils], none, []⟩,
    ⟨some 5, .mv, [.c (.int .i64 0)], none, [4]⟩])
  (.seq (.seq (.reg [⟨some 14, .mv, [.r 0], none, [5]⟩,
    ⟨some 15, .len, [.r 14], none, [14]⟩,
    ⟨some 16, (.bin .gtr), [.r 15, .c (.int .i64 600)], none, [15]⟩])
  (.cond (.r 16)
    (.kl [0, 1, 16] (.seq (.reg [⟨some 4, .mv, [.c .nils], none, []⟩,
      ⟨some 5, .mv, [.c (.int .i64 5)], none, []⟩])
    .ret))
    (.kl [16] .skip)))
  (.seq (.reg [⟨some 17, .mv, [.r 0], none, []⟩,
    ⟨some 18, .len, [.r 17], none, [17]⟩,
    ⟨some 19, (.bin .add), [.r 18, .c (.int .i64 59)], none, [18]⟩,
    ⟨some 20, (.bin .quo), [.r 19, .c (.int .i64 60)], none, [19]⟩,
    ⟨some 6, .mv, [.r 20], none, [20]⟩])
  (.seq (.seq (.reg [⟨some 21, .mv, [.r 1], none, []⟩,
    ⟨some 22, .len, [.r 21], none, [21]⟩,
    ⟨some 23, .mv, [.r 6], none, []⟩,
    ⟨some 24, (.bin .lss), [.r 22, .r 23], none, [22, 23]⟩])
  (.cond (.r 24)
    (.kl [0, 1, 6, 24] (.seq (.reg [⟨some 4, .mv, [.c .nils], none, []⟩,
      ⟨some 5, .mv, [.c (.int .i64 4)], none, []⟩])
    .ret))
    (.kl [24] .skip)))
  (.seq (.reg [⟨some 7, .mv, [.c .nils], none, []⟩])
  (.seq (.reg [⟨some 25, .mv, [.r 6], none, []⟩,
    ⟨some 8, .mv, [.r 25], none, [25]⟩])
  (.seq (.seq (.reg [⟨some 9, .mv, [.c (.int .i64 0)], none, []⟩])
  (.block 0 (.loop c17l0)))
  (.seq (.seq (.reg [⟨some 88, .mv, [.r 8], none, [8]⟩,
    ⟨some 89, .mv, [.r 1], none, [1]⟩,
    ⟨some 90, .len, [.r 89], none, [89]⟩,
    ⟨some 91, (.bin .lss), [.r 88, .r 90], none, [88, 90]⟩])
  (.cond (.r 91)
    (.kl [7, 91] (.seq (.reg [⟨some 4, .mv, [.c .nils], none, []⟩,
      ⟨some 5, .mv, [.c (.int .i64 2)], none, []⟩])
    .ret))
    (.kl [91] .skip)))
  (.seq (.reg [⟨some 92, .mv, [.r 7], none, [7]⟩,
    ⟨some 4, .mv, [.r 92], none, [92]⟩,
    ⟨some 5, .mv, [.c (.int .i64 0)], none, []⟩])
  .ret)))))))))
def rs17 : List SR := [.tmp 4, .tmp 5]
theorem k17 : okC Try.prog 93 (Try.f17.body.getD .skip) c17 = true := by kernel_rfl
theorem acall17 {args : List AV} (hn : args.length ≤ 93) {H : Heap} {v : AV} {H' : Heap} (h : ac Try.prog c17 (argEnv 0 args) H (Fin H rs17 v H')) : ACall Try.prog 17 args H v H' :=
  acall Try.func17 (c := Try.f17.body.getD .skip) rfl k17 (by kernel_rfl) hn h
theorem acallK17 {args : List AV} (hn : args.length ≤ 93) {H : Heap} {v : AV} {H' : Heap} (h : ac Try.prog c17 (argEnv 0 args) H (FinK rs17 v H')) : ACall Try.prog 17 args H v H' :=
  acallK Try.func17 (c := Try.f17.body.getD .skip) rfl k17 (by kernel_rfl) hn h

/- alidade/delta.masks -/
def c18 : SC :=
  (.seq (.reg [⟨some 2, .mv, [.c (.int .i64 0)], none, []⟩])
  (.seq (.reg [⟨some 3, .mv, [.r 0], none, [0, 2]⟩,
    ⟨some 4, (.bin .add), [.r 3, .c (.int .i64 60)], none, [3]⟩,
    ⟨some 5, (.bin .sub), [.r 4, .c (.int .i64 1)], none, [4]⟩,
    ⟨some 6, (.bin .quo), [.r 5, .c (.int .i64 60)], none, [5]⟩,
    ⟨some 2, .mv, [.r 6], none, [6]⟩])
  .ret))
def rs18 : List SR := [.tmp 2]
theorem k18 : okC Try.prog 7 (Try.f18.body.getD .skip) c18 = true := by kernel_rfl
theorem acall18 {args : List AV} (hn : args.length ≤ 7) {H : Heap} {v : AV} {H' : Heap} (h : ac Try.prog c18 (argEnv 0 args) H (Fin H rs18 v H')) : ACall Try.prog 18 args H v H' :=
  acall Try.func18 (c := Try.f18.body.getD .skip) rfl k18 (by kernel_rfl) hn h
theorem acallK18 {args : List AV} (hn : args.length ≤ 7) {H : Heap} {v : AV} {H' : Heap} (h : ac Try.prog c18 (argEnv 0 args) H (FinK rs18 v H')) : ACall Try.prog 18 args H v H' :=
  acallK Try.func18 (c := Try.f18.body.getD .skip) rfl k18 (by kernel_rfl) hn h

/- slices.Chunk[[]int64,int64] -/
def c19 : SC :=
  (.seq (.reg [⟨some 2, .box, [.r 0], none, [0]⟩,
    ⟨some 3, .box, [.r 1], none, [1]⟩,
    ⟨some 4, .mv, [.c .nilf], none, []⟩])
  (.seq (.seq (.reg [⟨some 5, .ld1, [.r 3], none, [4]⟩,
    ⟨some 6, (.bin .lss), [.r 5, .c (.int .i64 1)], none, [5]⟩])
  (.cond (.r 6)
    (.kl [6] (.reg [⟨some 7, .dead, [], none, []⟩,
      ⟨none, .dead, [], none, [7]⟩]))
    (.kl [6] .skip)))
  (.seq (.reg [⟨some 8, (.mkfn (.func 22) 0), [.r 2, .r 3], none, [2, 3]⟩,
    ⟨some 4, .mv, [.r 8], none, [8]⟩])
  .ret)))
def rs19 : List SR := [.tmp 4]
theorem k19 : okC Try.prog 9 (Try.f19.body.getD .skip) c19 = true := by kernel_rfl
theorem acall19 {args : List AV} (hn : args.length ≤ 9) {H : Heap} {v : AV} {H' : Heap} (h : ac Try.prog c19 (argEnv 0 args) H (Fin H rs19 v H')) : ACall Try.prog 19 args H v H' :=
  acall Try.func19 (c := Try.f19.body.getD .skip) rfl k19 (by kernel_rfl) hn h
theorem acallK19 {args : List AV} (hn : args.length ≤ 9) {H : Heap} {v : AV} {H' : Heap} (h : ac Try.prog c19 (argEnv 0 args) H (FinK rs19 v H')) : ACall Try.prog 19 args H v H' :=
  acallK Try.func19 (c := Try.f19.body.getD .skip) rfl k19 (by kernel_rfl) hn h

/- alidade/delta.ones -/
def c20l0 : SC :=
  (.seq (.reg [⟨some 9, (.bin .lss), [.r 8, .r 7], none, []⟩])
    (.seq (.cond (.r 9)
      (.kl [9] .skip)
      (.kl [6, 7, 8, 9] (.exit 0)))
    (.seq (.block 1 (.seq (.reg [⟨some 10, (.iaddrS 1), [.r 6, .r 8], none, []⟩,
      ⟨some 11, .ld1, [.r 10], none, [10]⟩,
      ⟨some 5, .mv, [.r 11], none, [11]⟩])
    (.reg [⟨some 12, .mv, [.r 3], none, [3]⟩,
      ⟨some 13, .mv, [.r 5], none, [5]⟩,
      ⟨some 14, (.conv .u64), [.r 13], none, [13]⟩,
      ⟨some 15, (.call 23), [.r 14], none, [14]⟩,
      ⟨some 16, (.bin .add), [.r 12, .r 15], none, [12, 15]⟩,
      ⟨some 3, .mv, [.r 16], none, [16]⟩])))
    (.reg [⟨some 17, (.bin .add), [.r 8, .c (.int .i64 1)], none, [8]⟩,
      ⟨some 8, .mv, [.r 17], none, [17]⟩]))))
def c20 : SC :=
  (.seq (.reg [⟨some 2, .mv, [.c (.int .i64 0)], none, []⟩])
  (.seq (.reg [⟨some 3, .mv, [.c (.int .i64 0)], none, [2]⟩])
  (.seq (.seq (.reg [⟨some 6, .mv, [.r 0], none, [0]⟩,
    ⟨some 7, .len, [.r 6], none, []⟩,
    ⟨some 8, .mv, [.c (.int .i64 0)], none, []⟩])
  (.block 0 (.loop c20l0)))
  (.seq (.reg [⟨some 18, .mv, [.r 3], none, [3]⟩,
    ⟨some 2, .mv, [.r 18], none, [18]⟩])
  .ret))))
def rs20 : List SR := [.tmp 2]
theorem k20 : okC Try.prog 19 (Try.f20.body.getD .skip) c20 = true := by kernel_rfl
theorem acall20 {args : List AV} (hn : args.length ≤ 19) {H : Heap} {v : AV} {H' : Heap} (h : ac Try.prog c20 (argEnv 0 args) H (Fin H rs20 v H')) : ACall Try.prog 20 args H v H' :=
  acall Try.func20 (c := Try.f20.body.getD .skip) rfl k20 (by kernel_rfl) hn h
theorem acallK20 {args : List AV} (hn : args.length ≤ 19) {H : Heap} {v : AV} {H' : Heap} (h : ac Try.prog c20 (argEnv 0 args) H (FinK rs20 v H')) : ACall Try.prog 20 args H v H' :=
  acallK Try.func20 (c := Try.f20.body.getD .skip) rfl k20 (by kernel_rfl) hn h

/- alidade/alidaderef09.bit -/
def c21l0 : SC :=
  (.seq (.seq (.reg [⟨some 9, .mv, [.r 6], none, []⟩,
      ⟨some 10, .mv, [.r 1], none, []⟩,
      ⟨some 11, (.bin .lss), [.r 9, .r 10], none, [9, 10]⟩])
    (.cond (.r 11)
      (.kl [11] .skip)
      (.kl [1, 6, 11] (.exit 0))))
    (.seq (.block 1 (.reg [⟨some 14, .mv, [.r 5], none, [5]⟩,
      ⟨some 15, (.bin .quo), [.r 14, .c (.int .u64 2)], none, [14]⟩,
      ⟨some 5, .mv, [.r 15], none, [15]⟩]))
    (.reg [⟨some 12, .mv, [.r 6], none, [6]⟩,
      ⟨some 13, (.bin .add), [.r 12, .c (.int .i64 1)], none, [12]⟩,
      ⟨some 6, .mv, [.r 13], none, [13]⟩])))
def c21 : SC :=
  (.seq (.reg [⟨some 4, .mv, [.c (.bool false)], none, []⟩])
  (.seq (.reg [⟨some 7, .mv, [.r 0], none, [0, 4]⟩,
    ⟨some 8, (.conv .u64), [.r 7], none, [7]⟩,
    ⟨some 5, .mv, [.r 8], none, [8]⟩])
  (.seq (.seq (.reg [⟨some 6, .mv, [.c (.int .i64 0)], none, []⟩])
  (.block 0 (.loop c21l0)))
  (.seq (.reg [⟨some 16, .mv, [.r 5], none, [5]⟩,
    ⟨some 17, (.bin .rem), [.r 16, .c (.int .u64 2)], none, [16]⟩,
    ⟨some 18, (.bin .eql), [.r 17, .c (.int .u64 1)], none, [17]⟩,
    ⟨some 4, .mv, [.r 18], none, [18]⟩])
  .ret))))
def rs21 : List SR := [.tmp 4]
theorem k21 : okC Try.prog 19 (Try.f21.body.getD .skip) c21 = true := by kernel_rfl
theorem acall21 {args : List AV} (hn : args.length ≤ 19) {H : Heap} {v : AV} {H' : Heap} (h : ac Try.prog c21 (argEnv 0 args) H (Fin H rs21 v H')) : ACall Try.prog 21 args H v H' :=
  acall Try.func21 (c := Try.f21.body.getD .skip) rfl k21 (by kernel_rfl) hn h
theorem acallK21 {args : List AV} (hn : args.length ≤ 19) {H : Heap} {v : AV} {H' : Heap} (h : ac Try.prog c21 (argEnv 0 args) H (FinK rs21 v H')) : ACall Try.prog 21 args H v H' :=
  acallK Try.func21 (c := Try.f21.body.getD .skip) rfl k21 (by kernel_rfl) hn h

/- slices.Chunk[[]int64,int64]$1 -/
def c22l0 : SC :=
  (.seq (.seq (.reg [⟨some 6, .mv, [.r 4], none, []⟩,
      ⟨some 7, .ld1, [.r 1], none, []⟩,
      ⟨some 8, .len, [.r 7], none, [7]⟩,
      ⟨some 9, (.bin .lss), [.r 6, .r 8], none, [6, 8]⟩])
    (.cond (.r 9)
      (.kl [9] .skip)
      (.kl [0, 1, 2, 4, 9] (.exit 0))))
    (.seq (.block 1 (.seq (.dreg [⟨0, 0, false, false, ⟨some 13, .ld1, [.r 2], none, []⟩⟩,
      ⟨1, 0, false, false, ⟨some 14, .ld1, [.r 1], none, []⟩⟩,
      ⟨2, 0, false, false, ⟨some 15, .mv, [.r 4], none, []⟩⟩,
      ⟨3, 6, false, false, ⟨some 16, (.slice 1 true false false), [.r 14, .r 15], none, [14, 15]⟩⟩,
      ⟨4, 14, false, false, ⟨some 17, .len, [.r 16], none, [16]⟩⟩,
      ⟨5, 31, false, false, ⟨some 18, .mn, [.r 13, .r 17], none, [13, 17]⟩⟩,
      ⟨6, 63, false, false, ⟨some 5, .mv, [.r 18], none, [18]⟩⟩])
    (.seq (.reg [⟨some 19, .mv, [.r 0], none, []⟩,
      ⟨some 20, .ld1, [.r 1], none, []⟩,
      ⟨some 21, .mv, [.r 4], none, []⟩,
      ⟨some 22, .mv, [.r 4], none, []⟩,
      ⟨some 23, .mv, [.r 5], none, []⟩,
      ⟨some 24, (.bin .add), [.r 22, .r 23], none, [22, 23]⟩,
      ⟨some 25, .mv, [.r 4], none, []⟩,
      ⟨some 26, .mv, [.r 5], none, [5]⟩,
      ⟨some 27, (.bin .add), [.r 25, .r 26], none, [25, 26]⟩,
      ⟨some 28, (.slice 1 true true true), [.r 20, .r 21, .r 24, .r 27], none, [20, 21, 24, 27]⟩,
      ⟨some 29, .callv, [.r 19, .r 28], none, [19, 28]⟩,
      ⟨some 30, (.un .not), [.r 29], none, [29]⟩])
    (.cond (.r 30)
      (.kl [0, 1, 2, 4, 30] .ret)
      (.kl [30] .skip)))))
    (.reg [⟨some 10, .mv, [.r 4], none, [4]⟩,
      ⟨some 11, .ld1, [.r 2], none, []⟩,
      ⟨some 12, (.bin .add), [.r 10, .r 11], none, [10, 11]⟩,
      ⟨some 4, .mv, [.r 12], none, [12]⟩])))
def c22 : SC :=
  (.seq (.reg [⟨some 4, .mv, [.c (.int .i64 0)], none, []⟩])
  (.block 0 (.loop c22l0)))
def rs22 : List SR := []
theorem k22 : okC Try.prog 31 (Try.f22.body.getD .skip) c22 = true := by kernel_rfl
theorem acall22 {args : List AV} (hn : args.length ≤ 31) {H : Heap} {v : AV} {H' : Heap} (h : ac Try.prog c22 (argEnv 0 args) H (Fin H rs22 v H')) : ACall Try.prog 22 args H v H' :=
  acall Try.func22 (c := Try.f22.body.getD .skip) rfl k22 (by kernel_rfl) hn h
theorem acallK22 {args : List AV} (hn : args.length ≤ 31) {H : Heap} {v : AV} {H' : Heap} (h : ac Try.prog c22 (argEnv 0 args) H (FinK rs22 v H')) : ACall Try.prog 22 args H v H' :=
  acallK Try.func22 (c := Try.f22.body.getD .skip) rfl k22 (by kernel_rfl) hn h

/- math/bits.OnesCount64 -/
def c23 : SC :=
  (.seq (.reg [⟨some 2, .mv, [.c (.int .i64 0)], none, []⟩])
  (.seq (.reg [⟨some 3, .mv, [.r 0], none, [2]⟩,
    ⟨some 4, (.bin .shr), [.r 3, .c (.int .u64 1)], none, [3]⟩,
    ⟨some 5, (.bin .and), [.r 4, .c (.int .u64 6148914691236517205)], none, [4]⟩,
    ⟨some 6, .mv, [.r 0], none, [0]⟩,
    ⟨some 7, (.bin .and), [.r 6, .c (.int .u64 6148914691236517205)], none, [6]⟩,
    ⟨some 8, (.bin .add), [.r 5, .r 7], none, [5, 7]⟩,
    ⟨some 0, .mv, [.r 8], none, [8]⟩])
  (.seq (.reg [⟨some 9, .mv, [.r 0], none, []⟩,
    ⟨some 10, (.bin .shr), [.r 9, .c (.int .u64 2)], none, [9]⟩,
    ⟨some 11, (.bin .and), [.r 10, .c (.int .u64 3689348814741910323)], none, [10]⟩,
    ⟨some 12, .mv, [.r 0], none, [0]⟩,
    ⟨some 13, (.bin .and), [.r 12, .c (.int .u64 3689348814741910323)], none, [12]⟩,
    ⟨some 14, (.bin .add), [.r 11, .r 13], none, [11, 13]⟩,
    ⟨some 0, .mv, [.r 14], none, [14]⟩])
  (.seq (.reg [⟨some 15, .mv, [.r 0], none, []⟩,
    ⟨some 16, (.bin .shr), [.r 15, .c (.int .u64 4)], none, [15]⟩,
    ⟨some 17, .mv, [.r 0], none, [0]⟩,
    ⟨some 18, (.bin .add), [.r 16, .r 17], none, [16, 17]⟩,
    ⟨some 19, (.bin .and), [.r 18, .c (.int .u64 1085102592571150095)], none, [18]⟩,
    ⟨some 0, .mv, [.r 19], none, [19]⟩])
  (.seq (.reg [⟨some 20, .mv, [.r 0], none, []⟩,
    ⟨some 21, .mv, [.r 0], none, [0]⟩,
    ⟨some 22, (.bin .shr), [.r 21, .c (.int .u64 8)], none, [21]⟩,
    ⟨some 23, (.bin .add), [.r 20, .r 22], none, [20, 22]⟩,
    ⟨some 0, .mv, [.r 23], none, [23]⟩])
  (.seq (.reg [⟨some 24, .mv, [.r 0], none, []⟩,
    ⟨some 25, .mv, [.r 0], none, [0]⟩,
    ⟨some 26, (.bin .shr), [.r 25, .c (.int .u64 16)], none, [25]⟩,
    ⟨some 27, (.bin .add), [.r 24, .r 26], none, [24, 26]⟩,
    ⟨some 0, .mv, [.r 27], none, [27]⟩])
  (.seq (.reg [⟨some 28, .mv, [.r 0], none, []⟩,
    ⟨some 29, .mv, [.r 0], none, [0]⟩,
    ⟨some 30, (.bin .shr), [.r 29, .c (.int .u64 32)], none, [29]⟩,
    ⟨some 31, (.bin .add), [.r 28, .r 30], none, [28, 30]⟩,
    ⟨some 0, .mv, [.r 31], none, [31]⟩])
  (.seq (.reg [⟨some 32, .mv, [.r 0], none, [0]⟩,
    ⟨some 33, (.conv .i64), [.r 32], none, [32]⟩,
    ⟨some 34, (.bin .and), [.r 33, .c (.int .i64 127)], none, [33]⟩,
    ⟨some 2, .mv, [.r 34], none, [34]⟩])
  .ret))))))))
def rs23 : List SR := [.tmp 2]
theorem k23 : okC Try.prog 35 (Try.f23.body.getD .skip) c23 = true := by kernel_rfl
theorem acall23 {args : List AV} (hn : args.length ≤ 35) {H : Heap} {v : AV} {H' : Heap} (h : ac Try.prog c23 (argEnv 0 args) H (Fin H rs23 v H')) : ACall Try.prog 23 args H v H' :=
  acall Try.func23 (c := Try.f23.body.getD .skip) rfl k23 (by kernel_rfl) hn h
theorem acallK23 {args : List AV} (hn : args.length ≤ 35) {H : Heap} {v : AV} {H' : Heap} (h : ac Try.prog c23 (argEnv 0 args) H (FinK rs23 v H')) : ACall Try.prog 23 args H v H' :=
  acallK Try.func23 (c := Try.f23.body.getD .skip) rfl k23 (by kernel_rfl) hn h

end Go.Proofs.Ytlohehkagaabfaa.Ah
