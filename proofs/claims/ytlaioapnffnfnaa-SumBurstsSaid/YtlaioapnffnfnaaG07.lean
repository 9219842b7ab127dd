/- G07: a part of the proof: steps over abstract values, or contracts of functions. Conditions: none. -/
import Derived.Test.YtlaioapnffnfnaaAh6
import Derived.Test.YtlaioapnffnfnaaProg
import Derived.KernelRfl
namespace Go.Proofs.Ytlaioapnffnfnaa.Ah
open Go
/- alidade/alidadelaw07.SumTells -/
def c3 : SC :=
  (.seq (.reg [⟨some 4, .mv, [.c (.bool false)], none, []⟩])
  (.seq (.reg [⟨some 10, (.call 8), [], none, [4]⟩,
    ⟨some 5, .mv, [.r 10], none, [10]⟩])
  (.seq (.seq (.reg [⟨some 11, .mv, [.r 1], none, []⟩,
    ⟨some 12, .len, [.r 11], none, [11]⟩,
    ⟨some 13, (.bin .gtr), [.r 12, .c (.int .i64 3000)], none, [12]⟩])
  (.cond (.r 13)
    (.kl [0, 1, 13] (.seq (.reg [⟨some 14, .mv, [.r 5], none, [5]⟩,
      ⟨some 4, .mv, [.r 14], none, [14]⟩])
    .ret))
    (.kl [13] .skip)))
  (.seq (.reg [⟨some 16, .mv, [.r 1], none, []⟩,
    ⟨some 17, (.call 9), [.r 16], none, [16]⟩,
    ⟨some 15, .mv, [.r 17], none, [17]⟩,
    ⟨some 18, (.ext 0), [.r 15], none, []⟩,
    ⟨some 19, (.ext 1), [.r 15], none, [15]⟩,
    ⟨some 6, .mv, [.r 18], none, [18]⟩,
    ⟨some 7, .mv, [.r 19], none, [19]⟩])
  (.seq (.reg [⟨some 21, .mv, [.r 1], none, []⟩,
    ⟨some 22, (.call 10), [.r 21], none, [21]⟩,
    ⟨some 20, .mv, [.r 22], none, [22]⟩,
    ⟨some 23, (.ext 0), [.r 20], none, []⟩,
    ⟨some 24, (.ext 1), [.r 20], none, [20]⟩,
    ⟨some 8, .mv, [.r 23], none, [23]⟩,
    ⟨some 9, .mv, [.r 24], none, [24]⟩])
  (.seq (.reg [⟨some 25, .mv, [.r 5], none, [5]⟩,
    ⟨some 26, .mv, [.r 25], none, [25]⟩,
    ⟨some 27, (.call 11), [], (some (26, true)), []⟩,
    ⟨some 28, (.call 12), [], (some (26, true)), []⟩,
    ⟨some 29, (.eqv false (List.replicate 256 .int)), [.r 27, .r 28], (some (26, true)), [27, 28]⟩,
    ⟨some 30, .pick, [.r 26, .r 29, .c (.bool false)], none, [26, 29]⟩,
    ⟨some 31, .mv, [.r 30], none, [30]⟩,
    ⟨some 32, .mv, [.r 0], (some (31, true)), []⟩,
    ⟨some 33, .mv, [.r 1], (some (31, true)), []⟩,
    ⟨some 34, (.call 13), [.r 32, .r 33], (some (31, true)), [32, 33]⟩,
    ⟨some 35, .mv, [.r 0], (some (31, true)), [0]⟩,
    ⟨some 36, .mv, [.r 1], (some (31, true)), []⟩,
    ⟨some 37, (.call 14), [.r 35, .r 36], (some (31, true)), [35, 36]⟩,
    ⟨some 38, (.bin .eql), [.r 34, .r 37], (some (31, true)), [34, 37]⟩,
    ⟨some 39, .pick, [.r 31, .r 38, .c (.bool false)], none, [31, 38]⟩,
    ⟨some 40, .mv, [.r 39], none, [39]⟩,
    ⟨some 41, .mv, [.r 1], (some (40, true)), []⟩,
    ⟨some 42, (.call 15), [.r 41], (some (40, true)), [41]⟩,
    ⟨some 43, .mv, [.r 1], (some (40, true)), []⟩,
    ⟨some 44, (.call 16), [.r 43], (some (40, true)), [43]⟩,
    ⟨some 45, (.bin .eql), [.r 42, .r 44], (some (40, true)), [42, 44]⟩,
    ⟨some 46, .pick, [.r 40, .r 45, .c (.bool false)], none, [40, 45]⟩,
    ⟨some 47, .mv, [.r 46], none, [46]⟩,
    ⟨some 48, .mv, [.r 1], (some (47, true)), []⟩,
    ⟨some 49, (.call 18), [.r 48], (some (47, true)), [48]⟩,
    ⟨some 50, .mv, [.r 1], (some (47, true)), [1]⟩,
    ⟨some 51, (.call 19), [.r 50], (some (47, true)), [50]⟩,
    ⟨some 52, (.call 17), [.r 49, .r 51], (some (47, true)), [49, 51]⟩,
    ⟨some 53, .pick, [.r 47, .r 52, .c (.bool false)], none, [47, 52]⟩,
    ⟨some 54, .mv, [.r 53], none, [53]⟩,
    ⟨some 55, .mv, [.r 6], (some (54, true)), [6]⟩,
    ⟨some 56, .mv, [.r 8], (some (54, true)), [8]⟩,
    ⟨some 57, (.call 17), [.r 55, .r 56], (some (54, true)), [55, 56]⟩,
    ⟨some 58, .pick, [.r 54, .r 57, .c (.bool false)], none, [54, 57]⟩,
    ⟨some 59, .mv, [.r 58], none, [58]⟩,
    ⟨some 60, .mv, [.r 7], (some (59, true)), [7]⟩,
    ⟨some 61, .mv, [.r 9], (some (59, true)), [9]⟩,
    ⟨some 62, (.bin .eql), [.r 60, .r 61], (some (59, true)), [60, 61]⟩,
    ⟨some 63, .pick, [.r 59, .r 62, .c (.bool false)], none, [59, 62]⟩,
    ⟨some 4, .mv, [.r 63], none, [63]⟩])
  .ret))))))
def rs3 : List SR := [.tmp 4]
theorem k3 : okC Try.prog 64 (Try.f3.body.getD .skip) c3 = true := by kernel_rfl
theorem acall3 {args : List AV} (hn : args.length ≤ 64) {H : Heap} {v : AV} {H' : Heap} (h : ac Try.prog c3 (argEnv 0 args) H (Fin H rs3 v H')) : ACall Try.prog 3 args H v H' :=
  acall Try.func3 (c := Try.f3.body.getD .skip) rfl k3 (by kernel_rfl) hn h

/- alidade/alidadelaw07.SumBack -/
def c4 : SC :=
  (.seq (.reg [⟨some 6, .mv, [.c (.bool false)], none, []⟩])
  (.seq (.reg [⟨some 11, (.call 8), [], none, [6]⟩,
    ⟨some 7, .mv, [.r 11], none, [11]⟩])
  (.seq (.seq (.reg [⟨some 12, .mv, [.r 0], none, []⟩,
    ⟨some 13, .len, [.r 12], none, [12]⟩,
    ⟨some 14, .mv, [.r 1], none, []⟩,
    ⟨some 15, .len, [.r 14], none, [14]⟩,
    ⟨some 16, (.bin .add), [.r 13, .r 15], none, [13, 15]⟩,
    ⟨some 17, (.bin .gtr), [.r 16, .c (.int .i64 3000)], none, [16]⟩])
  (.cond (.r 17)
    (.kl [0, 1, 2, 17] (.seq (.reg [⟨some 18, .mv, [.r 7], none, [7]⟩,
      ⟨some 6, .mv, [.r 18], none, [18]⟩])
    .ret))
    (.kl [17] .skip)))
  (.seq (.reg [⟨some 20, .mv, [.r 0], none, []⟩,
    ⟨some 21, (.call 18), [.r 20], none, [20]⟩,
    ⟨some 22, (.call 9), [.r 21], none, [21]⟩,
    ⟨some 19, .mv, [.r 22], none, [22]⟩,
    ⟨some 23, (.ext 0), [.r 19], none, []⟩,
    ⟨some 24, (.ext 1), [.r 19], none, [19]⟩,
    ⟨some 8, .mv, [.r 23], none, [23]⟩,
    ⟨some 9, .mv, [.r 24], none, [24]⟩])
  (.seq (.reg [⟨some 25, (.bslice 1 0 [] []), [], none, []⟩,
    ⟨some 26, .mv, [.r 0], none, []⟩,
    ⟨some 27, (.app 1 1), [.r 25, .r 26], none, [25, 26]⟩,
    ⟨some 28, .mv, [.r 1], none, []⟩,
    ⟨some 29, (.app 1 1), [.r 27, .r 28], none, [27, 28]⟩,
    ⟨some 10, .mv, [.r 29], none, [29]⟩])
  (.seq (.reg [⟨some 30, .mv, [.r 7], none, [7]⟩,
    ⟨some 31, .mv, [.r 30], none, [30]⟩,
    ⟨some 32, .mv, [.r 9], (some (31, true)), [9]⟩,
    ⟨some 33, (.bin .eql), [.r 32, .c (.int .i64 0)], (some (31, true)), [32]⟩,
    ⟨some 34, .pick, [.r 31, .r 33, .c (.bool false)], none, [31, 33]⟩,
    ⟨some 35, .mv, [.r 34], none, [34]⟩,
    ⟨some 36, .mv, [.r 8], (some (35, true)), [8]⟩,
    ⟨some 37, .mv, [.r 0], (some (35, true)), []⟩,
    ⟨some 38, (.call 17), [.r 36, .r 37], (some (35, true)), [36, 37]⟩,
    ⟨some 39, .pick, [.r 35, .r 38, .c (.bool false)], none, [35, 38]⟩,
    ⟨some 40, .mv, [.r 39], none, [39]⟩,
    ⟨some 41, .mv, [.r 2], (some (40, true)), []⟩,
    ⟨some 42, .mv, [.r 0], (some (40, true)), []⟩,
    ⟨some 43, (.call 13), [.r 41, .r 42], (some (40, true)), [41, 42]⟩,
    ⟨some 44, .mv, [.r 1], (some (40, true)), [1]⟩,
    ⟨some 45, (.call 13), [.r 43, .r 44], (some (40, true)), [43, 44]⟩,
    ⟨some 46, .mv, [.r 2], (some (40, true)), [2]⟩,
    ⟨some 47, .mv, [.r 10], (some (40, true)), [10]⟩,
    ⟨some 48, (.call 13), [.r 46, .r 47], (some (40, true)), [46, 47]⟩,
    ⟨some 49, (.bin .eql), [.r 45, .r 48], (some (40, true)), [45, 48]⟩,
    ⟨some 50, .pick, [.r 40, .r 49, .c (.bool false)], none, [40, 49]⟩,
    ⟨some 51, .mv, [.r 50], none, [50]⟩,
    ⟨some 52, .mv, [.r 0], (some (51, true)), []⟩,
    ⟨some 53, (.call 18), [.r 52], (some (51, true)), [52]⟩,
    ⟨some 54, .len, [.r 53], (some (51, true)), [53]⟩,
    ⟨some 55, .mv, [.r 0], (some (51, true)), [0]⟩,
    ⟨some 56, .len, [.r 55], (some (51, true)), [55]⟩,
    ⟨some 57, (.bin .add), [.r 56, .c (.int .i64 4)], (some (51, true)), [56]⟩,
    ⟨some 58, (.bin .eql), [.r 54, .r 57], (some (51, true)), [54, 57]⟩,
    ⟨some 59, .pick, [.r 51, .r 58, .c (.bool false)], none, [51, 58]⟩,
    ⟨some 6, .mv, [.r 59], none, [59]⟩])
  .ret))))))
def rs4 : List SR := [.tmp 6]
theorem k4 : okC Try.prog 60 (Try.f4.body.getD .skip) c4 = true := by kernel_rfl
theorem acall4 {args : List AV} (hn : args.length ≤ 60) {H : Heap} {v : AV} {H' : Heap} (h : ac Try.prog c4 (argEnv 0 args) H (Fin H rs4 v H')) : ACall Try.prog 4 args H v H' :=
  acall Try.func4 (c := Try.f4.body.getD .skip) rfl k4 (by kernel_rfl) hn h

/- alidade/alidadelaw07.SumBursts -/
def c5l0 : SC :=
  (.seq (.seq (.reg [⟨some 35, .mv, [.r 10], none, []⟩,
      ⟨some 36, (.bin .lss), [.r 35, .c (.int .i64 4)], none, [35]⟩,
      ⟨some 37, .mv, [.r 36], none, [36]⟩,
      ⟨some 38, .mv, [.r 1], (some (37, true)), []⟩,
      ⟨some 39, .mv, [.r 10], (some (37, true)), []⟩,
      ⟨some 40, (.bin .add), [.r 38, .r 39], (some (37, true)), [38, 39]⟩,
      ⟨some 41, .mv, [.r 8], (some (37, true)), []⟩,
      ⟨some 42, .len, [.r 41], (some (37, true)), [41]⟩,
      ⟨some 43, (.bin .lss), [.r 40, .r 42], (some (37, true)), [40, 42]⟩,
      ⟨some 44, .pick, [.r 37, .r 43, .c (.bool false)], none, [37, 43]⟩])
    (.cond (.r 44)
      (.kl [44] .skip)
      (.kl [1, 5, 10, 44] (.exit 0))))
    (.seq (.block 1 (.seq (.dreg [⟨0, 0, false, false, ⟨some 47, .mv, [.r 8], none, []⟩⟩,
      ⟨1, 0, false, false, ⟨some 48, .mv, [.r 1], none, []⟩⟩,
      ⟨2, 0, false, false, ⟨some 49, .mv, [.r 10], none, []⟩⟩,
      ⟨3, 6, false, false, ⟨some 50, (.bin .add), [.r 48, .r 49], none, [48, 49]⟩⟩,
      ⟨4, 0, false, false, ⟨some 51, .mv, [.r 8], none, []⟩⟩,
      ⟨5, 0, false, false, ⟨some 52, .mv, [.r 1], none, []⟩⟩,
      ⟨6, 0, false, false, ⟨some 53, .mv, [.r 10], none, []⟩⟩,
      ⟨7, 96, false, false, ⟨some 54, (.bin .add), [.r 52, .r 53], none, [52, 53]⟩⟩,
      ⟨8, 240, false, false, ⟨some 55, (.iaddrS 1), [.r 51, .r 54], none, [51, 54]⟩⟩,
      ⟨9, 496, false, false, ⟨some 56, .ld1, [.r 55], none, [55]⟩⟩,
      ⟨10, 0, false, false, ⟨some 57, .mv, [.r 10], none, []⟩⟩,
      ⟨11, 1024, false, false, ⟨some 58, (.iaddrA 1 4), [.r 5, .r 57], none, [57]⟩⟩,
      ⟨12, 3072, false, false, ⟨some 59, .ld1, [.r 58], none, [58]⟩⟩,
      ⟨13, 8176, false, false, ⟨some 60, (.bin .xor), [.r 56, .r 59], none, [56, 59]⟩⟩,
      ⟨14, 16383, false, false, ⟨some 61, (.iaddrS 1), [.r 47, .r 50], none, [47, 50]⟩⟩,
      ⟨15, 32767, false, false, ⟨none, (.st 1), [.r 61, .r 60], none, [60, 61]⟩⟩])
    (.reg [⟨some 62, .mv, [.r 9], none, [9]⟩,
      ⟨some 63, .mv, [.r 62], none, [62]⟩,
      ⟨some 64, .mv, [.r 10], (some (63, false)), []⟩,
      ⟨some 65, (.iaddrA 1 4), [.r 5, .r 64], (some (63, false)), [64]⟩,
      ⟨some 66, .ld1, [.r 65], (some (63, false)), [65]⟩,
      ⟨some 67, (.bin .neq), [.r 66, .c (.int .u8 0)], (some (63, false)), [66]⟩,
      ⟨some 68, .pick, [.r 63, .c (.bool true), .r 67], none, [63, 67]⟩,
      ⟨some 9, .mv, [.r 68], none, [68]⟩])))
    (.reg [⟨some 45, .mv, [.r 10], none, [10]⟩,
      ⟨some 46, (.bin .add), [.r 45, .c (.int .i64 1)], none, [45]⟩,
      ⟨some 10, .mv, [.r 46], none, [46]⟩])))
def c5 : SC :=
  (.seq (.reg [⟨some 5, .box, [.r 2], none, [2]⟩,
    ⟨some 6, .mv, [.c (.bool false)], none, []⟩])
  (.seq (.reg [⟨some 13, (.call 8), [], none, [6]⟩,
    ⟨some 7, .mv, [.r 13], none, [13]⟩])
  (.seq (.seq (.reg [⟨some 14, .mv, [.r 0], none, []⟩,
    ⟨some 15, .len, [.r 14], none, [14]⟩,
    ⟨some 16, (.bin .gtr), [.r 15, .c (.int .i64 2000)], none, [15]⟩])
  (.cond (.r 16)
    (.kl [0, 1, 5, 16] (.seq (.reg [⟨some 17, .mv, [.r 7], none, [7]⟩,
      ⟨some 6, .mv, [.r 17], none, [17]⟩])
    .ret))
    (.kl [16] .skip)))
  (.seq (.reg [⟨some 18, .mv, [.r 0], none, []⟩,
    ⟨some 19, (.call 18), [.r 18], none, [18]⟩,
    ⟨some 8, .mv, [.r 19], none, [19]⟩])
  (.seq (.seq (.reg [⟨some 20, .mv, [.r 8], none, []⟩,
    ⟨some 21, .len, [.r 20], none, [20]⟩,
    ⟨some 22, .mv, [.r 0], none, []⟩,
    ⟨some 23, .len, [.r 22], none, [22]⟩,
    ⟨some 24, (.bin .add), [.r 23, .c (.int .i64 4)], none, [23]⟩,
    ⟨some 25, (.bin .neq), [.r 21, .r 24], none, [21, 24]⟩])
  (.cond (.r 25)
    (.kl [0, 1, 5, 7, 8, 25] (.seq (.reg [⟨some 6, .mv, [.c (.bool false)], none, []⟩])
    .ret))
    (.kl [25] .skip)))
  (.seq (.seq (.reg [⟨some 26, .mv, [.r 1], none, []⟩,
    ⟨some 27, (.bin .lss), [.r 26, .c (.int .i64 0)], none, [26]⟩,
    ⟨some 28, .mv, [.r 27], none, [27]⟩,
    ⟨some 29, .mv, [.r 1], (some (28, false)), []⟩,
    ⟨some 30, .mv, [.r 8], (some (28, false)), []⟩,
    ⟨some 31, .len, [.r 30], (some (28, false)), [30]⟩,
    ⟨some 32, (.bin .geq), [.r 29, .r 31], (some (28, false)), [29, 31]⟩,
    ⟨some 33, .pick, [.r 28, .c (.bool true), .r 32], none, [28, 32]⟩])
  (.cond (.r 33)
    (.kl [0, 1, 5, 8, 33] (.seq (.reg [⟨some 34, .mv, [.r 7], none, [7]⟩,
      ⟨some 6, .mv, [.r 34], none, [34]⟩])
    .ret))
    (.kl [33] .skip)))
  (.seq (.reg [⟨some 9, .mv, [.c (.bool false)], none, []⟩])
  (.seq (.seq (.reg [⟨some 10, .mv, [.c (.int .i64 0)], none, []⟩])
  (.block 0 (.loop c5l0)))
  (.seq (.reg [⟨some 70, .mv, [.r 8], none, [8]⟩,
    ⟨some 71, (.call 9), [.r 70], none, [70]⟩,
    ⟨some 69, .mv, [.r 71], none, [71]⟩,
    ⟨some 72, (.ext 0), [.r 69], none, []⟩,
    ⟨some 73, (.ext 1), [.r 69], none, [69]⟩,
    ⟨some 11, .mv, [.r 72], none, [72]⟩,
    ⟨some 12, .mv, [.r 73], none, [73]⟩])
  (.seq (.seq (.reg [⟨some 74, .mv, [.r 9], none, [9]⟩])
  (.cond (.r 74)
    (.kl [0, 74] (.seq (.reg [⟨some 75, .mv, [.r 7], none, [7]⟩,
      ⟨some 76, .mv, [.r 75], none, [75]⟩,
      ⟨some 77, .mv, [.r 12], (some (76, true)), [12]⟩,
      ⟨some 78, (.bin .eql), [.r 77, .c (.int .i64 3)], (some (76, true)), [77]⟩,
      ⟨some 79, .pick, [.r 76, .r 78, .c (.bool false)], none, [76, 78]⟩,
      ⟨some 80, .mv, [.r 79], none, [79]⟩,
      ⟨some 81, .mv, [.r 11], (some (80, true)), [11]⟩,
      ⟨some 82, .len, [.r 81], (some (80, true)), [81]⟩,
      ⟨some 83, (.bin .eql), [.r 82, .c (.int .i64 0)], (some (80, true)), [82]⟩,
      ⟨some 84, .pick, [.r 80, .r 83, .c (.bool false)], none, [80, 83]⟩,
      ⟨some 6, .mv, [.r 84], none, [84]⟩])
    .ret))
    (.kl [74] .skip)))
  (.seq (.reg [⟨some 85, .mv, [.r 7], none, [7]⟩,
    ⟨some 86, .mv, [.r 85], none, [85]⟩,
    ⟨some 87, .mv, [.r 12], (some (86, true)), [12]⟩,
    ⟨some 88, (.bin .eql), [.r 87, .c (.int .i64 0)], (some (86, true)), [87]⟩,
    ⟨some 89, .pick, [.r 86, .r 88, .c (.bool false)], none, [86, 88]⟩,
    ⟨some 90, .mv, [.r 89], none, [89]⟩,
    ⟨some 91, .mv, [.r 11], (some (90, true)), [11]⟩,
    ⟨some 92, .mv, [.r 0], (some (90, true)), [0]⟩,
    ⟨some 93, (.call 17), [.r 91, .r 92], (some (90, true)), [91, 92]⟩,
    ⟨some 94, .pick, [.r 90, .r 93, .c (.bool false)], none, [90, 93]⟩,
    ⟨some 6, .mv, [.r 94], none, [94]⟩])
  .ret)))))))))))
def rs5 : List SR := [.tmp 6]
theorem k5 : okC Try.prog 95 (Try.f5.body.getD .skip) c5 = true := by kernel_rfl
theorem acall5 {args : List AV} (hn : args.length ≤ 95) {H : Heap} {v : AV} {H' : Heap} (h : ac Try.prog c5 (argEnv 0 args) H (Fin H rs5 v H')) : ACall Try.prog 5 args H v H' :=
  acall Try.func5 (c := Try.f5.body.getD .skip) rfl k5 (by kernel_rfl) hn h

/- alidade/alidadelaw07.SumLines -/
def c6l0 : SC :=
  (.seq (.seq (.reg [⟨some 32, .mv, [.r 9], none, []⟩,
      ⟨some 33, .mv, [.r 0], none, []⟩,
      ⟨some 34, .len, [.r 33], none, [33]⟩,
      ⟨some 35, (.bin .lss), [.r 32, .r 34], none, [32, 34]⟩])
    (.cond (.r 35)
      (.kl [35] .skip)
      (.kl [9, 35] (.exit 0))))
    (.seq (.block 1 (.dreg [⟨0, 0, false, false, ⟨some 38, .mv, [.r 8], none, []⟩⟩,
      ⟨1, 0, false, false, ⟨some 39, .mv, [.r 9], none, []⟩⟩,
      ⟨2, 0, false, false, ⟨some 40, .mv, [.r 0], none, []⟩⟩,
      ⟨3, 0, false, false, ⟨some 41, .mv, [.r 9], none, []⟩⟩,
      ⟨4, 12, false, false, ⟨some 42, (.iaddrS 1), [.r 40, .r 41], none, [40, 41]⟩⟩,
      ⟨5, 28, false, false, ⟨some 43, .ld1, [.r 42], none, [42]⟩⟩,
      ⟨6, 0, false, false, ⟨some 44, .mv, [.r 1], none, []⟩⟩,
      ⟨7, 0, false, false, ⟨some 45, .mv, [.r 9], none, []⟩⟩,
      ⟨8, 192, false, false, ⟨some 46, (.iaddrS 1), [.r 44, .r 45], none, [44, 45]⟩⟩,
      ⟨9, 448, false, false, ⟨some 47, .ld1, [.r 46], none, [46]⟩⟩,
      ⟨10, 1020, false, false, ⟨some 48, (.bin .xor), [.r 43, .r 47], none, [43, 47]⟩⟩,
      ⟨11, 0, false, false, ⟨some 49, .mv, [.r 2], none, []⟩⟩,
      ⟨12, 0, false, false, ⟨some 50, .mv, [.r 9], none, []⟩⟩,
      ⟨13, 6144, false, false, ⟨some 51, (.iaddrS 1), [.r 49, .r 50], none, [49, 50]⟩⟩,
      ⟨14, 14336, false, false, ⟨some 52, .ld1, [.r 51], none, [51]⟩⟩,
      ⟨15, 32764, false, false, ⟨some 53, (.bin .xor), [.r 48, .r 52], none, [48, 52]⟩⟩,
      ⟨16, 65535, false, false, ⟨some 54, (.iaddrS 1), [.r 38, .r 39], none, [38, 39]⟩⟩,
      ⟨17, 131071, false, false, ⟨none, (.st 1), [.r 54, .r 53], none, [53, 54]⟩⟩]))
    (.reg [⟨some 36, .mv, [.r 9], none, [9]⟩,
      ⟨some 37, (.bin .add), [.r 36, .c (.int .i64 1)], none, [36]⟩,
      ⟨some 9, .mv, [.r 37], none, [37]⟩])))
def c6 : SC :=
  (.seq (.reg [⟨some 6, .mv, [.c (.bool false)], none, []⟩])
  (.seq (.reg [⟨some 10, (.call 8), [], none, [6]⟩,
    ⟨some 7, .mv, [.r 10], none, [10]⟩])
  (.seq (.seq (.reg [⟨some 11, .mv, [.r 0], none, []⟩,
    ⟨some 12, .len, [.r 11], none, [11]⟩,
    ⟨some 13, (.bin .gtr), [.r 12, .c (.int .i64 500)], none, [12]⟩,
    ⟨some 14, .mv, [.r 13], none, [13]⟩,
    ⟨some 15, .mv, [.r 1], (some (14, false)), []⟩,
    ⟨some 16, .len, [.r 15], (some (14, false)), [15]⟩,
    ⟨some 17, .mv, [.r 0], (some (14, false)), []⟩,
    ⟨some 18, .len, [.r 17], (some (14, false)), [17]⟩,
    ⟨some 19, (.bin .neq), [.r 16, .r 18], (some (14, false)), [16, 18]⟩,
    ⟨some 20, .pick, [.r 14, .c (.bool true), .r 19], none, [14, 19]⟩,
    ⟨some 21, .mv, [.r 20], none, [20]⟩,
    ⟨some 22, .mv, [.r 2], (some (21, false)), []⟩,
    ⟨some 23, .len, [.r 22], (some (21, false)), [22]⟩,
    ⟨some 24, .mv, [.r 0], (some (21, false)), []⟩,
    ⟨some 25, .len, [.r 24], (some (21, false)), [24]⟩,
    ⟨some 26, (.bin .neq), [.r 23, .r 25], (some (21, false)), [23, 25]⟩,
    ⟨some 27, .pick, [.r 21, .c (.bool true), .r 26], none, [21, 26]⟩])
  (.cond (.r 27)
    (.kl [0, 1, 2, 27] (.seq (.reg [⟨some 28, .mv, [.r 7], none, [7]⟩,
      ⟨some 6, .mv, [.r 28], none, [28]⟩])
    .ret))
    (.kl [27] .skip)))
  (.seq (.reg [⟨some 29, .mv, [.r 0], none, []⟩,
    ⟨some 30, .len, [.r 29], none, [29]⟩,
    ⟨some 31, (.mksl 1 1 [(.int .u8 0)]), [.r 30, .r 30], none, [30]⟩,
    ⟨some 8, .mv, [.r 31], none, [31]⟩])
  (.seq (.seq (.reg [⟨some 9, .mv, [.c (.int .i64 0)], none, []⟩])
  (.block 0 (.loop c6l0)))
  (.seq (.reg [⟨some 55, .mv, [.r 7], none, [7]⟩,
    ⟨some 56, .mv, [.r 55], none, [55]⟩,
    ⟨some 57, .mv, [.r 0], (some (56, true)), [0]⟩,
    ⟨some 58, (.call 15), [.r 57], (some (56, true)), [57]⟩,
    ⟨some 59, .mv, [.r 1], (some (56, true)), [1]⟩,
    ⟨some 60, (.call 15), [.r 59], (some (56, true)), [59]⟩,
    ⟨some 61, (.bin .xor), [.r 58, .r 60], (some (56, true)), [58, 60]⟩,
    ⟨some 62, .mv, [.r 2], (some (56, true)), [2]⟩,
    ⟨some 63, (.call 15), [.r 62], (some (56, true)), [62]⟩,
    ⟨some 64, (.bin .xor), [.r 61, .r 63], (some (56, true)), [61, 63]⟩,
    ⟨some 65, .mv, [.r 8], (some (56, true)), [8]⟩,
    ⟨some 66, (.call 15), [.r 65], (some (56, true)), [65]⟩,
    ⟨some 67, (.bin .eql), [.r 64, .r 66], (some (56, true)), [64, 66]⟩,
    ⟨some 68, .pick, [.r 56, .r 67, .c (.bool false)], none, [56, 67]⟩,
    ⟨some 6, .mv, [.r 68], none, [68]⟩])
  .ret))))))
def rs6 : List SR := [.tmp 6]
theorem k6 : okC Try.prog 69 (Try.f6.body.getD .skip) c6 = true := by kernel_rfl
theorem acall6 {args : List AV} (hn : args.length ≤ 69) {H : Heap} {v : AV} {H' : Heap} (h : ac Try.prog c6 (argEnv 0 args) H (Fin H rs6 v H')) : ACall Try.prog 6 args H v H' :=
  acall Try.func6 (c := Try.f6.body.getD .skip) rfl k6 (by kernel_rfl) hn h

/- alidade/alidadelaw07.SumShort -/
def c7 : SC :=
  (.seq (.reg [⟨some 2, .mv, [.c (.bool false)], none, []⟩])
  (.seq (.reg [⟨some 7, (.call 8), [], none, [2]⟩,
    ⟨some 3, .mv, [.r 7], none, [7]⟩])
  (.seq (.seq (.reg [⟨some 8, .mv, [.r 0], none, []⟩,
    ⟨some 9, .len, [.r 8], none, [8]⟩,
    ⟨some 10, (.bin .gtr), [.r 9, .c (.int .i64 4)], none, [9]⟩])
  (.cond (.r 10)
    (.kl [0, 10] (.seq (.reg [⟨some 11, .mv, [.r 3], none, [3]⟩,
      ⟨some 2, .mv, [.r 11], none, [11]⟩])
    .ret))
    (.kl [10] .skip)))
  (.seq (.reg [⟨some 13, .mv, [.r 0], none, []⟩,
    ⟨some 14, (.call 9), [.r 13], none, [13]⟩,
    ⟨some 12, .mv, [.r 14], none, [14]⟩,
    ⟨some 15, (.ext 0), [.r 12], none, []⟩,
    ⟨some 16, (.ext 1), [.r 12], none, [12]⟩,
    ⟨some 4, .mv, [.r 15], none, [15]⟩,
    ⟨some 5, .mv, [.r 16], none, [16]⟩])
  (.seq (.seq (.reg [⟨some 17, .mv, [.r 0], none, []⟩,
    ⟨some 18, .len, [.r 17], none, [17]⟩,
    ⟨some 19, (.bin .lss), [.r 18, .c (.int .i64 4)], none, [18]⟩])
  (.cond (.r 19)
    (.kl [0, 19] (.seq (.reg [⟨some 20, .mv, [.r 3], none, [3]⟩,
      ⟨some 21, .mv, [.r 20], none, [20]⟩,
      ⟨some 22, .mv, [.r 5], (some (21, true)), [5]⟩,
      ⟨some 23, (.bin .eql), [.r 22, .c (.int .i64 4)], (some (21, true)), [22]⟩,
      ⟨some 24, .pick, [.r 21, .r 23, .c (.bool false)], none, [21, 23]⟩,
      ⟨some 25, .mv, [.r 24], none, [24]⟩,
      ⟨some 26, .mv, [.r 4], (some (25, true)), [4]⟩,
      ⟨some 27, .len, [.r 26], (some (25, true)), [26]⟩,
      ⟨some 28, (.bin .eql), [.r 27, .c (.int .i64 0)], (some (25, true)), [27]⟩,
      ⟨some 29, .pick, [.r 25, .r 28, .c (.bool false)], none, [25, 28]⟩,
      ⟨some 2, .mv, [.r 29], none, [29]⟩])
    .ret))
    (.kl [4, 19] .skip)))
  (.seq (.reg [⟨some 30, .mv, [.r 0], none, []⟩,
    ⟨some 31, (.iaddrS 1), [.r 30, .c (.int .i64 0)], none, [30]⟩,
    ⟨some 32, .ld1, [.r 31], none, [31]⟩,
    ⟨some 33, (.bin .eql), [.r 32, .c (.int .u8 0)], none, [32]⟩,
    ⟨some 34, .mv, [.r 33], none, [33]⟩,
    ⟨some 35, .mv, [.r 0], (some (34, true)), []⟩,
    ⟨some 36, (.iaddrS 1), [.r 35, .c (.int .i64 1)], (some (34, true)), [35]⟩,
    ⟨some 37, .ld1, [.r 36], (some (34, true)), [36]⟩,
    ⟨some 38, (.bin .eql), [.r 37, .c (.int .u8 0)], (some (34, true)), [37]⟩,
    ⟨some 39, .pick, [.r 34, .r 38, .c (.bool false)], none, [34, 38]⟩,
    ⟨some 40, .mv, [.r 39], none, [39]⟩,
    ⟨some 41, .mv, [.r 0], (some (40, true)), []⟩,
    ⟨some 42, (.iaddrS 1), [.r 41, .c (.int .i64 2)], (some (40, true)), [41]⟩,
    ⟨some 43, .ld1, [.r 42], (some (40, true)), [42]⟩,
    ⟨some 44, (.bin .eql), [.r 43, .c (.int .u8 0)], (some (40, true)), [43]⟩,
    ⟨some 45, .pick, [.r 40, .r 44, .c (.bool false)], none, [40, 44]⟩,
    ⟨some 46, .mv, [.r 45], none, [45]⟩,
    ⟨some 47, .mv, [.r 0], (some (46, true)), [0]⟩,
    ⟨some 48, (.iaddrS 1), [.r 47, .c (.int .i64 3)], (some (46, true)), [47]⟩,
    ⟨some 49, .ld1, [.r 48], (some (46, true)), [48]⟩,
    ⟨some 50, (.bin .eql), [.r 49, .c (.int .u8 0)], (some (46, true)), [49]⟩,
    ⟨some 51, .pick, [.r 46, .r 50, .c (.bool false)], none, [46, 50]⟩,
    ⟨some 6, .mv, [.r 51], none, [51]⟩])
  (.seq (.reg [⟨some 52, .mv, [.r 3], none, [3]⟩,
    ⟨some 53, .mv, [.r 52], none, [52]⟩,
    ⟨some 54, .mv, [.r 5], (some (53, true)), [5]⟩,
    ⟨some 55, (.bin .eql), [.r 54, .c (.int .i64 0)], (some (53, true)), [54]⟩,
    ⟨some 56, .mv, [.r 6], (some (53, true)), [6]⟩,
    ⟨some 57, (.eqb false), [.r 55, .r 56], (some (53, true)), [55, 56]⟩,
    ⟨some 58, .pick, [.r 53, .r 57, .c (.bool false)], none, [53, 57]⟩,
    ⟨some 59, .mv, [.r 58], none, [58]⟩,
    ⟨some 60, (.call 18), [.c .nils], (some (59, true)), []⟩,
    ⟨some 61, (.bslice 1 4 [(.int .u8 0), (.int .u8 0), (.int .u8 0), (.int .u8 0)] [(0, 1), (1, 1), (2, 1), (3, 1)]), [.c (.int .u8 0), .c (.int .u8 0), .c (.int .u8 0), .c (.int .u8 0)], (some (59, true)), []⟩,
    ⟨some 62, (.call 17), [.r 60, .r 61], (some (59, true)), [60, 61]⟩,
    ⟨some 63, .pick, [.r 59, .r 62, .c (.bool false)], none, [59, 62]⟩,
    ⟨some 2, .mv, [.r 63], none, [63]⟩])
  .ret)))))))
def rs7 : List SR := [.tmp 2]
theorem k7 : okC Try.prog 64 (Try.f7.body.getD .skip) c7 = true := by kernel_rfl
theorem acall7 {args : List AV} (hn : args.length ≤ 64) {H : Heap} {v : AV} {H' : Heap} (h : ac Try.prog c7 (argEnv 0 args) H (Fin H rs7 v H')) : ACall Try.prog 7 args H v H' :=
  acall Try.func7 (c := Try.f7.body.getD .skip) rfl k7 (by kernel_rfl) hn h

/- alidade/alidadelaw07.shown -/
def c8 : SC :=
  (.seq (.reg [⟨some 0, .mv, [.c (.bool false)], none, []⟩])
  (.seq (.reg [⟨some 4, (.bslice 1 1 [(.int .u8 0)] [(0, 1)]), [.c (.int .u8 97)], none, [0]⟩,
    ⟨some 5, .bytesOf, [.r 4], none, [4]⟩,
    ⟨some 6, (.call 18), [.r 5], none, [5]⟩,
    ⟨some 7, (.call 9), [.r 6], none, [6]⟩,
    ⟨some 3, .mv, [.r 7], none, [7]⟩,
    ⟨some 8, (.ext 0), [.r 3], none, []⟩,
    ⟨some 9, (.ext 1), [.r 3], none, [3]⟩,
    ⟨some 1, .mv, [.r 8], none, [8]⟩,
    ⟨some 2, .mv, [.r 9], none, [9]⟩])
  (.seq (.reg [⟨some 10, (.bslice 1 9 [(.int .u8 0), (.int .u8 0), (.int .u8 0), (.int .u8 0), (.int .u8 0), (.int .u8 0), (.int .u8 0), (.int .u8 0), (.int .u8 0)] [(0, 1), (1, 1), (2, 1), (3, 1), (4, 1), (5, 1), (6, 1), (7, 1), (8, 1)]), [.c (.int .u8 49), .c (.int .u8 50), .c (.int .u8 51), .c (.int .u8 52), .c (.int .u8 53), .c (.int .u8 54), .c (.int .u8 55), .c (.int .u8 56), .c (.int .u8 57)], none, []⟩,
    ⟨some 11, .bytesOf, [.r 10], none, [10]⟩,
    ⟨some 12, (.call 15), [.r 11], none, [11]⟩,
    ⟨some 13, (.bin .eql), [.r 12, .c (.int .u32 3421780262)], none, [12]⟩,
    ⟨some 14, .mv, [.r 13], none, [13]⟩,
    ⟨some 15, .mv, [.r 2], (some (14, true)), [2]⟩,
    ⟨some 16, (.bin .eql), [.r 15, .c (.int .i64 0)], (some (14, true)), [15]⟩,
    ⟨some 17, .pick, [.r 14, .r 16, .c (.bool false)], none, [14, 16]⟩,
    ⟨some 18, .mv, [.r 17], none, [17]⟩,
    ⟨some 19, .mv, [.r 1], (some (18, true)), []⟩,
    ⟨some 20, .len, [.r 19], (some (18, true)), [19]⟩,
    ⟨some 21, (.bin .eql), [.r 20, .c (.int .i64 1)], (some (18, true)), [20]⟩,
    ⟨some 22, .pick, [.r 18, .r 21, .c (.bool false)], none, [18, 21]⟩,
    ⟨some 23, .mv, [.r 22], none, [22]⟩,
    ⟨some 24, .mv, [.r 1], (some (23, true)), [1]⟩,
    ⟨some 25, (.iaddrS 1), [.r 24, .c (.int .i64 0)], (some (23, true)), [24]⟩,
    ⟨some 26, .ld1, [.r 25], (some (23, true)), [25]⟩,
    ⟨some 27, (.bin .eql), [.r 26, .c (.int .u8 97)], (some (23, true)), [26]⟩,
    ⟨some 28, .pick, [.r 23, .r 27, .c (.bool false)], none, [23, 27]⟩,
    ⟨some 0, .mv, [.r 28], none, [28]⟩])
  .ret)))
def rs8 : List SR := [.tmp 0]
theorem k8 : okC Try.prog 29 (Try.f8.body.getD .skip) c8 = true := by kernel_rfl
theorem acall8 {args : List AV} (hn : args.length ≤ 29) {H : Heap} {v : AV} {H' : Heap} (h : ac Try.prog c8 (argEnv 0 args) H (Fin H rs8 v H')) : ACall Try.prog 8 args H v H' :=
  acall Try.func8 (c := Try.f8.body.getD .skip) rfl k8 (by kernel_rfl) hn h

/- alidade/sum.Open -/
def c9 : SC :=
  (.seq (.reg [⟨some 2, .mv, [.c .nils], none, []⟩,
    ⟨some 3, .mv, [.c (.int .i64 0)], none, [2]⟩])
  (.seq (.reg [⟨some 5, .mv, [.r 0], none, [3]⟩,
    ⟨some 6, .len, [.r 5], none, [5]⟩,
    ⟨some 7, (.bin .sub), [.r 6, .c (.int .i64 4)], none, [6]⟩,
    ⟨some 4, .mv, [.r 7], none, [7]⟩])
  (.seq (.seq (.reg [⟨some 8, .mv, [.r 4], none, []⟩,
    ⟨some 9, (.bin .lss), [.r 8, .c (.int .i64 0)], none, [8]⟩])
  (.cond (.r 9)
    (.kl [0, 4, 9] (.seq (.reg [⟨some 2, .mv, [.c .nils], none, []⟩,
      ⟨some 3, .mv, [.c (.int .i64 4)], none, []⟩])
    .ret))
    (.kl [9] .skip)))
  (.seq (.seq (.dreg [⟨0, 0, false, false, ⟨some 10, .mv, [.r 0], none, []⟩⟩,
    ⟨1, 0, false, false, ⟨some 11, .mv, [.r 4], none, []⟩⟩,
    ⟨2, 3, false, false, ⟨some 12, (.slice 1 false true false), [.r 10, .r 11], none, [10, 11]⟩⟩,
    ⟨3, 7, false, false, ⟨some 13, (.call 21), [.r 12], none, [12]⟩⟩,
    ⟨4, 0, false, false, ⟨some 14, .mv, [.r 0], none, []⟩⟩,
    ⟨5, 0, false, false, ⟨some 15, .mv, [.r 4], none, []⟩⟩,
    ⟨6, 48, false, false, ⟨some 16, (.slice 1 true false false), [.r 14, .r 15], none, [14, 15]⟩⟩,
    ⟨7, 127, false, false, ⟨some 17, (.call 20), [.r 13, .r 16], none, [13, 16]⟩⟩,
    ⟨8, 255, false, false, ⟨some 18, (.un .not), [.r 17], none, [17]⟩⟩])
  (.cond (.r 18)
    (.kl [0, 4, 18] (.seq (.reg [⟨some 2, .mv, [.c .nils], none, []⟩,
      ⟨some 3, .mv, [.c (.int .i64 3)], none, []⟩])
    .ret))
    (.kl [18] .skip)))
  (.seq (.reg [⟨some 19, .mv, [.r 0], none, [0]⟩,
    ⟨some 20, .mv, [.r 4], none, [4]⟩,
    ⟨some 21, (.slice 1 false true false), [.r 19, .r 20], none, [19, 20]⟩,
    ⟨some 22, (.call 22), [.r 21], none, [21]⟩,
    ⟨some 2, .mv, [.r 22], none, [22]⟩,
    ⟨some 3, .mv, [.c (.int .i64 0)], none, []⟩])
  .ret)))))
def rs9 : List SR := [.tmp 2, .tmp 3]
theorem k9 : okC Try.prog 23 (Try.f9.body.getD .skip) c9 = true := by kernel_rfl
theorem acall9 {args : List AV} (hn : args.length ≤ 23) {H : Heap} {v : AV} {H' : Heap} (h : ac Try.prog c9 (argEnv 0 args) H (Fin H rs9 v H')) : ACall Try.prog 9 args H v H' :=
  acall Try.func9 (c := Try.f9.body.getD .skip) rfl k9 (by kernel_rfl) hn h

/- alidade/alidaderef07.Open -/
def c10 : SC :=
  (.seq (.reg [⟨some 2, .mv, [.c .nils], none, []⟩,
    ⟨some 3, .mv, [.c (.int .i64 0)], none, [2]⟩])
  (.seq (.seq (.reg [⟨some 6, .mv, [.r 0], none, [3]⟩,
    ⟨some 7, .len, [.r 6], none, [6]⟩,
    ⟨some 8, (.bin .lss), [.r 7, .c (.int .i64 4)], none, [7]⟩])
  (.cond (.r 8)
    (.kl [0, 8] (.seq (.reg [⟨some 2, .mv, [.c .nils], none, []⟩,
      ⟨some 3, .mv, [.c (.int .i64 4)], none, []⟩])
    .ret))
    (.kl [8] .skip)))
  (.seq (.reg [⟨some 9, (.bslice 1 0 [] []), [], none, []⟩,
    ⟨some 10, .mv, [.r 0], none, []⟩,
    ⟨some 11, .mv, [.r 0], none, []⟩,
    ⟨some 12, .len, [.r 11], none, [11]⟩,
    ⟨some 13, (.bin .sub), [.r 12, .c (.int .i64 4)], none, [12]⟩,
    ⟨some 14, (.slice 1 false true false), [.r 10, .r 13], none, [10, 13]⟩,
    ⟨some 15, (.app 1 1), [.r 9, .r 14], none, [9, 14]⟩,
    ⟨some 4, .mv, [.r 15], none, [15]⟩])
  (.seq (.reg [⟨some 16, .mv, [.r 4], none, []⟩,
    ⟨some 17, (.call 19), [.r 16], none, [16]⟩,
    ⟨some 18, .mv, [.r 0], none, [0]⟩,
    ⟨some 19, (.call 17), [.r 17, .r 18], none, [17, 18]⟩,
    ⟨some 5, .mv, [.r 19], none, [19]⟩])
  (.seq (.seq (.reg [⟨some 20, .mv, [.r 5], none, [5]⟩,
    ⟨some 21, (.un .not), [.r 20], none, [20]⟩])
  (.cond (.r 21)
    (.kl [4, 21] (.seq (.reg [⟨some 2, .mv, [.c .nils], none, []⟩,
      ⟨some 3, .mv, [.c (.int .i64 3)], none, []⟩])
    .ret))
    (.kl [21] .skip)))
  (.seq (.reg [⟨some 22, .mv, [.r 4], none, [4]⟩,
    ⟨some 2, .mv, [.r 22], none, [22]⟩,
    ⟨some 3, .mv, [.c (.int .i64 0)], none, []⟩])
  .ret))))))
def rs10 : List SR := [.tmp 2, .tmp 3]
theorem k10 : okC Try.prog 23 (Try.f10.body.getD .skip) c10 = true := by kernel_rfl
theorem acall10 {args : List AV} (hn : args.length ≤ 23) {H : Heap} {v : AV} {H' : Heap} (h : ac Try.prog c10 (argEnv 0 args) H (Fin H rs10 v H')) : ACall Try.prog 10 args H v H' :=
  acall Try.func10 (c := Try.f10.body.getD .skip) rfl k10 (by kernel_rfl) hn h

/- alidade/sum.Table -/
def c11l0 : SC :=
  (.seq (.reg [⟨some 10, (.bin .lss), [.r 9, .c (.int .i64 8)], none, []⟩])
      (.seq (.cond (.r 10)
        (.kl [10] .skip)
        (.kl [9, 10] (.exit 2)))
      (.seq (.block 3 (.seq (.reg [⟨some 11, .mv, [.r 3], none, []⟩,
        ⟨some 12, (.bin .and), [.r 11, .c (.int .u32 1)], none, [11]⟩,
        ⟨some 13, (.bin .eql), [.r 12, .c (.int .u32 1)], none, [12]⟩])
      (.cond (.r 13)
        (.kl [13] (.reg [⟨some 14, .mv, [.r 3], none, [3]⟩,
          ⟨some 15, (.bin .shr), [.r 14, .c (.int .u64 1)], none, [14]⟩,
          ⟨some 16, (.bin .xor), [.r 15, .c (.int .u32 3988292384)], none, [15]⟩,
          ⟨some 3, .mv, [.r 16], none, [16]⟩]))
        (.kl [13] (.reg [⟨some 17, .mv, [.r 3], none, [3]⟩,
          ⟨some 18, (.bin .shr), [.r 17, .c (.int .u64 1)], none, [17]⟩,
          ⟨some 3, .mv, [.r 18], none, [18]⟩])))))
      (.reg [⟨some 19, (.bin .add), [.r 9, .c (.int .i64 1)], none, [9]⟩,
        ⟨some 9, .mv, [.r 19], none, [19]⟩]))))
def c11l1 : SC :=
  (.seq (.reg [⟨some 5, (.bin .lss), [.r 4, .c (.int .i64 256)], none, []⟩])
    (.seq (.cond (.r 5)
      (.kl [5] .skip)
      (.kl [4, 5] (.exit 0)))
    (.seq (.block 1 (.seq (.reg [⟨some 6, .mv, [.r 4], none, []⟩,
      ⟨some 2, .mv, [.r 6], none, [6]⟩])
    (.seq (.reg [⟨some 7, .mv, [.r 2], none, []⟩,
      ⟨some 8, (.conv .u32), [.r 7], none, [7]⟩,
      ⟨some 3, .mv, [.r 8], none, [8]⟩])
    (.seq (.seq (.reg [⟨some 9, .mv, [.c (.int .i64 0)], none, []⟩])
    (.block 2 (.loop c11l0)))
    (.reg [⟨some 20, .mv, [.r 2], none, [2]⟩,
      ⟨some 21, .mv, [.r 3], none, [3]⟩,
      ⟨some 22, (.iaddrA 1 256), [.r 1, .r 20], none, [20]⟩,
      ⟨none, (.st 1), [.r 22, .r 21], none, [21, 22]⟩])))))
    (.reg [⟨some 23, (.bin .add), [.r 4, .c (.int .i64 1)], none, [4]⟩,
      ⟨some 4, .mv, [.r 23], none, [23]⟩]))))
def c11 : SC :=
  (.seq (.reg [⟨some 0, (.alloc (List.replicate 256 (.int .u32 0))), [], none, []⟩])
  (.seq (.reg [⟨some 1, (.alloc (List.replicate 256 (.int .u32 0))), [], none, []⟩])
  (.seq (.seq (.reg [⟨some 4, .mv, [.c (.int .i64 0)], none, []⟩])
  (.block 0 (.loop c11l1)))
  (.seq (.reg [⟨some 24, (.ldn 256), [.r 1], none, [1]⟩,
    ⟨none, (.st 256), [.r 0, .r 24], none, [24]⟩])
  .ret))))
def rs11 : List SR := [.celln 0 256]
theorem k11 : okC Try.prog 25 (Try.f11.body.getD .skip) c11 = true := by kernel_rfl
theorem acall11 {args : List AV} (hn : args.length ≤ 25) {H : Heap} {v : AV} {H' : Heap} (h : ac Try.prog c11 (argEnv 0 args) H (Fin H rs11 v H')) : ACall Try.prog 11 args H v H' :=
  acall Try.func11 (c := Try.f11.body.getD .skip) rfl k11 (by kernel_rfl) hn h

/- alidade/alidaderef07.Table -/
def c12l0 : SC :=
  (.seq (.seq (.reg [⟨some 12, .mv, [.r 4], none, []⟩,
        ⟨some 13, (.bin .lss), [.r 12, .c (.int .i64 8)], none, [12]⟩])
      (.cond (.r 13)
        (.kl [13] .skip)
        (.kl [4, 13] (.exit 2))))
      (.seq (.block 3 (.reg [⟨some 16, .mv, [.r 3], none, [3]⟩,
        ⟨some 17, (.call 23), [.r 16], none, [16]⟩,
        ⟨some 3, .mv, [.r 17], none, [17]⟩]))
      (.reg [⟨some 14, .mv, [.r 4], none, [4]⟩,
        ⟨some 15, (.bin .add), [.r 14, .c (.int .i64 1)], none, [14]⟩,
        ⟨some 4, .mv, [.r 15], none, [15]⟩])))
def c12l1 : SC :=
  (.seq (.seq (.reg [⟨some 6, .mv, [.r 2], none, []⟩,
      ⟨some 7, (.bin .lss), [.r 6, .c (.int .i64 256)], none, [6]⟩])
    (.cond (.r 7)
      (.kl [7] .skip)
      (.kl [2, 7] (.exit 0))))
    (.seq (.block 1 (.seq (.reg [⟨some 10, .mv, [.r 2], none, []⟩,
      ⟨some 11, (.conv .u32), [.r 10], none, [10]⟩,
      ⟨some 3, .mv, [.r 11], none, [11]⟩])
    (.seq (.seq (.reg [⟨some 4, .mv, [.c (.int .i64 0)], none, []⟩])
    (.block 2 (.loop c12l0)))
    (.reg [⟨some 18, .mv, [.r 2], none, []⟩,
      ⟨some 19, .mv, [.r 3], none, [3]⟩,
      ⟨some 20, (.iaddrA 1 256), [.r 1, .r 18], none, [18]⟩,
      ⟨none, (.st 1), [.r 20, .r 19], none, [19, 20]⟩]))))
    (.reg [⟨some 8, .mv, [.r 2], none, [2]⟩,
      ⟨some 9, (.bin .add), [.r 8, .c (.int .i64 1)], none, [8]⟩,
      ⟨some 2, .mv, [.r 9], none, [9]⟩])))
def c12 : SC :=
  (.seq (.reg [⟨some 0, (.alloc (List.replicate 256 (.int .u32 0))), [], none, []⟩])
  (.seq (.reg [⟨some 5, (.build (List.replicate 256 (.int .u32 0)) []), [], none, []⟩,
    ⟨some 1, (.alloc (List.replicate 256 (.int .u32 0))), [], none, []⟩,
    ⟨none, (.st 256), [.r 1, .r 5], none, [5]⟩])
  (.seq (.seq (.reg [⟨some 2, .mv, [.c (.int .i64 0)], none, []⟩])
  (.block 0 (.loop c12l1)))
  (.seq (.reg [⟨some 21, (.ldn 256), [.r 1], none, [1]⟩,
    ⟨none, (.st 256), [.r 0, .r 21], none, [21]⟩])
  .ret))))
def rs12 : List SR := [.celln 0 256]
theorem k12 : okC Try.prog 22 (Try.f12.body.getD .skip) c12 = true := by kernel_rfl
theorem acall12 {args : List AV} (hn : args.length ≤ 22) {H : Heap} {v : AV} {H' : Heap} (h : ac Try.prog c12 (argEnv 0 args) H (Fin H rs12 v H')) : ACall Try.prog 12 args H v H' :=
  acall Try.func12 (c := Try.f12.body.getD .skip) rfl k12 (by kernel_rfl) hn h

/- alidade/sum.More -/
def c13l0 : SC :=
  (.seq (.reg [⟨some 12, (.bin .lss), [.r 11, .r 10], none, []⟩])
    (.seq (.cond (.r 12)
      (.kl [12] .skip)
      (.kl [5, 9, 10, 11, 12] (.exit 0)))
    (.seq (.block 1 (.seq (.reg [⟨some 13, (.iaddrS 1), [.r 9, .r 11], none, []⟩,
      ⟨some 14, .ld1, [.r 13], none, [13]⟩,
      ⟨some 7, .mv, [.r 14], none, [14]⟩])
    (.reg [⟨some 15, .mv, [.r 0], none, []⟩,
      ⟨some 16, (.bin .shr), [.r 15, .c (.int .u64 8)], none, [15]⟩,
      ⟨some 17, .mv, [.r 0], none, [0]⟩,
      ⟨some 18, (.conv .u8), [.r 17], none, [17]⟩,
      ⟨some 19, .mv, [.r 7], none, [7]⟩,
      ⟨some 20, (.bin .xor), [.r 18, .r 19], none, [18, 19]⟩,
      ⟨some 21, (.iaddrA 1 256), [.r 5, .r 20], none, [20]⟩,
      ⟨some 22, .ld1, [.r 21], none, [21]⟩,
      ⟨some 23, (.bin .xor), [.r 16, .r 22], none, [16, 22]⟩,
      ⟨some 0, .mv, [.r 23], none, [23]⟩])))
    (.reg [⟨some 24, (.bin .add), [.r 11, .c (.int .i64 1)], none, [11]⟩,
      ⟨some 11, .mv, [.r 24], none, [24]⟩]))))
def c13 : SC :=
  (.seq (.reg [⟨some 4, .mv, [.c (.int .u32 0)], none, []⟩])
  (.seq (.reg [⟨some 8, (.call 11), [], none, [4]⟩,
    ⟨some 5, (.alloc (List.replicate 256 (.int .u32 0))), [], none, []⟩,
    ⟨none, (.st 256), [.r 5, .r 8], none, [8]⟩])
  (.seq (.seq (.reg [⟨some 9, .mv, [.r 1], none, [1]⟩,
    ⟨some 10, .len, [.r 9], none, []⟩,
    ⟨some 11, .mv, [.c (.int .i64 0)], none, []⟩])
  (.block 0 (.loop c13l0)))
  (.seq (.reg [⟨some 25, .mv, [.r 0], none, [0]⟩,
    ⟨some 4, .mv, [.r 25], none, [25]⟩])
  .ret))))
def rs13 : List SR := [.tmp 4]
theorem k13 : okC Try.prog 26 (Try.f13.body.getD .skip) c13 = true := by kernel_rfl
theorem acall13 {args : List AV} (hn : args.length ≤ 26) {H : Heap} {v : AV} {H' : Heap} (h : ac Try.prog c13 (argEnv 0 args) H (Fin H rs13 v H')) : ACall Try.prog 13 args H v H' :=
  acall Try.func13 (c := Try.f13.body.getD .skip) rfl k13 (by kernel_rfl) hn h

/- alidade/alidaderef07.More -/
def c14l0 : SC :=
  (.seq (.seq (.reg [⟨some 22, .mv, [.r 7], none, []⟩,
        ⟨some 23, (.bin .lss), [.r 22, .c (.int .i64 8)], none, [22]⟩])
      (.cond (.r 23)
        (.kl [23] .skip)
        (.kl [7, 23] (.exit 2))))
      (.seq (.block 3 (.reg [⟨some 26, .mv, [.r 6], none, [6]⟩,
        ⟨some 27, (.call 23), [.r 26], none, [26]⟩,
        ⟨some 6, .mv, [.r 27], none, [27]⟩]))
      (.reg [⟨some 24, .mv, [.r 7], none, [7]⟩,
        ⟨some 25, (.bin .add), [.r 24, .c (.int .i64 1)], none, [24]⟩,
        ⟨some 7, .mv, [.r 25], none, [25]⟩])))
def c14l1 : SC :=
  (.seq (.seq (.reg [⟨some 8, .mv, [.r 5], none, []⟩,
      ⟨some 9, .mv, [.r 1], none, []⟩,
      ⟨some 10, .len, [.r 9], none, [9]⟩,
      ⟨some 11, (.bin .lss), [.r 8, .r 10], none, [8, 10]⟩])
    (.cond (.r 11)
      (.kl [11] .skip)
      (.kl [1, 5, 11] (.exit 0))))
    (.seq (.block 1 (.seq (.reg [⟨some 14, .mv, [.r 0], none, []⟩,
      ⟨some 15, (.bin .rem), [.r 14, .c (.int .u32 256)], none, [14]⟩,
      ⟨some 16, .mv, [.r 1], none, []⟩,
      ⟨some 17, .mv, [.r 5], none, []⟩,
      ⟨some 18, (.iaddrS 1), [.r 16, .r 17], none, [16, 17]⟩,
      ⟨some 19, .ld1, [.r 18], none, [18]⟩,
      ⟨some 20, (.conv .u32), [.r 19], none, [19]⟩,
      ⟨some 21, (.bin .xor), [.r 15, .r 20], none, [15, 20]⟩,
      ⟨some 6, .mv, [.r 21], none, [21]⟩])
    (.seq (.seq (.reg [⟨some 7, .mv, [.c (.int .i64 0)], none, []⟩])
    (.block 2 (.loop c14l0)))
    (.reg [⟨some 28, .mv, [.r 0], none, [0]⟩,
      ⟨some 29, (.bin .quo), [.r 28, .c (.int .u32 256)], none, [28]⟩,
      ⟨some 30, .mv, [.r 6], none, [6]⟩,
      ⟨some 31, (.bin .xor), [.r 29, .r 30], none, [29, 30]⟩,
      ⟨some 0, .mv, [.r 31], none, [31]⟩]))))
    (.reg [⟨some 12, .mv, [.r 5], none, [5]⟩,
      ⟨some 13, (.bin .add), [.r 12, .c (.int .i64 1)], none, [12]⟩,
      ⟨some 5, .mv, [.r 13], none, [13]⟩])))
def c14 : SC :=
  (.seq (.reg [⟨some 4, .mv, [.c (.int .u32 0)], none, []⟩])
  (.seq (.seq (.reg [⟨some 5, .mv, [.c (.int .i64 0)], none, [4]⟩])
  (.block 0 (.loop c14l1)))
  (.seq (.reg [⟨some 32, .mv, [.r 0], none, [0]⟩,
    ⟨some 4, .mv, [.r 32], none, [32]⟩])
  .ret)))
def rs14 : List SR := [.tmp 4]
theorem k14 : okC Try.prog 33 (Try.f14.body.getD .skip) c14 = true := by kernel_rfl
theorem acall14 {args : List AV} (hn : args.length ≤ 33) {H : Heap} {v : AV} {H' : Heap} (h : ac Try.prog c14 (argEnv 0 args) H (Fin H rs14 v H')) : ACall Try.prog 14 args H v H' :=
  acall Try.func14 (c := Try.f14.body.getD .skip) rfl k14 (by kernel_rfl) hn h

/- alidade/sum.Of -/
def c15 : SC :=
  (.seq (.reg [⟨some 2, .mv, [.c (.int .u32 0)], none, []⟩])
  (.seq (.reg [⟨some 3, .mv, [.r 0], none, [0, 2]⟩,
    ⟨some 4, (.call 13), [.c (.int .u32 4294967295), .r 3], none, [3]⟩,
    ⟨some 5, (.un .xor), [.r 4], none, [4]⟩,
    ⟨some 2, .mv, [.r 5], none, [5]⟩])
  .ret))
def rs15 : List SR := [.tmp 2]
theorem k15 : okC Try.prog 6 (Try.f15.body.getD .skip) c15 = true := by kernel_rfl
theorem acall15 {args : List AV} (hn : args.length ≤ 6) {H : Heap} {v : AV} {H' : Heap} (h : ac Try.prog c15 (argEnv 0 args) H (Fin H rs15 v H')) : ACall Try.prog 15 args H v H' :=
  acall Try.func15 (c := Try.f15.body.getD .skip) rfl k15 (by kernel_rfl) hn h

/- alidade/alidaderef07.Of -/
def c16 : SC :=
  (.seq (.reg [⟨some 2, .mv, [.c (.int .u32 0)], none, []⟩])
  (.seq (.reg [⟨some 3, .mv, [.r 0], none, [0, 2]⟩,
    ⟨some 4, (.call 14), [.c (.int .u32 4294967295), .r 3], none, [3]⟩,
    ⟨some 5, (.bin .sub), [.c (.int .u32 4294967295), .r 4], none, [4]⟩,
    ⟨some 2, .mv, [.r 5], none, [5]⟩])
  .ret))
def rs16 : List SR := [.tmp 2]
theorem k16 : okC Try.prog 6 (Try.f16.body.getD .skip) c16 = true := by kernel_rfl
theorem acall16 {args : List AV} (hn : args.length ≤ 6) {H : Heap} {v : AV} {H' : Heap} (h : ac Try.prog c16 (argEnv 0 args) H (Fin H rs16 v H')) : ACall Try.prog 16 args H v H' :=
  acall Try.func16 (c := Try.f16.body.getD .skip) rfl k16 (by kernel_rfl) hn h

/- alidade/alidaderef07.Same -/
def c17l0 : SC :=
  (.seq (.seq (.reg [⟨some 11, .mv, [.r 5], none, []⟩,
      ⟨some 12, .mv, [.r 0], none, []⟩,
      ⟨some 13, .len, [.r 12], none, [12]⟩,
      ⟨some 14, (.bin .lss), [.r 11, .r 13], none, [11, 13]⟩])
    (.cond (.r 14)
      (.kl [14] .skip)
      (.kl [0, 1, 5, 14] (.exit 0))))
    (.seq (.block 1 (.seq (.dreg [⟨0, 0, false, false, ⟨some 17, .mv, [.r 0], none, []⟩⟩,
      ⟨1, 0, false, false, ⟨some 18, .mv, [.r 5], none, []⟩⟩,
      ⟨2, 3, false, false, ⟨some 19, (.iaddrS 1), [.r 17, .r 18], none, [17, 18]⟩⟩,
      ⟨3, 7, false, false, ⟨some 20, .ld1, [.r 19], none, [19]⟩⟩,
      ⟨4, 0, false, false, ⟨some 21, .mv, [.r 1], none, []⟩⟩,
      ⟨5, 0, false, false, ⟨some 22, .mv, [.r 5], none, []⟩⟩,
      ⟨6, 48, false, false, ⟨some 23, (.iaddrS 1), [.r 21, .r 22], none, [21, 22]⟩⟩,
      ⟨7, 112, false, false, ⟨some 24, .ld1, [.r 23], none, [23]⟩⟩,
      ⟨8, 255, false, false, ⟨some 25, (.bin .neq), [.r 20, .r 24], none, [20, 24]⟩⟩])
    (.cond (.r 25)
      (.kl [0, 1, 5, 25] (.seq (.reg [⟨some 4, .mv, [.c (.bool false)], none, []⟩])
      .ret))
      (.kl [25] .skip))))
    (.reg [⟨some 15, .mv, [.r 5], none, [5]⟩,
      ⟨some 16, (.bin .add), [.r 15, .c (.int .i64 1)], none, [15]⟩,
      ⟨some 5, .mv, [.r 16], none, [16]⟩])))
def c17 : SC :=
  (.seq (.reg [⟨some 4, .mv, [.c (.bool false)], none, []⟩])
  (.seq (.seq (.reg [⟨some 6, .mv, [.r 0], none, [4]⟩,
    ⟨some 7, .len, [.r 6], none, [6]⟩,
    ⟨some 8, .mv, [.r 1], none, []⟩,
    ⟨some 9, .len, [.r 8], none, [8]⟩,
    ⟨some 10, (.bin .neq), [.r 7, .r 9], none, [7, 9]⟩])
  (.cond (.r 10)
    (.kl [0, 1, 10] (.seq (.reg [⟨some 4, .mv, [.c (.bool false)], none, []⟩])
    .ret))
    (.kl [10] .skip)))
  (.seq (.seq (.reg [⟨some 5, .mv, [.c (.int .i64 0)], none, []⟩])
  (.block 0 (.loop c17l0)))
  (.seq (.reg [⟨some 4, .mv, [.c (.bool true)], none, []⟩])
  .ret))))
def rs17 : List SR := [.tmp 4]
theorem k17 : okC Try.prog 26 (Try.f17.body.getD .skip) c17 = true := by kernel_rfl
theorem acall17 {args : List AV} (hn : args.length ≤ 26) {H : Heap} {v : AV} {H' : Heap} (h : ac Try.prog c17 (argEnv 0 args) H (Fin H rs17 v H')) : ACall Try.prog 17 args H v H' :=
  acall Try.func17 (c := Try.f17.body.getD .skip) rfl k17 (by kernel_rfl) hn h

/- alidade/sum.Seal -/
def c18 : SC :=
  (.seq (.reg [⟨some 2, .mv, [.c .nils], none, []⟩])
  (.seq (.reg [⟨some 3, .mv, [.r 0], none, [2]⟩,
    ⟨some 4, .mv, [.r 0], none, [0]⟩,
    ⟨some 5, (.call 21), [.r 4], none, [4]⟩,
    ⟨some 6, (.bslice 1 2 [.nils, .nils] [(0, 1), (1, 1)]), [.r 3, .r 5], none, [3, 5]⟩,
    ⟨some 7, (.call 24), [.r 6], none, [6]⟩,
    ⟨some 2, .mv, [.r 7], none, [7]⟩])
  .ret))
def rs18 : List SR := [.tmp 2]
theorem k18 : okC Try.prog 8 (Try.f18.body.getD .skip) c18 = true := by kernel_rfl
theorem acall18 {args : List AV} (hn : args.length ≤ 8) {H : Heap} {v : AV} {H' : Heap} (h : ac Try.prog c18 (argEnv 0 args) H (Fin H rs18 v H')) : ACall Try.prog 18 args H v H' :=
  acall Try.func18 (c := Try.f18.body.getD .skip) rfl k18 (by kernel_rfl) hn h

/- alidade/alidaderef07.Seal -/
def c19l0 : SC :=
  (.seq (.seq (.reg [⟨some 11, .mv, [.r 5], none, []⟩,
      ⟨some 12, (.bin .lss), [.r 11, .c (.int .i64 4)], none, [11]⟩])
    (.cond (.r 12)
      (.kl [12] .skip)
      (.kl [4, 5, 12] (.exit 0))))
    (.seq (.block 1 (.seq (.reg [⟨some 15, .mv, [.r 3], none, [3]⟩,
      ⟨some 16, .mv, [.r 4], none, []⟩,
      ⟨some 17, (.bin .rem), [.r 16, .c (.int .u32 256)], none, [16]⟩,
      ⟨some 18, (.conv .u8), [.r 17], none, [17]⟩,
      ⟨some 19, (.bslice 1 1 [(.int .u8 0)] [(0, 1)]), [.r 18], none, [18]⟩,
      ⟨some 20, (.app 1 1), [.r 15, .r 19], none, [15, 19]⟩,
      ⟨some 3, .mv, [.r 20], none, [20]⟩])
    (.reg [⟨some 21, .mv, [.r 4], none, [4]⟩,
      ⟨some 22, (.bin .quo), [.r 21, .c (.int .u32 256)], none, [21]⟩,
      ⟨some 4, .mv, [.r 22], none, [22]⟩])))
    (.reg [⟨some 13, .mv, [.r 5], none, [5]⟩,
      ⟨some 14, (.bin .add), [.r 13, .c (.int .i64 1)], none, [13]⟩,
      ⟨some 5, .mv, [.r 14], none, [14]⟩])))
def c19 : SC :=
  (.seq (.reg [⟨some 2, .mv, [.c .nils], none, []⟩])
  (.seq (.reg [⟨some 6, (.bslice 1 0 [] []), [], none, [2]⟩,
    ⟨some 7, .mv, [.r 0], none, []⟩,
    ⟨some 8, (.app 1 1), [.r 6, .r 7], none, [6, 7]⟩,
    ⟨some 3, .mv, [.r 8], none, [8]⟩])
  (.seq (.reg [⟨some 9, .mv, [.r 0], none, [0]⟩,
    ⟨some 10, (.call 16), [.r 9], none, [9]⟩,
    ⟨some 4, .mv, [.r 10], none, [10]⟩])
  (.seq (.seq (.reg [⟨some 5, .mv, [.c (.int .i64 0)], none, []⟩])
  (.block 0 (.loop c19l0)))
  (.seq (.reg [⟨some 23, .mv, [.r 3], none, [3]⟩,
    ⟨some 2, .mv, [.r 23], none, [23]⟩])
  .ret)))))
def rs19 : List SR := [.tmp 2]
theorem k19 : okC Try.prog 24 (Try.f19.body.getD .skip) c19 = true := by kernel_rfl
theorem acall19 {args : List AV} (hn : args.length ≤ 24) {H : Heap} {v : AV} {H' : Heap} (h : ac Try.prog c19 (argEnv 0 args) H (Fin H rs19 v H')) : ACall Try.prog 19 args H v H' :=
  acall Try.func19 (c := Try.f19.body.getD .skip) rfl k19 (by kernel_rfl) hn h

/- bytes.Equal -/
def c20 : SC :=
  (.seq (.reg [⟨some 4, .mv, [.c (.bool false)], none, []⟩])
  (.seq (.reg [⟨some 5, .mv, [.r 0], none, [0, 4]⟩,
    ⟨some 6, .strOf, [.r 5], none, [5]⟩,
    ⟨some 7, .mv, [.r 1], none, [1]⟩,
    ⟨some 8, .strOf, [.r 7], none, [7]⟩,
    ⟨some 9, (.eqs false), [.r 6, .r 8], none, [6, 8]⟩,
    ⟨some 4, .mv, [.r 9], none, [9]⟩])
  .ret))
def rs20 : List SR := [.tmp 4]
theorem k20 : okC Try.prog 10 (Try.f20.body.getD .skip) c20 = true := by kernel_rfl
theorem acall20 {args : List AV} (hn : args.length ≤ 10) {H : Heap} {v : AV} {H' : Heap} (h : ac Try.prog c20 (argEnv 0 args) H (Fin H rs20 v H')) : ACall Try.prog 20 args H v H' :=
  acall Try.func20 (c := Try.f20.body.getD .skip) rfl k20 (by kernel_rfl) hn h

/- alidade/sum.tail -/
def c21l0 : SC :=
  (.seq (.reg [⟨some 10, (.bin .lss), [.r 9, .c (.int .i64 4)], none, []⟩])
    (.seq (.cond (.r 10)
      (.kl [10] .skip)
      (.kl [3, 9, 10] (.exit 0)))
    (.seq (.block 1 (.seq (.reg [⟨some 11, .mv, [.r 9], none, []⟩,
      ⟨some 5, .mv, [.r 11], none, [11]⟩])
    (.reg [⟨some 12, .mv, [.r 4], none, []⟩,
      ⟨some 13, .mv, [.r 5], none, []⟩,
      ⟨some 14, .mv, [.r 3], none, []⟩,
      ⟨some 15, .mv, [.r 5], none, [5]⟩,
      ⟨some 16, (.bin .mul), [.c (.int .i64 8), .r 15], none, [15]⟩,
      ⟨some 17, (.bin .shr), [.r 14, .r 16], none, [14, 16]⟩,
      ⟨some 18, (.conv .u8), [.r 17], none, [17]⟩,
      ⟨some 19, (.iaddrS 1), [.r 12, .r 13], none, [12, 13]⟩,
      ⟨none, (.st 1), [.r 19, .r 18], none, [18, 19]⟩])))
    (.reg [⟨some 20, (.bin .add), [.r 9, .c (.int .i64 1)], none, [9]⟩,
      ⟨some 9, .mv, [.r 20], none, [20]⟩]))))
def c21 : SC :=
  (.seq (.reg [⟨some 2, .mv, [.c .nils], none, []⟩])
  (.seq (.reg [⟨some 6, .mv, [.r 0], none, [0, 2]⟩,
    ⟨some 7, (.call 15), [.r 6], none, [6]⟩,
    ⟨some 3, .mv, [.r 7], none, [7]⟩])
  (.seq (.reg [⟨some 8, (.mksl 1 1 [(.int .u8 0)]), [.c (.int .i64 4), .c (.int .i64 4)], none, []⟩,
    ⟨some 4, .mv, [.r 8], none, [8]⟩])
  (.seq (.seq (.reg [⟨some 9, .mv, [.c (.int .i64 0)], none, []⟩])
  (.block 0 (.loop c21l0)))
  (.seq (.reg [⟨some 21, .mv, [.r 4], none, [4]⟩,
    ⟨some 2, .mv, [.r 21], none, [21]⟩])
  .ret)))))
def rs21 : List SR := [.tmp 2]
theorem k21 : okC Try.prog 22 (Try.f21.body.getD .skip) c21 = true := by kernel_rfl
theorem acall21 {args : List AV} (hn : args.length ≤ 22) {H : Heap} {v : AV} {H' : Heap} (h : ac Try.prog c21 (argEnv 0 args) H (Fin H rs21 v H')) : ACall Try.prog 21 args H v H' :=
  acall Try.func21 (c := Try.f21.body.getD .skip) rfl k21 (by kernel_rfl) hn h

/- slices.Clone[[]byte,byte] -/
def c22 : SC :=
  (.seq (.reg [⟨some 2, .mv, [.c .nils], none, []⟩])
  (.seq (.seq (.reg [⟨some 3, .mv, [.r 0], none, [2]⟩,
    ⟨some 4, (.eqnil false), [.r 3], none, [3]⟩])
  (.cond (.r 4)
    (.kl [0, 4] (.seq (.reg [⟨some 2, .mv, [.c .nils], none, []⟩])
    .ret))
    (.kl [4] .skip)))
  (.seq (.reg [⟨some 5, (.bslice 1 0 [] []), [], none, []⟩,
    ⟨some 6, .mv, [.r 0], none, [0]⟩,
    ⟨some 7, (.app 1 1), [.r 5, .r 6], none, [5, 6]⟩,
    ⟨some 2, .mv, [.r 7], none, [7]⟩])
  .ret)))
def rs22 : List SR := [.tmp 2]
theorem k22 : okC Try.prog 8 (Try.f22.body.getD .skip) c22 = true := by kernel_rfl
theorem acall22 {args : List AV} (hn : args.length ≤ 8) {H : Heap} {v : AV} {H' : Heap} (h : ac Try.prog c22 (argEnv 0 args) H (Fin H rs22 v H')) : ACall Try.prog 22 args H v H' :=
  acall Try.func22 (c := Try.f22.body.getD .skip) rfl k22 (by kernel_rfl) hn h

/- alidade/alidaderef07.on -/
def c23 : SC :=
  (.seq (.reg [⟨some 2, .mv, [.c (.int .u32 0)], none, []⟩])
  (.seq (.seq (.reg [⟨some 3, .mv, [.r 0], none, [2]⟩,
    ⟨some 4, (.bin .rem), [.r 3, .c (.int .u32 2)], none, [3]⟩,
    ⟨some 5, (.bin .eql), [.r 4, .c (.int .u32 1)], none, [4]⟩])
  (.cond (.r 5)
    (.kl [5] (.seq (.reg [⟨some 6, .mv, [.r 0], none, [0]⟩,
      ⟨some 7, (.bin .quo), [.r 6, .c (.int .u32 2)], none, [6]⟩,
      ⟨some 8, (.bin .xor), [.r 7, .c (.int .u32 3988292384)], none, [7]⟩,
      ⟨some 2, .mv, [.r 8], none, [8]⟩])
    .ret))
    (.kl [5] .skip)))
  (.seq (.reg [⟨some 9, .mv, [.r 0], none, [0]⟩,
    ⟨some 10, (.bin .quo), [.r 9, .c (.int .u32 2)], none, [9]⟩,
    ⟨some 2, .mv, [.r 10], none, [10]⟩])
  .ret)))
def rs23 : List SR := [.tmp 2]
theorem k23 : okC Try.prog 11 (Try.f23.body.getD .skip) c23 = true := by kernel_rfl
theorem acall23 {args : List AV} (hn : args.length ≤ 11) {H : Heap} {v : AV} {H' : Heap} (h : ac Try.prog c23 (argEnv 0 args) H (Fin H rs23 v H')) : ACall Try.prog 23 args H v H' :=
  acall Try.func23 (c := Try.f23.body.getD .skip) rfl k23 (by kernel_rfl) hn h

/- slices.Concat[[]byte,byte] -/
def c24l0 : SC :=
  (.seq (.reg [⟨some 28, (.bin .lss), [.r 27, .r 26], none, []⟩])
    (.seq (.cond (.r 28)
      (.kl [28] .skip)
      (.kl [25, 26, 27, 28] (.exit 2)))
    (.seq (.block 3 (.seq (.reg [⟨some 29, (.iaddrS 1), [.r 25, .r 27], none, []⟩,
      ⟨some 30, .ld1, [.r 29], none, [29]⟩,
      ⟨some 8, .mv, [.r 30], none, [30]⟩])
    (.reg [⟨some 31, .mv, [.r 6], none, [6]⟩,
      ⟨some 32, .mv, [.r 8], none, [8]⟩,
      ⟨some 33, (.app 1 1), [.r 31, .r 32], none, [31, 32]⟩,
      ⟨some 6, .mv, [.r 33], none, [33]⟩])))
    (.reg [⟨some 34, (.bin .add), [.r 27, .c (.int .i64 1)], none, [27]⟩,
      ⟨some 27, .mv, [.r 34], none, [34]⟩]))))
def c24l1 : SC :=
  (.seq (.reg [⟨some 12, (.bin .lss), [.r 11, .r 10], none, []⟩])
    (.seq (.cond (.r 12)
      (.kl [12] .skip)
      (.kl [9, 10, 11, 12] (.exit 0)))
    (.seq (.block 1 (.seq (.reg [⟨some 13, (.iaddrS 1), [.r 9, .r 11], none, []⟩,
      ⟨some 14, .ld1, [.r 13], none, [13]⟩,
      ⟨some 5, .mv, [.r 14], none, [14]⟩])
    (.seq (.reg [⟨some 15, .mv, [.r 3], none, [3]⟩,
      ⟨some 16, .mv, [.r 5], none, [5]⟩,
      ⟨some 17, .len, [.r 16], none, [16]⟩,
      ⟨some 18, (.bin .add), [.r 15, .r 17], none, [15, 17]⟩,
      ⟨some 3, .mv, [.r 18], none, [18]⟩])
    (.seq (.reg [⟨some 19, .mv, [.r 3], none, []⟩,
      ⟨some 20, (.bin .lss), [.r 19, .c (.int .i64 0)], none, [19]⟩])
    (.cond (.r 20)
      (.kl [20] (.reg [⟨some 21, .dead, [], none, []⟩,
        ⟨none, .dead, [], none, [21]⟩]))
      (.kl [20] .skip))))))
    (.reg [⟨some 22, (.bin .add), [.r 11, .c (.int .i64 1)], none, [11]⟩,
      ⟨some 11, .mv, [.r 22], none, [22]⟩]))))
def c24 : SC :=
  (.seq (.reg [⟨some 2, .mv, [.c .nils], none, []⟩])
  (.seq (.reg [⟨some 3, .mv, [.c (.int .i64 0)], none, [2]⟩])
  (.seq (.seq (.reg [⟨some 9, .mv, [.r 0], none, []⟩,
    ⟨some 10, .len, [.r 9], none, []⟩,
    ⟨some 11, .mv, [.c (.int .i64 0)], none, []⟩])
  (.block 0 (.loop c24l1)))
  (.seq (.reg [⟨some 23, .mv, [.r 3], none, [3]⟩,
    ⟨some 24, (.call 25), [.c .nils, .r 23], none, [23]⟩,
    ⟨some 6, .mv, [.r 24], none, [24]⟩])
  (.seq (.seq (.reg [⟨some 25, .mv, [.r 0], none, [0]⟩,
    ⟨some 26, .len, [.r 25], none, []⟩,
    ⟨some 27, .mv, [.c (.int .i64 0)], none, []⟩])
  (.block 2 (.loop c24l0)))
  (.seq (.reg [⟨some 35, .mv, [.r 6], none, [6]⟩,
    ⟨some 2, .mv, [.r 35], none, [35]⟩])
  .ret))))))
def rs24 : List SR := [.tmp 2]
theorem k24 : okC Try.prog 36 (Try.f24.body.getD .skip) c24 = true := by kernel_rfl
theorem acall24 {args : List AV} (hn : args.length ≤ 36) {H : Heap} {v : AV} {H' : Heap} (h : ac Try.prog c24 (argEnv 0 args) H (Fin H rs24 v H')) : ACall Try.prog 24 args H v H' :=
  acall Try.func24 (c := Try.f24.body.getD .skip) rfl k24 (by kernel_rfl) hn h

/- slices.Grow[[]byte,byte] -/
def c25 : SC :=
  (.seq (.reg [⟨some 4, .mv, [.c .nils], none, []⟩])
  (.seq (.seq (.reg [⟨some 5, .mv, [.r 1], none, [4]⟩,
    ⟨some 6, (.bin .lss), [.r 5, .c (.int .i64 0)], none, [5]⟩])
  (.cond (.r 6)
    (.kl [6] (.reg [⟨some 7, .dead, [], none, []⟩,
      ⟨none, .dead, [], none, [7]⟩]))
    (.kl [6] .skip)))
  (.seq (.seq (.reg [⟨some 8, .mv, [.r 1], none, [1]⟩,
    ⟨some 9, .mv, [.r 0], none, []⟩,
    ⟨some 10, .cap, [.r 9], none, [9]⟩,
    ⟨some 11, .mv, [.r 0], none, []⟩,
    ⟨some 12, .len, [.r 11], none, [11]⟩,
    ⟨some 13, (.bin .sub), [.r 10, .r 12], none, [10, 12]⟩,
    ⟨some 14, (.bin .sub), [.r 8, .r 13], none, [8, 13]⟩,
    ⟨some 1, .mv, [.r 14], none, [14]⟩])
  (.seq (.reg [⟨some 15, .mv, [.r 1], none, []⟩,
    ⟨some 16, (.bin .gtr), [.r 15, .c (.int .i64 0)], none, [15]⟩])
  (.cond (.r 16)
    (.kl [16] (.reg [⟨some 17, .mv, [.r 0], none, []⟩,
      ⟨some 18, .mv, [.r 0], none, []⟩,
      ⟨some 19, .cap, [.r 18], none, [18]⟩,
      ⟨some 20, (.slice 1 false true false), [.r 17, .r 19], none, [17, 19]⟩,
      ⟨some 21, .mv, [.r 1], none, [1]⟩,
      ⟨some 22, (.appZ 1 1 [(.int .u8 0)]), [.r 20, .r 21], none, [20, 21]⟩,
      ⟨some 23, .mv, [.r 0], none, [0]⟩,
      ⟨some 24, .len, [.r 23], none, [23]⟩,
      ⟨some 25, (.slice 1 false true false), [.r 22, .r 24], none, [22, 24]⟩,
      ⟨some 0, .mv, [.r 25], none, [25]⟩]))
    (.kl [1, 16] .skip))))
  (.seq (.reg [⟨some 26, .mv, [.r 0], none, [0]⟩,
    ⟨some 4, .mv, [.r 26], none, [26]⟩])
  .ret))))
def rs25 : List SR := [.tmp 4]
theorem k25 : okC Try.prog 27 (Try.f25.body.getD .skip) c25 = true := by kernel_rfl
theorem acall25 {args : List AV} (hn : args.length ≤ 27) {H : Heap} {v : AV} {H' : Heap} (h : ac Try.prog c25 (argEnv 0 args) H (Fin H rs25 v H')) : ACall Try.prog 25 args H v H' :=
  acall Try.func25 (c := Try.f25.body.getD .skip) rfl k25 (by kernel_rfl) hn h

end Go.Proofs.Ytlaioapnffnfnaa.Ah
