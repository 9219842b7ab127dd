/- G10: a part of the proof: contracts of functions, or plain laws. Conditions: none. -/
import Derived.Test.YtjibcbfdfambeaaEb
import Derived.Test.YtjibcbfdfambeaaProg
import Derived.KernelRfl
namespace Go.Proofs.Ytjibcbfdfambeaa.Ah
open Go
/- alidade/alidadelaw10.NvramBack -/
def c3 : SC :=
  (.seq (.reg [⟨some 2, .box, [.r 0], none, [0]⟩,
    ⟨some 4, .mv, [.c (.bool false)], none, []⟩])
  (.seq (.reg [⟨some 14, (.call 10), [], none, [4]⟩,
    ⟨some 5, .mv, [.r 14], none, [14]⟩])
  (.seq (.seq (.reg [⟨some 15, (.ldn 4), [.r 2], none, []⟩,
    ⟨some 16, .mv, [.r 1], none, []⟩,
    ⟨some 17, (.call 11), [.r 15, .r 16], none, [15, 16]⟩,
    ⟨some 18, (.un .not), [.r 17], none, [17]⟩])
  (.cond (.r 18)
    (.kl [1, 2, 18] (.seq (.reg [⟨some 19, .mv, [.r 5], none, [5]⟩,
      ⟨some 4, .mv, [.r 19], none, [19]⟩])
    .ret))
    (.kl [18] .skip)))
  (.seq (.reg [⟨some 21, (.ldn 4), [.r 2], none, []⟩,
    ⟨some 22, (.call 12), [.r 21], none, [21]⟩,
    ⟨some 20, .mv, [.r 22], none, [22]⟩,
    ⟨some 23, (.ext 0), [.r 20], none, []⟩,
    ⟨some 24, (.ext 1), [.r 20], none, []⟩,
    ⟨some 25, (.ext 2), [.r 20], none, [20]⟩,
    ⟨some 6, .mv, [.r 23], none, [23]⟩,
    ⟨some 7, .mv, [.r 24], none, [6, 24]⟩,
    ⟨some 8, .mv, [.r 25], none, [25]⟩])
  (.seq (.reg [⟨some 27, (.ldn 4), [.r 2], none, []⟩,
    ⟨some 28, .mv, [.r 1], none, []⟩,
    ⟨some 29, (.call 13), [.r 27, .r 28], none, [27, 28]⟩,
    ⟨some 26, .mv, [.r 29], none, [29]⟩,
    ⟨some 30, (.ext 0), [.r 26], none, []⟩,
    ⟨some 31, (.ext 1), [.r 26], none, [26]⟩,
    ⟨some 9, (.alloc [.nils, (.int .i64 0), .nils, (.int .i64 0)]), [], none, []⟩,
    ⟨none, (.st 4), [.r 9, .r 30], none, [30]⟩,
    ⟨some 10, .mv, [.r 31], none, [31]⟩])
  (.seq (.seq (.reg [⟨some 32, .mv, [.r 10], none, []⟩,
    ⟨some 33, (.bin .neq), [.r 32, .c (.int .i64 0)], none, [32]⟩])
  (.cond (.r 33)
    (.kl [8, 33] (.seq (.reg [⟨some 34, .mv, [.r 5], none, [5]⟩,
      ⟨some 35, .mv, [.r 34], none, [34]⟩,
      ⟨some 36, .mv, [.r 10], (some (35, true)), [10]⟩,
      ⟨some 37, (.bin .eql), [.r 36, .c (.int .i64 5)], (some (35, true)), [36]⟩,
      ⟨some 38, .pick, [.r 35, .r 37, .c (.bool false)], none, [35, 37]⟩,
      ⟨some 39, .mv, [.r 38], none, [38]⟩,
      ⟨some 40, (.ldn 4), [.r 9], (some (39, true)), [9]⟩,
      ⟨some 41, (.ldn 4), [.r 2], (some (39, true)), [2]⟩,
      ⟨some 42, (.call 14), [.r 40, .r 41], (some (39, true)), [40, 41]⟩,
      ⟨some 43, .pick, [.r 39, .r 42, .c (.bool false)], none, [39, 42]⟩,
      ⟨some 44, .mv, [.r 43], none, [43]⟩,
      ⟨some 45, .mv, [.r 1], (some (44, true)), [1]⟩,
      ⟨some 46, .len, [.r 45], (some (44, true)), [45]⟩,
      ⟨some 47, (.bin .gtr), [.r 46, .c (.int .i64 600)], (some (44, true)), [46]⟩,
      ⟨some 48, .mv, [.r 47], (some (44, true)), [47]⟩,
      ⟨some 49, .mv, [.r 7], (some (48, false)), [7]⟩,
      ⟨some 50, (.bin .eql), [.r 49, .c (.int .i64 4611686018427387904)], (some (48, false)), [49]⟩,
      ⟨some 51, .pick, [.r 48, .c (.bool true), .r 50], (some (44, true)), [48, 50]⟩,
      ⟨some 52, .pick, [.r 44, .r 51, .c (.bool false)], none, [44, 51]⟩,
      ⟨some 4, .mv, [.r 52], none, [52]⟩])
    .ret))
    (.kl [2, 10, 33] .skip)))
  (.seq (.reg [⟨some 54, (.ldn 4), [.r 9], none, [9]⟩,
    ⟨some 55, (.call 12), [.r 54], none, [54]⟩,
    ⟨some 53, .mv, [.r 55], none, [55]⟩,
    ⟨some 56, (.ext 0), [.r 53], none, []⟩,
    ⟨some 57, (.ext 1), [.r 53], none, []⟩,
    ⟨some 58, (.ext 2), [.r 53], none, [53]⟩,
    ⟨some 11, .mv, [.r 56], none, [56]⟩,
    ⟨some 12, .mv, [.r 57], none, [57]⟩,
    ⟨some 13, .mv, [.r 58], none, [58]⟩])
  (.seq (.reg [⟨some 59, .mv, [.r 5], none, [5]⟩,
    ⟨some 60, .mv, [.r 59], none, [59]⟩,
    ⟨some 61, .mv, [.r 13], (some (60, true)), [13]⟩,
    ⟨some 62, .pick, [.r 60, .r 61, .c (.bool false)], none, [60, 61]⟩,
    ⟨some 63, .mv, [.r 62], none, [62]⟩,
    ⟨some 64, .mv, [.r 11], (some (63, true)), [11]⟩,
    ⟨some 65, .mv, [.r 1], (some (63, true)), [1]⟩,
    ⟨some 66, (.call 15), [.r 64, .r 65], (some (63, true)), [64, 65]⟩,
    ⟨some 67, .pick, [.r 63, .r 66, .c (.bool false)], none, [63, 66]⟩,
    ⟨some 68, .mv, [.r 67], none, [67]⟩,
    ⟨some 69, .mv, [.r 8], (some (68, true)), []⟩,
    ⟨some 70, .mv, [.r 69], (some (68, true)), [69]⟩,
    ⟨some 71, .mv, [.r 12], (some (70, true)), []⟩,
    ⟨some 72, .mv, [.r 7], (some (70, true)), [7]⟩,
    ⟨some 73, (.bin .add), [.r 72, .c (.int .i64 1)], (some (70, true)), [72]⟩,
    ⟨some 74, (.bin .eql), [.r 71, .r 73], (some (70, true)), [71, 73]⟩,
    ⟨some 75, .pick, [.r 70, .r 74, .c (.bool false)], (some (68, true)), [70, 74]⟩,
    ⟨some 76, .mv, [.r 75], (some (68, true)), [75]⟩,
    ⟨some 77, .mv, [.r 8], (some (76, false)), [8]⟩,
    ⟨some 78, (.un .not), [.r 77], (some (76, false)), [77]⟩,
    ⟨some 79, .mv, [.r 78], (some (76, false)), [78]⟩,
    ⟨some 80, .mv, [.r 12], (some (79, true)), [12]⟩,
    ⟨some 81, (.bin .eql), [.r 80, .c (.int .i64 1)], (some (79, true)), [80]⟩,
    ⟨some 82, .pick, [.r 79, .r 81, .c (.bool false)], (some (76, false)), [79, 81]⟩,
    ⟨some 83, .pick, [.r 76, .c (.bool true), .r 82], (some (68, true)), [76, 82]⟩,
    ⟨some 84, .pick, [.r 68, .r 83, .c (.bool false)], none, [68, 83]⟩,
    ⟨some 4, .mv, [.r 84], none, [84]⟩])
  .ret))))))))
def rs3 : List SR := [.tmp 4]
theorem k3 : okC Try.prog 85 (Try.f3.body.getD .skip) c3 = true := by kernel_rfl
theorem acall3 {args : List AV} (hn : args.length ≤ 85) {H : Heap} {v : AV} {H' : Heap} (h : ac Try.prog c3 (argEnv 0 args) H (Fin H rs3 v H')) : ACall Try.prog 3 args H v H' :=
  acall Try.func3 (c := Try.f3.body.getD .skip) rfl k3 (by kernel_rfl) hn h
theorem acallK3 {args : List AV} (hn : args.length ≤ 85) {H : Heap} {v : AV} {H' : Heap} (h : ac Try.prog c3 (argEnv 0 args) H (FinK rs3 v H')) : ACall Try.prog 3 args H v H' :=
  acallK Try.func3 (c := Try.f3.body.getD .skip) rfl k3 (by kernel_rfl) hn h

/- alidade/alidadelaw10.NvramCrashes -/
def c4 : SC :=
  (.seq (.reg [⟨some 3, .box, [.r 0], none, [0]⟩,
    ⟨some 6, .mv, [.c (.bool false)], none, []⟩])
  (.seq (.reg [⟨some 21, (.call 10), [], none, [6]⟩,
    ⟨some 7, .mv, [.r 21], none, [21]⟩])
  (.seq (.seq (.reg [⟨some 22, (.ldn 4), [.r 3], none, []⟩,
    ⟨some 23, .mv, [.r 1], none, []⟩,
    ⟨some 24, (.call 11), [.r 22, .r 23], none, [22, 23]⟩,
    ⟨some 25, (.un .not), [.r 24], none, [24]⟩])
  (.cond (.r 25)
    (.kl [1, 2, 3, 25] (.seq (.reg [⟨some 26, .mv, [.r 7], none, [7]⟩,
      ⟨some 6, .mv, [.r 26], none, [26]⟩])
    .ret))
    (.kl [25] .skip)))
  (.seq (.reg [⟨some 28, (.ldn 4), [.r 3], none, []⟩,
    ⟨some 29, (.call 12), [.r 28], none, [28]⟩,
    ⟨some 27, .mv, [.r 29], none, [29]⟩,
    ⟨some 30, (.ext 0), [.r 27], none, []⟩,
    ⟨some 31, (.ext 1), [.r 27], none, []⟩,
    ⟨some 32, (.ext 2), [.r 27], none, [27]⟩,
    ⟨some 8, .mv, [.r 30], none, [30]⟩,
    ⟨some 9, .mv, [.r 31], none, [31]⟩,
    ⟨some 10, .mv, [.r 32], none, [32]⟩])
  (.seq (.reg [⟨some 34, (.ldn 4), [.r 3], none, [3]⟩,
    ⟨some 35, .mv, [.r 1], none, []⟩,
    ⟨some 36, .mv, [.r 2], none, []⟩,
    ⟨some 37, (.call 16), [.r 34, .r 35, .r 36], none, [34, 35, 36]⟩,
    ⟨some 33, .mv, [.r 37], none, [37]⟩,
    ⟨some 38, (.ext 0), [.r 33], none, []⟩,
    ⟨some 39, (.ext 1), [.r 33], none, [33]⟩,
    ⟨some 11, (.alloc [.nils, (.int .i64 0), .nils, (.int .i64 0)]), [], none, []⟩,
    ⟨none, (.st 4), [.r 11, .r 38], none, [38]⟩,
    ⟨some 12, .mv, [.r 39], none, [39]⟩])
  (.seq (.reg [⟨some 41, (.ldn 4), [.r 11], none, []⟩,
    ⟨some 42, (.call 12), [.r 41], none, [41]⟩,
    ⟨some 40, .mv, [.r 42], none, [42]⟩,
    ⟨some 43, (.ext 0), [.r 40], none, []⟩,
    ⟨some 44, (.ext 1), [.r 40], none, []⟩,
    ⟨some 45, (.ext 2), [.r 40], none, [40]⟩,
    ⟨some 13, .mv, [.r 43], none, [43]⟩,
    ⟨some 14, .mv, [.r 44], none, [44]⟩,
    ⟨some 15, .mv, [.r 45], none, [45]⟩])
  (.seq (.seq (.reg [⟨some 46, .mv, [.r 12], none, [12]⟩,
    ⟨some 47, (.bin .neq), [.r 46, .c (.int .i64 0)], none, [46]⟩])
  (.cond (.r 47)
    (.kl [1, 2, 11, 47] (.seq (.reg [⟨some 48, .mv, [.r 7], none, [7]⟩,
      ⟨some 49, .mv, [.r 48], none, [48]⟩,
      ⟨some 50, .mv, [.r 8], (some (49, true)), [8]⟩,
      ⟨some 51, .mv, [.r 13], (some (49, true)), [13]⟩,
      ⟨some 52, (.call 15), [.r 50, .r 51], (some (49, true)), [50, 51]⟩,
      ⟨some 53, .pick, [.r 49, .r 52, .c (.bool false)], none, [49, 52]⟩,
      ⟨some 54, .mv, [.r 53], none, [53]⟩,
      ⟨some 55, .mv, [.r 9], (some (54, true)), [9]⟩,
      ⟨some 56, .mv, [.r 14], (some (54, true)), [14]⟩,
      ⟨some 57, (.bin .eql), [.r 55, .r 56], (some (54, true)), [55, 56]⟩,
      ⟨some 58, .pick, [.r 54, .r 57, .c (.bool false)], none, [54, 57]⟩,
      ⟨some 59, .mv, [.r 58], none, [58]⟩,
      ⟨some 60, .mv, [.r 10], (some (59, true)), [10]⟩,
      ⟨some 61, .mv, [.r 15], (some (59, true)), [15]⟩,
      ⟨some 62, (.eqb false), [.r 60, .r 61], (some (59, true)), [60, 61]⟩,
      ⟨some 63, .pick, [.r 59, .r 62, .c (.bool false)], none, [59, 62]⟩,
      ⟨some 6, .mv, [.r 63], none, [63]⟩])
    .ret))
    (.kl [47] .skip)))
  (.seq (.reg [⟨some 65, (.ldn 4), [.r 11], none, [11]⟩,
    ⟨some 66, .mv, [.r 1], none, []⟩,
    ⟨some 67, (.call 13), [.r 65, .r 66], none, [65, 66]⟩,
    ⟨some 64, .mv, [.r 67], none, [67]⟩,
    ⟨some 68, (.ext 0), [.r 64], none, []⟩,
    ⟨some 69, (.ext 1), [.r 64], none, [64]⟩,
    ⟨some 16, (.alloc [.nils, (.int .i64 0), .nils, (.int .i64 0)]), [], none, []⟩,
    ⟨none, (.st 4), [.r 16, .r 68], none, [68]⟩,
    ⟨some 17, .mv, [.r 69], none, [69]⟩])
  (.seq (.reg [⟨some 71, (.ldn 4), [.r 16], none, [16]⟩,
    ⟨some 72, (.call 12), [.r 71], none, [71]⟩,
    ⟨some 70, .mv, [.r 72], none, [72]⟩,
    ⟨some 73, (.ext 0), [.r 70], none, []⟩,
    ⟨some 74, (.ext 1), [.r 70], none, []⟩,
    ⟨some 75, (.ext 2), [.r 70], none, [70]⟩,
    ⟨some 18, .mv, [.r 73], none, [73]⟩,
    ⟨some 19, .mv, [.r 74], none, [74]⟩,
    ⟨some 20, .mv, [.r 75], none, [19, 75]⟩])
  (.seq (.seq (.reg [⟨some 76, .mv, [.r 17], none, [17]⟩,
    ⟨some 77, (.bin .eql), [.r 76, .c (.int .i64 0)], none, [76]⟩,
    ⟨some 78, .mv, [.r 77], none, [77]⟩,
    ⟨some 79, .mv, [.r 20], (some (78, true)), [20]⟩,
    ⟨some 80, (.un .not), [.r 79], (some (78, true)), [79]⟩,
    ⟨some 81, .mv, [.r 80], (some (78, true)), [80]⟩,
    ⟨some 82, .mv, [.r 18], (some (81, false)), [18]⟩,
    ⟨some 83, .mv, [.r 1], (some (81, false)), []⟩,
    ⟨some 84, (.call 15), [.r 82, .r 83], (some (81, false)), [82, 83]⟩,
    ⟨some 85, (.un .not), [.r 84], (some (81, false)), [84]⟩,
    ⟨some 86, .pick, [.r 81, .c (.bool true), .r 85], (some (78, true)), [81, 85]⟩,
    ⟨some 87, .pick, [.r 78, .r 86, .c (.bool false)], none, [78, 86]⟩])
  (.cond (.r 87)
    (.kl [1, 2, 7, 8, 9, 10, 13, 14, 15, 87] (.seq (.reg [⟨some 6, .mv, [.c (.bool false)], none, []⟩])
    .ret))
    (.kl [87] .skip)))
  (.seq (.seq (.reg [⟨some 88, .mv, [.r 2], none, [2]⟩,
    ⟨some 89, .mv, [.r 1], none, []⟩,
    ⟨some 90, (.call 17), [.r 89], none, [89]⟩,
    ⟨some 91, (.bin .geq), [.r 88, .r 90], none, [88, 90]⟩])
  (.cond (.r 91)
    (.kl [8, 9, 10, 14, 91] (.seq (.reg [⟨some 92, .mv, [.r 7], none, [7]⟩,
      ⟨some 93, .mv, [.r 92], none, [92]⟩,
      ⟨some 94, .mv, [.r 15], (some (93, true)), [15]⟩,
      ⟨some 95, .pick, [.r 93, .r 94, .c (.bool false)], none, [93, 94]⟩,
      ⟨some 96, .mv, [.r 95], none, [95]⟩,
      ⟨some 97, .mv, [.r 13], (some (96, true)), [13]⟩,
      ⟨some 98, .mv, [.r 1], (some (96, true)), [1]⟩,
      ⟨some 99, (.call 15), [.r 97, .r 98], (some (96, true)), [97, 98]⟩,
      ⟨some 100, .pick, [.r 96, .r 99, .c (.bool false)], none, [96, 99]⟩,
      ⟨some 6, .mv, [.r 100], none, [100]⟩])
    .ret))
    (.kl [1, 91] .skip)))
  (.seq (.reg [⟨some 101, .mv, [.r 7], none, [7]⟩,
    ⟨some 102, .mv, [.r 101], none, [101]⟩,
    ⟨some 103, .mv, [.r 8], (some (102, true)), [8]⟩,
    ⟨some 104, .mv, [.r 13], (some (102, true)), [13]⟩,
    ⟨some 105, (.call 15), [.r 103, .r 104], (some (102, true)), [103, 104]⟩,
    ⟨some 106, .pick, [.r 102, .r 105, .c (.bool false)], none, [102, 105]⟩,
    ⟨some 107, .mv, [.r 106], none, [106]⟩,
    ⟨some 108, .mv, [.r 9], (some (107, true)), [9]⟩,
    ⟨some 109, .mv, [.r 14], (some (107, true)), [14]⟩,
    ⟨some 110, (.bin .eql), [.r 108, .r 109], (some (107, true)), [108, 109]⟩,
    ⟨some 111, .pick, [.r 107, .r 110, .c (.bool false)], none, [107, 110]⟩,
    ⟨some 112, .mv, [.r 111], none, [111]⟩,
    ⟨some 113, .mv, [.r 10], (some (112, true)), [10]⟩,
    ⟨some 114, .mv, [.r 15], (some (112, true)), [15]⟩,
    ⟨some 115, (.eqb false), [.r 113, .r 114], (some (112, true)), [113, 114]⟩,
    ⟨some 116, .pick, [.r 112, .r 115, .c (.bool false)], none, [112, 115]⟩,
    ⟨some 6, .mv, [.r 116], none, [116]⟩])
  .ret))))))))))))
def rs4 : List SR := [.tmp 6]
theorem k4 : okC Try.prog 117 (Try.f4.body.getD .skip) c4 = true := by kernel_rfl
theorem acall4 {args : List AV} (hn : args.length ≤ 117) {H : Heap} {v : AV} {H' : Heap} (h : ac Try.prog c4 (argEnv 0 args) H (Fin H rs4 v H')) : ACall Try.prog 4 args H v H' :=
  acall Try.func4 (c := Try.f4.body.getD .skip) rfl k4 (by kernel_rfl) hn h
theorem acallK4 {args : List AV} (hn : args.length ≤ 117) {H : Heap} {v : AV} {H' : Heap} (h : ac Try.prog c4 (argEnv 0 args) H (FinK rs4 v H')) : ACall Try.prog 4 args H v H' :=
  acallK Try.func4 (c := Try.f4.body.getD .skip) rfl k4 (by kernel_rfl) hn h

/- alidade/alidadelaw10.NvramTwice -/
def c5 : SC :=
  (.seq (.reg [⟨some 1, .box, [.r 0], none, [0]⟩,
    ⟨some 2, .mv, [.c (.bool false)], none, []⟩])
  (.seq (.reg [⟨some 18, (.faddr 0), [.r 1], none, [2]⟩,
    ⟨some 19, .ld1, [.r 18], none, [18]⟩,
    ⟨some 3, .mv, [.r 19], none, [19]⟩])
  (.seq (.reg [⟨some 20, (.faddr 1), [.r 1], none, []⟩,
    ⟨some 21, .ld1, [.r 20], none, [20]⟩,
    ⟨some 4, .mv, [.r 21], none, [21]⟩])
  (.seq (.reg [⟨some 22, (.faddr 2), [.r 1], none, []⟩,
    ⟨some 23, .ld1, [.r 22], none, [22]⟩,
    ⟨some 5, .mv, [.r 23], none, [23]⟩])
  (.seq (.reg [⟨some 24, (.faddr 3), [.r 1], none, [1]⟩,
    ⟨some 25, .ld1, [.r 24], none, [24]⟩,
    ⟨some 6, .mv, [.r 25], none, [25]⟩])
  (.seq (.reg [⟨some 26, (.call 10), [], none, []⟩,
    ⟨some 7, .mv, [.r 26], none, [26]⟩])
  (.seq (.seq (.reg [⟨some 27, .mv, [.r 3], none, []⟩,
    ⟨some 28, .len, [.r 27], none, [27]⟩,
    ⟨some 29, .mv, [.r 4], none, []⟩,
    ⟨some 30, .len, [.r 29], none, [29]⟩,
    ⟨some 31, (.bin .add), [.r 28, .r 30], none, [28, 30]⟩,
    ⟨some 32, .mv, [.r 5], none, []⟩,
    ⟨some 33, .len, [.r 32], none, [32]⟩,
    ⟨some 34, (.bin .add), [.r 31, .r 33], none, [31, 33]⟩,
    ⟨some 35, (.bin .gtr), [.r 34, .c (.int .i64 500)], none, [34]⟩])
  (.cond (.r 35)
    (.kl [3, 4, 5, 6, 35] (.seq (.reg [⟨some 36, .mv, [.r 7], none, [7]⟩,
      ⟨some 2, .mv, [.r 36], none, [36]⟩])
    .ret))
    (.kl [35] .skip)))
  (.seq (.reg [⟨some 37, .mv, [.r 5], none, []⟩,
    ⟨some 38, (.call 17), [.r 37], none, [37]⟩,
    ⟨some 8, .mv, [.r 38], none, [38]⟩])
  (.seq (.seq (.reg [⟨some 39, .mv, [.r 8], none, []⟩,
    ⟨some 40, (.bin .lss), [.r 39, .c (.int .i64 1)], none, [39]⟩])
  (.cond (.r 40)
    (.kl [3, 4, 5, 6, 7, 8, 40] (.seq (.reg [⟨some 2, .mv, [.c (.bool false)], none, []⟩])
    .ret))
    (.kl [40] .skip)))
  (.seq (.reg [⟨some 42, (.build [.nils, (.int .i64 0), .nils, (.int .i64 0)] []), [], none, []⟩,
    ⟨some 43, .mv, [.r 3], none, []⟩,
    ⟨some 44, (.call 13), [.r 42, .r 43], none, [42, 43]⟩,
    ⟨some 41, .mv, [.r 44], none, [44]⟩,
    ⟨some 45, (.ext 0), [.r 41], none, []⟩,
    ⟨some 46, (.ext 1), [.r 41], none, [41]⟩,
    ⟨some 9, (.alloc [.nils, (.int .i64 0), .nils, (.int .i64 0)]), [], none, []⟩,
    ⟨none, (.st 4), [.r 9, .r 45], none, [45]⟩,
    ⟨some 10, .mv, [.r 46], none, [46]⟩])
  (.seq (.reg [⟨some 48, (.ldn 4), [.r 9], none, [9]⟩,
    ⟨some 49, .mv, [.r 4], none, []⟩,
    ⟨some 50, (.call 13), [.r 48, .r 49], none, [48, 49]⟩,
    ⟨some 47, .mv, [.r 50], none, [50]⟩,
    ⟨some 51, (.ext 0), [.r 47], none, []⟩,
    ⟨some 52, (.ext 1), [.r 47], none, [47]⟩,
    ⟨some 11, (.alloc [.nils, (.int .i64 0), .nils, (.int .i64 0)]), [], none, []⟩,
    ⟨none, (.st 4), [.r 11, .r 51], none, [51]⟩,
    ⟨some 12, .mv, [.r 52], none, [52]⟩])
  (.seq (.freg [⟨0, 0, false, false, ⟨some 54, (.ldn 4), [.r 11], none, []⟩⟩,
    ⟨1, 0, false, false, ⟨some 55, .mv, [.r 5], none, [5]⟩⟩,
    ⟨2, 0, false, false, ⟨some 56, .mv, [.r 6], none, [6]⟩⟩,
    ⟨3, 4, false, false, ⟨some 57, (.conv .i64), [.r 56], none, [56]⟩⟩,
    ⟨4, 0, false, false, ⟨some 58, .mv, [.r 8], none, [8]⟩⟩,
    ⟨5, 28, false, false, ⟨some 59, (.bin .rem), [.r 57, .r 58], none, [57, 58]⟩⟩,
    ⟨6, 63, true, false, ⟨some 60, (.call 16), [.r 54, .r 55, .r 59], none, [54, 55, 59]⟩⟩,
    ⟨7, 127, false, false, ⟨some 53, .mv, [.r 60], none, [60]⟩⟩,
    ⟨8, 255, false, false, ⟨some 61, (.ext 0), [.r 53], none, []⟩⟩,
    ⟨9, 255, false, false, ⟨some 62, (.ext 1), [.r 53], none, [53]⟩⟩]
   [⟨10, 0, false, true, ⟨some 13, (.alloc [.nils, (.int .i64 0), .nils, (.int .i64 0)]), [], none, []⟩⟩]
   [⟨11, 1535, false, false, ⟨none, (.st 4), [.r 13, .r 61], none, [61]⟩⟩,
    ⟨12, 4095, false, false, ⟨some 14, .mv, [.r 62], none, [62]⟩⟩])
  (.seq (.reg [⟨some 64, (.ldn 4), [.r 13], none, [13]⟩,
    ⟨some 65, (.call 12), [.r 64], none, [64]⟩,
    ⟨some 63, .mv, [.r 65], none, [65]⟩,
    ⟨some 66, (.ext 0), [.r 63], none, []⟩,
    ⟨some 67, (.ext 1), [.r 63], none, []⟩,
    ⟨some 68, (.ext 2), [.r 63], none, [63]⟩,
    ⟨some 15, .mv, [.r 66], none, [66]⟩,
    ⟨some 16, .mv, [.r 67], none, [67]⟩,
    ⟨some 17, .mv, [.r 68], none, [68]⟩])
  (.seq (.reg [⟨some 69, .mv, [.r 7], none, [7]⟩,
    ⟨some 70, .mv, [.r 69], none, [69]⟩,
    ⟨some 71, .mv, [.r 10], (some (70, true)), [10]⟩,
    ⟨some 72, (.bin .eql), [.r 71, .c (.int .i64 0)], (some (70, true)), [71]⟩,
    ⟨some 73, .pick, [.r 70, .r 72, .c (.bool false)], none, [70, 72]⟩,
    ⟨some 74, .mv, [.r 73], none, [73]⟩,
    ⟨some 75, .mv, [.r 12], (some (74, true)), [12]⟩,
    ⟨some 76, (.bin .eql), [.r 75, .c (.int .i64 0)], (some (74, true)), [75]⟩,
    ⟨some 77, .pick, [.r 74, .r 76, .c (.bool false)], none, [74, 76]⟩,
    ⟨some 78, .mv, [.r 77], none, [77]⟩,
    ⟨some 79, .mv, [.r 14], (some (78, true)), [14]⟩,
    ⟨some 80, (.bin .eql), [.r 79, .c (.int .i64 0)], (some (78, true)), [79]⟩,
    ⟨some 81, .pick, [.r 78, .r 80, .c (.bool false)], none, [78, 80]⟩,
    ⟨some 82, .mv, [.r 81], none, [81]⟩,
    ⟨some 83, .mv, [.r 17], (some (82, true)), [17]⟩,
    ⟨some 84, .pick, [.r 82, .r 83, .c (.bool false)], none, [82, 83]⟩,
    ⟨some 85, .mv, [.r 84], none, [84]⟩,
    ⟨some 86, .mv, [.r 16], (some (85, true)), [16]⟩,
    ⟨some 87, (.bin .eql), [.r 86, .c (.int .i64 2)], (some (85, true)), [86]⟩,
    ⟨some 88, .pick, [.r 85, .r 87, .c (.bool false)], none, [85, 87]⟩,
    ⟨some 89, .mv, [.r 88], none, [88]⟩,
    ⟨some 90, .mv, [.r 15], (some (89, true)), [15]⟩,
    ⟨some 91, .mv, [.r 4], (some (89, true)), [4]⟩,
    ⟨some 92, (.call 15), [.r 90, .r 91], (some (89, true)), [90, 91]⟩,
    ⟨some 93, .pick, [.r 89, .r 92, .c (.bool false)], none, [89, 92]⟩,
    ⟨some 94, .mv, [.r 93], none, [93]⟩,
    ⟨some 95, (.faddr 0), [.r 11], (some (94, true)), [11]⟩,
    ⟨some 96, (.iaddrA 2 2), [.r 95, .c (.int .i64 0)], (some (94, true)), [95]⟩,
    ⟨some 97, (.faddr 0), [.r 96], (some (94, true)), [96]⟩,
    ⟨some 98, .ld1, [.r 97], (some (94, true)), [97]⟩,
    ⟨some 99, (.slice 1 true false false), [.r 98, .c (.int .i64 1)], (some (94, true)), [98]⟩,
    ⟨some 100, .mv, [.r 3], (some (94, true)), [3]⟩,
    ⟨some 101, (.call 15), [.r 99, .r 100], (some (94, true)), [99, 100]⟩,
    ⟨some 102, .pick, [.r 94, .r 101, .c (.bool false)], none, [94, 101]⟩,
    ⟨some 2, .mv, [.r 102], none, [102]⟩])
  .ret))))))))))))))
def rs5 : List SR := [.tmp 2]
theorem k5 : okC Try.prog 103 (Try.f5.body.getD .skip) c5 = true := by kernel_rfl
theorem acall5 {args : List AV} (hn : args.length ≤ 103) {H : Heap} {v : AV} {H' : Heap} (h : ac Try.prog c5 (argEnv 0 args) H (Fin H rs5 v H')) : ACall Try.prog 5 args H v H' :=
  acall Try.func5 (c := Try.f5.body.getD .skip) rfl k5 (by kernel_rfl) hn h
theorem acallK5 {args : List AV} (hn : args.length ≤ 103) {H : Heap} {v : AV} {H' : Heap} (h : ac Try.prog c5 (argEnv 0 args) H (FinK rs5 v H')) : ACall Try.prog 5 args H v H' :=
  acallK Try.func5 (c := Try.f5.body.getD .skip) rfl k5 (by kernel_rfl) hn h

/- alidade/alidadelaw10.NvramOld -/
def c6 : SC :=
  (.seq (.reg [⟨some 6, .mv, [.c (.bool false)], none, []⟩])
  (.seq (.reg [⟨some 16, (.call 10), [], none, [6]⟩,
    ⟨some 7, .mv, [.r 16], none, [16]⟩])
  (.seq (.seq (.reg [⟨some 17, .mv, [.r 0], none, []⟩,
    ⟨some 18, .len, [.r 17], none, [17]⟩,
    ⟨some 19, .mv, [.r 1], none, []⟩,
    ⟨some 20, .len, [.r 19], none, [19]⟩,
    ⟨some 21, (.bin .add), [.r 18, .r 20], none, [18, 20]⟩,
    ⟨some 22, (.bin .gtr), [.r 21, .c (.int .i64 500)], none, [21]⟩])
  (.cond (.r 22)
    (.kl [0, 1, 2, 22] (.seq (.reg [⟨some 23, .mv, [.r 7], none, [7]⟩,
      ⟨some 6, .mv, [.r 23], none, [23]⟩])
    .ret))
    (.kl [22] .skip)))
  (.seq (.reg [⟨some 25, (.build [.nils, (.int .i64 0), .nils, (.int .i64 0)] []), [], none, []⟩,
    ⟨some 26, .mv, [.r 0], none, []⟩,
    ⟨some 27, (.call 13), [.r 25, .r 26], none, [25, 26]⟩,
    ⟨some 24, .mv, [.r 27], none, [27]⟩,
    ⟨some 28, (.ext 0), [.r 24], none, []⟩,
    ⟨some 29, (.ext 1), [.r 24], none, [24]⟩,
    ⟨some 8, (.alloc [.nils, (.int .i64 0), .nils, (.int .i64 0)]), [], none, []⟩,
    ⟨none, (.st 4), [.r 8, .r 28], none, [28]⟩,
    ⟨some 9, .mv, [.r 29], none, [29]⟩])
  (.seq (.reg [⟨some 31, (.ldn 4), [.r 8], none, [8, 9]⟩,
    ⟨some 32, .mv, [.r 1], none, []⟩,
    ⟨some 33, (.call 13), [.r 31, .r 32], none, [31, 32]⟩,
    ⟨some 30, .mv, [.r 33], none, [33]⟩,
    ⟨some 34, (.ext 0), [.r 30], none, []⟩,
    ⟨some 35, (.ext 1), [.r 30], none, [30]⟩,
    ⟨some 10, (.alloc [.nils, (.int .i64 0), .nils, (.int .i64 0)]), [], none, []⟩,
    ⟨none, (.st 4), [.r 10, .r 34], none, [34]⟩,
    ⟨some 11, .mv, [.r 35], none, [35]⟩])
  (.seq (.seq (.reg [⟨some 36, (.faddr 0), [.r 10], none, [11]⟩,
    ⟨some 37, (.iaddrA 2 2), [.r 36, .c (.int .i64 1)], none, [36]⟩,
    ⟨some 38, (.faddr 0), [.r 37], none, [37]⟩,
    ⟨some 39, .ld1, [.r 38], none, [38]⟩,
    ⟨some 40, .len, [.r 39], none, [39]⟩,
    ⟨some 41, (.bin .eql), [.r 40, .c (.int .i64 0)], none, [40]⟩])
  (.cond (.r 41)
    (.kl [0, 1, 2, 7, 10, 41] (.seq (.reg [⟨some 6, .mv, [.c (.bool false)], none, []⟩])
    .ret))
    (.kl [41] .skip)))
  (.seq (.reg [⟨some 42, .mv, [.r 2], none, []⟩,
    ⟨some 43, (.faddr 0), [.r 10], none, []⟩,
    ⟨some 44, (.iaddrA 2 2), [.r 43, .c (.int .i64 1)], none, [43]⟩,
    ⟨some 45, (.faddr 0), [.r 44], none, [44]⟩,
    ⟨some 46, .ld1, [.r 45], none, [45]⟩,
    ⟨some 47, (.call 18), [.r 46], none, [46]⟩,
    ⟨some 48, (.bin .eql), [.r 42, .r 47], none, [42, 47]⟩,
    ⟨some 12, .mv, [.r 48], none, [48]⟩])
  (.seq (.reg [⟨some 49, .mv, [.r 2], none, [2]⟩,
    ⟨some 50, (.faddr 0), [.r 10], none, []⟩,
    ⟨some 51, (.iaddrA 2 2), [.r 50, .c (.int .i64 1)], none, [50]⟩,
    ⟨some 52, (.faddr 1), [.r 51], none, [51]⟩,
    ⟨none, (.st 1), [.r 52, .r 49], none, [49, 52]⟩])
  (.seq (.reg [⟨some 54, (.ldn 4), [.r 10], none, [10]⟩,
    ⟨some 55, (.call 12), [.r 54], none, [54]⟩,
    ⟨some 53, .mv, [.r 55], none, [55]⟩,
    ⟨some 56, (.ext 0), [.r 53], none, []⟩,
    ⟨some 57, (.ext 1), [.r 53], none, []⟩,
    ⟨some 58, (.ext 2), [.r 53], none, [53]⟩,
    ⟨some 13, .mv, [.r 56], none, [56]⟩,
    ⟨some 14, .mv, [.r 57], none, [57]⟩,
    ⟨some 15, .mv, [.r 58], none, [58]⟩])
  (.seq (.seq (.reg [⟨some 59, .mv, [.r 12], none, [12]⟩])
  (.cond (.r 59)
    (.kl [0, 59] (.seq (.reg [⟨some 60, .mv, [.r 7], none, [7]⟩,
      ⟨some 61, .mv, [.r 60], none, [60]⟩,
      ⟨some 62, .mv, [.r 15], (some (61, true)), [15]⟩,
      ⟨some 63, .pick, [.r 61, .r 62, .c (.bool false)], none, [61, 62]⟩,
      ⟨some 64, .mv, [.r 63], none, [63]⟩,
      ⟨some 65, .mv, [.r 14], (some (64, true)), [14]⟩,
      ⟨some 66, (.bin .eql), [.r 65, .c (.int .i64 2)], (some (64, true)), [65]⟩,
      ⟨some 67, .pick, [.r 64, .r 66, .c (.bool false)], none, [64, 66]⟩,
      ⟨some 68, .mv, [.r 67], none, [67]⟩,
      ⟨some 69, .mv, [.r 13], (some (68, true)), [13]⟩,
      ⟨some 70, .mv, [.r 1], (some (68, true)), [1]⟩,
      ⟨some 71, (.call 15), [.r 69, .r 70], (some (68, true)), [69, 70]⟩,
      ⟨some 72, .pick, [.r 68, .r 71, .c (.bool false)], none, [68, 71]⟩,
      ⟨some 6, .mv, [.r 72], none, [72]⟩])
    .ret))
    (.kl [1, 59] .skip)))
  (.seq (.reg [⟨some 73, .mv, [.r 7], none, [7]⟩,
    ⟨some 74, .mv, [.r 73], none, [73]⟩,
    ⟨some 75, .mv, [.r 15], (some (74, true)), [15]⟩,
    ⟨some 76, .pick, [.r 74, .r 75, .c (.bool false)], none, [74, 75]⟩,
    ⟨some 77, .mv, [.r 76], none, [76]⟩,
    ⟨some 78, .mv, [.r 14], (some (77, true)), [14]⟩,
    ⟨some 79, (.bin .eql), [.r 78, .c (.int .i64 1)], (some (77, true)), [78]⟩,
    ⟨some 80, .pick, [.r 77, .r 79, .c (.bool false)], none, [77, 79]⟩,
    ⟨some 81, .mv, [.r 80], none, [80]⟩,
    ⟨some 82, .mv, [.r 13], (some (81, true)), [13]⟩,
    ⟨some 83, .mv, [.r 0], (some (81, true)), [0]⟩,
    ⟨some 84, (.call 15), [.r 82, .r 83], (some (81, true)), [82, 83]⟩,
    ⟨some 85, .pick, [.r 81, .r 84, .c (.bool false)], none, [81, 84]⟩,
    ⟨some 6, .mv, [.r 85], none, [85]⟩])
  .ret)))))))))))
def rs6 : List SR := [.tmp 6]
theorem k6 : okC Try.prog 86 (Try.f6.body.getD .skip) c6 = true := by kernel_rfl
theorem acall6 {args : List AV} (hn : args.length ≤ 86) {H : Heap} {v : AV} {H' : Heap} (h : ac Try.prog c6 (argEnv 0 args) H (Fin H rs6 v H')) : ACall Try.prog 6 args H v H' :=
  acall Try.func6 (c := Try.f6.body.getD .skip) rfl k6 (by kernel_rfl) hn h
theorem acallK6 {args : List AV} (hn : args.length ≤ 86) {H : Heap} {v : AV} {H' : Heap} (h : ac Try.prog c6 (argEnv 0 args) H (FinK rs6 v H')) : ACall Try.prog 6 args H v H' :=
  acallK Try.func6 (c := Try.f6.body.getD .skip) rfl k6 (by kernel_rfl) hn h

/- alidade/alidadelaw10.NvramSums -/
def c7 : SC :=
  (.seq (.reg [⟨some 4, .mv, [.c (.bool false)], none, []⟩])
  (.seq (.reg [⟨some 8, (.call 10), [], none, [4]⟩,
    ⟨some 5, .mv, [.r 8], none, [8]⟩])
  (.seq (.seq (.reg [⟨some 9, .mv, [.r 0], none, []⟩,
    ⟨some 10, .len, [.r 9], none, [9]⟩,
    ⟨some 11, .mv, [.r 1], none, []⟩,
    ⟨some 12, .len, [.r 11], none, [11]⟩,
    ⟨some 13, (.bin .add), [.r 10, .r 12], none, [10, 12]⟩,
    ⟨some 14, (.bin .gtr), [.r 13, .c (.int .i64 500)], none, [13]⟩])
  (.cond (.r 14)
    (.kl [0, 1, 14] (.seq (.reg [⟨some 15, .mv, [.r 5], none, [5]⟩,
      ⟨some 4, .mv, [.r 15], none, [15]⟩])
    .ret))
    (.kl [14] .skip)))
  (.seq (.reg [⟨some 16, .mv, [.r 0], none, []⟩,
    ⟨some 17, (.call 19), [.r 16], none, [16]⟩,
    ⟨some 6, .mv, [.r 17], none, [17]⟩])
  (.seq (.reg [⟨some 18, .mv, [.r 1], none, []⟩,
    ⟨some 19, (.call 19), [.r 18], none, [18]⟩,
    ⟨some 7, .mv, [.r 19], none, [19]⟩])
  (.seq (.reg [⟨some 20, .mv, [.r 5], none, [5]⟩,
    ⟨some 21, .mv, [.r 20], none, [20]⟩,
    ⟨some 22, .mv, [.r 6], (some (21, true)), []⟩,
    ⟨some 23, (.bin .geq), [.r 22, .c (.int .i64 4294967296)], (some (21, true)), [22]⟩,
    ⟨some 24, .pick, [.r 21, .r 23, .c (.bool false)], none, [21, 23]⟩,
    ⟨some 25, .mv, [.r 24], none, [24]⟩,
    ⟨some 26, .mv, [.r 6], (some (25, true)), []⟩,
    ⟨some 27, (.bin .lss), [.r 26, .c (.int .i64 8589934592)], (some (25, true)), [26]⟩,
    ⟨some 28, .pick, [.r 25, .r 27, .c (.bool false)], none, [25, 27]⟩,
    ⟨some 29, .mv, [.r 28], none, [28]⟩,
    ⟨some 30, .mv, [.r 6], (some (29, true)), [6]⟩,
    ⟨some 31, .mv, [.r 7], (some (29, true)), [7]⟩,
    ⟨some 32, (.bin .eql), [.r 30, .r 31], (some (29, true)), [30, 31]⟩,
    ⟨some 33, .mv, [.r 32], (some (29, true)), [32]⟩,
    ⟨some 34, .mv, [.r 0], (some (33, false)), []⟩,
    ⟨some 35, .mv, [.r 1], (some (33, false)), [1]⟩,
    ⟨some 36, (.call 15), [.r 34, .r 35], (some (33, false)), [34, 35]⟩,
    ⟨some 37, (.un .not), [.r 36], (some (33, false)), [36]⟩,
    ⟨some 38, .pick, [.r 33, .c (.bool true), .r 37], (some (29, true)), [33, 37]⟩,
    ⟨some 39, .pick, [.r 29, .r 38, .c (.bool false)], none, [29, 38]⟩,
    ⟨some 40, .mv, [.r 39], none, [39]⟩,
    ⟨some 41, .mv, [.r 0], (some (40, true)), []⟩,
    ⟨some 42, (.call 17), [.r 41], (some (40, true)), [41]⟩,
    ⟨some 43, .mv, [.r 0], (some (40, true)), [0]⟩,
    ⟨some 44, .len, [.r 43], (some (40, true)), [43]⟩,
    ⟨some 45, (.bin .add), [.r 44, .c (.int .i64 3)], (some (40, true)), [44]⟩,
    ⟨some 46, (.bin .eql), [.r 42, .r 45], (some (40, true)), [42, 45]⟩,
    ⟨some 47, .pick, [.r 40, .r 46, .c (.bool false)], none, [40, 46]⟩,
    ⟨some 4, .mv, [.r 47], none, [47]⟩])
  .ret))))))
def rs7 : List SR := [.tmp 4]
theorem k7 : okC Try.prog 48 (Try.f7.body.getD .skip) c7 = true := by kernel_rfl
theorem acall7 {args : List AV} (hn : args.length ≤ 48) {H : Heap} {v : AV} {H' : Heap} (h : ac Try.prog c7 (argEnv 0 args) H (Fin H rs7 v H')) : ACall Try.prog 7 args H v H' :=
  acall Try.func7 (c := Try.f7.body.getD .skip) rfl k7 (by kernel_rfl) hn h
theorem acallK7 {args : List AV} (hn : args.length ≤ 48) {H : Heap} {v : AV} {H' : Heap} (h : ac Try.prog c7 (argEnv 0 args) H (FinK rs7 v H')) : ACall Try.prog 7 args H v H' :=
  acallK Try.func7 (c := Try.f7.body.getD .skip) rfl k7 (by kernel_rfl) hn h

/- alidade/alidadelaw10.NvramTells -/
def c8 : SC :=
  (.seq (.reg [⟨some 3, .box, [.r 0], none, [0]⟩,
    ⟨some 6, .mv, [.c (.bool false)], none, []⟩])
  (.seq (.reg [⟨some 23, (.call 10), [], none, [6]⟩,
    ⟨some 7, .mv, [.r 23], none, [23]⟩])
  (.seq (.seq (.reg [⟨some 24, (.ldn 4), [.r 3], none, []⟩,
    ⟨some 25, .mv, [.r 1], none, []⟩,
    ⟨some 26, (.call 11), [.r 24, .r 25], none, [24, 25]⟩,
    ⟨some 27, (.un .not), [.r 26], none, [26]⟩])
  (.cond (.r 27)
    (.kl [1, 2, 3, 27] (.seq (.reg [⟨some 28, .mv, [.r 7], none, [7]⟩,
      ⟨some 6, .mv, [.r 28], none, [28]⟩])
    .ret))
    (.kl [27] .skip)))
  (.seq (.reg [⟨some 30, (.ldn 4), [.r 3], none, []⟩,
    ⟨some 31, (.call 12), [.r 30], none, [30]⟩,
    ⟨some 29, .mv, [.r 31], none, [31]⟩,
    ⟨some 32, (.ext 0), [.r 29], none, []⟩,
    ⟨some 33, (.ext 1), [.r 29], none, []⟩,
    ⟨some 34, (.ext 2), [.r 29], none, [29]⟩,
    ⟨some 8, .mv, [.r 32], none, [32]⟩,
    ⟨some 9, .mv, [.r 33], none, [33]⟩,
    ⟨some 10, .mv, [.r 34], none, [34]⟩])
  (.seq (.reg [⟨some 36, (.ldn 4), [.r 3], none, []⟩,
    ⟨some 37, (.call 20), [.r 36], none, [36]⟩,
    ⟨some 35, .mv, [.r 37], none, [37]⟩,
    ⟨some 38, (.ext 0), [.r 35], none, []⟩,
    ⟨some 39, (.ext 1), [.r 35], none, []⟩,
    ⟨some 40, (.ext 2), [.r 35], none, [35]⟩,
    ⟨some 11, .mv, [.r 38], none, [38]⟩,
    ⟨some 12, .mv, [.r 39], none, [39]⟩,
    ⟨some 13, .mv, [.r 40], none, [40]⟩])
  (.seq (.reg [⟨some 42, (.ldn 4), [.r 3], none, []⟩,
    ⟨some 43, .mv, [.r 1], none, []⟩,
    ⟨some 44, (.call 13), [.r 42, .r 43], none, [42, 43]⟩,
    ⟨some 41, .mv, [.r 44], none, [44]⟩,
    ⟨some 45, (.ext 0), [.r 41], none, []⟩,
    ⟨some 46, (.ext 1), [.r 41], none, [41]⟩,
    ⟨some 14, (.alloc [.nils, (.int .i64 0), .nils, (.int .i64 0)]), [], none, []⟩,
    ⟨none, (.st 4), [.r 14, .r 45], none, [45]⟩,
    ⟨some 15, .mv, [.r 46], none, [46]⟩])
  (.seq (.reg [⟨some 48, (.ldn 4), [.r 3], none, []⟩,
    ⟨some 49, .mv, [.r 1], none, []⟩,
    ⟨some 50, (.call 21), [.r 48, .r 49], none, [48, 49]⟩,
    ⟨some 47, .mv, [.r 50], none, [50]⟩,
    ⟨some 51, (.ext 0), [.r 47], none, []⟩,
    ⟨some 52, (.ext 1), [.r 47], none, [47]⟩,
    ⟨some 16, (.alloc [.nils, (.int .i64 0), .nils, (.int .i64 0)]), [], none, []⟩,
    ⟨none, (.st 4), [.r 16, .r 51], none, [51]⟩,
    ⟨some 17, .mv, [.r 52], none, [52]⟩])
  (.seq (.reg [⟨some 54, (.ldn 4), [.r 3], none, []⟩,
    ⟨some 55, .mv, [.r 1], none, []⟩,
    ⟨some 56, .mv, [.r 2], none, []⟩,
    ⟨some 57, (.call 16), [.r 54, .r 55, .r 56], none, [54, 55, 56]⟩,
    ⟨some 53, .mv, [.r 57], none, [57]⟩,
    ⟨some 58, (.ext 0), [.r 53], none, []⟩,
    ⟨some 59, (.ext 1), [.r 53], none, [53]⟩,
    ⟨some 18, (.alloc [.nils, (.int .i64 0), .nils, (.int .i64 0)]), [], none, []⟩,
    ⟨none, (.st 4), [.r 18, .r 58], none, [58]⟩,
    ⟨some 19, .mv, [.r 59], none, [59]⟩])
  (.seq (.reg [⟨some 61, (.ldn 4), [.r 3], none, []⟩,
    ⟨some 62, .mv, [.r 1], none, []⟩,
    ⟨some 63, .mv, [.r 2], none, [2]⟩,
    ⟨some 64, (.call 22), [.r 61, .r 62, .r 63], none, [61, 62, 63]⟩,
    ⟨some 60, .mv, [.r 64], none, [64]⟩,
    ⟨some 65, (.ext 0), [.r 60], none, []⟩,
    ⟨some 66, (.ext 1), [.r 60], none, [60]⟩,
    ⟨some 20, (.alloc [.nils, (.int .i64 0), .nils, (.int .i64 0)]), [], none, []⟩,
    ⟨none, (.st 4), [.r 20, .r 65], none, [65]⟩,
    ⟨some 21, .mv, [.r 66], none, [66]⟩])
  (.seq (.dreg [⟨0, 0, false, false, ⟨some 67, .mv, [.r 8], none, [8]⟩⟩,
    ⟨1, 0, false, false, ⟨some 68, .mv, [.r 11], none, [11]⟩⟩,
    ⟨2, 3, false, false, ⟨some 69, (.call 15), [.r 67, .r 68], none, [67, 68]⟩⟩,
    ⟨3, 7, false, false, ⟨some 70, .mv, [.r 69], none, [69]⟩⟩,
    ⟨4, 15, false, false, ⟨some 71, .mv, [.r 9], (some (70, true)), [9]⟩⟩,
    ⟨5, 15, false, false, ⟨some 72, .mv, [.r 12], (some (70, true)), [12]⟩⟩,
    ⟨6, 63, false, false, ⟨some 73, (.bin .eql), [.r 71, .r 72], (some (70, true)), [71, 72]⟩⟩,
    ⟨7, 127, false, false, ⟨some 74, .pick, [.r 70, .r 73, .c (.bool false)], none, [70, 73]⟩⟩,
    ⟨8, 255, false, false, ⟨some 75, .mv, [.r 74], none, [74]⟩⟩,
    ⟨9, 511, false, false, ⟨some 76, .mv, [.r 10], (some (75, true)), [10]⟩⟩,
    ⟨10, 511, false, false, ⟨some 77, .mv, [.r 13], (some (75, true)), [13]⟩⟩,
    ⟨11, 2047, false, false, ⟨some 78, (.eqb false), [.r 76, .r 77], (some (75, true)), [76, 77]⟩⟩,
    ⟨12, 4095, false, false, ⟨some 79, .pick, [.r 75, .r 78, .c (.bool false)], none, [75, 78]⟩⟩,
    ⟨13, 8191, false, false, ⟨some 80, .mv, [.r 79], none, [79]⟩⟩,
    ⟨14, 16383, false, false, ⟨some 81, .mv, [.r 1], (some (80, true)), []⟩⟩,
    ⟨15, 32767, false, false, ⟨some 82, (.call 19), [.r 81], (some (80, true)), [81]⟩⟩,
    ⟨16, 16383, false, false, ⟨some 83, .mv, [.r 1], (some (80, true)), []⟩⟩,
    ⟨17, 131071, false, false, ⟨some 84, (.call 18), [.r 83], (some (80, true)), [83]⟩⟩,
    ⟨18, 262143, false, false, ⟨some 85, (.bin .eql), [.r 82, .r 84], (some (80, true)), [82, 84]⟩⟩,
    ⟨19, 524287, false, false, ⟨some 86, .pick, [.r 80, .r 85, .c (.bool false)], none, [80, 85]⟩⟩,
    ⟨20, 1048575, false, false, ⟨some 87, .mv, [.r 86], none, [86]⟩⟩,
    ⟨21, 2097151, false, false, ⟨some 88, (.ldn 4), [.r 14], (some (87, true)), []⟩⟩,
    ⟨22, 2097151, false, false, ⟨some 89, (.ldn 4), [.r 3], (some (87, true)), []⟩⟩,
    ⟨23, 8388607, false, true, ⟨some 90, (.call 23), [.r 88, .r 89], (some (87, true)), [88, 89]⟩⟩,
    ⟨24, 2097151, false, false, ⟨some 91, (.ldn 4), [.r 14], (some (87, true)), []⟩⟩,
    ⟨25, 2097151, false, false, ⟨some 92, (.ldn 4), [.r 3], (some (87, true)), [3]⟩⟩,
    ⟨26, 67108863, false, false, ⟨some 93, (.call 14), [.r 91, .r 92], (some (87, true)), [91, 92]⟩⟩,
    ⟨27, 134217727, false, false, ⟨some 94, (.eqb false), [.r 90, .r 93], (some (87, true)), [90, 93]⟩⟩,
    ⟨28, 268435455, false, false, ⟨some 95, .pick, [.r 87, .r 94, .c (.bool false)], none, [87, 94]⟩⟩,
    ⟨29, 536870911, false, false, ⟨some 22, .mv, [.r 95], none, [95]⟩⟩])
  (.seq (.reg [⟨some 96, .mv, [.r 7], none, [7]⟩,
    ⟨some 97, .mv, [.r 96], none, [96]⟩,
    ⟨some 98, .mv, [.r 22], (some (97, true)), [22]⟩,
    ⟨some 99, .pick, [.r 97, .r 98, .c (.bool false)], none, [97, 98]⟩,
    ⟨some 100, .mv, [.r 99], none, [99]⟩,
    ⟨some 101, (.ldn 4), [.r 14], (some (100, true)), [14]⟩,
    ⟨some 102, (.ldn 4), [.r 16], (some (100, true)), [16]⟩,
    ⟨some 103, (.call 14), [.r 101, .r 102], (some (100, true)), [101, 102]⟩,
    ⟨some 104, .pick, [.r 100, .r 103, .c (.bool false)], none, [100, 103]⟩,
    ⟨some 105, .mv, [.r 104], none, [104]⟩,
    ⟨some 106, .mv, [.r 15], (some (105, true)), [15]⟩,
    ⟨some 107, .mv, [.r 17], (some (105, true)), [17]⟩,
    ⟨some 108, (.bin .eql), [.r 106, .r 107], (some (105, true)), [106, 107]⟩,
    ⟨some 109, .pick, [.r 105, .r 108, .c (.bool false)], none, [105, 108]⟩,
    ⟨some 110, .mv, [.r 109], none, [109]⟩,
    ⟨some 111, (.ldn 4), [.r 18], (some (110, true)), [18]⟩,
    ⟨some 112, (.ldn 4), [.r 20], (some (110, true)), [20]⟩,
    ⟨some 113, (.call 14), [.r 111, .r 112], (some (110, true)), [111, 112]⟩,
    ⟨some 114, .pick, [.r 110, .r 113, .c (.bool false)], none, [110, 113]⟩,
    ⟨some 115, .mv, [.r 114], none, [114]⟩,
    ⟨some 116, .mv, [.r 19], (some (115, true)), [19]⟩,
    ⟨some 117, .mv, [.r 21], (some (115, true)), [21]⟩,
    ⟨some 118, (.bin .eql), [.r 116, .r 117], (some (115, true)), [116, 117]⟩,
    ⟨some 119, .pick, [.r 115, .r 118, .c (.bool false)], none, [115, 118]⟩,
    ⟨some 120, .mv, [.r 119], none, [119]⟩,
    ⟨some 121, .mv, [.r 1], (some (120, true)), []⟩,
    ⟨some 122, (.call 17), [.r 121], (some (120, true)), [121]⟩,
    ⟨some 123, .mv, [.r 1], (some (120, true)), [1]⟩,
    ⟨some 124, (.call 24), [.r 123], (some (120, true)), [123]⟩,
    ⟨some 125, (.bin .eql), [.r 122, .r 124], (some (120, true)), [122, 124]⟩,
    ⟨some 126, .pick, [.r 120, .r 125, .c (.bool false)], none, [120, 125]⟩,
    ⟨some 6, .mv, [.r 126], none, [126]⟩])
  .ret)))))))))))
def rs8 : List SR := [.tmp 6]
theorem k8 : okC Try.prog 127 (Try.f8.body.getD .skip) c8 = true := by kernel_rfl
theorem acall8 {args : List AV} (hn : args.length ≤ 127) {H : Heap} {v : AV} {H' : Heap} (h : ac Try.prog c8 (argEnv 0 args) H (Fin H rs8 v H')) : ACall Try.prog 8 args H v H' :=
  acall Try.func8 (c := Try.f8.body.getD .skip) rfl k8 (by kernel_rfl) hn h
theorem acallK8 {args : List AV} (hn : args.length ≤ 127) {H : Heap} {v : AV} {H' : Heap} (h : ac Try.prog c8 (argEnv 0 args) H (FinK rs8 v H')) : ACall Try.prog 8 args H v H' :=
  acallK Try.func8 (c := Try.f8.body.getD .skip) rfl k8 (by kernel_rfl) hn h

/- alidade/alidadelaw10.NvramNone -/
def c9 : SC :=
  (.seq (.reg [⟨some 2, .box, [.r 0], none, [0]⟩,
    ⟨some 4, .mv, [.c (.bool false)], none, []⟩])
  (.seq (.reg [⟨some 14, (.call 10), [], none, [4]⟩,
    ⟨some 5, .mv, [.r 14], none, [14]⟩])
  (.seq (.seq (.reg [⟨some 15, (.ldn 4), [.r 2], none, []⟩,
    ⟨some 16, .mv, [.r 1], none, []⟩,
    ⟨some 17, (.call 11), [.r 15, .r 16], none, [15, 16]⟩,
    ⟨some 18, (.un .not), [.r 17], none, [17]⟩,
    ⟨some 19, .mv, [.r 18], none, [18]⟩,
    ⟨some 20, .mv, [.r 1], (some (19, false)), []⟩,
    ⟨some 21, .len, [.r 20], (some (19, false)), [20]⟩,
    ⟨some 22, (.bin .gtr), [.r 21, .c (.int .i64 600)], (some (19, false)), [21]⟩,
    ⟨some 23, .pick, [.r 19, .c (.bool true), .r 22], none, [19, 22]⟩])
  (.cond (.r 23)
    (.kl [1, 2, 23] (.seq (.reg [⟨some 24, .mv, [.r 5], none, [5]⟩,
      ⟨some 4, .mv, [.r 24], none, [24]⟩])
    .ret))
    (.kl [23] .skip)))
  (.seq (.reg [⟨some 26, (.ldn 4), [.r 2], none, []⟩,
    ⟨some 27, (.call 12), [.r 26], none, [26]⟩,
    ⟨some 25, .mv, [.r 27], none, [27]⟩,
    ⟨some 28, (.ext 0), [.r 25], none, []⟩,
    ⟨some 29, (.ext 1), [.r 25], none, []⟩,
    ⟨some 30, (.ext 2), [.r 25], none, [25]⟩,
    ⟨some 6, .mv, [.r 28], none, [28]⟩,
    ⟨some 7, .mv, [.r 29], none, [29]⟩,
    ⟨some 8, .mv, [.r 30], none, [30]⟩])
  (.seq (.seq (.reg [⟨some 31, .mv, [.r 8], none, [8]⟩])
  (.cond (.r 31)
    (.kl [1, 2, 6, 31] (.seq (.reg [⟨some 32, .mv, [.r 5], none, [5]⟩,
      ⟨some 33, .mv, [.r 32], none, [32]⟩,
      ⟨some 34, .mv, [.r 7], (some (33, true)), [7]⟩,
      ⟨some 35, (.bin .geq), [.r 34, .c (.int .i64 0)], (some (33, true)), [34]⟩,
      ⟨some 36, .pick, [.r 33, .r 35, .c (.bool false)], none, [33, 35]⟩,
      ⟨some 4, .mv, [.r 36], none, [36]⟩])
    .ret))
    (.kl [31] .skip)))
  (.seq (.reg [⟨some 38, (.ldn 4), [.r 2], none, []⟩,
    ⟨some 39, .mv, [.r 1], none, []⟩,
    ⟨some 40, (.call 13), [.r 38, .r 39], none, [38, 39]⟩,
    ⟨some 37, .mv, [.r 40], none, [40]⟩,
    ⟨some 41, (.ext 0), [.r 37], none, []⟩,
    ⟨some 42, (.ext 1), [.r 37], none, [37]⟩,
    ⟨some 9, (.alloc [.nils, (.int .i64 0), .nils, (.int .i64 0)]), [], none, []⟩,
    ⟨none, (.st 4), [.r 9, .r 41], none, [41]⟩,
    ⟨some 10, .mv, [.r 42], none, [42]⟩])
  (.seq (.reg [⟨some 44, (.ldn 4), [.r 9], none, []⟩,
    ⟨some 45, (.call 12), [.r 44], none, [44]⟩,
    ⟨some 43, .mv, [.r 45], none, [45]⟩,
    ⟨some 46, (.ext 0), [.r 43], none, []⟩,
    ⟨some 47, (.ext 1), [.r 43], none, []⟩,
    ⟨some 48, (.ext 2), [.r 43], none, [43]⟩,
    ⟨some 11, .mv, [.r 46], none, [46]⟩,
    ⟨some 12, .mv, [.r 47], none, [47]⟩,
    ⟨some 13, .mv, [.r 48], none, [48]⟩])
  (.seq (.reg [⟨some 49, .mv, [.r 5], none, [5]⟩,
    ⟨some 50, .mv, [.r 49], none, [49]⟩,
    ⟨some 51, .mv, [.r 6], (some (50, true)), [6]⟩,
    ⟨some 52, .len, [.r 51], (some (50, true)), [51]⟩,
    ⟨some 53, (.bin .eql), [.r 52, .c (.int .i64 0)], (some (50, true)), [52]⟩,
    ⟨some 54, .pick, [.r 50, .r 53, .c (.bool false)], none, [50, 53]⟩,
    ⟨some 55, .mv, [.r 54], none, [54]⟩,
    ⟨some 56, .mv, [.r 7], (some (55, true)), [7]⟩,
    ⟨some 57, (.bin .eql), [.r 56, .c (.int .i64 0)], (some (55, true)), [56]⟩,
    ⟨some 58, .pick, [.r 55, .r 57, .c (.bool false)], none, [55, 57]⟩,
    ⟨some 59, .mv, [.r 58], none, [58]⟩,
    ⟨some 60, .mv, [.r 10], (some (59, true)), [10]⟩,
    ⟨some 61, (.bin .eql), [.r 60, .c (.int .i64 0)], (some (59, true)), [60]⟩,
    ⟨some 62, .pick, [.r 59, .r 61, .c (.bool false)], none, [59, 61]⟩,
    ⟨some 63, .mv, [.r 62], none, [62]⟩,
    ⟨some 64, .mv, [.r 13], (some (63, true)), [13]⟩,
    ⟨some 65, .pick, [.r 63, .r 64, .c (.bool false)], none, [63, 64]⟩,
    ⟨some 66, .mv, [.r 65], none, [65]⟩,
    ⟨some 67, .mv, [.r 12], (some (66, true)), [12]⟩,
    ⟨some 68, (.bin .eql), [.r 67, .c (.int .i64 1)], (some (66, true)), [67]⟩,
    ⟨some 69, .pick, [.r 66, .r 68, .c (.bool false)], none, [66, 68]⟩,
    ⟨some 70, .mv, [.r 69], none, [69]⟩,
    ⟨some 71, .mv, [.r 11], (some (70, true)), [11]⟩,
    ⟨some 72, .mv, [.r 1], (some (70, true)), [1]⟩,
    ⟨some 73, (.call 15), [.r 71, .r 72], (some (70, true)), [71, 72]⟩,
    ⟨some 74, .pick, [.r 70, .r 73, .c (.bool false)], none, [70, 73]⟩,
    ⟨some 75, .mv, [.r 74], none, [74]⟩,
    ⟨some 76, (.faddr 0), [.r 9], (some (75, true)), []⟩,
    ⟨some 77, (.iaddrA 2 2), [.r 76, .c (.int .i64 0)], (some (75, true)), [76]⟩,
    ⟨some 78, (.ldn 2), [.r 77], (some (75, true)), [77]⟩,
    ⟨some 79, (.faddr 0), [.r 2], (some (75, true)), [2]⟩,
    ⟨some 80, (.iaddrA 2 2), [.r 79, .c (.int .i64 1)], (some (75, true)), [79]⟩,
    ⟨some 81, (.ldn 2), [.r 80], (some (75, true)), [80]⟩,
    ⟨some 82, (.build [.nils, (.int .i64 0), .nils, (.int .i64 0)] [(0, 2), (2, 2)]), [.r 78, .r 81], (some (75, true)), [78, 81]⟩,
    ⟨some 83, (.build [.nils, (.int .i64 0), .nils, (.int .i64 0)] [(0, 4)]), [.r 82], (some (75, true)), [82]⟩,
    ⟨some 84, (.ldn 4), [.r 9], (some (75, true)), [9]⟩,
    ⟨some 85, (.call 23), [.r 83, .r 84], (some (75, true)), [83, 84]⟩,
    ⟨some 86, .pick, [.r 75, .r 85, .c (.bool false)], none, [75, 85]⟩,
    ⟨some 4, .mv, [.r 86], none, [86]⟩])
  .ret))))))))
def rs9 : List SR := [.tmp 4]
theorem k9 : okC Try.prog 87 (Try.f9.body.getD .skip) c9 = true := by kernel_rfl
theorem acall9 {args : List AV} (hn : args.length ≤ 87) {H : Heap} {v : AV} {H' : Heap} (h : ac Try.prog c9 (argEnv 0 args) H (Fin H rs9 v H')) : ACall Try.prog 9 args H v H' :=
  acall Try.func9 (c := Try.f9.body.getD .skip) rfl k9 (by kernel_rfl) hn h
theorem acallK9 {args : List AV} (hn : args.length ≤ 87) {H : Heap} {v : AV} {H' : Heap} (h : ac Try.prog c9 (argEnv 0 args) H (FinK rs9 v H')) : ACall Try.prog 9 args H v H' :=
  acallK Try.func9 (c := Try.f9.body.getD .skip) rfl k9 (by kernel_rfl) hn h

/- alidade/alidadelaw10.shown -/
def c10 : SC :=
  (.seq (.reg [⟨some 0, .mv, [.c (.bool false)], none, []⟩])
  (.seq (.reg [⟨some 7, (.build [.nils, (.int .i64 0), .nils, (.int .i64 0)] []), [], none, [0]⟩,
    ⟨some 8, (.bslice 1 1 [(.int .i64 0)] [(0, 1)]), [.c (.int .i64 5)], none, []⟩,
    ⟨some 9, (.call 13), [.r 7, .r 8], none, [7, 8]⟩,
    ⟨some 6, .mv, [.r 9], none, [9]⟩,
    ⟨some 10, (.ext 0), [.r 6], none, []⟩,
    ⟨some 11, (.ext 1), [.r 6], none, [6]⟩,
    ⟨some 1, (.alloc [.nils, (.int .i64 0), .nils, (.int .i64 0)]), [], none, []⟩,
    ⟨none, (.st 4), [.r 1, .r 10], none, [10]⟩,
    ⟨some 2, .mv, [.r 11], none, [11]⟩])
  (.seq (.reg [⟨some 13, (.ldn 4), [.r 1], none, []⟩,
    ⟨some 14, (.call 12), [.r 13], none, [13]⟩,
    ⟨some 12, .mv, [.r 14], none, [14]⟩,
    ⟨some 15, (.ext 0), [.r 12], none, []⟩,
    ⟨some 16, (.ext 1), [.r 12], none, []⟩,
    ⟨some 17, (.ext 2), [.r 12], none, [12]⟩,
    ⟨some 3, .mv, [.r 15], none, [15]⟩,
    ⟨some 4, .mv, [.r 16], none, [16]⟩,
    ⟨some 5, .mv, [.r 17], none, [17]⟩])
  (.seq (.reg [⟨some 18, .mv, [.r 2], none, [2]⟩,
    ⟨some 19, (.bin .eql), [.r 18, .c (.int .i64 0)], none, [18]⟩,
    ⟨some 20, .mv, [.r 19], none, [19]⟩,
    ⟨some 21, .mv, [.r 5], (some (20, true)), [5]⟩,
    ⟨some 22, .pick, [.r 20, .r 21, .c (.bool false)], none, [20, 21]⟩,
    ⟨some 23, .mv, [.r 22], none, [22]⟩,
    ⟨some 24, .mv, [.r 4], (some (23, true)), [4]⟩,
    ⟨some 25, (.bin .eql), [.r 24, .c (.int .i64 1)], (some (23, true)), [24]⟩,
    ⟨some 26, .pick, [.r 23, .r 25, .c (.bool false)], none, [23, 25]⟩,
    ⟨some 27, .mv, [.r 26], none, [26]⟩,
    ⟨some 28, .mv, [.r 3], (some (27, true)), []⟩,
    ⟨some 29, .len, [.r 28], (some (27, true)), [28]⟩,
    ⟨some 30, (.bin .eql), [.r 29, .c (.int .i64 1)], (some (27, true)), [29]⟩,
    ⟨some 31, .pick, [.r 27, .r 30, .c (.bool false)], none, [27, 30]⟩,
    ⟨some 32, .mv, [.r 31], none, [31]⟩,
    ⟨some 33, .mv, [.r 3], (some (32, true)), []⟩,
    ⟨some 34, (.iaddrS 1), [.r 33, .c (.int .i64 0)], (some (32, true)), [33]⟩,
    ⟨some 35, .ld1, [.r 34], (some (32, true)), [34]⟩,
    ⟨some 36, (.bin .eql), [.r 35, .c (.int .i64 5)], (some (32, true)), [35]⟩,
    ⟨some 37, .pick, [.r 32, .r 36, .c (.bool false)], none, [32, 36]⟩,
    ⟨some 38, .mv, [.r 37], none, [37]⟩,
    ⟨some 39, (.faddr 0), [.r 1], (some (38, true)), [1]⟩,
    ⟨some 40, (.iaddrA 2 2), [.r 39, .c (.int .i64 0)], (some (38, true)), [39]⟩,
    ⟨some 41, (.faddr 0), [.r 40], (some (38, true)), [40]⟩,
    ⟨some 42, .ld1, [.r 41], (some (38, true)), [41]⟩,
    ⟨some 43, .len, [.r 42], (some (38, true)), [42]⟩,
    ⟨some 44, (.bin .eql), [.r 43, .c (.int .i64 2)], (some (38, true)), [43]⟩,
    ⟨some 45, .pick, [.r 38, .r 44, .c (.bool false)], none, [38, 44]⟩,
    ⟨some 46, .mv, [.r 45], none, [45]⟩,
    ⟨some 47, .mv, [.r 3], (some (46, true)), [3]⟩,
    ⟨some 48, (.call 17), [.r 47], (some (46, true)), [47]⟩,
    ⟨some 49, (.bin .eql), [.r 48, .c (.int .i64 4)], (some (46, true)), [48]⟩,
    ⟨some 50, .pick, [.r 46, .r 49, .c (.bool false)], none, [46, 49]⟩,
    ⟨some 0, .mv, [.r 50], none, [50]⟩])
  .ret))))
def rs10 : List SR := [.tmp 0]
theorem k10 : okC Try.prog 51 (Try.f10.body.getD .skip) c10 = true := by kernel_rfl
theorem acall10 {args : List AV} (hn : args.length ≤ 51) {H : Heap} {v : AV} {H' : Heap} (h : ac Try.prog c10 (argEnv 0 args) H (Fin H rs10 v H')) : ACall Try.prog 10 args H v H' :=
  acall Try.func10 (c := Try.f10.body.getD .skip) rfl k10 (by kernel_rfl) hn h
theorem acallK10 {args : List AV} (hn : args.length ≤ 51) {H : Heap} {v : AV} {H' : Heap} (h : ac Try.prog c10 (argEnv 0 args) H (FinK rs10 v H')) : ACall Try.prog 10 args H v H' :=
  acallK Try.func10 (c := Try.f10.body.getD .skip) rfl k10 (by kernel_rfl) hn h

/- alidade/alidaderef10.Few -/
def c11 : SC :=
  (.seq (.reg [⟨some 2, .box, [.r 0], none, [0]⟩,
    ⟨some 4, .mv, [.c (.bool false)], none, []⟩])
  (.seq (.reg [⟨some 5, (.faddr 0), [.r 2], none, [4]⟩,
    ⟨some 6, (.iaddrA 2 2), [.r 5, .c (.int .i64 0)], none, [5]⟩,
    ⟨some 7, (.faddr 0), [.r 6], none, [6]⟩,
    ⟨some 8, .ld1, [.r 7], none, [7]⟩,
    ⟨some 9, .len, [.r 8], none, [8]⟩,
    ⟨some 10, (.faddr 0), [.r 2], none, [2]⟩,
    ⟨some 11, (.iaddrA 2 2), [.r 10, .c (.int .i64 1)], none, [10]⟩,
    ⟨some 12, (.faddr 0), [.r 11], none, [11]⟩,
    ⟨some 13, .ld1, [.r 12], none, [12]⟩,
    ⟨some 14, .len, [.r 13], none, [13]⟩,
    ⟨some 15, (.bin .add), [.r 9, .r 14], none, [9, 14]⟩,
    ⟨some 16, .mv, [.r 1], none, [1]⟩,
    ⟨some 17, .len, [.r 16], none, [16]⟩,
    ⟨some 18, (.bin .add), [.r 15, .r 17], none, [15, 17]⟩,
    ⟨some 19, (.bin .leq), [.r 18, .c (.int .i64 900)], none, [18]⟩,
    ⟨some 4, .mv, [.r 19], none, [19]⟩])
  .ret))
def rs11 : List SR := [.tmp 4]
theorem k11 : okC Try.prog 20 (Try.f11.body.getD .skip) c11 = true := by kernel_rfl
theorem acall11 {args : List AV} (hn : args.length ≤ 20) {H : Heap} {v : AV} {H' : Heap} (h : ac Try.prog c11 (argEnv 0 args) H (Fin H rs11 v H')) : ACall Try.prog 11 args H v H' :=
  acall Try.func11 (c := Try.f11.body.getD .skip) rfl k11 (by kernel_rfl) hn h
theorem acallK11 {args : List AV} (hn : args.length ≤ 20) {H : Heap} {v : AV} {H' : Heap} (h : ac Try.prog c11 (argEnv 0 args) H (FinK rs11 v H')) : ACall Try.prog 11 args H v H' :=
  acallK Try.func11 (c := Try.f11.body.getD .skip) rfl k11 (by kernel_rfl) hn h

/- alidade/nvram.Read -/
def c12 : SC :=
  (.seq (.reg [⟨some 1, .box, [.r 0], none, [0]⟩,
    ⟨some 2, .mv, [.c .nils], none, []⟩,
    ⟨some 3, .mv, [.c (.int .i64 0)], none, [2]⟩,
    ⟨some 4, .mv, [.c (.bool false)], none, [3]⟩])
  (.seq (.reg [⟨some 7, (.ldn 4), [.r 1], none, [4]⟩,
    ⟨some 8, (.call 25), [.r 7], none, [7]⟩,
    ⟨some 5, .mv, [.r 8], none, [8]⟩])
  (.seq (.seq (.reg [⟨some 9, .mv, [.r 5], none, []⟩,
    ⟨some 10, (.bin .lss), [.r 9, .c (.int .i64 0)], none, [9]⟩])
  (.cond (.r 10)
    (.kl [1, 5, 10] (.seq (.reg [⟨some 2, .mv, [.c .nils], none, []⟩,
      ⟨some 3, .mv, [.c (.int .i64 0)], none, []⟩,
      ⟨some 4, .mv, [.c (.bool false)], none, []⟩])
    .ret))
    (.kl [10] .skip)))
  (.seq (.reg [⟨some 11, .mv, [.r 5], none, [5]⟩,
    ⟨some 12, (.faddr 0), [.r 1], none, [1]⟩,
    ⟨some 13, (.iaddrA 2 2), [.r 12, .r 11], none, [11, 12]⟩,
    ⟨some 14, (.faddr 0), [.r 13], none, [13]⟩,
    ⟨some 15, .ld1, [.r 14], none, [14]⟩,
    ⟨some 6, .mv, [.r 15], none, [15]⟩])
  (.seq (.dreg [⟨0, 0, false, false, ⟨some 16, .mv, [.r 6], none, []⟩⟩,
    ⟨1, 1, false, false, ⟨some 17, (.slice 1 true false false), [.r 16, .c (.int .i64 1)], none, [16]⟩⟩,
    ⟨2, 3, true, false, ⟨some 18, (.call 26), [.r 17], none, [17]⟩⟩,
    ⟨3, 0, false, false, ⟨some 19, .mv, [.r 6], none, [6]⟩⟩,
    ⟨4, 8, false, false, ⟨some 20, (.iaddrS 1), [.r 19, .c (.int .i64 0)], none, [19]⟩⟩,
    ⟨5, 24, false, false, ⟨some 21, .ld1, [.r 20], none, [20]⟩⟩,
    ⟨6, 7, false, false, ⟨some 2, .mv, [.r 18], none, [18]⟩⟩,
    ⟨7, 127, false, false, ⟨some 3, .mv, [.r 21], none, [21]⟩⟩,
    ⟨8, 255, false, false, ⟨some 4, .mv, [.c (.bool true)], none, []⟩⟩])
  .ret)))))
def rs12 : List SR := [.tmp 2, .tmp 3, .tmp 4]
theorem k12 : okC Try.prog 22 (Try.f12.body.getD .skip) c12 = true := by kernel_rfl
theorem acall12 {args : List AV} (hn : args.length ≤ 22) {H : Heap} {v : AV} {H' : Heap} (h : ac Try.prog c12 (argEnv 0 args) H (Fin H rs12 v H')) : ACall Try.prog 12 args H v H' :=
  acall Try.func12 (c := Try.f12.body.getD .skip) rfl k12 (by kernel_rfl) hn h
theorem acallK12 {args : List AV} (hn : args.length ≤ 22) {H : Heap} {v : AV} {H' : Heap} (h : ac Try.prog c12 (argEnv 0 args) H (FinK rs12 v H')) : ACall Try.prog 12 args H v H' :=
  acallK Try.func12 (c := Try.f12.body.getD .skip) rfl k12 (by kernel_rfl) hn h

/- alidade/nvram.Write -/
def c13 : SC :=
  (.seq (.reg [⟨some 2, .box, [.r 0], none, [0]⟩,
    ⟨some 4, (.alloc [.nils, (.int .i64 0), .nils, (.int .i64 0)]), [], none, []⟩,
    ⟨some 5, .mv, [.c (.int .i64 0)], none, []⟩])
  (.seq (.dreg [⟨0, 0, false, false, ⟨some 6, (.ldn 4), [.r 2], none, [2, 5]⟩⟩,
    ⟨1, 0, false, false, ⟨some 7, .mv, [.r 1], none, []⟩⟩,
    ⟨2, 0, false, false, ⟨some 8, .mv, [.r 1], none, [1]⟩⟩,
    ⟨3, 4, false, true, ⟨some 9, (.call 17), [.r 8], none, [8]⟩⟩,
    ⟨4, 15, false, false, ⟨some 10, (.call 16), [.r 6, .r 7, .r 9], none, [6, 7, 9]⟩⟩,
    ⟨5, 31, false, false, ⟨some 11, (.ext 0), [.r 10], none, []⟩⟩,
    ⟨6, 31, false, false, ⟨some 12, (.ext 1), [.r 10], none, [10]⟩⟩,
    ⟨7, 127, false, false, ⟨none, (.st 4), [.r 4, .r 11], none, [11]⟩⟩,
    ⟨8, 255, false, false, ⟨some 5, .mv, [.r 12], none, [12]⟩⟩])
  .ret))
def rs13 : List SR := [.celln 4 4, .tmp 5]
theorem k13 : okC Try.prog 13 (Try.f13.body.getD .skip) c13 = true := by kernel_rfl
theorem acall13 {args : List AV} (hn : args.length ≤ 13) {H : Heap} {v : AV} {H' : Heap} (h : ac Try.prog c13 (argEnv 0 args) H (Fin H rs13 v H')) : ACall Try.prog 13 args H v H' :=
  acall Try.func13 (c := Try.f13.body.getD .skip) rfl k13 (by kernel_rfl) hn h
theorem acallK13 {args : List AV} (hn : args.length ≤ 13) {H : Heap} {v : AV} {H' : Heap} (h : ac Try.prog c13 (argEnv 0 args) H (FinK rs13 v H')) : ACall Try.prog 13 args H v H' :=
  acallK Try.func13 (c := Try.f13.body.getD .skip) rfl k13 (by kernel_rfl) hn h

/- alidade/alidaderef10.Same -/
def c14l0 : SC :=
  (.seq (.seq (.reg [⟨some 7, .mv, [.r 5], none, []⟩,
      ⟨some 8, (.bin .lss), [.r 7, .c (.int .i64 2)], none, [7]⟩])
    (.cond (.r 8)
      (.kl [8] .skip)
      (.kl [2, 3, 5, 8] (.exit 0))))
    (.seq (.block 1 (.seq (.dreg [⟨0, 0, false, false, ⟨some 11, .mv, [.r 5], none, []⟩⟩,
      ⟨1, 0, false, false, ⟨some 12, (.faddr 0), [.r 2], none, []⟩⟩,
      ⟨2, 3, false, false, ⟨some 13, (.iaddrA 2 2), [.r 12, .r 11], none, [11, 12]⟩⟩,
      ⟨3, 7, false, false, ⟨some 14, (.faddr 0), [.r 13], none, [13]⟩⟩,
      ⟨4, 15, false, false, ⟨some 15, .ld1, [.r 14], none, [14]⟩⟩,
      ⟨5, 0, false, false, ⟨some 16, .mv, [.r 5], none, []⟩⟩,
      ⟨6, 0, false, false, ⟨some 17, (.faddr 0), [.r 3], none, []⟩⟩,
      ⟨7, 96, false, false, ⟨some 18, (.iaddrA 2 2), [.r 17, .r 16], none, [16, 17]⟩⟩,
      ⟨8, 224, false, false, ⟨some 19, (.faddr 0), [.r 18], none, [18]⟩⟩,
      ⟨9, 480, false, false, ⟨some 20, .ld1, [.r 19], none, [19]⟩⟩,
      ⟨10, 1023, false, false, ⟨some 21, (.call 15), [.r 15, .r 20], none, [15, 20]⟩⟩,
      ⟨11, 2047, false, false, ⟨some 6, .mv, [.r 21], none, [21]⟩⟩])
    (.seq (.dreg [⟨0, 0, false, false, ⟨some 22, .mv, [.r 6], none, [6]⟩⟩,
      ⟨1, 1, false, false, ⟨some 23, (.un .not), [.r 22], none, [22]⟩⟩,
      ⟨2, 3, false, false, ⟨some 24, .mv, [.r 23], none, [23]⟩⟩,
      ⟨3, 7, false, false, ⟨some 25, .mv, [.r 5], (some (24, false)), []⟩⟩,
      ⟨4, 7, false, false, ⟨some 26, (.faddr 0), [.r 2], (some (24, false)), []⟩⟩,
      ⟨5, 31, false, false, ⟨some 27, (.iaddrA 2 2), [.r 26, .r 25], (some (24, false)), [25, 26]⟩⟩,
      ⟨6, 63, false, false, ⟨some 28, (.faddr 1), [.r 27], (some (24, false)), [27]⟩⟩,
      ⟨7, 127, false, false, ⟨some 29, .ld1, [.r 28], (some (24, false)), [28]⟩⟩,
      ⟨8, 7, false, false, ⟨some 30, .mv, [.r 5], (some (24, false)), []⟩⟩,
      ⟨9, 7, false, false, ⟨some 31, (.faddr 0), [.r 3], (some (24, false)), []⟩⟩,
      ⟨10, 775, false, false, ⟨some 32, (.iaddrA 2 2), [.r 31, .r 30], (some (24, false)), [30, 31]⟩⟩,
      ⟨11, 1799, false, false, ⟨some 33, (.faddr 1), [.r 32], (some (24, false)), [32]⟩⟩,
      ⟨12, 3847, false, false, ⟨some 34, .ld1, [.r 33], (some (24, false)), [33]⟩⟩,
      ⟨13, 8191, false, false, ⟨some 35, (.bin .neq), [.r 29, .r 34], (some (24, false)), [29, 34]⟩⟩,
      ⟨14, 16383, false, false, ⟨some 36, .pick, [.r 24, .c (.bool true), .r 35], none, [24, 35]⟩⟩])
    (.cond (.r 36)
      (.kl [2, 3, 5, 36] (.seq (.reg [⟨some 4, .mv, [.c (.bool false)], none, []⟩])
      .ret))
      (.kl [36] .skip)))))
    (.reg [⟨some 9, .mv, [.r 5], none, [5]⟩,
      ⟨some 10, (.bin .add), [.r 9, .c (.int .i64 1)], none, [9]⟩,
      ⟨some 5, .mv, [.r 10], none, [10]⟩])))
def c14 : SC :=
  (.seq (.reg [⟨some 2, .box, [.r 0], none, [0]⟩,
    ⟨some 3, .box, [.r 1], none, [1]⟩,
    ⟨some 4, .mv, [.c (.bool false)], none, []⟩])
  (.seq (.seq (.reg [⟨some 5, .mv, [.c (.int .i64 0)], none, [4]⟩])
  (.block 0 (.loop c14l0)))
  (.seq (.reg [⟨some 4, .mv, [.c (.bool true)], none, []⟩])
  .ret)))
def rs14 : List SR := [.tmp 4]
theorem k14 : okC Try.prog 37 (Try.f14.body.getD .skip) c14 = true := by kernel_rfl
theorem acall14 {args : List AV} (hn : args.length ≤ 37) {H : Heap} {v : AV} {H' : Heap} (h : ac Try.prog c14 (argEnv 0 args) H (Fin H rs14 v H')) : ACall Try.prog 14 args H v H' :=
  acall Try.func14 (c := Try.f14.body.getD .skip) rfl k14 (by kernel_rfl) hn h
theorem acallK14 {args : List AV} (hn : args.length ≤ 37) {H : Heap} {v : AV} {H' : Heap} (h : ac Try.prog c14 (argEnv 0 args) H (FinK rs14 v H')) : ACall Try.prog 14 args H v H' :=
  acallK Try.func14 (c := Try.f14.body.getD .skip) rfl k14 (by kernel_rfl) hn h

/- alidade/alidaderef06.Ints -/
def c15l0 : SC :=
  (.seq (.seq (.reg [⟨some 11, .mv, [.r 5], none, []⟩,
      ⟨some 12, .mv, [.r 0], none, []⟩,
      ⟨some 13, .len, [.r 12], none, [12]⟩,
      ⟨some 14, (.bin .lss), [.r 11, .r 13], none, [11, 13]⟩])
    (.cond (.r 14)
      (.kl [14] .skip)
      (.kl [0, 1, 5, 14] (.exit 0))))
    (.seq (.block 1 (.seq (.dreg [⟨0, 0, false, false, ⟨some 17, .mv, [.r 0], none, []⟩⟩,
      ⟨1, 0, false, false, ⟨some 18, .mv, [.r 5], none, []⟩⟩,
      ⟨2, 3, false, false, ⟨some 19, (.iaddrS 1), [.r 17, .r 18], none, [17, 18]⟩⟩,
      ⟨3, 7, false, false, ⟨some 20, .ld1, [.r 19], none, [19]⟩⟩,
      ⟨4, 0, false, false, ⟨some 21, .mv, [.r 1], none, []⟩⟩,
      ⟨5, 0, false, false, ⟨some 22, .mv, [.r 5], none, []⟩⟩,
      ⟨6, 48, false, false, ⟨some 23, (.iaddrS 1), [.r 21, .r 22], none, [21, 22]⟩⟩,
      ⟨7, 112, false, false, ⟨some 24, .ld1, [.r 23], none, [23]⟩⟩,
      ⟨8, 255, false, false, ⟨some 25, (.bin .neq), [.r 20, .r 24], none, [20, 24]⟩⟩])
    (.cond (.r 25)
      (.kl [0, 1, 5, 25] (.seq (.reg [⟨some 4, .mv, [.c (.bool false)], none, []⟩])
      .ret))
      (.kl [25] .skip))))
    (.reg [⟨some 15, .mv, [.r 5], none, [5]⟩,
      ⟨some 16, (.bin .add), [.r 15, .c (.int .i64 1)], none, [15]⟩,
      ⟨some 5, .mv, [.r 16], none, [16]⟩])))
def c15 : SC :=
  (.seq (.reg [⟨some 4, .mv, [.c (.bool false)], none, []⟩])
  (.seq (.seq (.reg [⟨some 6, .mv, [.r 0], none, [4]⟩,
    ⟨some 7, .len, [.r 6], none, [6]⟩,
    ⟨some 8, .mv, [.r 1], none, []⟩,
    ⟨some 9, .len, [.r 8], none, [8]⟩,
    ⟨some 10, (.bin .neq), [.r 7, .r 9], none, [7, 9]⟩])
  (.cond (.r 10)
    (.kl [0, 1, 10] (.seq (.reg [⟨some 4, .mv, [.c (.bool false)], none, []⟩])
    .ret))
    (.kl [10] .skip)))
  (.seq (.seq (.reg [⟨some 5, .mv, [.c (.int .i64 0)], none, []⟩])
  (.block 0 (.loop c15l0)))
  (.seq (.reg [⟨some 4, .mv, [.c (.bool true)], none, []⟩])
  .ret))))
def rs15 : List SR := [.tmp 4]
theorem k15 : okC Try.prog 26 (Try.f15.body.getD .skip) c15 = true := by kernel_rfl
theorem acall15 {args : List AV} (hn : args.length ≤ 26) {H : Heap} {v : AV} {H' : Heap} (h : ac Try.prog c15 (argEnv 0 args) H (Fin H rs15 v H')) : ACall Try.prog 15 args H v H' :=
  acall Try.func15 (c := Try.f15.body.getD .skip) rfl k15 (by kernel_rfl) hn h
theorem acallK15 {args : List AV} (hn : args.length ≤ 26) {H : Heap} {v : AV} {H' : Heap} (h : ac Try.prog c15 (argEnv 0 args) H (FinK rs15 v H')) : ACall Try.prog 15 args H v H' :=
  acallK Try.func15 (c := Try.f15.body.getD .skip) rfl k15 (by kernel_rfl) hn h

/- alidade/nvram.Torn -/
def c16 : SC :=
  (.seq (.reg [⟨some 3, .box, [.r 0], none, [0]⟩,
    ⟨some 6, (.alloc [.nils, (.int .i64 0), .nils, (.int .i64 0)]), [], none, []⟩,
    ⟨some 7, .mv, [.c (.int .i64 0)], none, []⟩])
  (.seq (.reg [⟨some 15, (.ldn 4), [.r 3], none, [7]⟩,
    ⟨some 16, (.call 12), [.r 15], none, [15]⟩,
    ⟨some 14, .mv, [.r 16], none, [16]⟩,
    ⟨some 17, (.ext 0), [.r 14], none, []⟩,
    ⟨some 18, (.ext 1), [.r 14], none, []⟩,
    ⟨some 19, (.ext 2), [.r 14], none, [14]⟩,
    ⟨some 8, .mv, [.r 17], none, [17]⟩,
    ⟨some 9, .mv, [.r 18], none, [8, 18]⟩,
    ⟨some 10, .mv, [.r 19], none, [19]⟩])
  (.seq (.seq (.reg [⟨some 20, .mv, [.r 1], none, [10]⟩,
    ⟨some 21, .len, [.r 20], none, [20]⟩,
    ⟨some 22, (.bin .gtr), [.r 21, .c (.int .i64 600)], none, [21]⟩,
    ⟨some 23, .mv, [.r 22], none, [22]⟩,
    ⟨some 24, .mv, [.r 9], (some (23, false)), []⟩,
    ⟨some 25, (.bin .eql), [.r 24, .c (.int .i64 4611686018427387904)], (some (23, false)), [24]⟩,
    ⟨some 26, .pick, [.r 23, .c (.bool true), .r 25], none, [23, 25]⟩])
  (.cond (.r 26)
    (.kl [1, 2, 9, 26] (.seq (.reg [⟨some 27, (.ldn 4), [.r 3], none, [3]⟩,
      ⟨none, (.st 4), [.r 6, .r 27], none, [27]⟩,
      ⟨some 7, .mv, [.c (.int .i64 5)], none, []⟩])
    .ret))
    (.kl [26] .skip)))
  (.seq (.reg [⟨some 28, (.ldn 4), [.r 3], none, []⟩,
    ⟨some 29, (.call 25), [.r 28], none, [28]⟩,
    ⟨some 30, .mx, [.r 29, .c (.int .i64 (-1))], none, [29]⟩,
    ⟨some 31, (.bin .add), [.r 30, .c (.int .i64 1)], none, [30]⟩,
    ⟨some 11, .mv, [.r 31], none, [31]⟩])
  (.seq (.seq (.reg [⟨some 32, .mv, [.r 11], none, []⟩,
    ⟨some 33, (.bin .gtr), [.r 32, .c (.int .i64 1)], none, [32]⟩])
  (.cond (.r 33)
    (.kl [11, 33] (.reg [⟨some 11, .mv, [.c (.int .i64 0)], none, []⟩]))
    (.kl [33] .skip)))
  (.seq (.reg [⟨some 34, .mv, [.r 9], none, [9]⟩,
    ⟨some 35, (.bin .add), [.r 34, .c (.int .i64 1)], none, [34]⟩,
    ⟨some 36, (.bslice 1 1 [(.int .i64 0)] [(0, 1)]), [.r 35], none, [35]⟩,
    ⟨some 37, .mv, [.r 1], none, []⟩,
    ⟨some 38, (.bslice 1 2 [.nils, .nils] [(0, 1), (1, 1)]), [.r 36, .r 37], none, [36, 37]⟩,
    ⟨some 39, (.call 27), [.r 38], none, [38]⟩,
    ⟨some 12, .mv, [.r 39], none, [39]⟩])
  (.seq (.reg [⟨some 40, .mv, [.r 11], none, [11]⟩,
    ⟨some 41, (.faddr 0), [.r 3], none, []⟩,
    ⟨some 42, (.iaddrA 2 2), [.r 41, .r 40], none, [40, 41]⟩,
    ⟨some 13, .mv, [.r 42], none, [42]⟩])
  (.seq (.block 0 (.seq (.reg [⟨some 44, .mv, [.r 2], none, []⟩,
    ⟨some 45, .mv, [.r 1], none, [1]⟩,
    ⟨some 46, (.call 17), [.r 45], none, [45]⟩,
    ⟨some 47, (.bin .geq), [.r 44, .r 46], none, [44, 46]⟩,
    ⟨some 43, .mv, [.r 47], none, [47]⟩])
  (.cond (.r 43)
    (.kl [2, 43] (.reg [⟨some 48, .mv, [.r 13], none, []⟩,
      ⟨some 49, .mv, [.r 13], none, [13]⟩,
      ⟨some 50, .mv, [.r 12], none, []⟩,
      ⟨some 51, .mv, [.r 12], none, [12]⟩,
      ⟨some 52, (.call 19), [.r 51], none, [51]⟩,
      ⟨some 53, .nilchk, [.r 48], none, [48]⟩,
      ⟨some 54, (.faddr 0), [.r 53], none, [53]⟩,
      ⟨none, (.st 1), [.r 54, .r 50], none, [50, 54]⟩,
      ⟨some 55, .nilchk, [.r 49], none, [49]⟩,
      ⟨some 56, (.faddr 1), [.r 55], none, [55]⟩,
      ⟨none, (.st 1), [.r 56, .r 52], none, [52, 56]⟩]))
    (.kl [43] (.seq (.reg [⟨some 58, .mv, [.r 2], none, []⟩,
      ⟨some 59, (.bin .gtr), [.r 58, .c (.int .i64 1)], none, [58]⟩,
      ⟨some 57, .mv, [.r 59], none, [59]⟩])
    (.cond (.r 57)
      (.kl [57] (.reg [⟨some 60, .mv, [.r 13], none, []⟩,
        ⟨some 61, .mv, [.r 13], none, [13]⟩,
        ⟨some 62, .mv, [.r 12], none, [12]⟩,
        ⟨some 63, .mv, [.r 2], none, []⟩,
        ⟨some 64, (.bin .sub), [.r 63, .c (.int .i64 1)], none, [63]⟩,
        ⟨some 65, .mv, [.r 2], none, [2]⟩,
        ⟨some 66, (.bin .sub), [.r 65, .c (.int .i64 1)], none, [65]⟩,
        ⟨some 67, (.slice 1 false true true), [.r 62, .r 64, .r 66], none, [62, 64, 66]⟩,
        ⟨some 68, .nilchk, [.r 60], none, [60]⟩,
        ⟨some 69, (.faddr 0), [.r 68], none, [68]⟩,
        ⟨none, (.st 1), [.r 69, .r 67], none, [67, 69]⟩,
        ⟨some 70, .nilchk, [.r 61], none, [61]⟩,
        ⟨some 71, (.faddr 1), [.r 70], none, [70]⟩,
        ⟨none, (.st 1), [.r 71, .c (.int .i64 0)], none, [71]⟩]))
      (.kl [12, 57] (.seq (.reg [⟨some 73, .mv, [.r 2], none, [2]⟩,
        ⟨some 74, (.bin .eql), [.r 73, .c (.int .i64 1)], none, [73]⟩,
        ⟨some 72, .mv, [.r 74], none, [74]⟩])
      (.cond (.r 72)
        (.kl [72] (.reg [⟨some 75, .mv, [.r 13], none, [13]⟩,
          ⟨some 76, .nilchk, [.r 75], none, [75]⟩,
          ⟨some 77, (.faddr 1), [.r 76], none, [76]⟩,
          ⟨none, (.st 1), [.r 77, .c (.int .i64 0)], none, [77]⟩]))
        (.kl [13, 72] .skip))))))))))
  (.seq (.reg [⟨some 78, (.ldn 4), [.r 3], none, [3]⟩,
    ⟨none, (.st 4), [.r 6, .r 78], none, [78]⟩,
    ⟨some 7, .mv, [.c (.int .i64 0)], none, []⟩])
  .ret)))))))))
def rs16 : List SR := [.celln 6 4, .tmp 7]
theorem k16 : okC Try.prog 79 (Try.f16.body.getD .skip) c16 = true := by kernel_rfl
theorem acall16 {args : List AV} (hn : args.length ≤ 79) {H : Heap} {v : AV} {H' : Heap} (h : ac Try.prog c16 (argEnv 0 args) H (Fin H rs16 v H')) : ACall Try.prog 16 args H v H' :=
  acall Try.func16 (c := Try.f16.body.getD .skip) rfl k16 (by kernel_rfl) hn h
theorem acallK16 {args : List AV} (hn : args.length ≤ 79) {H : Heap} {v : AV} {H' : Heap} (h : ac Try.prog c16 (argEnv 0 args) H (FinK rs16 v H')) : ACall Try.prog 16 args H v H' :=
  acallK Try.func16 (c := Try.f16.body.getD .skip) rfl k16 (by kernel_rfl) hn h

/- alidade/nvram.Steps -/
def c17 : SC :=
  (.seq (.reg [⟨some 2, .mv, [.c (.int .i64 0)], none, []⟩])
  (.seq (.reg [⟨some 3, .mv, [.r 0], none, [0, 2]⟩,
    ⟨some 4, .len, [.r 3], none, [3]⟩,
    ⟨some 5, (.bin .add), [.r 4, .c (.int .i64 3)], none, [4]⟩,
    ⟨some 2, .mv, [.r 5], none, [5]⟩])
  .ret))
def rs17 : List SR := [.tmp 2]
theorem k17 : okC Try.prog 6 (Try.f17.body.getD .skip) c17 = true := by kernel_rfl
theorem acall17 {args : List AV} (hn : args.length ≤ 6) {H : Heap} {v : AV} {H' : Heap} (h : ac Try.prog c17 (argEnv 0 args) H (Fin H rs17 v H')) : ACall Try.prog 17 args H v H' :=
  acall Try.func17 (c := Try.f17.body.getD .skip) rfl k17 (by kernel_rfl) hn h
theorem acallK17 {args : List AV} (hn : args.length ≤ 6) {H : Heap} {v : AV} {H' : Heap} (h : ac Try.prog c17 (argEnv 0 args) H (FinK rs17 v H')) : ACall Try.prog 17 args H v H' :=
  acallK Try.func17 (c := Try.f17.body.getD .skip) rfl k17 (by kernel_rfl) hn h

/- alidade/alidaderef10.Commit -/
def c18l0 : SC :=
  (.seq (.seq (.reg [⟨some 13, .mv, [.r 6], none, []⟩,
        ⟨some 14, (.bin .lss), [.r 13, .c (.int .i64 8)], none, [13]⟩])
      (.cond (.r 14)
        (.kl [14] .skip)
        (.kl [5, 6, 14] (.exit 2))))
      (.seq (.block 3 (.seq (.reg [⟨some 17, .mv, [.r 3], none, [3]⟩,
        ⟨some 18, .mv, [.r 0], none, []⟩,
        ⟨some 19, .mv, [.r 4], none, []⟩,
        ⟨some 20, (.iaddrS 1), [.r 18, .r 19], none, [18, 19]⟩,
        ⟨some 21, .ld1, [.r 20], none, [20]⟩,
        ⟨some 22, (.conv .u64), [.r 21], none, [21]⟩,
        ⟨some 23, .mv, [.r 5], none, []⟩,
        ⟨some 24, (.bin .quo), [.r 22, .r 23], none, [22, 23]⟩,
        ⟨some 25, (.bin .rem), [.r 24, .c (.int .u64 256)], none, [24]⟩,
        ⟨some 26, (.conv .u8), [.r 25], none, [25]⟩,
        ⟨some 27, (.bslice 1 1 [(.int .u8 0)] [(0, 1)]), [.r 26], none, [26]⟩,
        ⟨some 28, (.app 1 1), [.r 17, .r 27], none, [17, 27]⟩,
        ⟨some 3, .mv, [.r 28], none, [28]⟩])
      (.reg [⟨some 29, .mv, [.r 5], none, [5]⟩,
        ⟨some 30, (.bin .quo), [.r 29, .c (.int .u64 256)], none, [29]⟩,
        ⟨some 5, .mv, [.r 30], none, [30]⟩])))
      (.reg [⟨some 15, .mv, [.r 6], none, [6]⟩,
        ⟨some 16, (.bin .add), [.r 15, .c (.int .i64 1)], none, [15]⟩,
        ⟨some 6, .mv, [.r 16], none, [16]⟩])))
def c18l1 : SC :=
  (.seq (.seq (.reg [⟨some 7, .mv, [.r 4], none, []⟩,
      ⟨some 8, .mv, [.r 0], none, []⟩,
      ⟨some 9, .len, [.r 8], none, [8]⟩,
      ⟨some 10, (.bin .lss), [.r 7, .r 9], none, [7, 9]⟩])
    (.cond (.r 10)
      (.kl [10] .skip)
      (.kl [0, 4, 10] (.exit 0))))
    (.seq (.block 1 (.seq (.reg [⟨some 5, .mv, [.c (.int .u64 72057594037927936)], none, []⟩])
    (.seq (.reg [⟨some 6, .mv, [.c (.int .i64 0)], none, []⟩])
    (.block 2 (.loop c18l0)))))
    (.reg [⟨some 11, .mv, [.r 4], none, [4]⟩,
      ⟨some 12, (.bin .add), [.r 11, .c (.int .i64 1)], none, [11]⟩,
      ⟨some 4, .mv, [.r 12], none, [12]⟩])))
def c18 : SC :=
  (.seq (.reg [⟨some 2, .mv, [.c (.int .i64 0)], none, []⟩])
  (.seq (.reg [⟨some 3, .mv, [.c .nils], none, [2]⟩])
  (.seq (.seq (.reg [⟨some 4, .mv, [.c (.int .i64 0)], none, []⟩])
  (.block 0 (.loop c18l1)))
  (.seq (.reg [⟨some 31, .mv, [.r 3], none, [3]⟩,
    ⟨some 32, (.call 28), [.r 31], none, [31]⟩,
    ⟨some 33, (.conv .i64), [.r 32], none, [32]⟩,
    ⟨some 34, (.bin .add), [.r 33, .c (.int .i64 4294967296)], none, [33]⟩,
    ⟨some 2, .mv, [.r 34], none, [34]⟩])
  .ret))))
def rs18 : List SR := [.tmp 2]
theorem k18 : okC Try.prog 35 (Try.f18.body.getD .skip) c18 = true := by kernel_rfl
theorem acall18 {args : List AV} (hn : args.length ≤ 35) {H : Heap} {v : AV} {H' : Heap} (h : ac Try.prog c18 (argEnv 0 args) H (Fin H rs18 v H')) : ACall Try.prog 18 args H v H' :=
  acall Try.func18 (c := Try.f18.body.getD .skip) rfl k18 (by kernel_rfl) hn h
theorem acallK18 {args : List AV} (hn : args.length ≤ 35) {H : Heap} {v : AV} {H' : Heap} (h : ac Try.prog c18 (argEnv 0 args) H (FinK rs18 v H')) : ACall Try.prog 18 args H v H' :=
  acallK Try.func18 (c := Try.f18.body.getD .skip) rfl k18 (by kernel_rfl) hn h

/- alidade/nvram.Commit -/
def c19l0 : SC :=
  (.seq (.reg [⟨some 14, (.bin .lss), [.r 13, .c (.int .i64 8)], none, []⟩])
      (.seq (.cond (.r 14)
        (.kl [14] .skip)
        (.kl [5, 13, 14] (.exit 2)))
      (.seq (.block 3 (.seq (.reg [⟨some 15, .mv, [.r 13], none, []⟩,
        ⟨some 6, .mv, [.r 15], none, [15]⟩])
      (.reg [⟨some 16, .mv, [.r 3], none, [3]⟩,
        ⟨some 17, .mv, [.r 5], none, []⟩,
        ⟨some 18, (.conv .u64), [.r 17], none, [17]⟩,
        ⟨some 19, .mv, [.r 6], none, [6]⟩,
        ⟨some 20, (.bin .mul), [.c (.int .i64 8), .r 19], none, [19]⟩,
        ⟨some 21, (.bin .sub), [.c (.int .i64 56), .r 20], none, [20]⟩,
        ⟨some 22, (.bin .shr), [.r 18, .r 21], none, [18, 21]⟩,
        ⟨some 23, (.conv .u8), [.r 22], none, [22]⟩,
        ⟨some 24, (.bslice 1 1 [(.int .u8 0)] [(0, 1)]), [.r 23], none, [23]⟩,
        ⟨some 25, (.app 1 1), [.r 16, .r 24], none, [16, 24]⟩,
        ⟨some 3, .mv, [.r 25], none, [25]⟩])))
      (.reg [⟨some 26, (.bin .add), [.r 13, .c (.int .i64 1)], none, [13]⟩,
        ⟨some 13, .mv, [.r 26], none, [26]⟩]))))
def c19l1 : SC :=
  (.seq (.reg [⟨some 10, (.bin .lss), [.r 9, .r 8], none, []⟩])
    (.seq (.cond (.r 10)
      (.kl [10] .skip)
      (.kl [7, 8, 9, 10] (.exit 0)))
    (.seq (.block 1 (.seq (.reg [⟨some 11, (.iaddrS 1), [.r 7, .r 9], none, []⟩,
      ⟨some 12, .ld1, [.r 11], none, [11]⟩,
      ⟨some 5, .mv, [.r 12], none, [12]⟩])
    (.seq (.reg [⟨some 13, .mv, [.c (.int .i64 0)], none, []⟩])
    (.block 2 (.loop c19l0)))))
    (.reg [⟨some 27, (.bin .add), [.r 9, .c (.int .i64 1)], none, [9]⟩,
      ⟨some 9, .mv, [.r 27], none, [27]⟩]))))
def c19 : SC :=
  (.seq (.reg [⟨some 2, .mv, [.c (.int .i64 0)], none, []⟩])
  (.seq (.reg [⟨some 3, .mv, [.c .nils], none, [2]⟩])
  (.seq (.seq (.reg [⟨some 7, .mv, [.r 0], none, [0]⟩,
    ⟨some 8, .len, [.r 7], none, []⟩,
    ⟨some 9, .mv, [.c (.int .i64 0)], none, []⟩])
  (.block 0 (.loop c19l1)))
  (.seq (.reg [⟨some 28, .mv, [.r 3], none, [3]⟩,
    ⟨some 29, (.call 29), [.r 28], none, [28]⟩,
    ⟨some 30, (.conv .i64), [.r 29], none, [29]⟩,
    ⟨some 31, (.bin .add), [.r 30, .c (.int .i64 4294967296)], none, [30]⟩,
    ⟨some 2, .mv, [.r 31], none, [31]⟩])
  .ret))))
def rs19 : List SR := [.tmp 2]
theorem k19 : okC Try.prog 32 (Try.f19.body.getD .skip) c19 = true := by kernel_rfl
theorem acall19 {args : List AV} (hn : args.length ≤ 32) {H : Heap} {v : AV} {H' : Heap} (h : ac Try.prog c19 (argEnv 0 args) H (Fin H rs19 v H')) : ACall Try.prog 19 args H v H' :=
  acall Try.func19 (c := Try.f19.body.getD .skip) rfl k19 (by kernel_rfl) hn h
theorem acallK19 {args : List AV} (hn : args.length ≤ 32) {H : Heap} {v : AV} {H' : Heap} (h : ac Try.prog c19 (argEnv 0 args) H (FinK rs19 v H')) : ACall Try.prog 19 args H v H' :=
  acallK Try.func19 (c := Try.f19.body.getD .skip) rfl k19 (by kernel_rfl) hn h

/- alidade/alidaderef10.Read -/
def c20 : SC :=
  (.seq (.reg [⟨some 1, .box, [.r 0], none, [0]⟩,
    ⟨some 2, .mv, [.c .nils], none, []⟩,
    ⟨some 3, .mv, [.c (.int .i64 0)], none, [2]⟩,
    ⟨some 4, .mv, [.c (.bool false)], none, [3]⟩])
  (.seq (.reg [⟨some 6, (.ldn 4), [.r 1], none, [4]⟩,
    ⟨some 7, (.call 30), [.r 6], none, [6]⟩,
    ⟨some 5, .mv, [.r 7], none, [7]⟩])
  (.seq (.seq (.reg [⟨some 8, .mv, [.r 5], none, []⟩,
    ⟨some 9, (.bin .eql), [.r 8, .c (.int .i64 2)], none, [8]⟩])
  (.cond (.r 9)
    (.kl [1, 5, 9] (.seq (.reg [⟨some 2, .mv, [.c .nils], none, []⟩,
      ⟨some 3, .mv, [.c (.int .i64 0)], none, []⟩,
      ⟨some 4, .mv, [.c (.bool false)], none, []⟩])
    .ret))
    (.kl [9] .skip)))
  (.seq (.dreg [⟨1, 0, false, false, ⟨some 11, .mv, [.r 5], none, []⟩⟩,
    ⟨2, 0, false, false, ⟨some 12, (.faddr 0), [.r 1], none, []⟩⟩,
    ⟨3, 6, false, false, ⟨some 13, (.iaddrA 2 2), [.r 12, .r 11], none, [11, 12]⟩⟩,
    ⟨4, 14, false, false, ⟨some 14, (.faddr 0), [.r 13], none, [13]⟩⟩,
    ⟨5, 30, false, false, ⟨some 15, .ld1, [.r 14], none, [14]⟩⟩,
    ⟨6, 62, false, false, ⟨some 16, (.slice 1 true false false), [.r 15, .c (.int .i64 1)], none, [15]⟩⟩,
    ⟨8, 0, false, false, ⟨some 18, .mv, [.r 5], none, [5]⟩⟩,
    ⟨9, 0, false, false, ⟨some 19, (.faddr 0), [.r 1], none, [1]⟩⟩,
    ⟨10, 768, false, false, ⟨some 20, (.iaddrA 2 2), [.r 19, .r 18], none, [18, 19]⟩⟩,
    ⟨11, 1792, false, false, ⟨some 21, (.faddr 0), [.r 20], none, [20]⟩⟩,
    ⟨12, 3840, false, false, ⟨some 22, .ld1, [.r 21], none, [21]⟩⟩,
    ⟨13, 7936, false, false, ⟨some 23, (.iaddrS 1), [.r 22, .c (.int .i64 0)], none, [22]⟩⟩,
    ⟨14, 16128, false, false, ⟨some 24, .ld1, [.r 23], none, [23]⟩⟩,
    ⟨0, 0, true, false, ⟨some 10, (.bslice 1 0 [] []), [], none, []⟩⟩,
    ⟨7, 127, true, false, ⟨some 17, (.app 1 8), [.r 10, .r 16], none, [10, 16]⟩⟩,
    ⟨15, 255, false, false, ⟨some 2, .mv, [.r 17], none, [17]⟩⟩,
    ⟨16, 65535, false, false, ⟨some 3, .mv, [.r 24], none, [24]⟩⟩,
    ⟨17, 131071, false, false, ⟨some 4, .mv, [.c (.bool true)], none, []⟩⟩])
  .ret))))
def rs20 : List SR := [.tmp 2, .tmp 3, .tmp 4]
theorem k20 : okC Try.prog 25 (Try.f20.body.getD .skip) c20 = true := by kernel_rfl
theorem acall20 {args : List AV} (hn : args.length ≤ 25) {H : Heap} {v : AV} {H' : Heap} (h : ac Try.prog c20 (argEnv 0 args) H (Fin H rs20 v H')) : ACall Try.prog 20 args H v H' :=
  acall Try.func20 (c := Try.f20.body.getD .skip) rfl k20 (by kernel_rfl) hn h
theorem acallK20 {args : List AV} (hn : args.length ≤ 25) {H : Heap} {v : AV} {H' : Heap} (h : ac Try.prog c20 (argEnv 0 args) H (FinK rs20 v H')) : ACall Try.prog 20 args H v H' :=
  acallK Try.func20 (c := Try.f20.body.getD .skip) rfl k20 (by kernel_rfl) hn h

/- alidade/alidaderef10.Write -/
def c21 : SC :=
  (.seq (.reg [⟨some 2, .box, [.r 0], none, [0]⟩,
    ⟨some 4, (.alloc [.nils, (.int .i64 0), .nils, (.int .i64 0)]), [], none, []⟩,
    ⟨some 5, .mv, [.c (.int .i64 0)], none, []⟩])
  (.seq (.reg [⟨some 6, (.ldn 4), [.r 2], none, [2, 5]⟩,
    ⟨some 7, .mv, [.r 1], none, []⟩,
    ⟨some 8, .mv, [.r 1], none, [1]⟩,
    ⟨some 9, .len, [.r 8], none, [8]⟩,
    ⟨some 10, (.bin .add), [.c (.int .i64 3), .r 9], none, [9]⟩,
    ⟨some 11, (.call 22), [.r 6, .r 7, .r 10], none, [6, 7, 10]⟩,
    ⟨some 12, (.ext 0), [.r 11], none, []⟩,
    ⟨some 13, (.ext 1), [.r 11], none, [11]⟩,
    ⟨none, (.st 4), [.r 4, .r 12], none, [12]⟩,
    ⟨some 5, .mv, [.r 13], none, [13]⟩])
  .ret))
def rs21 : List SR := [.celln 4 4, .tmp 5]
theorem k21 : okC Try.prog 14 (Try.f21.body.getD .skip) c21 = true := by kernel_rfl
theorem acall21 {args : List AV} (hn : args.length ≤ 14) {H : Heap} {v : AV} {H' : Heap} (h : ac Try.prog c21 (argEnv 0 args) H (Fin H rs21 v H')) : ACall Try.prog 21 args H v H' :=
  acall Try.func21 (c := Try.f21.body.getD .skip) rfl k21 (by kernel_rfl) hn h
theorem acallK21 {args : List AV} (hn : args.length ≤ 14) {H : Heap} {v : AV} {H' : Heap} (h : ac Try.prog c21 (argEnv 0 args) H (FinK rs21 v H')) : ACall Try.prog 21 args H v H' :=
  acallK Try.func21 (c := Try.f21.body.getD .skip) rfl k21 (by kernel_rfl) hn h

/- alidade/alidaderef10.Torn -/
def c22 : SC :=
  (.seq (.reg [⟨some 3, .box, [.r 0], none, [0]⟩,
    ⟨some 6, (.alloc [.nils, (.int .i64 0), .nils, (.int .i64 0)]), [], none, []⟩,
    ⟨some 7, .mv, [.c (.int .i64 0)], none, []⟩])
  (.seq (.reg [⟨some 14, (.ldn 4), [.r 3], none, [7]⟩,
    ⟨some 15, (.call 30), [.r 14], none, [14]⟩,
    ⟨some 8, .mv, [.r 15], none, [15]⟩])
  (.seq (.reg [⟨some 9, .mv, [.c (.int .i64 0)], none, []⟩])
  (.seq (.reg [⟨some 10, .mv, [.c (.int .i64 0)], none, []⟩])
  (.seq (.seq (.reg [⟨some 16, .mv, [.r 8], none, []⟩,
    ⟨some 17, (.bin .lss), [.r 16, .c (.int .i64 2)], none, [16]⟩])
  (.cond (.r 17)
    (.kl [9, 10, 17] (.seq (.reg [⟨some 18, .mv, [.r 8], none, []⟩,
      ⟨some 19, (.faddr 0), [.r 3], none, []⟩,
      ⟨some 20, (.iaddrA 2 2), [.r 19, .r 18], none, [18, 19]⟩,
      ⟨some 21, (.faddr 0), [.r 20], none, [20]⟩,
      ⟨some 22, .ld1, [.r 21], none, [21]⟩,
      ⟨some 23, (.iaddrS 1), [.r 22, .c (.int .i64 0)], none, [22]⟩,
      ⟨some 24, .ld1, [.r 23], none, [23]⟩,
      ⟨some 9, .mv, [.r 24], none, [24]⟩])
    (.reg [⟨some 25, .mv, [.r 8], none, [8]⟩,
      ⟨some 26, (.bin .sub), [.c (.int .i64 1), .r 25], none, [25]⟩,
      ⟨some 10, .mv, [.r 26], none, [26]⟩])))
    (.kl [8, 17] .skip)))
  (.seq (.seq (.reg [⟨some 27, .mv, [.r 1], none, []⟩,
    ⟨some 28, .len, [.r 27], none, [27]⟩,
    ⟨some 29, (.bin .gtr), [.r 28, .c (.int .i64 600)], none, [28]⟩,
    ⟨some 30, .mv, [.r 29], none, [29]⟩,
    ⟨some 31, .mv, [.r 9], (some (30, false)), []⟩,
    ⟨some 32, (.bin .eql), [.r 31, .c (.int .i64 4611686018427387904)], (some (30, false)), [31]⟩,
    ⟨some 33, .pick, [.r 30, .c (.bool true), .r 32], none, [30, 32]⟩])
  (.cond (.r 33)
    (.kl [1, 2, 9, 10, 33] (.seq (.reg [⟨some 34, (.ldn 4), [.r 3], none, [3]⟩,
      ⟨none, (.st 4), [.r 6, .r 34], none, [34]⟩,
      ⟨some 7, .mv, [.c (.int .i64 5)], none, []⟩])
    .ret))
    (.kl [33] .skip)))
  (.seq (.seq (.reg [⟨some 35, .mv, [.r 2], none, []⟩,
    ⟨some 36, (.bin .leq), [.r 35, .c (.int .i64 0)], none, [35]⟩])
  (.cond (.r 36)
    (.kl [1, 2, 9, 10, 36] (.seq (.reg [⟨some 37, (.ldn 4), [.r 3], none, [3]⟩,
      ⟨none, (.st 4), [.r 6, .r 37], none, [37]⟩,
      ⟨some 7, .mv, [.c (.int .i64 0)], none, []⟩])
    .ret))
    (.kl [36] .skip)))
  (.seq (.reg [⟨some 38, .mv, [.r 10], none, []⟩,
    ⟨some 39, (.faddr 0), [.r 3], none, []⟩,
    ⟨some 40, (.iaddrA 2 2), [.r 39, .r 38], none, [38, 39]⟩,
    ⟨some 41, (.faddr 0), [.r 40], none, [40]⟩,
    ⟨some 42, .ld1, [.r 41], none, [41]⟩,
    ⟨some 43, (.build [.nils, (.int .i64 0)] [(0, 1)]), [.r 42], none, [42]⟩,
    ⟨some 11, (.alloc [.nils, (.int .i64 0)]), [], none, []⟩,
    ⟨none, (.st 2), [.r 11, .r 43], none, [43]⟩])
  (.seq (.seq (.reg [⟨some 44, .mv, [.r 2], none, []⟩,
    ⟨some 45, (.bin .gtr), [.r 44, .c (.int .i64 1)], none, [44]⟩])
  (.cond (.r 45)
    (.kl [45] (.seq (.reg [⟨some 46, .mv, [.r 9], none, [9]⟩,
      ⟨some 47, (.bin .add), [.r 46, .c (.int .i64 1)], none, [46]⟩,
      ⟨some 48, (.bslice 1 1 [(.int .i64 0)] [(0, 1)]), [.r 47], none, [47]⟩,
      ⟨some 49, .mv, [.r 1], none, []⟩,
      ⟨some 50, (.app 1 8), [.r 48, .r 49], none, [48, 49]⟩,
      ⟨some 12, .mv, [.r 50], none, [50]⟩])
    (.seq (.reg [⟨some 51, .mv, [.r 2], none, []⟩,
      ⟨some 52, .mv, [.r 1], none, [1]⟩,
      ⟨some 53, .len, [.r 52], none, [52]⟩,
      ⟨some 54, (.bin .add), [.c (.int .i64 3), .r 53], none, [53]⟩,
      ⟨some 55, (.bin .lss), [.r 51, .r 54], none, [51, 54]⟩])
    (.cond (.r 55)
      (.kl [55] (.reg [⟨some 56, .mv, [.r 12], none, [12]⟩,
        ⟨some 57, .mv, [.r 2], none, [2]⟩,
        ⟨some 58, (.bin .sub), [.r 57, .c (.int .i64 1)], none, [57]⟩,
        ⟨some 59, (.slice 1 false true false), [.r 56, .r 58], none, [56, 58]⟩,
        ⟨some 60, (.faddr 0), [.r 11], none, []⟩,
        ⟨none, (.st 1), [.r 60, .r 59], none, [59, 60]⟩]))
      (.kl [2, 55] (.seq (.reg [⟨some 61, .mv, [.r 12], none, []⟩,
        ⟨some 62, (.faddr 0), [.r 11], none, []⟩,
        ⟨none, (.st 1), [.r 62, .r 61], none, [61, 62]⟩])
      (.reg [⟨some 63, .mv, [.r 12], none, [12]⟩,
        ⟨some 64, (.call 18), [.r 63], none, [63]⟩,
        ⟨some 65, (.faddr 1), [.r 11], none, []⟩,
        ⟨none, (.st 1), [.r 65, .r 64], none, [64, 65]⟩])))))))
    (.kl [1, 2, 9, 45] .skip)))
  (.seq (.reg [⟨some 66, (.ldn 4), [.r 3], none, [3]⟩,
    ⟨some 13, (.alloc [.nils, (.int .i64 0), .nils, (.int .i64 0)]), [], none, []⟩,
    ⟨none, (.st 4), [.r 13, .r 66], none, [66]⟩])
  (.seq (.reg [⟨some 67, .mv, [.r 10], none, [10]⟩,
    ⟨some 68, (.ldn 2), [.r 11], none, [11]⟩,
    ⟨some 69, (.faddr 0), [.r 13], none, []⟩,
    ⟨some 70, (.iaddrA 2 2), [.r 69, .r 67], none, [67, 69]⟩,
    ⟨none, (.st 2), [.r 70, .r 68], none, [68, 70]⟩])
  (.seq (.reg [⟨some 71, (.ldn 4), [.r 13], none, [13]⟩,
    ⟨none, (.st 4), [.r 6, .r 71], none, [71]⟩,
    ⟨some 7, .mv, [.c (.int .i64 0)], none, []⟩])
  .ret))))))))))))
def rs22 : List SR := [.celln 6 4, .tmp 7]
theorem k22 : okC Try.prog 72 (Try.f22.body.getD .skip) c22 = true := by kernel_rfl
theorem acall22 {args : List AV} (hn : args.length ≤ 72) {H : Heap} {v : AV} {H' : Heap} (h : ac Try.prog c22 (argEnv 0 args) H (Fin H rs22 v H')) : ACall Try.prog 22 args H v H' :=
  acall Try.func22 (c := Try.f22.body.getD .skip) rfl k22 (by kernel_rfl) hn h
theorem acallK22 {args : List AV} (hn : args.length ≤ 72) {H : Heap} {v : AV} {H' : Heap} (h : ac Try.prog c22 (argEnv 0 args) H (FinK rs22 v H')) : ACall Try.prog 22 args H v H' :=
  acallK Try.func22 (c := Try.f22.body.getD .skip) rfl k22 (by kernel_rfl) hn h

/- alidade/nvram.Same -/
def c23 : SC :=
  (.seq (.reg [⟨some 2, .box, [.r 0], none, [0]⟩,
    ⟨some 3, .box, [.r 1], none, [1]⟩,
    ⟨some 4, .mv, [.c (.bool false)], none, []⟩])
  (.seq (.dreg [⟨0, 0, false, false, ⟨some 5, (.faddr 0), [.r 2], none, [2, 4]⟩⟩,
    ⟨1, 1, false, false, ⟨some 6, (.aslice 2 2 false false false), [.r 5], none, [5]⟩⟩,
    ⟨2, 0, false, false, ⟨some 7, (.faddr 0), [.r 3], none, [3]⟩⟩,
    ⟨3, 4, false, false, ⟨some 8, (.aslice 2 2 false false false), [.r 7], none, [7]⟩⟩,
    ⟨4, 15, false, false, ⟨some 9, (.call 31), [.r 6, .r 8, .c (.fn (.func 32) [] [])], none, [6, 8]⟩⟩,
    ⟨5, 31, false, false, ⟨some 4, .mv, [.r 9], none, [9]⟩⟩])
  .ret))
def rs23 : List SR := [.tmp 4]
theorem k23 : okC Try.prog 10 (Try.f23.body.getD .skip) c23 = true := by kernel_rfl
theorem acall23 {args : List AV} (hn : args.length ≤ 10) {H : Heap} {v : AV} {H' : Heap} (h : ac Try.prog c23 (argEnv 0 args) H (Fin H rs23 v H')) : ACall Try.prog 23 args H v H' :=
  acall Try.func23 (c := Try.f23.body.getD .skip) rfl k23 (by kernel_rfl) hn h
theorem acallK23 {args : List AV} (hn : args.length ≤ 10) {H : Heap} {v : AV} {H' : Heap} (h : ac Try.prog c23 (argEnv 0 args) H (FinK rs23 v H')) : ACall Try.prog 23 args H v H' :=
  acallK Try.func23 (c := Try.f23.body.getD .skip) rfl k23 (by kernel_rfl) hn h

/- alidade/alidaderef10.Steps -/
def c24 : SC :=
  (.seq (.reg [⟨some 2, .mv, [.c (.int .i64 0)], none, []⟩])
  (.seq (.reg [⟨some 3, .mv, [.r 0], none, [0, 2]⟩,
    ⟨some 4, .len, [.r 3], none, [3]⟩,
    ⟨some 5, (.bin .add), [.c (.int .i64 3), .r 4], none, [4]⟩,
    ⟨some 2, .mv, [.r 5], none, [5]⟩])
  .ret))
def rs24 : List SR := [.tmp 2]
theorem k24 : okC Try.prog 6 (Try.f24.body.getD .skip) c24 = true := by kernel_rfl
theorem acall24 {args : List AV} (hn : args.length ≤ 6) {H : Heap} {v : AV} {H' : Heap} (h : ac Try.prog c24 (argEnv 0 args) H (Fin H rs24 v H')) : ACall Try.prog 24 args H v H' :=
  acall Try.func24 (c := Try.f24.body.getD .skip) rfl k24 (by kernel_rfl) hn h
theorem acallK24 {args : List AV} (hn : args.length ≤ 6) {H : Heap} {v : AV} {H' : Heap} (h : ac Try.prog c24 (argEnv 0 args) H (FinK rs24 v H')) : ACall Try.prog 24 args H v H' :=
  acallK Try.func24 (c := Try.f24.body.getD .skip) rfl k24 (by kernel_rfl) hn h

/- alidade/nvram.newest -/
def c25 : SC :=
  (.seq (.reg [⟨some 1, .box, [.r 0], none, [0]⟩,
    ⟨some 2, .mv, [.c (.int .i64 0)], none, []⟩])
  (.seq (.reg [⟨some 4, (.mkfn (.func 34) 0), [.r 1], none, [2]⟩,
    ⟨some 3, .mv, [.r 4], none, [4]⟩])
  (.seq (.block 0 (.seq (.dreg [⟨0, 0, false, false, ⟨some 6, .mv, [.r 3], none, []⟩⟩,
    ⟨1, 1, false, false, ⟨some 7, .callv, [.r 6, .c (.int .i64 0)], none, [6]⟩⟩,
    ⟨2, 3, false, false, ⟨some 8, .mv, [.r 7], none, [7]⟩⟩,
    ⟨3, 7, false, false, ⟨some 9, .mv, [.r 3], (some (8, true)), []⟩⟩,
    ⟨4, 15, false, false, ⟨some 10, .callv, [.r 9, .c (.int .i64 1)], (some (8, true)), [9]⟩⟩,
    ⟨5, 31, false, false, ⟨some 11, (.un .not), [.r 10], (some (8, true)), [10]⟩⟩,
    ⟨6, 63, false, false, ⟨some 12, .mv, [.r 11], (some (8, true)), [11]⟩⟩,
    ⟨7, 127, false, false, ⟨some 13, (.faddr 0), [.r 1], (some (12, false)), []⟩⟩,
    ⟨8, 255, false, false, ⟨some 14, (.iaddrA 2 2), [.r 13, .c (.int .i64 0)], (some (12, false)), [13]⟩⟩,
    ⟨9, 511, false, false, ⟨some 15, (.faddr 0), [.r 14], (some (12, false)), [14]⟩⟩,
    ⟨10, 1023, false, false, ⟨some 16, .ld1, [.r 15], (some (12, false)), [15]⟩⟩,
    ⟨11, 2047, false, false, ⟨some 17, (.iaddrS 1), [.r 16, .c (.int .i64 0)], (some (12, false)), [16]⟩⟩,
    ⟨12, 4095, false, false, ⟨some 18, .ld1, [.r 17], (some (12, false)), [17]⟩⟩,
    ⟨13, 127, false, false, ⟨some 19, (.faddr 0), [.r 1], (some (12, false)), [1]⟩⟩,
    ⟨14, 8319, false, false, ⟨some 20, (.iaddrA 2 2), [.r 19, .c (.int .i64 1)], (some (12, false)), [19]⟩⟩,
    ⟨15, 24703, false, false, ⟨some 21, (.faddr 0), [.r 20], (some (12, false)), [20]⟩⟩,
    ⟨16, 57471, false, false, ⟨some 22, .ld1, [.r 21], (some (12, false)), [21]⟩⟩,
    ⟨17, 123007, false, false, ⟨some 23, (.iaddrS 1), [.r 22, .c (.int .i64 0)], (some (12, false)), [22]⟩⟩,
    ⟨18, 254079, false, false, ⟨some 24, .ld1, [.r 23], (some (12, false)), [23]⟩⟩,
    ⟨19, 524287, false, false, ⟨some 25, (.bin .geq), [.r 18, .r 24], (some (12, false)), [18, 24]⟩⟩,
    ⟨20, 1048575, false, false, ⟨some 26, .pick, [.r 12, .c (.bool true), .r 25], (some (8, true)), [12, 25]⟩⟩,
    ⟨21, 2097151, false, false, ⟨some 27, .pick, [.r 8, .r 26, .c (.bool false)], none, [8, 26]⟩⟩,
    ⟨22, 4194303, false, false, ⟨some 5, .mv, [.r 27], none, [27]⟩⟩])
  (.cond (.r 5)
    (.kl [3, 5] (.seq (.reg [⟨some 2, .mv, [.c (.int .i64 0)], none, []⟩])
    .ret))
    (.kl [5] (.seq (.reg [⟨some 29, .mv, [.r 3], none, [3]⟩,
      ⟨some 30, .callv, [.r 29, .c (.int .i64 1)], none, [29]⟩,
      ⟨some 28, .mv, [.r 30], none, [30]⟩])
    (.cond (.r 28)
      (.kl [28] (.seq (.reg [⟨some 2, .mv, [.c (.int .i64 1)], none, []⟩])
      .ret))
      (.kl [28] .skip)))))))
  (.seq (.reg [⟨some 2, .mv, [.c (.int .i64 (-1))], none, []⟩])
  .ret))))
def rs25 : List SR := [.tmp 2]
theorem k25 : okC Try.prog 31 (Try.f25.body.getD .skip) c25 = true := by kernel_rfl
theorem acall25 {args : List AV} (hn : args.length ≤ 31) {H : Heap} {v : AV} {H' : Heap} (h : ac Try.prog c25 (argEnv 0 args) H (Fin H rs25 v H')) : ACall Try.prog 25 args H v H' :=
  acall Try.func25 (c := Try.f25.body.getD .skip) rfl k25 (by kernel_rfl) hn h
theorem acallK25 {args : List AV} (hn : args.length ≤ 31) {H : Heap} {v : AV} {H' : Heap} (h : ac Try.prog c25 (argEnv 0 args) H (FinK rs25 v H')) : ACall Try.prog 25 args H v H' :=
  acallK Try.func25 (c := Try.f25.body.getD .skip) rfl k25 (by kernel_rfl) hn h

/- slices.Clone[[]int64,int64] -/
def c26 : SC :=
  (.seq (.reg [⟨some 2, .mv, [.c .nils], none, []⟩])
  (.seq (.seq (.reg [⟨some 3, .mv, [.r 0], none, [2]⟩,
    ⟨some 4, (.eqnil false), [.r 3], none, [3]⟩])
  (.cond (.r 4)
    (.kl [0, 4] (.seq (.reg [⟨some 2, .mv, [.c .nils], none, []⟩])
    .ret))
    (.kl [4] .skip)))
  (.seq (.reg [⟨some 5, (.bslice 1 0 [] []), [], none, []⟩,
    ⟨some 6, .mv, [.r 0], none, [0]⟩,
    ⟨some 7, (.app 1 8), [.r 5, .r 6], none, [5, 6]⟩,
    ⟨some 2, .mv, [.r 7], none, [7]⟩])
  .ret)))
def rs26 : List SR := [.tmp 2]
theorem k26 : okC Try.prog 8 (Try.f26.body.getD .skip) c26 = true := by kernel_rfl
theorem acall26 {args : List AV} (hn : args.length ≤ 8) {H : Heap} {v : AV} {H' : Heap} (h : ac Try.prog c26 (argEnv 0 args) H (Fin H rs26 v H')) : ACall Try.prog 26 args H v H' :=
  acall Try.func26 (c := Try.f26.body.getD .skip) rfl k26 (by kernel_rfl) hn h
theorem acallK26 {args : List AV} (hn : args.length ≤ 8) {H : Heap} {v : AV} {H' : Heap} (h : ac Try.prog c26 (argEnv 0 args) H (FinK rs26 v H')) : ACall Try.prog 26 args H v H' :=
  acallK Try.func26 (c := Try.f26.body.getD .skip) rfl k26 (by kernel_rfl) hn h

/- slices.Concat[[]int64,int64] -/
def c27l0 : SC :=
  (.seq (.reg [⟨some 28, (.bin .lss), [.r 27, .r 26], none, []⟩])
    (.seq (.cond (.r 28)
      (.kl [28] .skip)
      (.kl [25, 26, 27, 28] (.exit 2)))
    (.seq (.block 3 (.seq (.reg [⟨some 29, (.iaddrS 1), [.r 25, .r 27], none, []⟩,
      ⟨some 30, .ld1, [.r 29], none, [29]⟩,
      ⟨some 8, .mv, [.r 30], none, [30]⟩])
    (.reg [⟨some 31, .mv, [.r 6], none, [6]⟩,
      ⟨some 32, .mv, [.r 8], none, [8]⟩,
      ⟨some 33, (.app 1 8), [.r 31, .r 32], none, [31, 32]⟩,
      ⟨some 6, .mv, [.r 33], none, [33]⟩])))
    (.reg [⟨some 34, (.bin .add), [.r 27, .c (.int .i64 1)], none, [27]⟩,
      ⟨some 27, .mv, [.r 34], none, [34]⟩]))))
def c27l1 : SC :=
  (.seq (.reg [⟨some 12, (.bin .lss), [.r 11, .r 10], none, []⟩])
    (.seq (.cond (.r 12)
      (.kl [12] .skip)
      (.kl [9, 10, 11, 12] (.exit 0)))
    (.seq (.block 1 (.seq (.reg [⟨some 13, (.iaddrS 1), [.r 9, .r 11], none, []⟩,
      ⟨some 14, .ld1, [.r 13], none, [13]⟩,
      ⟨some 5, .mv, [.r 14], none, [14]⟩])
    (.seq (.reg [⟨some 15, .mv, [.r 3], none, [3]⟩,
      ⟨some 16, .mv, [.r 5], none, [5]⟩,
      ⟨some 17, .len, [.r 16], none, [16]⟩,
      ⟨some 18, (.bin .add), [.r 15, .r 17], none, [15, 17]⟩,
      ⟨some 3, .mv, [.r 18], none, [18]⟩])
    (.seq (.reg [⟨some 19, .mv, [.r 3], none, []⟩,
      ⟨some 20, (.bin .lss), [.r 19, .c (.int .i64 0)], none, [19]⟩])
    (.cond (.r 20)
      (.kl [20] (.reg [⟨some 21, .dead, [], none, []⟩,
        ⟨none, .dead, [], none, [21]⟩]))
      (.kl [20] .skip))))))
    (.reg [⟨some 22, (.bin .add), [.r 11, .c (.int .i64 1)], none, [11]⟩,
      ⟨some 11, .mv, [.r 22], none, [22]⟩]))))
def c27 : SC :=
  (.seq (.reg [⟨some 2, .mv, [.c .nils], none, []⟩])
  (.seq (.reg [⟨some 3, .mv, [.c (.int .i64 0)], none, [2]⟩])
  (.seq (.seq (.reg [⟨some 9, .mv, [.r 0], none, []⟩,
    ⟨some 10, .len, [.r 9], none, []⟩,
    ⟨some 11, .mv, [.c (.int .i64 0)], none, []⟩])
  (.block 0 (.loop c27l1)))
  (.seq (.reg [⟨some 23, .mv, [.r 3], none, [3]⟩,
    ⟨some 24, (.call 36), [.c .nils, .r 23], none, [23]⟩,
    ⟨some 6, .mv, [.r 24], none, [24]⟩])
  (.seq (.seq (.reg [⟨some 25, .mv, [.r 0], none, [0]⟩,
    ⟨some 26, .len, [.r 25], none, []⟩,
    ⟨some 27, .mv, [.c (.int .i64 0)], none, []⟩])
  (.block 2 (.loop c27l0)))
  (.seq (.reg [⟨some 35, .mv, [.r 6], none, [6]⟩,
    ⟨some 2, .mv, [.r 35], none, [35]⟩])
  .ret))))))
def rs27 : List SR := [.tmp 2]
theorem k27 : okC Try.prog 36 (Try.f27.body.getD .skip) c27 = true := by kernel_rfl
theorem acall27 {args : List AV} (hn : args.length ≤ 36) {H : Heap} {v : AV} {H' : Heap} (h : ac Try.prog c27 (argEnv 0 args) H (Fin H rs27 v H')) : ACall Try.prog 27 args H v H' :=
  acall Try.func27 (c := Try.f27.body.getD .skip) rfl k27 (by kernel_rfl) hn h
theorem acallK27 {args : List AV} (hn : args.length ≤ 36) {H : Heap} {v : AV} {H' : Heap} (h : ac Try.prog c27 (argEnv 0 args) H (FinK rs27 v H')) : ACall Try.prog 27 args H v H' :=
  acallK Try.func27 (c := Try.f27.body.getD .skip) rfl k27 (by kernel_rfl) hn h

/- alidade/alidaderef07.Of -/
def c28 : SC :=
  (.seq (.reg [⟨some 2, .mv, [.c (.int .u32 0)], none, []⟩])
  (.seq (.reg [⟨some 3, .mv, [.r 0], none, [0, 2]⟩,
    ⟨some 4, (.call 37), [.c (.int .u32 4294967295), .r 3], none, [3]⟩,
    ⟨some 5, (.bin .sub), [.c (.int .u32 4294967295), .r 4], none, [4]⟩,
    ⟨some 2, .mv, [.r 5], none, [5]⟩])
  .ret))
def rs28 : List SR := [.tmp 2]
theorem k28 : okC Try.prog 6 (Try.f28.body.getD .skip) c28 = true := by kernel_rfl
theorem acall28 {args : List AV} (hn : args.length ≤ 6) {H : Heap} {v : AV} {H' : Heap} (h : ac Try.prog c28 (argEnv 0 args) H (Fin H rs28 v H')) : ACall Try.prog 28 args H v H' :=
  acall Try.func28 (c := Try.f28.body.getD .skip) rfl k28 (by kernel_rfl) hn h
theorem acallK28 {args : List AV} (hn : args.length ≤ 6) {H : Heap} {v : AV} {H' : Heap} (h : ac Try.prog c28 (argEnv 0 args) H (FinK rs28 v H')) : ACall Try.prog 28 args H v H' :=
  acallK Try.func28 (c := Try.f28.body.getD .skip) rfl k28 (by kernel_rfl) hn h

/- alidade/sum.Of -/
def c29 : SC :=
  (.seq (.reg [⟨some 2, .mv, [.c (.int .u32 0)], none, []⟩])
  (.seq (.reg [⟨some 3, .mv, [.r 0], none, [0, 2]⟩,
    ⟨some 4, (.call 38), [.c (.int .u32 4294967295), .r 3], none, [3]⟩,
    ⟨some 5, (.un .xor), [.r 4], none, [4]⟩,
    ⟨some 2, .mv, [.r 5], none, [5]⟩])
  .ret))
def rs29 : List SR := [.tmp 2]
theorem k29 : okC Try.prog 6 (Try.f29.body.getD .skip) c29 = true := by kernel_rfl
theorem acall29 {args : List AV} (hn : args.length ≤ 6) {H : Heap} {v : AV} {H' : Heap} (h : ac Try.prog c29 (argEnv 0 args) H (Fin H rs29 v H')) : ACall Try.prog 29 args H v H' :=
  acall Try.func29 (c := Try.f29.body.getD .skip) rfl k29 (by kernel_rfl) hn h
theorem acallK29 {args : List AV} (hn : args.length ≤ 6) {H : Heap} {v : AV} {H' : Heap} (h : ac Try.prog c29 (argEnv 0 args) H (FinK rs29 v H')) : ACall Try.prog 29 args H v H' :=
  acallK Try.func29 (c := Try.f29.body.getD .skip) rfl k29 (by kernel_rfl) hn h

/- alidade/alidaderef10.newest -/
def c30 : SC :=
  (.seq (.reg [⟨some 1, .box, [.r 0], none, [0]⟩,
    ⟨some 2, .mv, [.c (.int .i64 0)], none, []⟩])
  (.seq (.reg [⟨some 5, (.faddr 0), [.r 1], none, [2]⟩,
    ⟨some 6, (.iaddrA 2 2), [.r 5, .c (.int .i64 0)], none, [5]⟩,
    ⟨some 7, (.ldn 2), [.r 6], none, [6]⟩,
    ⟨some 8, (.call 39), [.r 7], none, [7]⟩,
    ⟨some 3, .mv, [.r 8], none, [8]⟩])
  (.seq (.reg [⟨some 9, (.faddr 0), [.r 1], none, []⟩,
    ⟨some 10, (.iaddrA 2 2), [.r 9, .c (.int .i64 1)], none, [9]⟩,
    ⟨some 11, (.ldn 2), [.r 10], none, [10]⟩,
    ⟨some 12, (.call 39), [.r 11], none, [11]⟩,
    ⟨some 4, .mv, [.r 12], none, [12]⟩])
  (.seq (.seq (.reg [⟨some 13, .mv, [.r 3], none, []⟩,
    ⟨some 14, .mv, [.r 13], none, [13]⟩,
    ⟨some 15, .mv, [.r 4], (some (14, true)), []⟩,
    ⟨some 16, .pick, [.r 14, .r 15, .c (.bool false)], none, [14, 15]⟩])
  (.cond (.r 16)
    (.kl [3, 4, 16] (.seq (.seq (.dreg [⟨0, 0, false, false, ⟨some 17, (.faddr 0), [.r 1], none, []⟩⟩,
      ⟨1, 1, false, false, ⟨some 18, (.iaddrA 2 2), [.r 17, .c (.int .i64 1)], none, [17]⟩⟩,
      ⟨2, 3, false, false, ⟨some 19, (.faddr 0), [.r 18], none, [18]⟩⟩,
      ⟨3, 7, false, false, ⟨some 20, .ld1, [.r 19], none, [19]⟩⟩,
      ⟨4, 15, false, false, ⟨some 21, (.iaddrS 1), [.r 20, .c (.int .i64 0)], none, [20]⟩⟩,
      ⟨5, 31, false, false, ⟨some 22, .ld1, [.r 21], none, [21]⟩⟩,
      ⟨6, 0, false, false, ⟨some 23, (.faddr 0), [.r 1], none, [1]⟩⟩,
      ⟨7, 64, false, false, ⟨some 24, (.iaddrA 2 2), [.r 23, .c (.int .i64 0)], none, [23]⟩⟩,
      ⟨8, 192, false, false, ⟨some 25, (.faddr 0), [.r 24], none, [24]⟩⟩,
      ⟨9, 448, false, false, ⟨some 26, .ld1, [.r 25], none, [25]⟩⟩,
      ⟨10, 960, false, false, ⟨some 27, (.iaddrS 1), [.r 26, .c (.int .i64 0)], none, [26]⟩⟩,
      ⟨11, 1984, false, false, ⟨some 28, .ld1, [.r 27], none, [27]⟩⟩,
      ⟨12, 4095, false, false, ⟨some 29, (.bin .gtr), [.r 22, .r 28], none, [22, 28]⟩⟩])
    (.cond (.r 29)
      (.kl [29] (.seq (.reg [⟨some 2, .mv, [.c (.int .i64 1)], none, []⟩])
      .ret))
      (.kl [29] .skip)))
    (.seq (.reg [⟨some 2, .mv, [.c (.int .i64 0)], none, []⟩])
    .ret)))
    (.kl [1, 16] .skip)))
  (.seq (.seq (.reg [⟨some 30, .mv, [.r 3], none, [3]⟩])
  (.cond (.r 30)
    (.kl [4, 30] (.seq (.reg [⟨some 2, .mv, [.c (.int .i64 0)], none, []⟩])
    .ret))
    (.kl [30] .skip)))
  (.seq (.seq (.reg [⟨some 31, .mv, [.r 4], none, [4]⟩])
  (.cond (.r 31)
    (.kl [31] (.seq (.reg [⟨some 2, .mv, [.c (.int .i64 1)], none, []⟩])
    .ret))
    (.kl [31] .skip)))
  (.seq (.reg [⟨some 2, .mv, [.c (.int .i64 2)], none, []⟩])
  .ret)))))))
def rs30 : List SR := [.tmp 2]
theorem k30 : okC Try.prog 32 (Try.f30.body.getD .skip) c30 = true := by kernel_rfl
theorem acall30 {args : List AV} (hn : args.length ≤ 32) {H : Heap} {v : AV} {H' : Heap} (h : ac Try.prog c30 (argEnv 0 args) H (Fin H rs30 v H')) : ACall Try.prog 30 args H v H' :=
  acall Try.func30 (c := Try.f30.body.getD .skip) rfl k30 (by kernel_rfl) hn h
theorem acallK30 {args : List AV} (hn : args.length ≤ 32) {H : Heap} {v : AV} {H' : Heap} (h : ac Try.prog c30 (argEnv 0 args) H (FinK rs30 v H')) : ACall Try.prog 30 args H v H' :=
  acallK Try.func30 (c := Try.f30.body.getD .skip) rfl k30 (by kernel_rfl) hn h

/- slices.EqualFunc[[]alidade/api.Slot,[]alidade/api.Slot,alidade/api.Slot,alidade/api.Slot] -/
def c31l0 : SC :=
  (.seq (.reg [⟨some 18, (.bin .lss), [.r 17, .r 16], none, []⟩])
    (.seq (.cond (.r 18)
      (.kl [18] .skip)
      (.kl [1, 2, 15, 16, 17, 18] (.exit 0)))
    (.seq (.block 1 (.seq (.reg [⟨some 19, .mv, [.r 17], none, []⟩,
      ⟨some 20, (.iaddrS 2), [.r 15, .r 17], none, []⟩,
      ⟨some 21, (.ldn 2), [.r 20], none, [20]⟩,
      ⟨some 8, (.alloc [.nils, (.int .i64 0)]), [], none, []⟩,
      ⟨some 7, .mv, [.r 19], none, [19]⟩,
      ⟨none, (.st 2), [.r 8, .r 21], none, [21]⟩])
    (.seq (.reg [⟨some 22, .mv, [.r 1], none, []⟩,
      ⟨some 23, .mv, [.r 7], none, [7]⟩,
      ⟨some 24, (.iaddrS 2), [.r 22, .r 23], none, [22, 23]⟩,
      ⟨some 25, (.ldn 2), [.r 24], none, [24]⟩,
      ⟨some 9, (.alloc [.nils, (.int .i64 0)]), [], none, []⟩,
      ⟨none, (.st 2), [.r 9, .r 25], none, [25]⟩])
    (.seq (.reg [⟨some 26, .mv, [.r 2], none, []⟩,
      ⟨some 27, (.ldn 2), [.r 8], none, [8]⟩,
      ⟨some 28, (.ldn 2), [.r 9], none, [9]⟩,
      ⟨some 29, .callv, [.r 26, .r 27, .r 28], none, [26, 27, 28]⟩,
      ⟨some 30, (.un .not), [.r 29], none, [29]⟩])
    (.cond (.r 30)
      (.kl [1, 2, 15, 16, 17, 30] (.seq (.reg [⟨some 6, .mv, [.c (.bool false)], none, []⟩])
      .ret))
      (.kl [30] .skip))))))
    (.reg [⟨some 31, (.bin .add), [.r 17, .c (.int .i64 1)], none, [17]⟩,
      ⟨some 17, .mv, [.r 31], none, [31]⟩]))))
def c31 : SC :=
  (.seq (.reg [⟨some 6, .mv, [.c (.bool false)], none, []⟩])
  (.seq (.seq (.reg [⟨some 10, .mv, [.r 0], none, [6]⟩,
    ⟨some 11, .len, [.r 10], none, [10]⟩,
    ⟨some 12, .mv, [.r 1], none, []⟩,
    ⟨some 13, .len, [.r 12], none, [12]⟩,
    ⟨some 14, (.bin .neq), [.r 11, .r 13], none, [11, 13]⟩])
  (.cond (.r 14)
    (.kl [0, 1, 2, 14] (.seq (.reg [⟨some 6, .mv, [.c (.bool false)], none, []⟩])
    .ret))
    (.kl [14] .skip)))
  (.seq (.seq (.reg [⟨some 15, .mv, [.r 0], none, [0]⟩,
    ⟨some 16, .len, [.r 15], none, []⟩,
    ⟨some 17, .mv, [.c (.int .i64 0)], none, []⟩])
  (.block 0 (.loop c31l0)))
  (.seq (.reg [⟨some 6, .mv, [.c (.bool true)], none, []⟩])
  .ret))))
def rs31 : List SR := [.tmp 6]
theorem k31 : okC Try.prog 32 (Try.f31.body.getD .skip) c31 = true := by kernel_rfl
theorem acall31 {args : List AV} (hn : args.length ≤ 32) {H : Heap} {v : AV} {H' : Heap} (h : ac Try.prog c31 (argEnv 0 args) H (Fin H rs31 v H')) : ACall Try.prog 31 args H v H' :=
  acall Try.func31 (c := Try.f31.body.getD .skip) rfl k31 (by kernel_rfl) hn h
theorem acallK31 {args : List AV} (hn : args.length ≤ 32) {H : Heap} {v : AV} {H' : Heap} (h : ac Try.prog c31 (argEnv 0 args) H (FinK rs31 v H')) : ACall Try.prog 31 args H v H' :=
  acallK Try.func31 (c := Try.f31.body.getD .skip) rfl k31 (by kernel_rfl) hn h

/- alidade/nvram.Same$1 -/
def c32 : SC :=
  (.seq (.reg [⟨some 2, .box, [.r 0], none, [0]⟩,
    ⟨some 3, .box, [.r 1], none, [1]⟩,
    ⟨some 4, .mv, [.c (.bool false)], none, []⟩])
  (.seq (.reg [⟨some 5, (.faddr 1), [.r 2], none, [4]⟩,
    ⟨some 6, .ld1, [.r 5], none, [5]⟩,
    ⟨some 7, (.faddr 1), [.r 3], none, []⟩,
    ⟨some 8, .ld1, [.r 7], none, [7]⟩,
    ⟨some 9, (.bin .eql), [.r 6, .r 8], none, [6, 8]⟩,
    ⟨some 10, .mv, [.r 9], none, [9]⟩,
    ⟨some 11, (.faddr 0), [.r 2], (some (10, true)), [2]⟩,
    ⟨some 12, .ld1, [.r 11], (some (10, true)), [11]⟩,
    ⟨some 13, (.faddr 0), [.r 3], (some (10, true)), [3]⟩,
    ⟨some 14, .ld1, [.r 13], (some (10, true)), [13]⟩,
    ⟨some 15, (.call 33), [.r 12, .r 14], (some (10, true)), [12, 14]⟩,
    ⟨some 16, .pick, [.r 10, .r 15, .c (.bool false)], none, [10, 15]⟩,
    ⟨some 4, .mv, [.r 16], none, [16]⟩])
  .ret))
def rs32 : List SR := [.tmp 4]
theorem k32 : okC Try.prog 17 (Try.f32.body.getD .skip) c32 = true := by kernel_rfl
theorem acall32 {args : List AV} (hn : args.length ≤ 17) {H : Heap} {v : AV} {H' : Heap} (h : ac Try.prog c32 (argEnv 0 args) H (Fin H rs32 v H')) : ACall Try.prog 32 args H v H' :=
  acall Try.func32 (c := Try.f32.body.getD .skip) rfl k32 (by kernel_rfl) hn h
theorem acallK32 {args : List AV} (hn : args.length ≤ 17) {H : Heap} {v : AV} {H' : Heap} (h : ac Try.prog c32 (argEnv 0 args) H (FinK rs32 v H')) : ACall Try.prog 32 args H v H' :=
  acallK Try.func32 (c := Try.f32.body.getD .skip) rfl k32 (by kernel_rfl) hn h

/- slices.Equal[[]int64,int64] -/
def c33l0 : SC :=
  (.seq (.reg [⟨some 14, (.bin .lss), [.r 13, .r 12], none, []⟩])
    (.seq (.cond (.r 14)
      (.kl [14] .skip)
      (.kl [0, 1, 12, 13, 14] (.exit 0)))
    (.seq (.block 1 (.seq (.reg [⟨some 15, .mv, [.r 13], none, []⟩,
      ⟨some 5, .mv, [.r 15], none, [15]⟩])
    (.seq (.dreg [⟨0, 0, false, false, ⟨some 16, .mv, [.r 0], none, []⟩⟩,
      ⟨1, 0, false, false, ⟨some 17, .mv, [.r 5], none, []⟩⟩,
      ⟨2, 3, false, false, ⟨some 18, (.iaddrS 1), [.r 16, .r 17], none, [16, 17]⟩⟩,
      ⟨3, 7, false, false, ⟨some 19, .ld1, [.r 18], none, [18]⟩⟩,
      ⟨4, 0, false, false, ⟨some 20, .mv, [.r 1], none, []⟩⟩,
      ⟨5, 0, false, false, ⟨some 21, .mv, [.r 5], none, [5]⟩⟩,
      ⟨6, 48, false, false, ⟨some 22, (.iaddrS 1), [.r 20, .r 21], none, [20, 21]⟩⟩,
      ⟨7, 112, false, false, ⟨some 23, .ld1, [.r 22], none, [22]⟩⟩,
      ⟨8, 255, false, false, ⟨some 24, (.bin .neq), [.r 19, .r 23], none, [19, 23]⟩⟩])
    (.cond (.r 24)
      (.kl [0, 1, 12, 13, 24] (.seq (.reg [⟨some 4, .mv, [.c (.bool false)], none, []⟩])
      .ret))
      (.kl [24] .skip)))))
    (.reg [⟨some 25, (.bin .add), [.r 13, .c (.int .i64 1)], none, [13]⟩,
      ⟨some 13, .mv, [.r 25], none, [25]⟩]))))
def c33 : SC :=
  (.seq (.reg [⟨some 4, .mv, [.c (.bool false)], none, []⟩])
  (.seq (.seq (.reg [⟨some 6, .mv, [.r 0], none, [4]⟩,
    ⟨some 7, .len, [.r 6], none, [6]⟩,
    ⟨some 8, .mv, [.r 1], none, []⟩,
    ⟨some 9, .len, [.r 8], none, [8]⟩,
    ⟨some 10, (.bin .neq), [.r 7, .r 9], none, [7, 9]⟩])
  (.cond (.r 10)
    (.kl [0, 1, 10] (.seq (.reg [⟨some 4, .mv, [.c (.bool false)], none, []⟩])
    .ret))
    (.kl [10] .skip)))
  (.seq (.seq (.reg [⟨some 11, .mv, [.r 0], none, []⟩,
    ⟨some 12, .len, [.r 11], none, [11]⟩,
    ⟨some 13, .mv, [.c (.int .i64 0)], none, []⟩])
  (.block 0 (.loop c33l0)))
  (.seq (.reg [⟨some 4, .mv, [.c (.bool true)], none, []⟩])
  .ret))))
def rs33 : List SR := [.tmp 4]
theorem k33 : okC Try.prog 26 (Try.f33.body.getD .skip) c33 = true := by kernel_rfl
theorem acall33 {args : List AV} (hn : args.length ≤ 26) {H : Heap} {v : AV} {H' : Heap} (h : ac Try.prog c33 (argEnv 0 args) H (Fin H rs33 v H')) : ACall Try.prog 33 args H v H' :=
  acall Try.func33 (c := Try.f33.body.getD .skip) rfl k33 (by kernel_rfl) hn h
theorem acallK33 {args : List AV} (hn : args.length ≤ 26) {H : Heap} {v : AV} {H' : Heap} (h : ac Try.prog c33 (argEnv 0 args) H (FinK rs33 v H')) : ACall Try.prog 33 args H v H' :=
  acallK Try.func33 (c := Try.f33.body.getD .skip) rfl k33 (by kernel_rfl) hn h

/- alidade/nvram.newest$1 -/
def c34 : SC :=
  (.seq (.reg [⟨some 3, .mv, [.c (.bool false)], none, []⟩])
  (.seq (.reg [⟨some 4, .mv, [.r 0], none, [0, 3]⟩,
    ⟨some 5, (.faddr 0), [.r 1], none, [1]⟩,
    ⟨some 6, (.iaddrA 2 2), [.r 5, .r 4], none, [4, 5]⟩,
    ⟨some 7, (.ldn 2), [.r 6], none, [6]⟩,
    ⟨some 8, (.call 35), [.r 7], none, [7]⟩,
    ⟨some 3, .mv, [.r 8], none, [8]⟩])
  .ret))
def rs34 : List SR := [.tmp 3]
theorem k34 : okC Try.prog 9 (Try.f34.body.getD .skip) c34 = true := by kernel_rfl
theorem acall34 {args : List AV} (hn : args.length ≤ 9) {H : Heap} {v : AV} {H' : Heap} (h : ac Try.prog c34 (argEnv 0 args) H (Fin H rs34 v H')) : ACall Try.prog 34 args H v H' :=
  acall Try.func34 (c := Try.f34.body.getD .skip) rfl k34 (by kernel_rfl) hn h
theorem acallK34 {args : List AV} (hn : args.length ≤ 9) {H : Heap} {v : AV} {H' : Heap} (h : ac Try.prog c34 (argEnv 0 args) H (FinK rs34 v H')) : ACall Try.prog 34 args H v H' :=
  acallK Try.func34 (c := Try.f34.body.getD .skip) rfl k34 (by kernel_rfl) hn h

/- alidade/nvram.whole -/
def c35 : SC :=
  (.seq (.reg [⟨some 1, .box, [.r 0], none, [0]⟩,
    ⟨some 2, .mv, [.c (.bool false)], none, []⟩])
  (.seq (.dreg [⟨0, 0, false, false, ⟨some 3, (.faddr 0), [.r 1], none, [2]⟩⟩,
    ⟨1, 1, false, false, ⟨some 4, .ld1, [.r 3], none, [3]⟩⟩,
    ⟨2, 3, false, false, ⟨some 5, .len, [.r 4], none, [4]⟩⟩,
    ⟨3, 7, false, false, ⟨some 6, (.bin .gtr), [.r 5, .c (.int .i64 0)], none, [5]⟩⟩,
    ⟨4, 15, false, false, ⟨some 7, .mv, [.r 6], none, [6]⟩⟩,
    ⟨5, 31, false, false, ⟨some 8, (.faddr 0), [.r 1], (some (7, true)), []⟩⟩,
    ⟨6, 63, false, false, ⟨some 9, .ld1, [.r 8], (some (7, true)), [8]⟩⟩,
    ⟨7, 127, false, false, ⟨some 10, (.iaddrS 1), [.r 9, .c (.int .i64 0)], (some (7, true)), [9]⟩⟩,
    ⟨8, 255, false, false, ⟨some 11, .ld1, [.r 10], (some (7, true)), [10]⟩⟩,
    ⟨9, 511, false, false, ⟨some 12, (.bin .geq), [.r 11, .c (.int .i64 0)], (some (7, true)), [11]⟩⟩,
    ⟨10, 1023, false, false, ⟨some 13, .pick, [.r 7, .r 12, .c (.bool false)], none, [7, 12]⟩⟩,
    ⟨11, 2047, false, false, ⟨some 14, .mv, [.r 13], none, [13]⟩⟩,
    ⟨12, 4095, false, false, ⟨some 15, (.faddr 0), [.r 1], (some (14, true)), []⟩⟩,
    ⟨13, 8191, false, false, ⟨some 16, .ld1, [.r 15], (some (14, true)), [15]⟩⟩,
    ⟨14, 16383, false, false, ⟨some 17, (.iaddrS 1), [.r 16, .c (.int .i64 0)], (some (14, true)), [16]⟩⟩,
    ⟨15, 32767, false, false, ⟨some 18, .ld1, [.r 17], (some (14, true)), [17]⟩⟩,
    ⟨16, 65535, false, false, ⟨some 19, (.bin .leq), [.r 18, .c (.int .i64 4611686018427387904)], (some (14, true)), [18]⟩⟩,
    ⟨17, 131071, false, false, ⟨some 20, .pick, [.r 14, .r 19, .c (.bool false)], none, [14, 19]⟩⟩,
    ⟨18, 262143, false, false, ⟨some 21, .mv, [.r 20], none, [20]⟩⟩,
    ⟨19, 524287, false, false, ⟨some 22, (.faddr 1), [.r 1], (some (21, true)), []⟩⟩,
    ⟨20, 1048575, false, false, ⟨some 23, .ld1, [.r 22], (some (21, true)), [22]⟩⟩,
    ⟨21, 524287, false, false, ⟨some 24, (.faddr 0), [.r 1], (some (21, true)), [1]⟩⟩,
    ⟨22, 2621439, false, false, ⟨some 25, .ld1, [.r 24], (some (21, true)), [24]⟩⟩,
    ⟨23, 6815743, false, true, ⟨some 26, (.call 19), [.r 25], (some (21, true)), [25]⟩⟩,
    ⟨24, 16777215, false, false, ⟨some 27, (.bin .eql), [.r 23, .r 26], (some (21, true)), [23, 26]⟩⟩,
    ⟨25, 33554431, false, false, ⟨some 28, .pick, [.r 21, .r 27, .c (.bool false)], none, [21, 27]⟩⟩,
    ⟨26, 67108863, false, false, ⟨some 2, .mv, [.r 28], none, [28]⟩⟩])
  .ret))
def rs35 : List SR := [.tmp 2]
theorem k35 : okC Try.prog 29 (Try.f35.body.getD .skip) c35 = true := by kernel_rfl
theorem acall35 {args : List AV} (hn : args.length ≤ 29) {H : Heap} {v : AV} {H' : Heap} (h : ac Try.prog c35 (argEnv 0 args) H (Fin H rs35 v H')) : ACall Try.prog 35 args H v H' :=
  acall Try.func35 (c := Try.f35.body.getD .skip) rfl k35 (by kernel_rfl) hn h
theorem acallK35 {args : List AV} (hn : args.length ≤ 29) {H : Heap} {v : AV} {H' : Heap} (h : ac Try.prog c35 (argEnv 0 args) H (FinK rs35 v H')) : ACall Try.prog 35 args H v H' :=
  acallK Try.func35 (c := Try.f35.body.getD .skip) rfl k35 (by kernel_rfl) hn h

/- slices.Grow[[]int64,int64] -/
def c36 : SC :=
  (.seq (.reg [⟨some 4, .mv, [.c .nils], none, []⟩])
  (.seq (.seq (.reg [⟨some 5, .mv, [.r 1], none, [4]⟩,
    ⟨some 6, (.bin .lss), [.r 5, .c (.int .i64 0)], none, [5]⟩])
  (.cond (.r 6)
    (.kl [6] (.reg [⟨some 7, .dead, [], none, []⟩,
      ⟨none, .dead, [], none, [7]⟩]))
    (.kl [6] .skip)))
  (.seq (.seq (.reg [⟨some 8, .mv, [.r 1], none, [1]⟩,
    ⟨some 9, .mv, [.r 0], none, []⟩,
    ⟨some 10, .cap, [.r 9], none, [9]⟩,
    ⟨some 11, .mv, [.r 0], none, []⟩,
    ⟨some 12, .len, [.r 11], none, [11]⟩,
    ⟨some 13, (.bin .sub), [.r 10, .r 12], none, [10, 12]⟩,
    ⟨some 14, (.bin .sub), [.r 8, .r 13], none, [8, 13]⟩,
    ⟨some 1, .mv, [.r 14], none, [14]⟩])
  (.seq (.reg [⟨some 15, .mv, [.r 1], none, []⟩,
    ⟨some 16, (.bin .gtr), [.r 15, .c (.int .i64 0)], none, [15]⟩])
  (.cond (.r 16)
    (.kl [16] (.reg [⟨some 17, .mv, [.r 0], none, []⟩,
      ⟨some 18, .mv, [.r 0], none, []⟩,
      ⟨some 19, .cap, [.r 18], none, [18]⟩,
      ⟨some 20, (.slice 1 false true false), [.r 17, .r 19], none, [17, 19]⟩,
      ⟨some 21, .mv, [.r 1], none, [1]⟩,
      ⟨some 22, (.appZ 1 8 [(.int .i64 0)]), [.r 20, .r 21], none, [20, 21]⟩,
      ⟨some 23, .mv, [.r 0], none, [0]⟩,
      ⟨some 24, .len, [.r 23], none, [23]⟩,
      ⟨some 25, (.slice 1 false true false), [.r 22, .r 24], none, [22, 24]⟩,
      ⟨some 0, .mv, [.r 25], none, [25]⟩]))
    (.kl [1, 16] .skip))))
  (.seq (.reg [⟨some 26, .mv, [.r 0], none, [0]⟩,
    ⟨some 4, .mv, [.r 26], none, [26]⟩])
  .ret))))
def rs36 : List SR := [.tmp 4]
theorem k36 : okC Try.prog 27 (Try.f36.body.getD .skip) c36 = true := by kernel_rfl
theorem acall36 {args : List AV} (hn : args.length ≤ 27) {H : Heap} {v : AV} {H' : Heap} (h : ac Try.prog c36 (argEnv 0 args) H (Fin H rs36 v H')) : ACall Try.prog 36 args H v H' :=
  acall Try.func36 (c := Try.f36.body.getD .skip) rfl k36 (by kernel_rfl) hn h
theorem acallK36 {args : List AV} (hn : args.length ≤ 27) {H : Heap} {v : AV} {H' : Heap} (h : ac Try.prog c36 (argEnv 0 args) H (FinK rs36 v H')) : ACall Try.prog 36 args H v H' :=
  acallK Try.func36 (c := Try.f36.body.getD .skip) rfl k36 (by kernel_rfl) hn h

/- alidade/alidaderef07.More -/
def c37l0 : SC :=
  (.seq (.seq (.reg [⟨some 22, .mv, [.r 7], none, []⟩,
        ⟨some 23, (.bin .lss), [.r 22, .c (.int .i64 8)], none, [22]⟩])
      (.cond (.r 23)
        (.kl [23] .skip)
        (.kl [7, 23] (.exit 2))))
      (.seq (.block 3 (.reg [⟨some 26, .mv, [.r 6], none, [6]⟩,
        ⟨some 27, (.call 40), [.r 26], none, [26]⟩,
        ⟨some 6, .mv, [.r 27], none, [27]⟩]))
      (.reg [⟨some 24, .mv, [.r 7], none, [7]⟩,
        ⟨some 25, (.bin .add), [.r 24, .c (.int .i64 1)], none, [24]⟩,
        ⟨some 7, .mv, [.r 25], none, [25]⟩])))
def c37l1 : SC :=
  (.seq (.seq (.reg [⟨some 8, .mv, [.r 5], none, []⟩,
      ⟨some 9, .mv, [.r 1], none, []⟩,
      ⟨some 10, .len, [.r 9], none, [9]⟩,
      ⟨some 11, (.bin .lss), [.r 8, .r 10], none, [8, 10]⟩])
    (.cond (.r 11)
      (.kl [11] .skip)
      (.kl [1, 5, 11] (.exit 0))))
    (.seq (.block 1 (.seq (.reg [⟨some 14, .mv, [.r 0], none, []⟩,
      ⟨some 15, (.bin .rem), [.r 14, .c (.int .u32 256)], none, [14]⟩,
      ⟨some 16, .mv, [.r 1], none, []⟩,
      ⟨some 17, .mv, [.r 5], none, []⟩,
      ⟨some 18, (.iaddrS 1), [.r 16, .r 17], none, [16, 17]⟩,
      ⟨some 19, .ld1, [.r 18], none, [18]⟩,
      ⟨some 20, (.conv .u32), [.r 19], none, [19]⟩,
      ⟨some 21, (.bin .xor), [.r 15, .r 20], none, [15, 20]⟩,
      ⟨some 6, .mv, [.r 21], none, [21]⟩])
    (.seq (.seq (.reg [⟨some 7, .mv, [.c (.int .i64 0)], none, []⟩])
    (.block 2 (.loop c37l0)))
    (.reg [⟨some 28, .mv, [.r 0], none, [0]⟩,
      ⟨some 29, (.bin .quo), [.r 28, .c (.int .u32 256)], none, [28]⟩,
      ⟨some 30, .mv, [.r 6], none, [6]⟩,
      ⟨some 31, (.bin .xor), [.r 29, .r 30], none, [29, 30]⟩,
      ⟨some 0, .mv, [.r 31], none, [31]⟩]))))
    (.reg [⟨some 12, .mv, [.r 5], none, [5]⟩,
      ⟨some 13, (.bin .add), [.r 12, .c (.int .i64 1)], none, [12]⟩,
      ⟨some 5, .mv, [.r 13], none, [13]⟩])))
def c37 : SC :=
  (.seq (.reg [⟨some 4, .mv, [.c (.int .u32 0)], none, []⟩])
  (.seq (.seq (.reg [⟨some 5, .mv, [.c (.int .i64 0)], none, [4]⟩])
  (.block 0 (.loop c37l1)))
  (.seq (.reg [⟨some 32, .mv, [.r 0], none, [0]⟩,
    ⟨some 4, .mv, [.r 32], none, [32]⟩])
  .ret)))
def rs37 : List SR := [.tmp 4]
theorem k37 : okC Try.prog 33 (Try.f37.body.getD .skip) c37 = true := by kernel_rfl
theorem acall37 {args : List AV} (hn : args.length ≤ 33) {H : Heap} {v : AV} {H' : Heap} (h : ac Try.prog c37 (argEnv 0 args) H (Fin H rs37 v H')) : ACall Try.prog 37 args H v H' :=
  acall Try.func37 (c := Try.f37.body.getD .skip) rfl k37 (by kernel_rfl) hn h
theorem acallK37 {args : List AV} (hn : args.length ≤ 33) {H : Heap} {v : AV} {H' : Heap} (h : ac Try.prog c37 (argEnv 0 args) H (FinK rs37 v H')) : ACall Try.prog 37 args H v H' :=
  acallK Try.func37 (c := Try.f37.body.getD .skip) rfl k37 (by kernel_rfl) hn h

/- alidade/sum.More -/
def c38l0 : SC :=
  (.seq (.reg [⟨some 12, (.bin .lss), [.r 11, .r 10], none, []⟩])
    (.seq (.cond (.r 12)
      (.kl [12] .skip)
      (.kl [5, 9, 10, 11, 12] (.exit 0)))
    (.seq (.block 1 (.seq (.reg [⟨some 13, (.iaddrS 1), [.r 9, .r 11], none, []⟩,
      ⟨some 14, .ld1, [.r 13], none, [13]⟩,
      ⟨some 7, .mv, [.r 14], none, [14]⟩])
    (.reg [⟨some 15, .mv, [.r 0], none, []⟩,
      ⟨some 16, (.bin .shr), [.r 15, .c (.int .u64 8)], none, [15]⟩,
      ⟨some 17, .mv, [.r 0], none, [0]⟩,
      ⟨some 18, (.conv .u8), [.r 17], none, [17]⟩,
      ⟨some 19, .mv, [.r 7], none, [7]⟩,
      ⟨some 20, (.bin .xor), [.r 18, .r 19], none, [18, 19]⟩,
      ⟨some 21, (.iaddrA 1 256), [.r 5, .r 20], none, [20]⟩,
      ⟨some 22, .ld1, [.r 21], none, [21]⟩,
      ⟨some 23, (.bin .xor), [.r 16, .r 22], none, [16, 22]⟩,
      ⟨some 0, .mv, [.r 23], none, [23]⟩])))
    (.reg [⟨some 24, (.bin .add), [.r 11, .c (.int .i64 1)], none, [11]⟩,
      ⟨some 11, .mv, [.r 24], none, [24]⟩]))))
def c38 : SC :=
  (.seq (.reg [⟨some 4, .mv, [.c (.int .u32 0)], none, []⟩])
  (.seq (.reg [⟨some 8, (.call 41), [], none, [4]⟩,
    ⟨some 5, (.alloc (List.replicate 256 (.int .u32 0))), [], none, []⟩,
    ⟨none, (.st 256), [.r 5, .r 8], none, [8]⟩])
  (.seq (.seq (.reg [⟨some 9, .mv, [.r 1], none, [1]⟩,
    ⟨some 10, .len, [.r 9], none, []⟩,
    ⟨some 11, .mv, [.c (.int .i64 0)], none, []⟩])
  (.block 0 (.loop c38l0)))
  (.seq (.reg [⟨some 25, .mv, [.r 0], none, [0]⟩,
    ⟨some 4, .mv, [.r 25], none, [25]⟩])
  .ret))))
def rs38 : List SR := [.tmp 4]
theorem k38 : okC Try.prog 26 (Try.f38.body.getD .skip) c38 = true := by kernel_rfl
theorem acall38 {args : List AV} (hn : args.length ≤ 26) {H : Heap} {v : AV} {H' : Heap} (h : ac Try.prog c38 (argEnv 0 args) H (Fin H rs38 v H')) : ACall Try.prog 38 args H v H' :=
  acall Try.func38 (c := Try.f38.body.getD .skip) rfl k38 (by kernel_rfl) hn h
theorem acallK38 {args : List AV} (hn : args.length ≤ 26) {H : Heap} {v : AV} {H' : Heap} (h : ac Try.prog c38 (argEnv 0 args) H (FinK rs38 v H')) : ACall Try.prog 38 args H v H' :=
  acallK Try.func38 (c := Try.f38.body.getD .skip) rfl k38 (by kernel_rfl) hn h

/- alidade/alidaderef10.whole -/
def c39 : SC :=
  (.seq (.reg [⟨some 1, .box, [.r 0], none, [0]⟩,
    ⟨some 2, .mv, [.c (.bool false)], none, []⟩])
  (.seq (.seq (.reg [⟨some 4, (.faddr 0), [.r 1], none, [2]⟩,
    ⟨some 5, .ld1, [.r 4], none, [4]⟩,
    ⟨some 6, .len, [.r 5], none, [5]⟩,
    ⟨some 7, (.bin .eql), [.r 6, .c (.int .i64 0)], none, [6]⟩])
  (.cond (.r 7)
    (.kl [1, 7] (.seq (.reg [⟨some 2, .mv, [.c (.bool false)], none, []⟩])
    .ret))
    (.kl [7] .skip)))
  (.seq (.reg [⟨some 8, (.faddr 0), [.r 1], none, []⟩,
    ⟨some 9, .ld1, [.r 8], none, [8]⟩,
    ⟨some 10, (.iaddrS 1), [.r 9, .c (.int .i64 0)], none, [9]⟩,
    ⟨some 11, .ld1, [.r 10], none, [10]⟩,
    ⟨some 3, .mv, [.r 11], none, [11]⟩])
  (.seq (.dreg [⟨0, 0, false, false, ⟨some 12, .mv, [.r 3], none, []⟩⟩,
    ⟨1, 1, false, false, ⟨some 13, (.bin .geq), [.r 12, .c (.int .i64 0)], none, [12]⟩⟩,
    ⟨2, 3, false, false, ⟨some 14, .mv, [.r 13], none, [13]⟩⟩,
    ⟨3, 7, false, false, ⟨some 15, .mv, [.r 3], (some (14, true)), [3]⟩⟩,
    ⟨4, 15, false, false, ⟨some 16, (.bin .leq), [.r 15, .c (.int .i64 4611686018427387904)], (some (14, true)), [15]⟩⟩,
    ⟨5, 31, false, false, ⟨some 17, .pick, [.r 14, .r 16, .c (.bool false)], none, [14, 16]⟩⟩,
    ⟨6, 63, false, false, ⟨some 18, .mv, [.r 17], none, [17]⟩⟩,
    ⟨7, 127, false, false, ⟨some 19, (.faddr 1), [.r 1], (some (18, true)), []⟩⟩,
    ⟨8, 255, false, false, ⟨some 20, .ld1, [.r 19], (some (18, true)), [19]⟩⟩,
    ⟨9, 127, false, false, ⟨some 21, (.faddr 0), [.r 1], (some (18, true)), [1]⟩⟩,
    ⟨10, 639, false, false, ⟨some 22, .ld1, [.r 21], (some (18, true)), [21]⟩⟩,
    ⟨11, 1663, false, true, ⟨some 23, (.call 18), [.r 22], (some (18, true)), [22]⟩⟩,
    ⟨12, 4095, false, false, ⟨some 24, (.bin .eql), [.r 20, .r 23], (some (18, true)), [20, 23]⟩⟩,
    ⟨13, 8191, false, false, ⟨some 25, .pick, [.r 18, .r 24, .c (.bool false)], none, [18, 24]⟩⟩,
    ⟨14, 16383, false, false, ⟨some 2, .mv, [.r 25], none, [25]⟩⟩])
  .ret))))
def rs39 : List SR := [.tmp 2]
theorem k39 : okC Try.prog 26 (Try.f39.body.getD .skip) c39 = true := by kernel_rfl
theorem acall39 {args : List AV} (hn : args.length ≤ 26) {H : Heap} {v : AV} {H' : Heap} (h : ac Try.prog c39 (argEnv 0 args) H (Fin H rs39 v H')) : ACall Try.prog 39 args H v H' :=
  acall Try.func39 (c := Try.f39.body.getD .skip) rfl k39 (by kernel_rfl) hn h
theorem acallK39 {args : List AV} (hn : args.length ≤ 26) {H : Heap} {v : AV} {H' : Heap} (h : ac Try.prog c39 (argEnv 0 args) H (FinK rs39 v H')) : ACall Try.prog 39 args H v H' :=
  acallK Try.func39 (c := Try.f39.body.getD .skip) rfl k39 (by kernel_rfl) hn h

/- alidade/alidaderef07.on -/
def c40 : SC :=
  (.seq (.reg [⟨some 2, .mv, [.c (.int .u32 0)], none, []⟩])
  (.seq (.seq (.reg [⟨some 3, .mv, [.r 0], none, [2]⟩,
    ⟨some 4, (.bin .rem), [.r 3, .c (.int .u32 2)], none, [3]⟩,
    ⟨some 5, (.bin .eql), [.r 4, .c (.int .u32 1)], none, [4]⟩])
  (.cond (.r 5)
    (.kl [5] (.seq (.reg [⟨some 6, .mv, [.r 0], none, [0]⟩,
      ⟨some 7, (.bin .quo), [.r 6, .c (.int .u32 2)], none, [6]⟩,
      ⟨some 8, (.bin .xor), [.r 7, .c (.int .u32 3988292384)], none, [7]⟩,
      ⟨some 2, .mv, [.r 8], none, [8]⟩])
    .ret))
    (.kl [5] .skip)))
  (.seq (.reg [⟨some 9, .mv, [.r 0], none, [0]⟩,
    ⟨some 10, (.bin .quo), [.r 9, .c (.int .u32 2)], none, [9]⟩,
    ⟨some 2, .mv, [.r 10], none, [10]⟩])
  .ret)))
def rs40 : List SR := [.tmp 2]
theorem k40 : okC Try.prog 11 (Try.f40.body.getD .skip) c40 = true := by kernel_rfl
theorem acall40 {args : List AV} (hn : args.length ≤ 11) {H : Heap} {v : AV} {H' : Heap} (h : ac Try.prog c40 (argEnv 0 args) H (Fin H rs40 v H')) : ACall Try.prog 40 args H v H' :=
  acall Try.func40 (c := Try.f40.body.getD .skip) rfl k40 (by kernel_rfl) hn h
theorem acallK40 {args : List AV} (hn : args.length ≤ 11) {H : Heap} {v : AV} {H' : Heap} (h : ac Try.prog c40 (argEnv 0 args) H (FinK rs40 v H')) : ACall Try.prog 40 args H v H' :=
  acallK Try.func40 (c := Try.f40.body.getD .skip) rfl k40 (by kernel_rfl) hn h

/- alidade/sum.Table -/
def c41l0 : SC :=
  (.seq (.reg [⟨some 10, (.bin .lss), [.r 9, .c (.int .i64 8)], none, []⟩])
      (.seq (.cond (.r 10)
        (.kl [10] .skip)
        (.kl [9, 10] (.exit 2)))
      (.seq (.block 3 (.seq (.reg [⟨some 11, .mv, [.r 3], none, []⟩,
        ⟨some 12, (.bin .and), [.r 11, .c (.int .u32 1)], none, [11]⟩,
        ⟨some 13, (.bin .eql), [.r 12, .c (.int .u32 1)], none, [12]⟩])
      (.cond (.r 13)
        (.kl [13] (.reg [⟨some 14, .mv, [.r 3], none, [3]⟩,
          ⟨some 15, (.bin .shr), [.r 14, .c (.int .u64 1)], none, [14]⟩,
          ⟨some 16, (.bin .xor), [.r 15, .c (.int .u32 3988292384)], none, [15]⟩,
          ⟨some 3, .mv, [.r 16], none, [16]⟩]))
        (.kl [13] (.reg [⟨some 17, .mv, [.r 3], none, [3]⟩,
          ⟨some 18, (.bin .shr), [.r 17, .c (.int .u64 1)], none, [17]⟩,
          ⟨some 3, .mv, [.r 18], none, [18]⟩])))))
      (.reg [⟨some 19, (.bin .add), [.r 9, .c (.int .i64 1)], none, [9]⟩,
        ⟨some 9, .mv, [.r 19], none, [19]⟩]))))
def c41l1 : SC :=
  (.seq (.reg [⟨some 5, (.bin .lss), [.r 4, .c (.int .i64 256)], none, []⟩])
    (.seq (.cond (.r 5)
      (.kl [5] .skip)
      (.kl [4, 5] (.exit 0)))
    (.seq (.block 1 (.seq (.reg [⟨some 6, .mv, [.r 4], none, []⟩,
      ⟨some 2, .mv, [.r 6], none, [6]⟩])
    (.seq (.reg [⟨some 7, .mv, [.r 2], none, []⟩,
      ⟨some 8, (.conv .u32), [.r 7], none, [7]⟩,
      ⟨some 3, .mv, [.r 8], none, [8]⟩])
    (.seq (.seq (.reg [⟨some 9, .mv, [.c (.int .i64 0)], none, []⟩])
    (.block 2 (.loop c41l0)))
    (.reg [⟨some 20, .mv, [.r 2], none, [2]⟩,
      ⟨some 21, .mv, [.r 3], none, [3]⟩,
      ⟨some 22, (.iaddrA 1 256), [.r 1, .r 20], none, [20]⟩,
      ⟨none, (.st 1), [.r 22, .r 21], none, [21, 22]⟩])))))
    (.reg [⟨some 23, (.bin .add), [.r 4, .c (.int .i64 1)], none, [4]⟩,
      ⟨some 4, .mv, [.r 23], none, [23]⟩]))))
def c41 : SC :=
  (.seq (.reg [⟨some 0, (.alloc (List.replicate 256 (.int .u32 0))), [], none, []⟩])
  (.seq (.reg [⟨some 1, (.alloc (List.replicate 256 (.int .u32 0))), [], none, []⟩])
  (.seq (.seq (.reg [⟨some 4, .mv, [.c (.int .i64 0)], none, []⟩])
  (.block 0 (.loop c41l1)))
  (.seq (.reg [⟨some 24, (.ldn 256), [.r 1], none, [1]⟩,
    ⟨none, (.st 256), [.r 0, .r 24], none, [24]⟩])
  .ret))))
def rs41 : List SR := [.celln 0 256]
theorem k41 : okC Try.prog 25 (Try.f41.body.getD .skip) c41 = true := by kernel_rfl
theorem acall41 {args : List AV} (hn : args.length ≤ 25) {H : Heap} {v : AV} {H' : Heap} (h : ac Try.prog c41 (argEnv 0 args) H (Fin H rs41 v H')) : ACall Try.prog 41 args H v H' :=
  acall Try.func41 (c := Try.f41.body.getD .skip) rfl k41 (by kernel_rfl) hn h
theorem acallK41 {args : List AV} (hn : args.length ≤ 25) {H : Heap} {v : AV} {H' : Heap} (h : ac Try.prog c41 (argEnv 0 args) H (FinK rs41 v H')) : ACall Try.prog 41 args H v H' :=
  acallK Try.func41 (c := Try.f41.body.getD .skip) rfl k41 (by kernel_rfl) hn h

end Go.Proofs.Ytjibcbfdfambeaa.Ah
