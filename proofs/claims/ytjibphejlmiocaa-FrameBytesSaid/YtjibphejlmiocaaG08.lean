/- G08: a part of the proof: contracts of functions, or plain laws. Conditions: none. -/
import Derived.Test.YtjibphejlmiocaaEc
import Derived.Test.YtjibphejlmiocaaProg
import Derived.KernelRfl
namespace Go.Proofs.Ytjibphejlmiocaa.Ah
open Go
/- alidade/alidadelaw08.FrameApart -/
def c3 : SC :=
  (.seq (.reg [⟨some 2, .box, [.r 0], none, [0]⟩,
    ⟨some 3, .box, [.r 1], none, [1]⟩,
    ⟨some 4, .mv, [.c (.bool false)], none, []⟩])
  (.seq (.reg [⟨some 10, (.call 10), [], none, [4]⟩,
    ⟨some 5, .mv, [.r 10], none, [10]⟩])
  (.seq (.seq (.reg [⟨some 11, (.faddr 1), [.r 2], none, []⟩,
    ⟨some 12, .ld1, [.r 11], none, [11]⟩,
    ⟨some 13, .len, [.r 12], none, [12]⟩,
    ⟨some 14, (.faddr 1), [.r 3], none, []⟩,
    ⟨some 15, .ld1, [.r 14], none, [14]⟩,
    ⟨some 16, .len, [.r 15], none, [15]⟩,
    ⟨some 17, (.bin .add), [.r 13, .r 16], none, [13, 16]⟩,
    ⟨some 18, (.bin .gtr), [.r 17, .c (.int .i64 100)], none, [17]⟩,
    ⟨some 19, .mv, [.r 18], none, [18]⟩,
    ⟨some 20, (.ldn 2), [.r 2], (some (19, false)), []⟩,
    ⟨some 21, (.call 11), [.r 20], (some (19, false)), [20]⟩,
    ⟨some 22, (.un .not), [.r 21], (some (19, false)), [21]⟩,
    ⟨some 23, .pick, [.r 19, .c (.bool true), .r 22], none, [19, 22]⟩,
    ⟨some 24, .mv, [.r 23], none, [23]⟩,
    ⟨some 25, (.ldn 2), [.r 3], (some (24, false)), []⟩,
    ⟨some 26, (.call 11), [.r 25], (some (24, false)), [25]⟩,
    ⟨some 27, (.un .not), [.r 26], (some (24, false)), [26]⟩,
    ⟨some 28, .pick, [.r 24, .c (.bool true), .r 27], none, [24, 27]⟩])
  (.cond (.r 28)
    (.kl [2, 3, 28] (.seq (.reg [⟨some 29, .mv, [.r 5], none, [5]⟩,
      ⟨some 4, .mv, [.r 29], none, [29]⟩])
    .ret))
    (.kl [28] .skip)))
  (.seq (.reg [⟨some 31, (.ldn 2), [.r 2], none, []⟩,
    ⟨some 32, (.call 12), [.r 31], none, [31]⟩,
    ⟨some 30, .mv, [.r 32], none, [32]⟩,
    ⟨some 33, (.ext 0), [.r 30], none, []⟩,
    ⟨some 34, (.ext 1), [.r 30], none, [30]⟩,
    ⟨some 6, .mv, [.r 33], none, [33]⟩,
    ⟨some 7, .mv, [.r 34], none, [34]⟩])
  (.seq (.reg [⟨some 36, (.ldn 2), [.r 3], none, [7]⟩,
    ⟨some 37, (.call 12), [.r 36], none, [36]⟩,
    ⟨some 35, .mv, [.r 37], none, [37]⟩,
    ⟨some 38, (.ext 0), [.r 35], none, []⟩,
    ⟨some 39, (.ext 1), [.r 35], none, [35]⟩,
    ⟨some 8, .mv, [.r 38], none, [38]⟩,
    ⟨some 9, .mv, [.r 39], none, [39]⟩])
  (.seq (.dreg [⟨0, 0, false, false, ⟨some 40, .mv, [.r 5], none, [5, 9]⟩⟩,
    ⟨1, 1, false, false, ⟨some 41, .mv, [.r 40], none, [40]⟩⟩,
    ⟨2, 3, false, false, ⟨some 42, .mv, [.r 6], (some (41, true)), [6]⟩⟩,
    ⟨3, 7, true, false, ⟨some 43, .strOf, [.r 42], (some (41, true)), [42]⟩⟩,
    ⟨4, 3, false, false, ⟨some 44, .mv, [.r 8], (some (41, true)), [8]⟩⟩,
    ⟨5, 19, true, false, ⟨some 45, .strOf, [.r 44], (some (41, true)), [44]⟩⟩,
    ⟨6, 63, false, false, ⟨some 46, (.eqs false), [.r 43, .r 45], (some (41, true)), [43, 45]⟩⟩,
    ⟨7, 3, false, false, ⟨some 47, (.ldn 2), [.r 2], (some (41, true)), []⟩⟩,
    ⟨8, 3, false, false, ⟨some 48, (.ldn 2), [.r 3], (some (41, true)), []⟩⟩,
    ⟨9, 387, false, true, ⟨some 49, (.call 13), [.r 47, .r 48], (some (41, true)), [47, 48]⟩⟩,
    ⟨10, 1023, false, false, ⟨some 50, (.eqb false), [.r 46, .r 49], (some (41, true)), [46, 49]⟩⟩,
    ⟨11, 2047, false, false, ⟨some 51, .pick, [.r 41, .r 50, .c (.bool false)], none, [41, 50]⟩⟩,
    ⟨12, 4095, false, false, ⟨some 52, .mv, [.r 51], none, [51]⟩⟩,
    ⟨13, 8191, false, false, ⟨some 53, (.ldn 2), [.r 2], (some (52, true)), []⟩⟩,
    ⟨14, 8191, false, false, ⟨some 54, (.ldn 2), [.r 3], (some (52, true)), []⟩⟩,
    ⟨15, 32767, false, true, ⟨some 55, (.call 14), [.r 53, .r 54], (some (52, true)), [53, 54]⟩⟩,
    ⟨16, 8191, false, false, ⟨some 56, (.ldn 2), [.r 2], (some (52, true)), [2]⟩⟩,
    ⟨17, 8191, false, false, ⟨some 57, (.ldn 2), [.r 3], (some (52, true)), [3]⟩⟩,
    ⟨18, 262143, false, false, ⟨some 58, (.call 13), [.r 56, .r 57], (some (52, true)), [56, 57]⟩⟩,
    ⟨19, 524287, false, false, ⟨some 59, (.eqb false), [.r 55, .r 58], (some (52, true)), [55, 58]⟩⟩,
    ⟨20, 1048575, false, false, ⟨some 60, .pick, [.r 52, .r 59, .c (.bool false)], none, [52, 59]⟩⟩,
    ⟨21, 2097151, false, false, ⟨some 4, .mv, [.r 60], none, [60]⟩⟩])
  .ret))))))
def rs3 : List SR := [.tmp 4]
theorem k3 : okC Try.prog 61 (Try.f3.body.getD .skip) c3 = true := by kernel_rfl
theorem acall3 {args : List AV} (hn : args.length ≤ 61) {H : Heap} {v : AV} {H' : Heap} (h : ac Try.prog c3 (argEnv 0 args) H (Fin H rs3 v H')) : ACall Try.prog 3 args H v H' :=
  acall Try.func3 (c := Try.f3.body.getD .skip) rfl k3 (by kernel_rfl) hn h
theorem acallK3 {args : List AV} (hn : args.length ≤ 61) {H : Heap} {v : AV} {H' : Heap} (h : ac Try.prog c3 (argEnv 0 args) H (FinK rs3 v H')) : ACall Try.prog 3 args H v H' :=
  acallK Try.func3 (c := Try.f3.body.getD .skip) rfl k3 (by kernel_rfl) hn h

/- alidade/alidadelaw08.FramePacks -/
def c4l0 : SC :=
  (.seq (.seq (.reg [⟨some 23, .mv, [.r 9], none, []⟩,
      ⟨some 24, .mv, [.r 6], none, []⟩,
      ⟨some 25, .len, [.r 24], none, [24]⟩,
      ⟨some 26, (.bin .lss), [.r 23, .r 25], none, [23, 25]⟩])
    (.cond (.r 26)
      (.kl [26] .skip)
      (.kl [6, 7, 9, 26] (.exit 0))))
    (.seq (.block 1 (.dreg [⟨0, 0, false, false, ⟨some 29, .mv, [.r 8], none, [8]⟩⟩,
      ⟨1, 1, false, false, ⟨some 30, .mv, [.r 29], none, [29]⟩⟩,
      ⟨2, 3, false, false, ⟨some 31, .mv, [.r 6], (some (30, true)), []⟩⟩,
      ⟨3, 3, false, false, ⟨some 32, .mv, [.r 9], (some (30, true)), []⟩⟩,
      ⟨4, 15, false, false, ⟨some 33, (.iaddrS 1), [.r 31, .r 32], (some (30, true)), [31, 32]⟩⟩,
      ⟨5, 31, false, false, ⟨some 34, .ld1, [.r 33], (some (30, true)), [33]⟩⟩,
      ⟨6, 3, false, false, ⟨some 35, .mv, [.r 7], (some (30, true)), []⟩⟩,
      ⟨7, 3, false, false, ⟨some 36, .mv, [.r 9], (some (30, true)), []⟩⟩,
      ⟨8, 195, false, false, ⟨some 37, (.iaddrS 1), [.r 35, .r 36], (some (30, true)), [35, 36]⟩⟩,
      ⟨9, 451, false, false, ⟨some 38, .ld1, [.r 37], (some (30, true)), [37]⟩⟩,
      ⟨10, 1023, false, false, ⟨some 39, (.bin .eql), [.r 34, .r 38], (some (30, true)), [34, 38]⟩⟩,
      ⟨11, 2047, false, false, ⟨some 40, .pick, [.r 30, .r 39, .c (.bool false)], none, [30, 39]⟩⟩,
      ⟨12, 4095, false, false, ⟨some 8, .mv, [.r 40], none, [40]⟩⟩]))
    (.reg [⟨some 27, .mv, [.r 9], none, [9]⟩,
      ⟨some 28, (.bin .add), [.r 27, .c (.int .i64 1)], none, [27]⟩,
      ⟨some 9, .mv, [.r 28], none, [28]⟩])))
def c4 : SC :=
  (.seq (.reg [⟨some 2, .box, [.r 0], none, [0]⟩,
    ⟨some 3, .box, [.r 1], none, [1]⟩,
    ⟨some 4, .mv, [.c (.bool false)], none, []⟩])
  (.seq (.reg [⟨some 10, (.call 10), [], none, [4]⟩,
    ⟨some 5, .mv, [.r 10], none, [10]⟩])
  (.seq (.reg [⟨some 11, (.ldn 13), [.r 2], none, []⟩,
    ⟨some 12, (.call 15), [.r 11], none, [11]⟩,
    ⟨some 6, .mv, [.r 12], none, [12]⟩])
  (.seq (.reg [⟨some 13, (.ldn 13), [.r 3], none, []⟩,
    ⟨some 14, (.call 15), [.r 13], none, [13]⟩,
    ⟨some 7, .mv, [.r 14], none, [14]⟩])
  (.seq (.seq (.reg [⟨some 15, .mv, [.r 6], none, []⟩,
    ⟨some 16, .len, [.r 15], none, [15]⟩,
    ⟨some 17, (.bin .neq), [.r 16, .c (.int .i64 13)], none, [16]⟩,
    ⟨some 18, .mv, [.r 17], none, [17]⟩,
    ⟨some 19, .mv, [.r 7], (some (18, false)), []⟩,
    ⟨some 20, .len, [.r 19], (some (18, false)), [19]⟩,
    ⟨some 21, (.bin .neq), [.r 20, .c (.int .i64 13)], (some (18, false)), [20]⟩,
    ⟨some 22, .pick, [.r 18, .c (.bool true), .r 21], none, [18, 21]⟩])
  (.cond (.r 22)
    (.kl [2, 3, 5, 6, 7, 22] (.seq (.reg [⟨some 4, .mv, [.c (.bool false)], none, []⟩])
    .ret))
    (.kl [22] .skip)))
  (.seq (.reg [⟨some 8, .mv, [.c (.bool true)], none, []⟩])
  (.seq (.seq (.reg [⟨some 9, .mv, [.c (.int .i64 0)], none, []⟩])
  (.block 0 (.loop c4l0)))
  (.seq (.reg [⟨some 41, .mv, [.r 5], none, [5]⟩,
    ⟨some 42, .mv, [.r 41], none, [41]⟩,
    ⟨some 43, .mv, [.r 8], (some (42, true)), [8]⟩,
    ⟨some 44, (.ldn 13), [.r 2], (some (42, true)), [2]⟩,
    ⟨some 45, (.ldn 13), [.r 3], (some (42, true)), [3]⟩,
    ⟨some 46, (.eqv false [.bool, .int, .int, .int, .int, .int, .int, .bool, .int, .bool, .int, .int, .int]), [.r 44, .r 45], (some (42, true)), [44, 45]⟩,
    ⟨some 47, (.eqb false), [.r 43, .r 46], (some (42, true)), [43, 46]⟩,
    ⟨some 48, .pick, [.r 42, .r 47, .c (.bool false)], none, [42, 47]⟩,
    ⟨some 4, .mv, [.r 48], none, [48]⟩])
  .ret))))))))
def rs4 : List SR := [.tmp 4]
theorem k4 : okC Try.prog 49 (Try.f4.body.getD .skip) c4 = true := by kernel_rfl
theorem acall4 {args : List AV} (hn : args.length ≤ 49) {H : Heap} {v : AV} {H' : Heap} (h : ac Try.prog c4 (argEnv 0 args) H (Fin H rs4 v H')) : ACall Try.prog 4 args H v H' :=
  acall Try.func4 (c := Try.f4.body.getD .skip) rfl k4 (by kernel_rfl) hn h
theorem acallK4 {args : List AV} (hn : args.length ≤ 49) {H : Heap} {v : AV} {H' : Heap} (h : ac Try.prog c4 (argEnv 0 args) H (FinK rs4 v H')) : ACall Try.prog 4 args H v H' :=
  acallK Try.func4 (c := Try.f4.body.getD .skip) rfl k4 (by kernel_rfl) hn h

/- alidade/alidadelaw08.FrameWords -/
def c5 : SC :=
  (.seq (.reg [⟨some 2, .box, [.r 0], none, [0]⟩,
    ⟨some 4, .mv, [.c (.bool false)], none, []⟩])
  (.seq (.reg [⟨some 10, (.call 10), [], none, [4]⟩,
    ⟨some 5, .mv, [.r 10], none, [10]⟩])
  (.seq (.seq (.reg [⟨some 11, .mv, [.r 1], none, []⟩,
    ⟨some 12, .len, [.r 11], none, [11]⟩,
    ⟨some 13, (.bin .gtr), [.r 12, .c (.int .i64 100)], none, [12]⟩])
  (.cond (.r 13)
    (.kl [1, 2, 13] (.seq (.reg [⟨some 14, .mv, [.r 5], none, [5]⟩,
      ⟨some 4, .mv, [.r 14], none, [14]⟩])
    .ret))
    (.kl [13] .skip)))
  (.seq (.reg [⟨some 16, .mv, [.r 1], none, []⟩,
    ⟨some 17, (.call 16), [.r 16], none, [16]⟩,
    ⟨some 15, .mv, [.r 17], none, [17]⟩,
    ⟨some 18, (.ext 0), [.r 15], none, []⟩,
    ⟨some 19, (.ext 1), [.r 15], none, [15]⟩,
    ⟨some 6, (.alloc [(.bool false), (.int .i64 0), (.int .i64 0), (.int .i64 0), (.int .i64 0), (.int .i64 0), (.int .i64 0), (.bool false), (.int .i64 0), (.bool false), (.int .i64 0), (.int .i64 0), (.int .i64 0)]), [], none, []⟩,
    ⟨none, (.st 13), [.r 6, .r 18], none, [18]⟩,
    ⟨some 7, .mv, [.r 19], none, [19]⟩])
  (.seq (.reg [⟨some 21, .mv, [.r 1], none, [1]⟩,
    ⟨some 22, (.call 17), [.r 21], none, [21]⟩,
    ⟨some 20, .mv, [.r 22], none, [22]⟩,
    ⟨some 23, (.ext 0), [.r 20], none, []⟩,
    ⟨some 24, (.ext 1), [.r 20], none, [20]⟩,
    ⟨some 8, (.alloc [(.bool false), (.int .i64 0), (.int .i64 0), (.int .i64 0), (.int .i64 0), (.int .i64 0), (.int .i64 0), (.bool false), (.int .i64 0), (.bool false), (.int .i64 0), (.int .i64 0), (.int .i64 0)]), [], none, []⟩,
    ⟨none, (.st 13), [.r 8, .r 23], none, [23]⟩,
    ⟨some 9, .mv, [.r 24], none, [24]⟩])
  (.seq (.dreg [⟨0, 0, false, false, ⟨some 25, .mv, [.r 5], none, [5]⟩⟩,
    ⟨1, 1, false, false, ⟨some 26, .mv, [.r 25], none, [25]⟩⟩,
    ⟨2, 3, false, false, ⟨some 27, (.ldn 13), [.r 2], (some (26, true)), []⟩⟩,
    ⟨3, 7, true, false, ⟨some 28, (.call 15), [.r 27], (some (26, true)), [27]⟩⟩,
    ⟨4, 3, false, false, ⟨some 29, (.ldn 13), [.r 2], (some (26, true)), [2]⟩⟩,
    ⟨5, 31, false, false, ⟨some 30, (.call 19), [.r 29], (some (26, true)), [29]⟩⟩,
    ⟨6, 63, false, false, ⟨some 31, (.call 18), [.r 28, .r 30], (some (26, true)), [28, 30]⟩⟩,
    ⟨7, 127, false, false, ⟨some 32, .pick, [.r 26, .r 31, .c (.bool false)], none, [26, 31]⟩⟩,
    ⟨8, 255, false, false, ⟨some 33, .mv, [.r 32], none, [32]⟩⟩,
    ⟨9, 511, false, false, ⟨some 34, (.ldn 13), [.r 6], (some (33, true)), [6]⟩⟩,
    ⟨10, 511, false, false, ⟨some 35, (.ldn 13), [.r 8], (some (33, true)), [8]⟩⟩,
    ⟨11, 2047, false, false, ⟨some 36, (.eqv false [.bool, .int, .int, .int, .int, .int, .int, .bool, .int, .bool, .int, .int, .int]), [.r 34, .r 35], (some (33, true)), [34, 35]⟩⟩,
    ⟨12, 4095, false, false, ⟨some 37, .pick, [.r 33, .r 36, .c (.bool false)], none, [33, 36]⟩⟩,
    ⟨13, 8191, false, false, ⟨some 38, .mv, [.r 37], none, [37]⟩⟩,
    ⟨14, 16383, false, false, ⟨some 39, .mv, [.r 7], (some (38, true)), [7]⟩⟩,
    ⟨15, 16383, false, false, ⟨some 40, .mv, [.r 9], (some (38, true)), [9]⟩⟩,
    ⟨16, 65535, false, false, ⟨some 41, (.bin .eql), [.r 39, .r 40], (some (38, true)), [39, 40]⟩⟩,
    ⟨17, 131071, false, false, ⟨some 42, .pick, [.r 38, .r 41, .c (.bool false)], none, [38, 41]⟩⟩,
    ⟨18, 262143, false, false, ⟨some 4, .mv, [.r 42], none, [42]⟩⟩])
  .ret))))))
def rs5 : List SR := [.tmp 4]
theorem k5 : okC Try.prog 43 (Try.f5.body.getD .skip) c5 = true := by kernel_rfl
theorem acall5 {args : List AV} (hn : args.length ≤ 43) {H : Heap} {v : AV} {H' : Heap} (h : ac Try.prog c5 (argEnv 0 args) H (Fin H rs5 v H')) : ACall Try.prog 5 args H v H' :=
  acall Try.func5 (c := Try.f5.body.getD .skip) rfl k5 (by kernel_rfl) hn h
theorem acallK5 {args : List AV} (hn : args.length ≤ 43) {H : Heap} {v : AV} {H' : Heap} (h : ac Try.prog c5 (argEnv 0 args) H (FinK rs5 v H')) : ACall Try.prog 5 args H v H' :=
  acallK Try.func5 (c := Try.f5.body.getD .skip) rfl k5 (by kernel_rfl) hn h

/- alidade/alidadelaw08.FrameBursts -/
def c6l0 : SC :=
  (.seq (.seq (.reg [⟨some 37, .mv, [.r 11], none, []⟩,
      ⟨some 38, (.bin .lss), [.r 37, .c (.int .i64 4)], none, [37]⟩])
    (.cond (.r 38)
      (.kl [38] .skip)
      (.kl [1, 5, 11, 38] (.exit 0))))
    (.seq (.block 1 (.seq (.reg [⟨some 41, .mv, [.r 1], none, []⟩,
      ⟨some 42, (.bin .geq), [.r 41, .c (.int .i64 0)], none, [41]⟩,
      ⟨some 43, .mv, [.r 42], none, [42]⟩,
      ⟨some 44, .mv, [.r 1], (some (43, true)), []⟩,
      ⟨some 45, .mv, [.r 8], (some (43, true)), []⟩,
      ⟨some 46, .len, [.r 45], (some (43, true)), [45]⟩,
      ⟨some 47, .mv, [.r 11], (some (43, true)), []⟩,
      ⟨some 48, (.bin .sub), [.r 46, .r 47], (some (43, true)), [46, 47]⟩,
      ⟨some 49, (.bin .lss), [.r 44, .r 48], (some (43, true)), [44, 48]⟩,
      ⟨some 50, .pick, [.r 43, .r 49, .c (.bool false)], none, [43, 49]⟩])
    (.cond (.r 50)
      (.kl [50] (.seq (.dreg [⟨0, 0, false, false, ⟨some 51, .mv, [.r 8], none, []⟩⟩,
        ⟨1, 0, false, false, ⟨some 52, .mv, [.r 1], none, []⟩⟩,
        ⟨2, 0, false, false, ⟨some 53, .mv, [.r 11], none, []⟩⟩,
        ⟨3, 6, false, false, ⟨some 54, (.bin .add), [.r 52, .r 53], none, [52, 53]⟩⟩,
        ⟨4, 0, false, false, ⟨some 55, .mv, [.r 8], none, []⟩⟩,
        ⟨5, 0, false, false, ⟨some 56, .mv, [.r 1], none, []⟩⟩,
        ⟨6, 0, false, false, ⟨some 57, .mv, [.r 11], none, []⟩⟩,
        ⟨7, 96, false, false, ⟨some 58, (.bin .add), [.r 56, .r 57], none, [56, 57]⟩⟩,
        ⟨8, 240, false, false, ⟨some 59, (.iaddrS 1), [.r 55, .r 58], none, [55, 58]⟩⟩,
        ⟨9, 496, false, false, ⟨some 60, .ld1, [.r 59], none, [59]⟩⟩,
        ⟨10, 0, false, false, ⟨some 61, .mv, [.r 11], none, []⟩⟩,
        ⟨11, 1024, false, false, ⟨some 62, (.iaddrA 1 4), [.r 5, .r 61], none, [61]⟩⟩,
        ⟨12, 3072, false, false, ⟨some 63, .ld1, [.r 62], none, [62]⟩⟩,
        ⟨13, 8176, false, false, ⟨some 64, (.bin .xor), [.r 60, .r 63], none, [60, 63]⟩⟩,
        ⟨14, 16383, false, false, ⟨some 65, (.iaddrS 1), [.r 51, .r 54], none, [51, 54]⟩⟩,
        ⟨15, 32767, false, false, ⟨none, (.st 1), [.r 65, .r 64], none, [64, 65]⟩⟩])
      (.reg [⟨some 66, .mv, [.r 10], none, [10]⟩,
        ⟨some 67, .mv, [.r 66], none, [66]⟩,
        ⟨some 68, .mv, [.r 11], (some (67, false)), []⟩,
        ⟨some 69, (.iaddrA 1 4), [.r 5, .r 68], (some (67, false)), [68]⟩,
        ⟨some 70, .ld1, [.r 69], (some (67, false)), [69]⟩,
        ⟨some 71, (.bin .neq), [.r 70, .c (.int .u8 0)], (some (67, false)), [70]⟩,
        ⟨some 72, .pick, [.r 67, .c (.bool true), .r 71], none, [67, 71]⟩,
        ⟨some 10, .mv, [.r 72], none, [72]⟩])))
      (.kl [50] .skip))))
    (.reg [⟨some 39, .mv, [.r 11], none, [11]⟩,
      ⟨some 40, (.bin .add), [.r 39, .c (.int .i64 1)], none, [39]⟩,
      ⟨some 11, .mv, [.r 40], none, [40]⟩])))
def c6 : SC :=
  (.seq (.reg [⟨some 3, .box, [.r 0], none, [0]⟩,
    ⟨some 5, .box, [.r 2], none, [2]⟩,
    ⟨some 6, .mv, [.c (.bool false)], none, []⟩])
  (.seq (.reg [⟨some 14, (.call 10), [], none, [6]⟩,
    ⟨some 7, .mv, [.r 14], none, [14]⟩])
  (.seq (.seq (.reg [⟨some 15, (.faddr 1), [.r 3], none, []⟩,
    ⟨some 16, .ld1, [.r 15], none, [15]⟩,
    ⟨some 17, .len, [.r 16], none, [16]⟩,
    ⟨some 18, (.bin .gtr), [.r 17, .c (.int .i64 100)], none, [17]⟩,
    ⟨some 19, .mv, [.r 18], none, [18]⟩,
    ⟨some 20, (.ldn 2), [.r 3], (some (19, false)), []⟩,
    ⟨some 21, (.call 11), [.r 20], (some (19, false)), [20]⟩,
    ⟨some 22, (.un .not), [.r 21], (some (19, false)), [21]⟩,
    ⟨some 23, .pick, [.r 19, .c (.bool true), .r 22], none, [19, 22]⟩])
  (.cond (.r 23)
    (.kl [1, 3, 5, 23] (.seq (.reg [⟨some 24, .mv, [.r 7], none, [7]⟩,
      ⟨some 6, .mv, [.r 24], none, [24]⟩])
    .ret))
    (.kl [23] .skip)))
  (.seq (.reg [⟨some 26, (.ldn 2), [.r 3], none, []⟩,
    ⟨some 27, (.call 12), [.r 26], none, [26]⟩,
    ⟨some 25, .mv, [.r 27], none, [27]⟩,
    ⟨some 28, (.ext 0), [.r 25], none, []⟩,
    ⟨some 29, (.ext 1), [.r 25], none, [25]⟩,
    ⟨some 8, .mv, [.r 28], none, [28]⟩,
    ⟨some 9, .mv, [.r 29], none, [29]⟩])
  (.seq (.seq (.reg [⟨some 30, .mv, [.r 9], none, [9]⟩,
    ⟨some 31, (.bin .neq), [.r 30, .c (.int .i64 0)], none, [30]⟩,
    ⟨some 32, .mv, [.r 31], none, [31]⟩,
    ⟨some 33, .mv, [.r 8], (some (32, false)), []⟩,
    ⟨some 34, .len, [.r 33], (some (32, false)), [33]⟩,
    ⟨some 35, (.bin .eql), [.r 34, .c (.int .i64 0)], (some (32, false)), [34]⟩,
    ⟨some 36, .pick, [.r 32, .c (.bool true), .r 35], none, [32, 35]⟩])
  (.cond (.r 36)
    (.kl [1, 3, 5, 7, 8, 36] (.seq (.reg [⟨some 6, .mv, [.c (.bool false)], none, []⟩])
    .ret))
    (.kl [36] .skip)))
  (.seq (.reg [⟨some 10, .mv, [.c (.bool false)], none, []⟩])
  (.seq (.seq (.reg [⟨some 11, .mv, [.c (.int .i64 0)], none, []⟩])
  (.block 0 (.loop c6l0)))
  (.seq (.reg [⟨some 74, .mv, [.r 8], none, [8]⟩,
    ⟨some 75, (.call 20), [.r 74], none, [74]⟩,
    ⟨some 73, .mv, [.r 75], none, [75]⟩,
    ⟨some 76, (.ext 0), [.r 73], none, []⟩,
    ⟨some 77, (.ext 1), [.r 73], none, [73]⟩,
    ⟨some 12, (.alloc [(.int .i64 0), .nils]), [], none, []⟩,
    ⟨none, (.st 2), [.r 12, .r 76], none, [76]⟩,
    ⟨some 13, .mv, [.r 77], none, [77]⟩])
  (.seq (.reg [⟨some 78, .mv, [.r 7], none, [7]⟩,
    ⟨some 79, .mv, [.r 78], none, [78]⟩,
    ⟨some 80, .mv, [.r 10], (some (79, true)), []⟩,
    ⟨some 81, .mv, [.r 80], (some (79, true)), [80]⟩,
    ⟨some 82, .mv, [.r 13], (some (81, true)), []⟩,
    ⟨some 83, (.bin .eql), [.r 82, .c (.int .i64 3)], (some (81, true)), [82]⟩,
    ⟨some 84, .pick, [.r 81, .r 83, .c (.bool false)], (some (79, true)), [81, 83]⟩,
    ⟨some 85, .mv, [.r 84], (some (79, true)), [84]⟩,
    ⟨some 86, .mv, [.r 10], (some (85, false)), [10]⟩,
    ⟨some 87, (.un .not), [.r 86], (some (85, false)), [86]⟩,
    ⟨some 88, .mv, [.r 87], (some (85, false)), [87]⟩,
    ⟨some 89, .mv, [.r 13], (some (88, true)), [13]⟩,
    ⟨some 90, (.bin .eql), [.r 89, .c (.int .i64 0)], (some (88, true)), [89]⟩,
    ⟨some 91, .pick, [.r 88, .r 90, .c (.bool false)], (some (85, false)), [88, 90]⟩,
    ⟨some 92, .mv, [.r 91], (some (85, false)), [91]⟩,
    ⟨some 93, (.ldn 2), [.r 12], (some (92, true)), [12]⟩,
    ⟨some 94, (.ldn 2), [.r 3], (some (92, true)), [3]⟩,
    ⟨some 95, (.call 13), [.r 93, .r 94], (some (92, true)), [93, 94]⟩,
    ⟨some 96, .pick, [.r 92, .r 95, .c (.bool false)], (some (85, false)), [92, 95]⟩,
    ⟨some 97, .pick, [.r 85, .c (.bool true), .r 96], (some (79, true)), [85, 96]⟩,
    ⟨some 98, .pick, [.r 79, .r 97, .c (.bool false)], none, [79, 97]⟩,
    ⟨some 6, .mv, [.r 98], none, [98]⟩])
  .ret)))))))))
def rs6 : List SR := [.tmp 6]
theorem k6 : okC Try.prog 99 (Try.f6.body.getD .skip) c6 = true := by kernel_rfl
theorem acall6 {args : List AV} (hn : args.length ≤ 99) {H : Heap} {v : AV} {H' : Heap} (h : ac Try.prog c6 (argEnv 0 args) H (Fin H rs6 v H')) : ACall Try.prog 6 args H v H' :=
  acall Try.func6 (c := Try.f6.body.getD .skip) rfl k6 (by kernel_rfl) hn h
theorem acallK6 {args : List AV} (hn : args.length ≤ 99) {H : Heap} {v : AV} {H' : Heap} (h : ac Try.prog c6 (argEnv 0 args) H (FinK rs6 v H')) : ACall Try.prog 6 args H v H' :=
  acallK Try.func6 (c := Try.f6.body.getD .skip) rfl k6 (by kernel_rfl) hn h

/- alidade/alidadelaw08.FrameKinds -/
def c7 : SC :=
  (.seq (.reg [⟨some 2, .mv, [.c (.bool false)], none, []⟩])
  (.seq (.reg [⟨some 12, (.call 10), [], none, [2]⟩,
    ⟨some 3, .mv, [.r 12], none, [12]⟩])
  (.seq (.reg [⟨some 13, .mv, [.r 0], none, []⟩,
    ⟨some 14, (.call 21), [.r 13], none, [13]⟩,
    ⟨some 4, .mv, [.r 14], none, [14]⟩])
  (.seq (.seq (.reg [⟨some 15, .mv, [.r 0], none, []⟩,
    ⟨some 16, (.bin .lss), [.r 15, .c (.int .i64 1)], none, [15]⟩,
    ⟨some 17, .mv, [.r 16], none, [16]⟩,
    ⟨some 18, .mv, [.r 0], (some (17, false)), []⟩,
    ⟨some 19, (.bin .gtr), [.r 18, .c (.int .i64 8)], (some (17, false)), [18]⟩,
    ⟨some 20, .pick, [.r 17, .c (.bool true), .r 19], none, [17, 19]⟩])
  (.cond (.r 20)
    (.kl [0, 20] (.seq (.reg [⟨some 21, .mv, [.r 3], none, [3]⟩,
      ⟨some 22, .mv, [.r 21], none, [21]⟩,
      ⟨some 23, .mv, [.r 4], (some (22, true)), [4]⟩,
      ⟨some 24, (.bin .eql), [.r 23, .c (.int .i64 0)], (some (22, true)), [23]⟩,
      ⟨some 25, .pick, [.r 22, .r 24, .c (.bool false)], none, [22, 24]⟩,
      ⟨some 2, .mv, [.r 25], none, [25]⟩])
    .ret))
    (.kl [20] .skip)))
  (.seq (.reg [⟨some 26, .mv, [.r 0], none, [0]⟩,
    ⟨some 27, .mv, [.r 4], none, []⟩,
    ⟨some 28, .mx, [.r 27, .c (.int .i64 0)], none, [27]⟩,
    ⟨some 29, (.mksl 1 8 [(.int .i64 0)]), [.r 28, .r 28], none, [28]⟩,
    ⟨some 30, (.build [(.int .i64 0), .nils] [(0, 1), (1, 1)]), [.r 26, .r 29], none, [26, 29]⟩,
    ⟨some 5, (.alloc [(.int .i64 0), .nils]), [], none, []⟩,
    ⟨none, (.st 2), [.r 5, .r 30], none, [30]⟩])
  (.seq (.reg [⟨some 32, (.ldn 2), [.r 5], none, []⟩,
    ⟨some 33, (.call 12), [.r 32], none, [32]⟩,
    ⟨some 31, .mv, [.r 33], none, [33]⟩,
    ⟨some 34, (.ext 0), [.r 31], none, []⟩,
    ⟨some 35, (.ext 1), [.r 31], none, [31]⟩,
    ⟨some 6, .mv, [.r 34], none, [34]⟩,
    ⟨some 7, .mv, [.r 35], none, [35]⟩])
  (.seq (.reg [⟨some 37, .mv, [.r 6], none, []⟩,
    ⟨some 38, (.call 20), [.r 37], none, [37]⟩,
    ⟨some 36, .mv, [.r 38], none, [38]⟩,
    ⟨some 39, (.ext 0), [.r 36], none, []⟩,
    ⟨some 40, (.ext 1), [.r 36], none, [36]⟩,
    ⟨some 8, (.alloc [(.int .i64 0), .nils]), [], none, []⟩,
    ⟨none, (.st 2), [.r 8, .r 39], none, [39]⟩,
    ⟨some 9, .mv, [.r 40], none, [40]⟩])
  (.seq (.reg [⟨some 41, (.faddr 1), [.r 5], none, []⟩,
    ⟨some 42, .ld1, [.r 41], none, [41]⟩,
    ⟨some 43, (.bslice 1 1 [(.int .i64 0)] [(0, 1)]), [.c (.int .i64 0)], none, []⟩,
    ⟨some 44, (.app 1 8), [.r 42, .r 43], none, [42, 43]⟩,
    ⟨some 45, (.faddr 1), [.r 5], none, []⟩,
    ⟨none, (.st 1), [.r 45, .r 44], none, [44, 45]⟩])
  (.seq (.reg [⟨some 47, (.ldn 2), [.r 5], none, [5]⟩,
    ⟨some 48, (.call 12), [.r 47], none, [47]⟩,
    ⟨some 46, .mv, [.r 48], none, [48]⟩,
    ⟨some 49, (.ext 0), [.r 46], none, []⟩,
    ⟨some 50, (.ext 1), [.r 46], none, [46]⟩,
    ⟨some 10, .mv, [.r 49], none, [49]⟩,
    ⟨some 11, .mv, [.r 50], none, [10, 50]⟩])
  (.seq (.reg [⟨some 51, .mv, [.r 3], none, [3]⟩,
    ⟨some 52, .mv, [.r 51], none, [51]⟩,
    ⟨some 53, .mv, [.r 4], (some (52, true)), []⟩,
    ⟨some 54, (.bin .gtr), [.r 53, .c (.int .i64 0)], (some (52, true)), [53]⟩,
    ⟨some 55, .pick, [.r 52, .r 54, .c (.bool false)], none, [52, 54]⟩,
    ⟨some 56, .mv, [.r 55], none, [55]⟩,
    ⟨some 57, .mv, [.r 7], (some (56, true)), [7]⟩,
    ⟨some 58, (.bin .eql), [.r 57, .c (.int .i64 0)], (some (56, true)), [57]⟩,
    ⟨some 59, .pick, [.r 56, .r 58, .c (.bool false)], none, [56, 58]⟩,
    ⟨some 60, .mv, [.r 59], none, [59]⟩,
    ⟨some 61, .mv, [.r 6], (some (60, true)), [6]⟩,
    ⟨some 62, .len, [.r 61], (some (60, true)), [61]⟩,
    ⟨some 63, .mv, [.r 4], (some (60, true)), []⟩,
    ⟨some 64, (.bin .mul), [.c (.int .i64 8), .r 63], (some (60, true)), [63]⟩,
    ⟨some 65, (.bin .add), [.c (.int .i64 5), .r 64], (some (60, true)), [64]⟩,
    ⟨some 66, (.bin .eql), [.r 62, .r 65], (some (60, true)), [62, 65]⟩,
    ⟨some 67, .pick, [.r 60, .r 66, .c (.bool false)], none, [60, 66]⟩,
    ⟨some 68, .mv, [.r 67], none, [67]⟩,
    ⟨some 69, .mv, [.r 9], (some (68, true)), [9]⟩,
    ⟨some 70, (.bin .eql), [.r 69, .c (.int .i64 0)], (some (68, true)), [69]⟩,
    ⟨some 71, .pick, [.r 68, .r 70, .c (.bool false)], none, [68, 70]⟩,
    ⟨some 72, .mv, [.r 71], none, [71]⟩,
    ⟨some 73, (.faddr 1), [.r 8], (some (72, true)), [8]⟩,
    ⟨some 74, .ld1, [.r 73], (some (72, true)), [73]⟩,
    ⟨some 75, .len, [.r 74], (some (72, true)), [74]⟩,
    ⟨some 76, .mv, [.r 4], (some (72, true)), [4]⟩,
    ⟨some 77, (.bin .eql), [.r 75, .r 76], (some (72, true)), [75, 76]⟩,
    ⟨some 78, .pick, [.r 72, .r 77, .c (.bool false)], none, [72, 77]⟩,
    ⟨some 79, .mv, [.r 78], none, [78]⟩,
    ⟨some 80, .mv, [.r 11], (some (79, true)), [11]⟩,
    ⟨some 81, (.bin .eql), [.r 80, .c (.int .i64 1)], (some (79, true)), [80]⟩,
    ⟨some 82, .pick, [.r 79, .r 81, .c (.bool false)], none, [79, 81]⟩,
    ⟨some 2, .mv, [.r 82], none, [82]⟩])
  .ret))))))))))
def rs7 : List SR := [.tmp 2]
theorem k7 : okC Try.prog 83 (Try.f7.body.getD .skip) c7 = true := by kernel_rfl
theorem acall7 {args : List AV} (hn : args.length ≤ 83) {H : Heap} {v : AV} {H' : Heap} (h : ac Try.prog c7 (argEnv 0 args) H (Fin H rs7 v H')) : ACall Try.prog 7 args H v H' :=
  acall Try.func7 (c := Try.f7.body.getD .skip) rfl k7 (by kernel_rfl) hn h
theorem acallK7 {args : List AV} (hn : args.length ≤ 83) {H : Heap} {v : AV} {H' : Heap} (h : ac Try.prog c7 (argEnv 0 args) H (FinK rs7 v H')) : ACall Try.prog 7 args H v H' :=
  acallK Try.func7 (c := Try.f7.body.getD .skip) rfl k7 (by kernel_rfl) hn h

/- alidade/alidadelaw08.FrameBytes -/
def c8 : SC :=
  (.seq (.reg [⟨some 3, .box, [.r 0], none, [0]⟩,
    ⟨some 4, .box, [.r 1], none, [1]⟩,
    ⟨some 6, .mv, [.c (.bool false)], none, []⟩])
  (.seq (.reg [⟨some 17, (.call 10), [], none, [6]⟩,
    ⟨some 7, .mv, [.r 17], none, [17]⟩])
  (.seq (.seq (.reg [⟨some 18, (.faddr 1), [.r 3], none, []⟩,
    ⟨some 19, .ld1, [.r 18], none, [18]⟩,
    ⟨some 20, .len, [.r 19], none, [19]⟩,
    ⟨some 21, (.faddr 1), [.r 4], none, []⟩,
    ⟨some 22, .ld1, [.r 21], none, [21]⟩,
    ⟨some 23, .len, [.r 22], none, [22]⟩,
    ⟨some 24, (.bin .add), [.r 20, .r 23], none, [20, 23]⟩,
    ⟨some 25, (.bin .gtr), [.r 24, .c (.int .i64 100)], none, [24]⟩,
    ⟨some 26, .mv, [.r 25], none, [25]⟩,
    ⟨some 27, .mv, [.r 2], (some (26, false)), []⟩,
    ⟨some 28, .len, [.r 27], (some (26, false)), [27]⟩,
    ⟨some 29, (.bin .gtr), [.r 28, .c (.int .i64 500)], (some (26, false)), [28]⟩,
    ⟨some 30, .pick, [.r 26, .c (.bool true), .r 29], none, [26, 29]⟩])
  (.cond (.r 30)
    (.kl [2, 3, 4, 30] (.seq (.reg [⟨some 31, .mv, [.r 7], none, [7]⟩,
      ⟨some 6, .mv, [.r 31], none, [31]⟩])
    .ret))
    (.kl [30] .skip)))
  (.seq (.reg [⟨some 33, (.ldn 2), [.r 3], none, []⟩,
    ⟨some 34, (.call 12), [.r 33], none, [33]⟩,
    ⟨some 32, .mv, [.r 34], none, [34]⟩,
    ⟨some 35, (.ext 0), [.r 32], none, []⟩,
    ⟨some 36, (.ext 1), [.r 32], none, [32]⟩,
    ⟨some 8, .mv, [.r 35], none, [35]⟩,
    ⟨some 9, .mv, [.r 36], none, [36]⟩])
  (.seq (.reg [⟨some 38, (.ldn 2), [.r 3], none, []⟩,
    ⟨some 39, (.call 22), [.r 38], none, [38]⟩,
    ⟨some 37, .mv, [.r 39], none, [39]⟩,
    ⟨some 40, (.ext 0), [.r 37], none, []⟩,
    ⟨some 41, (.ext 1), [.r 37], none, [37]⟩,
    ⟨some 10, .mv, [.r 40], none, [40]⟩,
    ⟨some 11, .mv, [.r 41], none, [41]⟩])
  (.seq (.reg [⟨some 43, .mv, [.r 2], none, []⟩,
    ⟨some 44, (.call 20), [.r 43], none, [43]⟩,
    ⟨some 42, .mv, [.r 44], none, [44]⟩,
    ⟨some 45, (.ext 0), [.r 42], none, []⟩,
    ⟨some 46, (.ext 1), [.r 42], none, [42]⟩,
    ⟨some 12, (.alloc [(.int .i64 0), .nils]), [], none, []⟩,
    ⟨none, (.st 2), [.r 12, .r 45], none, [45]⟩,
    ⟨some 13, .mv, [.r 46], none, [46]⟩])
  (.seq (.reg [⟨some 48, .mv, [.r 2], none, [2]⟩,
    ⟨some 49, (.call 23), [.r 48], none, [48]⟩,
    ⟨some 47, .mv, [.r 49], none, [49]⟩,
    ⟨some 50, (.ext 0), [.r 47], none, []⟩,
    ⟨some 51, (.ext 1), [.r 47], none, [47]⟩,
    ⟨some 14, (.alloc [(.int .i64 0), .nils]), [], none, []⟩,
    ⟨none, (.st 2), [.r 14, .r 50], none, [50]⟩,
    ⟨some 15, .mv, [.r 51], none, [51]⟩])
  (.seq (.reg [⟨some 52, .mv, [.r 8], none, [8]⟩,
    ⟨some 53, .mv, [.r 10], none, [10]⟩,
    ⟨some 54, (.call 24), [.r 52, .r 53], none, [52, 53]⟩,
    ⟨some 55, .mv, [.r 54], none, [54]⟩,
    ⟨some 56, .mv, [.r 9], (some (55, true)), [9]⟩,
    ⟨some 57, .mv, [.r 11], (some (55, true)), [11]⟩,
    ⟨some 58, (.bin .eql), [.r 56, .r 57], (some (55, true)), [56, 57]⟩,
    ⟨some 59, .pick, [.r 55, .r 58, .c (.bool false)], none, [55, 58]⟩,
    ⟨some 60, .mv, [.r 59], none, [59]⟩,
    ⟨some 61, (.ldn 2), [.r 12], (some (60, true)), [12]⟩,
    ⟨some 62, (.ldn 2), [.r 14], (some (60, true)), [14]⟩,
    ⟨some 63, (.call 13), [.r 61, .r 62], (some (60, true)), [61, 62]⟩,
    ⟨some 64, .pick, [.r 60, .r 63, .c (.bool false)], none, [60, 63]⟩,
    ⟨some 65, .mv, [.r 64], none, [64]⟩,
    ⟨some 66, .mv, [.r 13], (some (65, true)), [13]⟩,
    ⟨some 67, .mv, [.r 15], (some (65, true)), [15]⟩,
    ⟨some 68, (.bin .eql), [.r 66, .r 67], (some (65, true)), [66, 67]⟩,
    ⟨some 69, .pick, [.r 65, .r 68, .c (.bool false)], none, [65, 68]⟩,
    ⟨some 16, .mv, [.r 69], none, [69]⟩])
  (.seq (.dreg [⟨0, 0, false, false, ⟨some 70, .mv, [.r 7], none, [7]⟩⟩,
    ⟨1, 1, false, false, ⟨some 71, .mv, [.r 70], none, [70]⟩⟩,
    ⟨2, 3, false, false, ⟨some 72, .mv, [.r 16], (some (71, true)), [16]⟩⟩,
    ⟨3, 7, false, false, ⟨some 73, .pick, [.r 71, .r 72, .c (.bool false)], none, [71, 72]⟩⟩,
    ⟨4, 15, false, false, ⟨some 74, .mv, [.r 73], none, [73]⟩⟩,
    ⟨5, 31, false, false, ⟨some 75, (.faddr 0), [.r 3], (some (74, true)), []⟩⟩,
    ⟨6, 63, false, false, ⟨some 76, .ld1, [.r 75], (some (74, true)), [75]⟩⟩,
    ⟨7, 127, false, true, ⟨some 77, (.call 21), [.r 76], (some (74, true)), [76]⟩⟩,
    ⟨8, 31, false, false, ⟨some 78, (.faddr 0), [.r 3], (some (74, true)), []⟩⟩,
    ⟨9, 287, false, false, ⟨some 79, .ld1, [.r 78], (some (74, true)), [78]⟩⟩,
    ⟨10, 1023, false, false, ⟨some 80, (.call 25), [.r 79], (some (74, true)), [79]⟩⟩,
    ⟨11, 2047, false, false, ⟨some 81, (.bin .eql), [.r 77, .r 80], (some (74, true)), [77, 80]⟩⟩,
    ⟨12, 4095, false, false, ⟨some 82, .pick, [.r 74, .r 81, .c (.bool false)], none, [74, 81]⟩⟩,
    ⟨13, 8191, false, false, ⟨some 83, .mv, [.r 82], none, [82]⟩⟩,
    ⟨14, 16383, false, false, ⟨some 84, (.ldn 2), [.r 3], (some (83, true)), []⟩⟩,
    ⟨15, 32767, false, true, ⟨some 85, (.call 26), [.r 84], (some (83, true)), [84]⟩⟩,
    ⟨16, 16383, false, false, ⟨some 86, (.ldn 2), [.r 3], (some (83, true)), []⟩⟩,
    ⟨17, 131071, false, false, ⟨some 87, (.call 11), [.r 86], (some (83, true)), [86]⟩⟩,
    ⟨18, 262143, false, false, ⟨some 88, (.eqb false), [.r 85, .r 87], (some (83, true)), [85, 87]⟩⟩,
    ⟨19, 524287, false, false, ⟨some 89, .pick, [.r 83, .r 88, .c (.bool false)], none, [83, 88]⟩⟩,
    ⟨20, 1048575, false, false, ⟨some 90, .mv, [.r 89], none, [89]⟩⟩,
    ⟨21, 2097151, false, false, ⟨some 91, (.ldn 2), [.r 3], (some (90, true)), []⟩⟩,
    ⟨22, 2097151, false, false, ⟨some 92, (.ldn 2), [.r 4], (some (90, true)), []⟩⟩,
    ⟨23, 8388607, false, true, ⟨some 93, (.call 14), [.r 91, .r 92], (some (90, true)), [91, 92]⟩⟩,
    ⟨24, 2097151, false, false, ⟨some 94, (.ldn 2), [.r 3], (some (90, true)), [3]⟩⟩,
    ⟨25, 2097151, false, false, ⟨some 95, (.ldn 2), [.r 4], (some (90, true)), [4]⟩⟩,
    ⟨26, 67108863, false, false, ⟨some 96, (.call 13), [.r 94, .r 95], (some (90, true)), [94, 95]⟩⟩,
    ⟨27, 134217727, false, false, ⟨some 97, (.eqb false), [.r 93, .r 96], (some (90, true)), [93, 96]⟩⟩,
    ⟨28, 268435455, false, false, ⟨some 98, .pick, [.r 90, .r 97, .c (.bool false)], none, [90, 97]⟩⟩,
    ⟨29, 536870911, false, false, ⟨some 6, .mv, [.r 98], none, [98]⟩⟩])
  .ret)))))))))
def rs8 : List SR := [.tmp 6]
theorem k8 : okC Try.prog 99 (Try.f8.body.getD .skip) c8 = true := by kernel_rfl
theorem acall8 {args : List AV} (hn : args.length ≤ 99) {H : Heap} {v : AV} {H' : Heap} (h : ac Try.prog c8 (argEnv 0 args) H (Fin H rs8 v H')) : ACall Try.prog 8 args H v H' :=
  acall Try.func8 (c := Try.f8.body.getD .skip) rfl k8 (by kernel_rfl) hn h
theorem acallK8 {args : List AV} (hn : args.length ≤ 99) {H : Heap} {v : AV} {H' : Heap} (h : ac Try.prog c8 (argEnv 0 args) H (FinK rs8 v H')) : ACall Try.prog 8 args H v H' :=
  acallK Try.func8 (c := Try.f8.body.getD .skip) rfl k8 (by kernel_rfl) hn h

/- alidade/alidadelaw08.FrameBack -/
def c9 : SC :=
  (.seq (.reg [⟨some 3, .box, [.r 0], none, [0]⟩,
    ⟨some 4, .box, [.r 1], none, [1]⟩,
    ⟨some 6, .mv, [.c (.bool false)], none, []⟩])
  (.seq (.reg [⟨some 18, (.call 10), [], none, [6]⟩,
    ⟨some 7, .mv, [.r 18], none, [18]⟩])
  (.seq (.seq (.reg [⟨some 19, (.faddr 1), [.r 3], none, []⟩,
    ⟨some 20, .ld1, [.r 19], none, [19]⟩,
    ⟨some 21, .len, [.r 20], none, [20]⟩,
    ⟨some 22, (.bin .gtr), [.r 21, .c (.int .i64 100)], none, [21]⟩,
    ⟨some 23, .mv, [.r 22], none, [22]⟩,
    ⟨some 24, .mv, [.r 2], (some (23, false)), []⟩,
    ⟨some 25, .len, [.r 24], (some (23, false)), [24]⟩,
    ⟨some 26, (.bin .gtr), [.r 25, .c (.int .i64 500)], (some (23, false)), [25]⟩,
    ⟨some 27, .pick, [.r 23, .c (.bool true), .r 26], none, [23, 26]⟩])
  (.cond (.r 27)
    (.kl [2, 3, 4, 27] (.seq (.reg [⟨some 28, .mv, [.r 7], none, [7]⟩,
      ⟨some 6, .mv, [.r 28], none, [28]⟩])
    .ret))
    (.kl [27] .skip)))
  (.seq (.reg [⟨some 30, (.ldn 2), [.r 3], none, []⟩,
    ⟨some 31, (.call 12), [.r 30], none, [30]⟩,
    ⟨some 29, .mv, [.r 31], none, [31]⟩,
    ⟨some 32, (.ext 0), [.r 29], none, []⟩,
    ⟨some 33, (.ext 1), [.r 29], none, [29]⟩,
    ⟨some 8, .mv, [.r 32], none, [32]⟩,
    ⟨some 9, .mv, [.r 33], none, [33]⟩])
  (.seq (.reg [⟨some 35, .mv, [.r 8], none, [8]⟩,
    ⟨some 36, (.call 20), [.r 35], none, [35]⟩,
    ⟨some 34, .mv, [.r 36], none, [36]⟩,
    ⟨some 37, (.ext 0), [.r 34], none, []⟩,
    ⟨some 38, (.ext 1), [.r 34], none, [34]⟩,
    ⟨some 10, (.alloc [(.int .i64 0), .nils]), [], none, []⟩,
    ⟨none, (.st 2), [.r 10, .r 37], none, [37]⟩,
    ⟨some 11, .mv, [.r 38], none, [38]⟩])
  (.seq (.reg [⟨some 40, (.ldn 13), [.r 4], none, []⟩,
    ⟨some 41, (.call 15), [.r 40], none, [40]⟩,
    ⟨some 42, (.call 16), [.r 41], none, [41]⟩,
    ⟨some 39, .mv, [.r 42], none, [42]⟩,
    ⟨some 43, (.ext 0), [.r 39], none, []⟩,
    ⟨some 44, (.ext 1), [.r 39], none, [39]⟩,
    ⟨some 12, (.alloc [(.bool false), (.int .i64 0), (.int .i64 0), (.int .i64 0), (.int .i64 0), (.int .i64 0), (.int .i64 0), (.bool false), (.int .i64 0), (.bool false), (.int .i64 0), (.int .i64 0), (.int .i64 0)]), [], none, []⟩,
    ⟨none, (.st 13), [.r 12, .r 43], none, [43]⟩,
    ⟨some 13, .mv, [.r 44], none, [44]⟩])
  (.seq (.seq (.reg [⟨some 45, .mv, [.r 13], none, [13]⟩,
    ⟨some 46, (.bin .neq), [.r 45, .c (.int .i64 0)], none, [45]⟩,
    ⟨some 47, .mv, [.r 46], none, [46]⟩,
    ⟨some 48, (.ldn 13), [.r 12], (some (47, false)), [12]⟩,
    ⟨some 49, (.ldn 13), [.r 4], (some (47, false)), [4]⟩,
    ⟨some 50, (.eqv true [.bool, .int, .int, .int, .int, .int, .int, .bool, .int, .bool, .int, .int, .int]), [.r 48, .r 49], (some (47, false)), [48, 49]⟩,
    ⟨some 51, .pick, [.r 47, .c (.bool true), .r 50], none, [47, 50]⟩,
    ⟨some 52, .mv, [.r 51], none, [51]⟩,
    ⟨some 53, .mv, [.r 9], (some (52, false)), []⟩,
    ⟨some 54, (.bin .eql), [.r 53, .c (.int .i64 0)], (some (52, false)), [53]⟩,
    ⟨some 55, (.ldn 2), [.r 3], (some (52, false)), []⟩,
    ⟨some 56, (.call 26), [.r 55], (some (52, false)), [55]⟩,
    ⟨some 57, (.eqb true), [.r 54, .r 56], (some (52, false)), [54, 56]⟩,
    ⟨some 58, .pick, [.r 52, .c (.bool true), .r 57], none, [52, 57]⟩,
    ⟨some 59, .mv, [.r 58], none, [58]⟩,
    ⟨some 60, .mv, [.r 9], (some (59, false)), [9]⟩,
    ⟨some 61, (.bin .eql), [.r 60, .c (.int .i64 0)], (some (59, false)), [60]⟩,
    ⟨some 62, .mv, [.r 61], (some (59, false)), [61]⟩,
    ⟨some 63, .mv, [.r 11], (some (62, true)), [11]⟩,
    ⟨some 64, (.bin .neq), [.r 63, .c (.int .i64 0)], (some (62, true)), [63]⟩,
    ⟨some 65, .mv, [.r 64], (some (62, true)), [64]⟩,
    ⟨some 66, (.ldn 2), [.r 10], (some (65, false)), [10]⟩,
    ⟨some 67, (.ldn 2), [.r 3], (some (65, false)), [3]⟩,
    ⟨some 68, (.call 13), [.r 66, .r 67], (some (65, false)), [66, 67]⟩,
    ⟨some 69, (.un .not), [.r 68], (some (65, false)), [68]⟩,
    ⟨some 70, .pick, [.r 65, .c (.bool true), .r 69], (some (62, true)), [65, 69]⟩,
    ⟨some 71, .pick, [.r 62, .r 70, .c (.bool false)], (some (59, false)), [62, 70]⟩,
    ⟨some 72, .pick, [.r 59, .c (.bool true), .r 71], none, [59, 71]⟩])
  (.cond (.r 72)
    (.kl [2, 7, 72] (.seq (.reg [⟨some 6, .mv, [.c (.bool false)], none, []⟩])
    .ret))
    (.kl [72] .skip)))
  (.seq (.reg [⟨some 74, .mv, [.r 2], none, []⟩,
    ⟨some 75, (.call 20), [.r 74], none, [74]⟩,
    ⟨some 73, .mv, [.r 75], none, [75]⟩,
    ⟨some 76, (.ext 0), [.r 73], none, []⟩,
    ⟨some 77, (.ext 1), [.r 73], none, [73]⟩,
    ⟨some 14, (.alloc [(.int .i64 0), .nils]), [], none, []⟩,
    ⟨none, (.st 2), [.r 14, .r 76], none, [76]⟩,
    ⟨some 15, .mv, [.r 77], none, [77]⟩])
  (.seq (.seq (.reg [⟨some 78, .mv, [.r 15], none, [15]⟩,
    ⟨some 79, (.bin .neq), [.r 78, .c (.int .i64 0)], none, [78]⟩])
  (.cond (.r 79)
    (.kl [2, 14, 79] (.seq (.reg [⟨some 80, .mv, [.r 7], none, [7]⟩,
      ⟨some 6, .mv, [.r 80], none, [80]⟩])
    .ret))
    (.kl [79] .skip)))
  (.seq (.reg [⟨some 82, (.ldn 2), [.r 14], none, [14]⟩,
    ⟨some 83, (.call 12), [.r 82], none, [82]⟩,
    ⟨some 81, .mv, [.r 83], none, [83]⟩,
    ⟨some 84, (.ext 0), [.r 81], none, []⟩,
    ⟨some 85, (.ext 1), [.r 81], none, [81]⟩,
    ⟨some 16, .mv, [.r 84], none, [84]⟩,
    ⟨some 17, .mv, [.r 85], none, [85]⟩])
  (.seq (.reg [⟨some 86, .mv, [.r 7], none, [7]⟩,
    ⟨some 87, .mv, [.r 86], none, [86]⟩,
    ⟨some 88, .mv, [.r 17], (some (87, true)), [17]⟩,
    ⟨some 89, (.bin .eql), [.r 88, .c (.int .i64 0)], (some (87, true)), [88]⟩,
    ⟨some 90, .pick, [.r 87, .r 89, .c (.bool false)], none, [87, 89]⟩,
    ⟨some 91, .mv, [.r 90], none, [90]⟩,
    ⟨some 92, .mv, [.r 16], (some (91, true)), [16]⟩,
    ⟨some 93, .mv, [.r 2], (some (91, true)), [2]⟩,
    ⟨some 94, (.call 24), [.r 92, .r 93], (some (91, true)), [92, 93]⟩,
    ⟨some 95, .pick, [.r 91, .r 94, .c (.bool false)], none, [91, 94]⟩,
    ⟨some 6, .mv, [.r 95], none, [95]⟩])
  .ret)))))))))))
def rs9 : List SR := [.tmp 6]
theorem k9 : okC Try.prog 96 (Try.f9.body.getD .skip) c9 = true := by kernel_rfl
theorem acall9 {args : List AV} (hn : args.length ≤ 96) {H : Heap} {v : AV} {H' : Heap} (h : ac Try.prog c9 (argEnv 0 args) H (Fin H rs9 v H')) : ACall Try.prog 9 args H v H' :=
  acall Try.func9 (c := Try.f9.body.getD .skip) rfl k9 (by kernel_rfl) hn h
theorem acallK9 {args : List AV} (hn : args.length ≤ 96) {H : Heap} {v : AV} {H' : Heap} (h : ac Try.prog c9 (argEnv 0 args) H (FinK rs9 v H')) : ACall Try.prog 9 args H v H' :=
  acallK Try.func9 (c := Try.f9.body.getD .skip) rfl k9 (by kernel_rfl) hn h

/- alidade/alidadelaw08.shown -/
def c10 : SC :=
  (.seq (.reg [⟨some 0, .mv, [.c (.bool false)], none, []⟩])
  (.seq (.reg [⟨some 4, (.bslice 1 1 [(.int .i64 0)] [(0, 1)]), [.c (.int .i64 5)], none, [0]⟩,
    ⟨some 5, (.build [(.int .i64 0), .nils] [(0, 1), (1, 1)]), [.c (.int .i64 7), .r 4], none, [4]⟩,
    ⟨some 6, (.call 12), [.r 5], none, [5]⟩,
    ⟨some 3, .mv, [.r 6], none, [6]⟩,
    ⟨some 7, (.ext 0), [.r 3], none, []⟩,
    ⟨some 8, (.ext 1), [.r 3], none, [3]⟩,
    ⟨some 1, .mv, [.r 7], none, [7]⟩,
    ⟨some 2, .mv, [.r 8], none, [8]⟩])
  (.seq (.reg [⟨some 9, .mv, [.r 2], none, [2]⟩,
    ⟨some 10, (.bin .eql), [.r 9, .c (.int .i64 0)], none, [9]⟩,
    ⟨some 11, .mv, [.r 10], none, [10]⟩,
    ⟨some 12, .mv, [.r 1], (some (11, true)), []⟩,
    ⟨some 13, .len, [.r 12], (some (11, true)), [12]⟩,
    ⟨some 14, (.bin .eql), [.r 13, .c (.int .i64 13)], (some (11, true)), [13]⟩,
    ⟨some 15, .pick, [.r 11, .r 14, .c (.bool false)], none, [11, 14]⟩,
    ⟨some 16, .mv, [.r 15], none, [15]⟩,
    ⟨some 17, .mv, [.r 1], (some (16, true)), []⟩,
    ⟨some 18, (.iaddrS 1), [.r 17, .c (.int .i64 0)], (some (16, true)), [17]⟩,
    ⟨some 19, .ld1, [.r 18], (some (16, true)), [18]⟩,
    ⟨some 20, (.bin .eql), [.r 19, .c (.int .u8 7)], (some (16, true)), [19]⟩,
    ⟨some 21, .pick, [.r 16, .r 20, .c (.bool false)], none, [16, 20]⟩,
    ⟨some 22, .mv, [.r 21], none, [21]⟩,
    ⟨some 23, .mv, [.r 1], (some (22, true)), []⟩,
    ⟨some 24, (.iaddrS 1), [.r 23, .c (.int .i64 1)], (some (22, true)), [23]⟩,
    ⟨some 25, .ld1, [.r 24], (some (22, true)), [24]⟩,
    ⟨some 26, (.bin .eql), [.r 25, .c (.int .u8 0)], (some (22, true)), [25]⟩,
    ⟨some 27, .pick, [.r 22, .r 26, .c (.bool false)], none, [22, 26]⟩,
    ⟨some 28, .mv, [.r 27], none, [27]⟩,
    ⟨some 29, .mv, [.r 1], (some (28, true)), [1]⟩,
    ⟨some 30, (.iaddrS 1), [.r 29, .c (.int .i64 8)], (some (28, true)), [29]⟩,
    ⟨some 31, .ld1, [.r 30], (some (28, true)), [30]⟩,
    ⟨some 32, (.bin .eql), [.r 31, .c (.int .u8 5)], (some (28, true)), [31]⟩,
    ⟨some 33, .pick, [.r 28, .r 32, .c (.bool false)], none, [28, 32]⟩,
    ⟨some 34, .mv, [.r 33], none, [33]⟩,
    ⟨some 35, (.call 21), [.c (.int .i64 8)], (some (34, true)), []⟩,
    ⟨some 36, (.bin .eql), [.r 35, .c (.int .i64 15)], (some (34, true)), [35]⟩,
    ⟨some 37, .pick, [.r 34, .r 36, .c (.bool false)], none, [34, 36]⟩,
    ⟨some 0, .mv, [.r 37], none, [37]⟩])
  .ret)))
def rs10 : List SR := [.tmp 0]
theorem k10 : okC Try.prog 38 (Try.f10.body.getD .skip) c10 = true := by kernel_rfl
theorem acall10 {args : List AV} (hn : args.length ≤ 38) {H : Heap} {v : AV} {H' : Heap} (h : ac Try.prog c10 (argEnv 0 args) H (Fin H rs10 v H')) : ACall Try.prog 10 args H v H' :=
  acall Try.func10 (c := Try.f10.body.getD .skip) rfl k10 (by kernel_rfl) hn h
theorem acallK10 {args : List AV} (hn : args.length ≤ 38) {H : Heap} {v : AV} {H' : Heap} (h : ac Try.prog c10 (argEnv 0 args) H (FinK rs10 v H')) : ACall Try.prog 10 args H v H' :=
  acallK Try.func10 (c := Try.f10.body.getD .skip) rfl k10 (by kernel_rfl) hn h

/- alidade/alidaderef08.Right -/
def c11 : SC :=
  (.seq (.reg [⟨some 1, .box, [.r 0], none, [0]⟩,
    ⟨some 2, .mv, [.c (.bool false)], none, []⟩])
  (.seq (.dreg [⟨0, 0, false, false, ⟨some 3, (.faddr 0), [.r 1], none, [2]⟩⟩,
    ⟨1, 1, false, false, ⟨some 4, .ld1, [.r 3], none, [3]⟩⟩,
    ⟨2, 3, false, false, ⟨some 5, (.call 25), [.r 4], none, [4]⟩⟩,
    ⟨3, 7, false, false, ⟨some 6, (.bin .gtr), [.r 5, .c (.int .i64 0)], none, [5]⟩⟩,
    ⟨4, 15, false, false, ⟨some 7, .mv, [.r 6], none, [6]⟩⟩,
    ⟨5, 31, false, false, ⟨some 8, (.faddr 1), [.r 1], (some (7, true)), []⟩⟩,
    ⟨6, 63, false, false, ⟨some 9, .ld1, [.r 8], (some (7, true)), [8]⟩⟩,
    ⟨7, 127, false, false, ⟨some 10, .len, [.r 9], (some (7, true)), [9]⟩⟩,
    ⟨8, 31, false, false, ⟨some 11, (.faddr 0), [.r 1], (some (7, true)), [1]⟩⟩,
    ⟨9, 287, false, false, ⟨some 12, .ld1, [.r 11], (some (7, true)), [11]⟩⟩,
    ⟨10, 799, false, true, ⟨some 13, (.call 25), [.r 12], (some (7, true)), [12]⟩⟩,
    ⟨11, 2047, false, false, ⟨some 14, (.bin .eql), [.r 10, .r 13], (some (7, true)), [10, 13]⟩⟩,
    ⟨12, 4095, false, false, ⟨some 15, .pick, [.r 7, .r 14, .c (.bool false)], none, [7, 14]⟩⟩,
    ⟨13, 8191, false, false, ⟨some 2, .mv, [.r 15], none, [15]⟩⟩])
  .ret))
def rs11 : List SR := [.tmp 2]
theorem k11 : okC Try.prog 16 (Try.f11.body.getD .skip) c11 = true := by kernel_rfl
theorem acall11 {args : List AV} (hn : args.length ≤ 16) {H : Heap} {v : AV} {H' : Heap} (h : ac Try.prog c11 (argEnv 0 args) H (Fin H rs11 v H')) : ACall Try.prog 11 args H v H' :=
  acall Try.func11 (c := Try.f11.body.getD .skip) rfl k11 (by kernel_rfl) hn h
theorem acallK11 {args : List AV} (hn : args.length ≤ 16) {H : Heap} {v : AV} {H' : Heap} (h : ac Try.prog c11 (argEnv 0 args) H (FinK rs11 v H')) : ACall Try.prog 11 args H v H' :=
  acallK Try.func11 (c := Try.f11.body.getD .skip) rfl k11 (by kernel_rfl) hn h

/- alidade/frame.Encode -/
def c12l0 : SC :=
  (.seq (.reg [⟨some 23, (.bin .lss), [.r 22, .c (.int .i64 8)], none, []⟩])
      (.seq (.cond (.r 23)
        (.kl [23] .skip)
        (.kl [6, 22, 23] (.exit 2)))
      (.seq (.block 3 (.seq (.reg [⟨some 24, .mv, [.r 22], none, []⟩,
        ⟨some 7, .mv, [.r 24], none, [24]⟩])
      (.reg [⟨some 25, .mv, [.r 4], none, [4]⟩,
        ⟨some 26, .mv, [.r 6], none, []⟩,
        ⟨some 27, (.conv .u64), [.r 26], none, [26]⟩,
        ⟨some 28, .mv, [.r 7], none, [7]⟩,
        ⟨some 29, (.bin .mul), [.c (.int .i64 8), .r 28], none, [28]⟩,
        ⟨some 30, (.bin .sub), [.c (.int .i64 56), .r 29], none, [29]⟩,
        ⟨some 31, (.bin .shr), [.r 27, .r 30], none, [27, 30]⟩,
        ⟨some 32, (.conv .u8), [.r 31], none, [31]⟩,
        ⟨some 33, (.bslice 1 1 [(.int .u8 0)] [(0, 1)]), [.r 32], none, [32]⟩,
        ⟨some 34, (.app 1 1), [.r 25, .r 33], none, [25, 33]⟩,
        ⟨some 4, .mv, [.r 34], none, [34]⟩])))
      (.reg [⟨some 35, (.bin .add), [.r 22, .c (.int .i64 1)], none, [22]⟩,
        ⟨some 22, .mv, [.r 35], none, [35]⟩]))))
def c12l1 : SC :=
  (.seq (.reg [⟨some 19, (.bin .lss), [.r 18, .r 17], none, []⟩])
    (.seq (.cond (.r 19)
      (.kl [19] .skip)
      (.kl [16, 17, 18, 19] (.exit 0)))
    (.seq (.block 1 (.seq (.reg [⟨some 20, (.iaddrS 1), [.r 16, .r 18], none, []⟩,
      ⟨some 21, .ld1, [.r 20], none, [20]⟩,
      ⟨some 6, .mv, [.r 21], none, [21]⟩])
    (.seq (.reg [⟨some 22, .mv, [.c (.int .i64 0)], none, []⟩])
    (.block 2 (.loop c12l0)))))
    (.reg [⟨some 36, (.bin .add), [.r 18, .c (.int .i64 1)], none, [18]⟩,
      ⟨some 18, .mv, [.r 36], none, [36]⟩]))))
def c12 : SC :=
  (.seq (.reg [⟨some 1, .box, [.r 0], none, [0]⟩,
    ⟨some 2, .mv, [.c .nils], none, []⟩,
    ⟨some 3, .mv, [.c (.int .i64 0)], none, [2]⟩])
  (.seq (.seq (.reg [⟨some 8, (.ldn 2), [.r 1], none, [3]⟩,
    ⟨some 9, (.call 26), [.r 8], none, [8]⟩,
    ⟨some 10, (.un .not), [.r 9], none, [9]⟩])
  (.cond (.r 10)
    (.kl [1, 10] (.seq (.reg [⟨some 2, .mv, [.c .nils], none, []⟩,
      ⟨some 3, .mv, [.c (.int .i64 1)], none, []⟩])
    .ret))
    (.kl [10] .skip)))
  (.seq (.reg [⟨some 11, (.faddr 0), [.r 1], none, []⟩,
    ⟨some 12, .ld1, [.r 11], none, [11]⟩,
    ⟨some 13, (.conv .u8), [.r 12], none, [12]⟩,
    ⟨some 14, (.bslice 1 1 [(.int .u8 0)] [(0, 1)]), [.r 13], none, [13]⟩,
    ⟨some 4, .mv, [.r 14], none, [14]⟩])
  (.seq (.seq (.reg [⟨some 15, (.faddr 1), [.r 1], none, [1]⟩,
    ⟨some 16, .ld1, [.r 15], none, [15]⟩,
    ⟨some 17, .len, [.r 16], none, []⟩,
    ⟨some 18, .mv, [.c (.int .i64 0)], none, []⟩])
  (.block 0 (.loop c12l1)))
  (.seq (.reg [⟨some 37, .mv, [.r 4], none, [4]⟩,
    ⟨some 38, (.call 27), [.r 37], none, [37]⟩,
    ⟨some 2, .mv, [.r 38], none, [38]⟩,
    ⟨some 3, .mv, [.c (.int .i64 0)], none, []⟩])
  .ret)))))
def rs12 : List SR := [.tmp 2, .tmp 3]
theorem k12 : okC Try.prog 39 (Try.f12.body.getD .skip) c12 = true := by kernel_rfl
theorem acall12 {args : List AV} (hn : args.length ≤ 39) {H : Heap} {v : AV} {H' : Heap} (h : ac Try.prog c12 (argEnv 0 args) H (Fin H rs12 v H')) : ACall Try.prog 12 args H v H' :=
  acall Try.func12 (c := Try.f12.body.getD .skip) rfl k12 (by kernel_rfl) hn h
theorem acallK12 {args : List AV} (hn : args.length ≤ 39) {H : Heap} {v : AV} {H' : Heap} (h : ac Try.prog c12 (argEnv 0 args) H (FinK rs12 v H')) : ACall Try.prog 12 args H v H' :=
  acallK Try.func12 (c := Try.f12.body.getD .skip) rfl k12 (by kernel_rfl) hn h

/- alidade/alidaderef08.Same -/
def c13 : SC :=
  (.seq (.reg [⟨some 2, .box, [.r 0], none, [0]⟩,
    ⟨some 3, .box, [.r 1], none, [1]⟩,
    ⟨some 4, .mv, [.c (.bool false)], none, []⟩])
  (.seq (.reg [⟨some 6, (.faddr 1), [.r 2], none, [4]⟩,
    ⟨some 7, .ld1, [.r 6], none, [6]⟩,
    ⟨some 8, (.faddr 1), [.r 3], none, []⟩,
    ⟨some 9, .ld1, [.r 8], none, [8]⟩,
    ⟨some 10, (.call 18), [.r 7, .r 9], none, [7, 9]⟩,
    ⟨some 5, .mv, [.r 10], none, [10]⟩])
  (.seq (.reg [⟨some 11, .mv, [.r 5], none, [5]⟩,
    ⟨some 12, .mv, [.r 11], none, [11]⟩,
    ⟨some 13, (.faddr 0), [.r 2], (some (12, true)), [2]⟩,
    ⟨some 14, .ld1, [.r 13], (some (12, true)), [13]⟩,
    ⟨some 15, (.faddr 0), [.r 3], (some (12, true)), [3]⟩,
    ⟨some 16, .ld1, [.r 15], (some (12, true)), [15]⟩,
    ⟨some 17, (.bin .eql), [.r 14, .r 16], (some (12, true)), [14, 16]⟩,
    ⟨some 18, .pick, [.r 12, .r 17, .c (.bool false)], none, [12, 17]⟩,
    ⟨some 4, .mv, [.r 18], none, [18]⟩])
  .ret)))
def rs13 : List SR := [.tmp 4]
theorem k13 : okC Try.prog 19 (Try.f13.body.getD .skip) c13 = true := by kernel_rfl
theorem acall13 {args : List AV} (hn : args.length ≤ 19) {H : Heap} {v : AV} {H' : Heap} (h : ac Try.prog c13 (argEnv 0 args) H (Fin H rs13 v H')) : ACall Try.prog 13 args H v H' :=
  acall Try.func13 (c := Try.f13.body.getD .skip) rfl k13 (by kernel_rfl) hn h
theorem acallK13 {args : List AV} (hn : args.length ≤ 19) {H : Heap} {v : AV} {H' : Heap} (h : ac Try.prog c13 (argEnv 0 args) H (FinK rs13 v H')) : ACall Try.prog 13 args H v H' :=
  acallK Try.func13 (c := Try.f13.body.getD .skip) rfl k13 (by kernel_rfl) hn h

/- alidade/frame.Same -/
def c14 : SC :=
  (.seq (.reg [⟨some 2, .box, [.r 0], none, [0]⟩,
    ⟨some 3, .box, [.r 1], none, [1]⟩,
    ⟨some 4, .mv, [.c (.bool false)], none, []⟩])
  (.seq (.reg [⟨some 5, (.faddr 0), [.r 2], none, [4]⟩,
    ⟨some 6, .ld1, [.r 5], none, [5]⟩,
    ⟨some 7, (.faddr 0), [.r 3], none, []⟩,
    ⟨some 8, .ld1, [.r 7], none, [7]⟩,
    ⟨some 9, (.bin .eql), [.r 6, .r 8], none, [6, 8]⟩,
    ⟨some 10, .mv, [.r 9], none, [9]⟩,
    ⟨some 11, (.faddr 1), [.r 2], (some (10, true)), [2]⟩,
    ⟨some 12, .ld1, [.r 11], (some (10, true)), [11]⟩,
    ⟨some 13, (.faddr 1), [.r 3], (some (10, true)), [3]⟩,
    ⟨some 14, .ld1, [.r 13], (some (10, true)), [13]⟩,
    ⟨some 15, (.call 28), [.r 12, .r 14], (some (10, true)), [12, 14]⟩,
    ⟨some 16, .pick, [.r 10, .r 15, .c (.bool false)], none, [10, 15]⟩,
    ⟨some 4, .mv, [.r 16], none, [16]⟩])
  .ret))
def rs14 : List SR := [.tmp 4]
theorem k14 : okC Try.prog 17 (Try.f14.body.getD .skip) c14 = true := by kernel_rfl
theorem acall14 {args : List AV} (hn : args.length ≤ 17) {H : Heap} {v : AV} {H' : Heap} (h : ac Try.prog c14 (argEnv 0 args) H (Fin H rs14 v H')) : ACall Try.prog 14 args H v H' :=
  acall Try.func14 (c := Try.f14.body.getD .skip) rfl k14 (by kernel_rfl) hn h
theorem acallK14 {args : List AV} (hn : args.length ≤ 17) {H : Heap} {v : AV} {H' : Heap} (h : ac Try.prog c14 (argEnv 0 args) H (FinK rs14 v H')) : ACall Try.prog 14 args H v H' :=
  acallK Try.func14 (c := Try.f14.body.getD .skip) rfl k14 (by kernel_rfl) hn h

/- alidade/frame.Pack -/
def c15 : SC :=
  (.seq (.reg [⟨some 1, .box, [.r 0], none, [0]⟩,
    ⟨some 2, .mv, [.c .nils], none, []⟩])
  (.seq (.reg [⟨some 3, (.alloc [.nils]), [], none, [2]⟩])
  (.seq (.reg [⟨some 6, (.mkfn (.func 29) 0), [.r 3], none, []⟩,
    ⟨some 4, .mv, [.r 6], none, [6]⟩])
  (.seq (.reg [⟨some 7, (.mkfn (.func 30) 0), [.r 3], none, []⟩,
    ⟨some 5, .mv, [.r 7], none, [7]⟩])
  (.seq (.reg [⟨some 8, .mv, [.r 4], none, []⟩,
    ⟨some 9, (.faddr 0), [.r 1], none, []⟩,
    ⟨some 10, .ld1, [.r 9], none, [9]⟩,
    ⟨some 11, .callv, [.r 8, .r 10], none, [8, 10]⟩])
  (.seq (.reg [⟨some 12, .mv, [.r 5], none, [11]⟩,
    ⟨some 13, (.faddr 1), [.r 1], none, []⟩,
    ⟨some 14, (.aslice 1 3 false false false), [.r 13], none, [13]⟩,
    ⟨some 15, .callv, [.r 12, .r 14], none, [12, 14]⟩])
  (.seq (.reg [⟨some 16, .mv, [.r 5], none, [15]⟩,
    ⟨some 17, (.faddr 4), [.r 1], none, []⟩,
    ⟨some 18, (.aslice 1 3 false false false), [.r 17], none, [17]⟩,
    ⟨some 19, .callv, [.r 16, .r 18], none, [16, 18]⟩])
  (.seq (.reg [⟨some 20, .mv, [.r 4], none, [19]⟩,
    ⟨some 21, (.faddr 7), [.r 1], none, []⟩,
    ⟨some 22, .ld1, [.r 21], none, [21]⟩,
    ⟨some 23, .callv, [.r 20, .r 22], none, [20, 22]⟩])
  (.seq (.reg [⟨some 24, .mv, [.r 5], none, [23]⟩,
    ⟨some 25, (.faddr 8), [.r 1], none, []⟩,
    ⟨some 26, .ld1, [.r 25], none, [25]⟩,
    ⟨some 27, (.bslice 1 1 [(.int .i64 0)] [(0, 1)]), [.r 26], none, [26]⟩,
    ⟨some 28, .callv, [.r 24, .r 27], none, [24, 27]⟩])
  (.seq (.reg [⟨some 29, .mv, [.r 4], none, [4, 28]⟩,
    ⟨some 30, (.faddr 9), [.r 1], none, []⟩,
    ⟨some 31, .ld1, [.r 30], none, [30]⟩,
    ⟨some 32, .callv, [.r 29, .r 31], none, [29, 31]⟩])
  (.seq (.reg [⟨some 33, .mv, [.r 5], none, [5, 32]⟩,
    ⟨some 34, (.faddr 10), [.r 1], none, [1]⟩,
    ⟨some 35, (.aslice 1 3 false false false), [.r 34], none, [34]⟩,
    ⟨some 36, .callv, [.r 33, .r 35], none, [33, 35]⟩])
  (.seq (.reg [⟨some 37, .ld1, [.r 3], none, [3, 36]⟩,
    ⟨some 2, .mv, [.r 37], none, [37]⟩])
  .ret))))))))))))
def rs15 : List SR := [.tmp 2]
theorem k15 : okC Try.prog 38 (Try.f15.body.getD .skip) c15 = true := by kernel_rfl
theorem acall15 {args : List AV} (hn : args.length ≤ 38) {H : Heap} {v : AV} {H' : Heap} (h : ac Try.prog c15 (argEnv 0 args) H (Fin H rs15 v H')) : ACall Try.prog 15 args H v H' :=
  acall Try.func15 (c := Try.f15.body.getD .skip) rfl k15 (by kernel_rfl) hn h
theorem acallK15 {args : List AV} (hn : args.length ≤ 38) {H : Heap} {v : AV} {H' : Heap} (h : ac Try.prog c15 (argEnv 0 args) H (FinK rs15 v H')) : ACall Try.prog 15 args H v H' :=
  acallK Try.func15 (c := Try.f15.body.getD .skip) rfl k15 (by kernel_rfl) hn h

/- alidade/frame.Unpack -/
def c16 : SC :=
  (.seq (.reg [⟨some 1, .box, [.r 0], none, [0]⟩,
    ⟨some 2, (.alloc [(.bool false), (.int .i64 0), (.int .i64 0), (.int .i64 0), (.int .i64 0), (.int .i64 0), (.int .i64 0), (.bool false), (.int .i64 0), (.bool false), (.int .i64 0), (.int .i64 0), (.int .i64 0)]), [], none, []⟩,
    ⟨some 3, .mv, [.c (.int .i64 0)], none, []⟩])
  (.seq (.seq (.reg [⟨some 6, .ld1, [.r 1], none, [3]⟩,
    ⟨some 7, .len, [.r 6], none, [6]⟩,
    ⟨some 8, (.bin .neq), [.r 7, .c (.int .i64 13)], none, [7]⟩])
  (.cond (.r 8)
    (.kl [1, 8] (.seq (.reg [⟨some 9, (.build [(.bool false), (.int .i64 0), (.int .i64 0), (.int .i64 0), (.int .i64 0), (.int .i64 0), (.int .i64 0), (.bool false), (.int .i64 0), (.bool false), (.int .i64 0), (.int .i64 0), (.int .i64 0)] []), [], none, []⟩,
      ⟨none, (.st 13), [.r 2, .r 9], none, [9]⟩,
      ⟨some 3, .mv, [.c (.int .i64 2)], none, []⟩])
    .ret))
    (.kl [8] .skip)))
  (.seq (.reg [⟨some 10, (.mkfn (.func 31) 0), [.r 1], none, []⟩,
    ⟨some 4, .mv, [.r 10], none, [10]⟩])
  (.seq (.freg [⟨0, 0, false, false, ⟨some 11, .ld1, [.r 1], none, []⟩⟩,
    ⟨1, 1, false, false, ⟨some 12, (.iaddrS 1), [.r 11, .c (.int .i64 0)], none, [11]⟩⟩,
    ⟨2, 3, false, false, ⟨some 13, .ld1, [.r 12], none, [12]⟩⟩,
    ⟨3, 7, false, false, ⟨some 14, (.bin .eql), [.r 13, .c (.int .i64 1)], none, [13]⟩⟩,
    ⟨4, 0, false, false, ⟨some 15, .mv, [.r 4], none, []⟩⟩,
    ⟨5, 16, false, true, ⟨some 16, .callv, [.r 15, .c (.int .i64 1)], none, [15]⟩⟩,
    ⟨6, 0, false, false, ⟨some 17, .mv, [.r 4], none, []⟩⟩,
    ⟨7, 112, false, true, ⟨some 18, .callv, [.r 17, .c (.int .i64 4)], none, [17]⟩⟩,
    ⟨8, 0, false, false, ⟨some 19, .ld1, [.r 1], none, []⟩⟩,
    ⟨9, 256, false, false, ⟨some 20, (.iaddrS 1), [.r 19, .c (.int .i64 7)], none, [19]⟩⟩,
    ⟨10, 768, false, false, ⟨some 21, .ld1, [.r 20], none, [20]⟩⟩,
    ⟨11, 1792, false, false, ⟨some 22, (.bin .eql), [.r 21, .c (.int .i64 1)], none, [21]⟩⟩,
    ⟨12, 0, false, false, ⟨some 23, .ld1, [.r 1], none, []⟩⟩,
    ⟨13, 4096, false, false, ⟨some 24, (.iaddrS 1), [.r 23, .c (.int .i64 8)], none, [23]⟩⟩,
    ⟨14, 12288, false, false, ⟨some 25, .ld1, [.r 24], none, [24]⟩⟩,
    ⟨15, 0, false, false, ⟨some 26, .ld1, [.r 1], none, []⟩⟩,
    ⟨16, 32768, false, false, ⟨some 27, (.iaddrS 1), [.r 26, .c (.int .i64 9)], none, [26]⟩⟩,
    ⟨17, 98304, false, false, ⟨some 28, .ld1, [.r 27], none, [27]⟩⟩,
    ⟨18, 229376, false, false, ⟨some 29, (.bin .eql), [.r 28, .c (.int .i64 1)], none, [28]⟩⟩,
    ⟨19, 0, false, false, ⟨some 30, .mv, [.r 4], none, [4]⟩⟩,
    ⟨20, 524528, false, true, ⟨some 31, .callv, [.r 30, .c (.int .i64 10)], none, [30]⟩⟩,
    ⟨21, 2097151, false, false, ⟨some 32, (.build [(.bool false), (.int .i64 0), (.int .i64 0), (.int .i64 0), (.int .i64 0), (.int .i64 0), (.int .i64 0), (.bool false), (.int .i64 0), (.bool false), (.int .i64 0), (.int .i64 0), (.int .i64 0)] [(0, 1), (1, 3), (4, 3), (7, 1), (8, 1), (9, 1), (10, 3)]), [.r 14, .r 16, .r 18, .r 22, .r 25, .r 29, .r 31], none, [14, 16, 18, 22, 25, 29, 31]⟩⟩]
   [⟨22, 0, false, true, ⟨some 5, (.alloc [(.bool false), (.int .i64 0), (.int .i64 0), (.int .i64 0), (.int .i64 0), (.int .i64 0), (.int .i64 0), (.bool false), (.int .i64 0), (.bool false), (.int .i64 0), (.int .i64 0), (.int .i64 0)]), [], none, []⟩⟩]
   [⟨23, 8388607, false, false, ⟨none, (.st 13), [.r 5, .r 32], none, [32]⟩⟩])
  (.seq (.seq (.dreg [⟨0, 0, false, false, ⟨some 33, (.ldn 13), [.r 5], none, []⟩⟩,
    ⟨1, 1, true, false, ⟨some 34, (.call 15), [.r 33], none, [33]⟩⟩,
    ⟨2, 0, false, false, ⟨some 35, .ld1, [.r 1], none, [1]⟩⟩,
    ⟨3, 7, false, false, ⟨some 36, (.call 28), [.r 34, .r 35], none, [34, 35]⟩⟩,
    ⟨4, 15, false, false, ⟨some 37, (.un .not), [.r 36], none, [36]⟩⟩])
  (.cond (.r 37)
    (.kl [5, 37] (.seq (.reg [⟨some 38, (.build [(.bool false), (.int .i64 0), (.int .i64 0), (.int .i64 0), (.int .i64 0), (.int .i64 0), (.int .i64 0), (.bool false), (.int .i64 0), (.bool false), (.int .i64 0), (.int .i64 0), (.int .i64 0)] []), [], none, []⟩,
      ⟨none, (.st 13), [.r 2, .r 38], none, [38]⟩,
      ⟨some 3, .mv, [.c (.int .i64 2)], none, []⟩])
    .ret))
    (.kl [37] .skip)))
  (.seq (.reg [⟨some 39, (.ldn 13), [.r 5], none, [5]⟩,
    ⟨none, (.st 13), [.r 2, .r 39], none, [39]⟩,
    ⟨some 3, .mv, [.c (.int .i64 0)], none, []⟩])
  .ret))))))
def rs16 : List SR := [.celln 2 13, .tmp 3]
theorem k16 : okC Try.prog 40 (Try.f16.body.getD .skip) c16 = true := by kernel_rfl
theorem acall16 {args : List AV} (hn : args.length ≤ 40) {H : Heap} {v : AV} {H' : Heap} (h : ac Try.prog c16 (argEnv 0 args) H (Fin H rs16 v H')) : ACall Try.prog 16 args H v H' :=
  acall Try.func16 (c := Try.f16.body.getD .skip) rfl k16 (by kernel_rfl) hn h
theorem acallK16 {args : List AV} (hn : args.length ≤ 40) {H : Heap} {v : AV} {H' : Heap} (h : ac Try.prog c16 (argEnv 0 args) H (FinK rs16 v H')) : ACall Try.prog 16 args H v H' :=
  acallK Try.func16 (c := Try.f16.body.getD .skip) rfl k16 (by kernel_rfl) hn h

/- alidade/alidaderef08.Unpack -/
def c17l0 : SC :=
  (.seq (.seq (.reg [⟨some 48, .mv, [.r 8], none, []⟩,
      ⟨some 49, (.bin .lss), [.r 48, .c (.int .i64 3)], none, [48]⟩])
    (.cond (.r 49)
      (.kl [49] .skip)
      (.kl [0, 8, 49] (.exit 2))))
    (.seq (.block 3 (.seq (.reg [⟨some 52, .mv, [.r 8], none, []⟩,
      ⟨some 53, .mv, [.r 0], none, []⟩,
      ⟨some 54, .mv, [.r 8], none, []⟩,
      ⟨some 55, (.bin .add), [.c (.int .i64 1), .r 54], none, [54]⟩,
      ⟨some 56, (.iaddrS 1), [.r 53, .r 55], none, [53, 55]⟩,
      ⟨some 57, .ld1, [.r 56], none, [56]⟩,
      ⟨some 58, (.faddr 1), [.r 7], none, []⟩,
      ⟨some 59, (.iaddrA 1 3), [.r 58, .r 52], none, [52, 58]⟩,
      ⟨none, (.st 1), [.r 59, .r 57], none, [57, 59]⟩])
    (.seq (.reg [⟨some 60, .mv, [.r 8], none, []⟩,
      ⟨some 61, .mv, [.r 0], none, []⟩,
      ⟨some 62, .mv, [.r 8], none, []⟩,
      ⟨some 63, (.bin .add), [.c (.int .i64 4), .r 62], none, [62]⟩,
      ⟨some 64, (.iaddrS 1), [.r 61, .r 63], none, [61, 63]⟩,
      ⟨some 65, .ld1, [.r 64], none, [64]⟩,
      ⟨some 66, (.faddr 4), [.r 7], none, []⟩,
      ⟨some 67, (.iaddrA 1 3), [.r 66, .r 60], none, [60, 66]⟩,
      ⟨none, (.st 1), [.r 67, .r 65], none, [65, 67]⟩])
    (.reg [⟨some 68, .mv, [.r 8], none, []⟩,
      ⟨some 69, .mv, [.r 0], none, []⟩,
      ⟨some 70, .mv, [.r 8], none, []⟩,
      ⟨some 71, (.bin .add), [.c (.int .i64 10), .r 70], none, [70]⟩,
      ⟨some 72, (.iaddrS 1), [.r 69, .r 71], none, [69, 71]⟩,
      ⟨some 73, .ld1, [.r 72], none, [72]⟩,
      ⟨some 74, (.faddr 10), [.r 7], none, []⟩,
      ⟨some 75, (.iaddrA 1 3), [.r 74, .r 68], none, [68, 74]⟩,
      ⟨none, (.st 1), [.r 75, .r 73], none, [73, 75]⟩]))))
    (.reg [⟨some 50, .mv, [.r 8], none, [8]⟩,
      ⟨some 51, (.bin .add), [.r 50, .c (.int .i64 1)], none, [50]⟩,
      ⟨some 8, .mv, [.r 51], none, [51]⟩])))
def c17l1 : SC :=
  (.seq (.seq (.reg [⟨some 14, .mv, [.r 5], none, []⟩,
      ⟨some 15, (.bin .lss), [.r 14, .c (.int .i64 3)], none, [14]⟩])
    (.cond (.r 15)
      (.kl [15] .skip)
      (.kl [4, 5, 15] (.exit 0))))
    (.seq (.block 1 (.seq (.reg [⟨some 18, .mv, [.r 0], none, []⟩,
      ⟨some 19, .mv, [.r 4], none, []⟩,
      ⟨some 20, .mv, [.r 5], none, []⟩,
      ⟨some 21, (.iaddrS 1), [.r 19, .r 20], none, [19, 20]⟩,
      ⟨some 22, .ld1, [.r 21], none, [21]⟩,
      ⟨some 23, (.iaddrS 1), [.r 18, .r 22], none, [18, 22]⟩,
      ⟨some 24, .ld1, [.r 23], none, [23]⟩,
      ⟨some 6, .mv, [.r 24], none, [24]⟩])
    (.seq (.reg [⟨some 25, .mv, [.r 6], none, []⟩,
      ⟨some 26, (.bin .neq), [.r 25, .c (.int .i64 0)], none, [25]⟩,
      ⟨some 27, .mv, [.r 26], none, [26]⟩,
      ⟨some 28, .mv, [.r 6], (some (27, true)), [6]⟩,
      ⟨some 29, (.bin .neq), [.r 28, .c (.int .i64 1)], (some (27, true)), [28]⟩,
      ⟨some 30, .pick, [.r 27, .r 29, .c (.bool false)], none, [27, 29]⟩])
    (.cond (.r 30)
      (.kl [0, 4, 5, 30] (.seq (.reg [⟨some 31, (.build [(.bool false), (.int .i64 0), (.int .i64 0), (.int .i64 0), (.int .i64 0), (.int .i64 0), (.int .i64 0), (.bool false), (.int .i64 0), (.bool false), (.int .i64 0), (.int .i64 0), (.int .i64 0)] []), [], none, []⟩,
        ⟨none, (.st 13), [.r 2, .r 31], none, [31]⟩,
        ⟨some 3, .mv, [.c (.int .i64 2)], none, []⟩])
      .ret))
      (.kl [30] .skip)))))
    (.reg [⟨some 16, .mv, [.r 5], none, [5]⟩,
      ⟨some 17, (.bin .add), [.r 16, .c (.int .i64 1)], none, [16]⟩,
      ⟨some 5, .mv, [.r 17], none, [17]⟩])))
def c17 : SC :=
  (.seq (.reg [⟨some 2, (.alloc [(.bool false), (.int .i64 0), (.int .i64 0), (.int .i64 0), (.int .i64 0), (.int .i64 0), (.int .i64 0), (.bool false), (.int .i64 0), (.bool false), (.int .i64 0), (.int .i64 0), (.int .i64 0)]), [], none, []⟩,
    ⟨some 3, .mv, [.c (.int .i64 0)], none, []⟩])
  (.seq (.seq (.reg [⟨some 9, .mv, [.r 0], none, [3]⟩,
    ⟨some 10, .len, [.r 9], none, [9]⟩,
    ⟨some 11, (.bin .neq), [.r 10, .c (.int .i64 13)], none, [10]⟩])
  (.cond (.r 11)
    (.kl [0, 11] (.seq (.reg [⟨some 12, (.build [(.bool false), (.int .i64 0), (.int .i64 0), (.int .i64 0), (.int .i64 0), (.int .i64 0), (.int .i64 0), (.bool false), (.int .i64 0), (.bool false), (.int .i64 0), (.int .i64 0), (.int .i64 0)] []), [], none, []⟩,
      ⟨none, (.st 13), [.r 2, .r 12], none, [12]⟩,
      ⟨some 3, .mv, [.c (.int .i64 2)], none, []⟩])
    .ret))
    (.kl [11] .skip)))
  (.seq (.reg [⟨some 13, (.bslice 1 3 [(.int .i64 0), (.int .i64 0), (.int .i64 0)] [(0, 1), (1, 1), (2, 1)]), [.c (.int .i64 0), .c (.int .i64 7), .c (.int .i64 9)], none, []⟩,
    ⟨some 4, .mv, [.r 13], none, [13]⟩])
  (.seq (.seq (.reg [⟨some 5, .mv, [.c (.int .i64 0)], none, []⟩])
  (.block 0 (.loop c17l1)))
  (.seq (.freg [⟨0, 0, false, false, ⟨some 32, .mv, [.r 0], none, []⟩⟩,
    ⟨1, 1, false, false, ⟨some 33, (.iaddrS 1), [.r 32, .c (.int .i64 0)], none, [32]⟩⟩,
    ⟨2, 3, false, false, ⟨some 34, .ld1, [.r 33], none, [33]⟩⟩,
    ⟨3, 7, false, false, ⟨some 35, (.bin .eql), [.r 34, .c (.int .i64 1)], none, [34]⟩⟩,
    ⟨4, 0, false, false, ⟨some 36, .mv, [.r 0], none, []⟩⟩,
    ⟨5, 16, false, false, ⟨some 37, (.iaddrS 1), [.r 36, .c (.int .i64 7)], none, [36]⟩⟩,
    ⟨6, 48, false, false, ⟨some 38, .ld1, [.r 37], none, [37]⟩⟩,
    ⟨7, 112, false, false, ⟨some 39, (.bin .eql), [.r 38, .c (.int .i64 1)], none, [38]⟩⟩,
    ⟨8, 0, false, false, ⟨some 40, .mv, [.r 0], none, []⟩⟩,
    ⟨9, 256, false, false, ⟨some 41, (.iaddrS 1), [.r 40, .c (.int .i64 9)], none, [40]⟩⟩,
    ⟨10, 768, false, false, ⟨some 42, .ld1, [.r 41], none, [41]⟩⟩,
    ⟨11, 1792, false, false, ⟨some 43, (.bin .eql), [.r 42, .c (.int .i64 1)], none, [42]⟩⟩,
    ⟨12, 0, false, false, ⟨some 44, .mv, [.r 0], none, []⟩⟩,
    ⟨13, 4096, false, false, ⟨some 45, (.iaddrS 1), [.r 44, .c (.int .i64 8)], none, [44]⟩⟩,
    ⟨14, 12288, false, false, ⟨some 46, .ld1, [.r 45], none, [45]⟩⟩,
    ⟨15, 32767, false, false, ⟨some 47, (.build [(.bool false), (.int .i64 0), (.int .i64 0), (.int .i64 0), (.int .i64 0), (.int .i64 0), (.int .i64 0), (.bool false), (.int .i64 0), (.bool false), (.int .i64 0), (.int .i64 0), (.int .i64 0)] [(0, 1), (7, 1), (9, 1), (8, 1)]), [.r 35, .r 39, .r 43, .r 46], none, [35, 39, 43, 46]⟩⟩]
   [⟨16, 0, false, true, ⟨some 7, (.alloc [(.bool false), (.int .i64 0), (.int .i64 0), (.int .i64 0), (.int .i64 0), (.int .i64 0), (.int .i64 0), (.bool false), (.int .i64 0), (.bool false), (.int .i64 0), (.int .i64 0), (.int .i64 0)]), [], none, []⟩⟩]
   [⟨17, 131071, false, false, ⟨none, (.st 13), [.r 7, .r 47], none, [47]⟩⟩])
  (.seq (.seq (.reg [⟨some 8, .mv, [.c (.int .i64 0)], none, []⟩])
  (.block 2 (.loop c17l0)))
  (.seq (.reg [⟨some 76, (.ldn 13), [.r 7], none, [7]⟩,
    ⟨none, (.st 13), [.r 2, .r 76], none, [76]⟩,
    ⟨some 3, .mv, [.c (.int .i64 0)], none, []⟩])
  .ret)))))))
def rs17 : List SR := [.celln 2 13, .tmp 3]
theorem k17 : okC Try.prog 77 (Try.f17.body.getD .skip) c17 = true := by kernel_rfl
theorem acall17 {args : List AV} (hn : args.length ≤ 77) {H : Heap} {v : AV} {H' : Heap} (h : ac Try.prog c17 (argEnv 0 args) H (Fin H rs17 v H')) : ACall Try.prog 17 args H v H' :=
  acall Try.func17 (c := Try.f17.body.getD .skip) rfl k17 (by kernel_rfl) hn h
theorem acallK17 {args : List AV} (hn : args.length ≤ 77) {H : Heap} {v : AV} {H' : Heap} (h : ac Try.prog c17 (argEnv 0 args) H (FinK rs17 v H')) : ACall Try.prog 17 args H v H' :=
  acallK Try.func17 (c := Try.f17.body.getD .skip) rfl k17 (by kernel_rfl) hn h

/- alidade/alidaderef06.Ints -/
def c18l0 : SC :=
  (.seq (.seq (.reg [⟨some 11, .mv, [.r 5], none, []⟩,
      ⟨some 12, .mv, [.r 0], none, []⟩,
      ⟨some 13, .len, [.r 12], none, [12]⟩,
      ⟨some 14, (.bin .lss), [.r 11, .r 13], none, [11, 13]⟩])
    (.cond (.r 14)
      (.kl [14] .skip)
      (.kl [0, 1, 5, 14] (.exit 0))))
    (.seq (.block 1 (.seq (.dreg [⟨0, 0, false, false, ⟨some 17, .mv, [.r 0], none, []⟩⟩,
      ⟨1, 0, false, false, ⟨some 18, .mv, [.r 5], none, []⟩⟩,
      ⟨2, 3, false, false, ⟨some 19, (.iaddrS 1), [.r 17, .r 18], none, [17, 18]⟩⟩,
      ⟨3, 7, false, false, ⟨some 20, .ld1, [.r 19], none, [19]⟩⟩,
      ⟨4, 0, false, false, ⟨some 21, .mv, [.r 1], none, []⟩⟩,
      ⟨5, 0, false, false, ⟨some 22, .mv, [.r 5], none, []⟩⟩,
      ⟨6, 48, false, false, ⟨some 23, (.iaddrS 1), [.r 21, .r 22], none, [21, 22]⟩⟩,
      ⟨7, 112, false, false, ⟨some 24, .ld1, [.r 23], none, [23]⟩⟩,
      ⟨8, 255, false, false, ⟨some 25, (.bin .neq), [.r 20, .r 24], none, [20, 24]⟩⟩])
    (.cond (.r 25)
      (.kl [0, 1, 5, 25] (.seq (.reg [⟨some 4, .mv, [.c (.bool false)], none, []⟩])
      .ret))
      (.kl [25] .skip))))
    (.reg [⟨some 15, .mv, [.r 5], none, [5]⟩,
      ⟨some 16, (.bin .add), [.r 15, .c (.int .i64 1)], none, [15]⟩,
      ⟨some 5, .mv, [.r 16], none, [16]⟩])))
def c18 : SC :=
  (.seq (.reg [⟨some 4, .mv, [.c (.bool false)], none, []⟩])
  (.seq (.seq (.reg [⟨some 6, .mv, [.r 0], none, [4]⟩,
    ⟨some 7, .len, [.r 6], none, [6]⟩,
    ⟨some 8, .mv, [.r 1], none, []⟩,
    ⟨some 9, .len, [.r 8], none, [8]⟩,
    ⟨some 10, (.bin .neq), [.r 7, .r 9], none, [7, 9]⟩])
  (.cond (.r 10)
    (.kl [0, 1, 10] (.seq (.reg [⟨some 4, .mv, [.c (.bool false)], none, []⟩])
    .ret))
    (.kl [10] .skip)))
  (.seq (.seq (.reg [⟨some 5, .mv, [.c (.int .i64 0)], none, []⟩])
  (.block 0 (.loop c18l0)))
  (.seq (.reg [⟨some 4, .mv, [.c (.bool true)], none, []⟩])
  .ret))))
def rs18 : List SR := [.tmp 4]
theorem k18 : okC Try.prog 26 (Try.f18.body.getD .skip) c18 = true := by kernel_rfl
theorem acall18 {args : List AV} (hn : args.length ≤ 26) {H : Heap} {v : AV} {H' : Heap} (h : ac Try.prog c18 (argEnv 0 args) H (Fin H rs18 v H')) : ACall Try.prog 18 args H v H' :=
  acall Try.func18 (c := Try.f18.body.getD .skip) rfl k18 (by kernel_rfl) hn h
theorem acallK18 {args : List AV} (hn : args.length ≤ 26) {H : Heap} {v : AV} {H' : Heap} (h : ac Try.prog c18 (argEnv 0 args) H (FinK rs18 v H')) : ACall Try.prog 18 args H v H' :=
  acallK Try.func18 (c := Try.f18.body.getD .skip) rfl k18 (by kernel_rfl) hn h

/- alidade/alidaderef08.Pack -/
def c19l0 : SC :=
  (.seq (.seq (.reg [⟨some 44, .mv, [.r 6], none, []⟩,
      ⟨some 45, (.bin .lss), [.r 44, .c (.int .i64 3)], none, [44]⟩])
    (.cond (.r 45)
      (.kl [45] .skip)
      (.kl [1, 6, 45] (.exit 4))))
    (.seq (.block 5 (.reg [⟨some 48, .mv, [.r 3], none, [3]⟩,
      ⟨some 49, .mv, [.r 6], none, []⟩,
      ⟨some 50, (.faddr 10), [.r 1], none, []⟩,
      ⟨some 51, (.iaddrA 1 3), [.r 50, .r 49], none, [49, 50]⟩,
      ⟨some 52, .ld1, [.r 51], none, [51]⟩,
      ⟨some 53, (.bslice 1 1 [(.int .i64 0)] [(0, 1)]), [.r 52], none, [52]⟩,
      ⟨some 54, (.app 1 8), [.r 48, .r 53], none, [48, 53]⟩,
      ⟨some 3, .mv, [.r 54], none, [54]⟩]))
    (.reg [⟨some 46, .mv, [.r 6], none, [6]⟩,
      ⟨some 47, (.bin .add), [.r 46, .c (.int .i64 1)], none, [46]⟩,
      ⟨some 6, .mv, [.r 47], none, [47]⟩])))
def c19l1 : SC :=
  (.seq (.seq (.reg [⟨some 22, .mv, [.r 5], none, []⟩,
      ⟨some 23, (.bin .lss), [.r 22, .c (.int .i64 3)], none, [22]⟩])
    (.cond (.r 23)
      (.kl [23] .skip)
      (.kl [5, 23] (.exit 2))))
    (.seq (.block 3 (.reg [⟨some 26, .mv, [.r 3], none, [3]⟩,
      ⟨some 27, .mv, [.r 5], none, []⟩,
      ⟨some 28, (.faddr 4), [.r 1], none, []⟩,
      ⟨some 29, (.iaddrA 1 3), [.r 28, .r 27], none, [27, 28]⟩,
      ⟨some 30, .ld1, [.r 29], none, [29]⟩,
      ⟨some 31, (.bslice 1 1 [(.int .i64 0)] [(0, 1)]), [.r 30], none, [30]⟩,
      ⟨some 32, (.app 1 8), [.r 26, .r 31], none, [26, 31]⟩,
      ⟨some 3, .mv, [.r 32], none, [32]⟩]))
    (.reg [⟨some 24, .mv, [.r 5], none, [5]⟩,
      ⟨some 25, (.bin .add), [.r 24, .c (.int .i64 1)], none, [24]⟩,
      ⟨some 5, .mv, [.r 25], none, [25]⟩])))
def c19l2 : SC :=
  (.seq (.seq (.reg [⟨some 11, .mv, [.r 4], none, []⟩,
      ⟨some 12, (.bin .lss), [.r 11, .c (.int .i64 3)], none, [11]⟩])
    (.cond (.r 12)
      (.kl [12] .skip)
      (.kl [4, 12] (.exit 0))))
    (.seq (.block 1 (.reg [⟨some 15, .mv, [.r 3], none, [3]⟩,
      ⟨some 16, .mv, [.r 4], none, []⟩,
      ⟨some 17, (.faddr 1), [.r 1], none, []⟩,
      ⟨some 18, (.iaddrA 1 3), [.r 17, .r 16], none, [16, 17]⟩,
      ⟨some 19, .ld1, [.r 18], none, [18]⟩,
      ⟨some 20, (.bslice 1 1 [(.int .i64 0)] [(0, 1)]), [.r 19], none, [19]⟩,
      ⟨some 21, (.app 1 8), [.r 15, .r 20], none, [15, 20]⟩,
      ⟨some 3, .mv, [.r 21], none, [21]⟩]))
    (.reg [⟨some 13, .mv, [.r 4], none, [4]⟩,
      ⟨some 14, (.bin .add), [.r 13, .c (.int .i64 1)], none, [13]⟩,
      ⟨some 4, .mv, [.r 14], none, [14]⟩])))
def c19 : SC :=
  (.seq (.reg [⟨some 1, .box, [.r 0], none, [0]⟩,
    ⟨some 2, .mv, [.c .nils], none, []⟩])
  (.seq (.reg [⟨some 7, (.faddr 0), [.r 1], none, [2]⟩,
    ⟨some 8, .ld1, [.r 7], none, [7]⟩,
    ⟨some 9, (.call 32), [.r 8], none, [8]⟩,
    ⟨some 10, (.bslice 1 1 [(.int .i64 0)] [(0, 1)]), [.r 9], none, [9]⟩,
    ⟨some 3, .mv, [.r 10], none, [10]⟩])
  (.seq (.seq (.reg [⟨some 4, .mv, [.c (.int .i64 0)], none, []⟩])
  (.block 0 (.loop c19l2)))
  (.seq (.seq (.reg [⟨some 5, .mv, [.c (.int .i64 0)], none, []⟩])
  (.block 2 (.loop c19l1)))
  (.seq (.dreg [⟨0, 0, false, false, ⟨some 33, .mv, [.r 3], none, [3]⟩⟩,
    ⟨1, 0, false, false, ⟨some 34, (.faddr 7), [.r 1], none, []⟩⟩,
    ⟨2, 2, false, false, ⟨some 35, .ld1, [.r 34], none, [34]⟩⟩,
    ⟨3, 6, false, true, ⟨some 36, (.call 32), [.r 35], none, [35]⟩⟩,
    ⟨4, 0, false, false, ⟨some 37, (.faddr 8), [.r 1], none, []⟩⟩,
    ⟨5, 16, false, false, ⟨some 38, .ld1, [.r 37], none, [37]⟩⟩,
    ⟨6, 0, false, false, ⟨some 39, (.faddr 9), [.r 1], none, []⟩⟩,
    ⟨7, 64, false, false, ⟨some 40, .ld1, [.r 39], none, [39]⟩⟩,
    ⟨8, 206, false, true, ⟨some 41, (.call 32), [.r 40], none, [40]⟩⟩,
    ⟨9, 510, false, false, ⟨some 42, (.bslice 1 3 [(.int .i64 0), (.int .i64 0), (.int .i64 0)] [(0, 1), (1, 1), (2, 1)]), [.r 36, .r 38, .r 41], none, [36, 38, 41]⟩⟩,
    ⟨10, 1023, false, false, ⟨some 43, (.app 1 8), [.r 33, .r 42], none, [33, 42]⟩⟩,
    ⟨11, 2047, false, false, ⟨some 3, .mv, [.r 43], none, [43]⟩⟩])
  (.seq (.seq (.reg [⟨some 6, .mv, [.c (.int .i64 0)], none, []⟩])
  (.block 4 (.loop c19l0)))
  (.seq (.reg [⟨some 55, .mv, [.r 3], none, [3]⟩,
    ⟨some 2, .mv, [.r 55], none, [55]⟩])
  .ret)))))))
def rs19 : List SR := [.tmp 2]
theorem k19 : okC Try.prog 56 (Try.f19.body.getD .skip) c19 = true := by kernel_rfl
theorem acall19 {args : List AV} (hn : args.length ≤ 56) {H : Heap} {v : AV} {H' : Heap} (h : ac Try.prog c19 (argEnv 0 args) H (Fin H rs19 v H')) : ACall Try.prog 19 args H v H' :=
  acall Try.func19 (c := Try.f19.body.getD .skip) rfl k19 (by kernel_rfl) hn h
theorem acallK19 {args : List AV} (hn : args.length ≤ 56) {H : Heap} {v : AV} {H' : Heap} (h : ac Try.prog c19 (argEnv 0 args) H (FinK rs19 v H')) : ACall Try.prog 19 args H v H' :=
  acallK Try.func19 (c := Try.f19.body.getD .skip) rfl k19 (by kernel_rfl) hn h

/- alidade/frame.Decode -/
def c20l0 : SC :=
  (.block 2 (.dreg [⟨0, 0, false, false, ⟨some 52, (.faddr 1), [.r 6], none, []⟩⟩,
      ⟨1, 1, false, false, ⟨some 53, .ld1, [.r 52], none, [52]⟩⟩,
      ⟨2, 0, false, false, ⟨some 54, .mv, [.r 7], none, [7]⟩⟩,
      ⟨3, 4, false, true, ⟨some 55, (.call 35), [.r 54], none, [54]⟩⟩,
      ⟨4, 12, true, false, ⟨some 56, (.bslice 1 1 [(.int .i64 0)] [(0, 1)]), [.r 55], none, [55]⟩⟩,
      ⟨5, 31, false, false, ⟨some 57, (.app 1 8), [.r 53, .r 56], none, [53, 56]⟩⟩,
      ⟨6, 63, false, false, ⟨some 58, (.faddr 1), [.r 6], none, [6]⟩⟩,
      ⟨7, 127, false, false, ⟨none, (.st 1), [.r 58, .r 57], none, [57, 58]⟩⟩]))
def c20l1 : SC :=
  (.kl [2, 50] (.reg [⟨some 7, .mv, [.r 51], none, [51]⟩]))
def c20 : SC :=
  (.seq (.reg [⟨some 2, (.alloc [(.int .i64 0), .nils]), [], none, []⟩,
    ⟨some 3, .mv, [.c (.int .i64 0)], none, []⟩])
  (.seq (.reg [⟨some 9, .mv, [.r 0], none, [0, 3]⟩,
    ⟨some 10, (.call 33), [.r 9], none, [9]⟩,
    ⟨some 8, .mv, [.r 10], none, [10]⟩,
    ⟨some 11, (.ext 0), [.r 8], none, []⟩,
    ⟨some 12, (.ext 1), [.r 8], none, [8]⟩,
    ⟨some 4, .mv, [.r 11], none, [11]⟩,
    ⟨some 5, .mv, [.r 12], none, [12]⟩])
  (.seq (.block 0 (.seq (.reg [⟨some 14, .mv, [.r 5], none, []⟩,
    ⟨some 15, (.bin .neq), [.r 14, .c (.int .i64 0)], none, [14]⟩,
    ⟨some 13, .mv, [.r 15], none, [15]⟩])
  (.cond (.r 13)
    (.kl [4, 13] (.seq (.reg [⟨some 16, (.build [(.int .i64 0), .nils] []), [], none, []⟩,
      ⟨some 17, .mv, [.r 5], none, [5]⟩,
      ⟨none, (.st 2), [.r 2, .r 16], none, [16]⟩,
      ⟨some 3, .mv, [.r 17], none, [17]⟩])
    .ret))
    (.kl [5, 13] (.seq (.reg [⟨some 19, .mv, [.r 4], none, []⟩,
      ⟨some 20, .len, [.r 19], none, [19]⟩,
      ⟨some 21, (.bin .eql), [.r 20, .c (.int .i64 0)], none, [20]⟩,
      ⟨some 22, .mv, [.r 21], none, [21]⟩,
      ⟨some 23, .mv, [.r 4], (some (22, false)), []⟩,
      ⟨some 24, (.iaddrS 1), [.r 23, .c (.int .i64 0)], (some (22, false)), [23]⟩,
      ⟨some 25, .ld1, [.r 24], (some (22, false)), [24]⟩,
      ⟨some 26, (.conv .i64), [.r 25], (some (22, false)), [25]⟩,
      ⟨some 27, (.call 21), [.r 26], (some (22, false)), [26]⟩,
      ⟨some 28, (.bin .eql), [.r 27, .c (.int .i64 0)], (some (22, false)), [27]⟩,
      ⟨some 29, .pick, [.r 22, .c (.bool true), .r 28], none, [22, 28]⟩,
      ⟨some 30, .mv, [.r 29], none, [29]⟩,
      ⟨some 31, .mv, [.r 4], (some (30, false)), []⟩,
      ⟨some 32, .len, [.r 31], (some (30, false)), [31]⟩,
      ⟨some 33, .mv, [.r 4], (some (30, false)), []⟩,
      ⟨some 34, (.iaddrS 1), [.r 33, .c (.int .i64 0)], (some (30, false)), [33]⟩,
      ⟨some 35, .ld1, [.r 34], (some (30, false)), [34]⟩,
      ⟨some 36, (.conv .i64), [.r 35], (some (30, false)), [35]⟩,
      ⟨some 37, (.call 21), [.r 36], (some (30, false)), [36]⟩,
      ⟨some 38, (.bin .mul), [.c (.int .i64 8), .r 37], (some (30, false)), [37]⟩,
      ⟨some 39, (.bin .add), [.c (.int .i64 1), .r 38], (some (30, false)), [38]⟩,
      ⟨some 40, (.bin .neq), [.r 32, .r 39], (some (30, false)), [32, 39]⟩,
      ⟨some 41, .pick, [.r 30, .c (.bool true), .r 40], none, [30, 40]⟩,
      ⟨some 18, .mv, [.r 41], none, [41]⟩])
    (.cond (.r 18)
      (.kl [4, 18] (.seq (.reg [⟨some 42, (.build [(.int .i64 0), .nils] []), [], none, []⟩,
        ⟨none, (.st 2), [.r 2, .r 42], none, [42]⟩,
        ⟨some 3, .mv, [.c (.int .i64 2)], none, []⟩])
      .ret))
      (.kl [18] .skip)))))))
  (.seq (.reg [⟨some 43, .mv, [.r 4], none, []⟩,
    ⟨some 44, (.iaddrS 1), [.r 43, .c (.int .i64 0)], none, [43]⟩,
    ⟨some 45, .ld1, [.r 44], none, [44]⟩,
    ⟨some 46, (.conv .i64), [.r 45], none, [45]⟩,
    ⟨some 47, (.build [(.int .i64 0), .nils] [(0, 1)]), [.r 46], none, [46]⟩,
    ⟨some 6, (.alloc [(.int .i64 0), .nils]), [], none, []⟩,
    ⟨none, (.st 2), [.r 6, .r 47], none, [47]⟩])
  (.seq (.seq (.reg [⟨some 48, .mv, [.r 4], none, [4]⟩,
    ⟨some 49, (.slice 1 true false false), [.r 48, .c (.int .i64 1)], none, [48]⟩,
    ⟨some 50, (.call 34), [.r 49, .c (.int .i64 8)], none, [49]⟩])
  (.block 1 (.rfun (.r 50) 60 [51] c20l1
    c20l0)))
  (.seq (.reg [⟨some 59, (.ldn 2), [.r 6], none, [6, 50]⟩,
    ⟨none, (.st 2), [.r 2, .r 59], none, [59]⟩,
    ⟨some 3, .mv, [.c (.int .i64 0)], none, []⟩])
  .ret))))))
def rs20 : List SR := [.celln 2 2, .tmp 3]
theorem k20 : okC Try.prog 60 (Try.f20.body.getD .skip) c20 = true := by kernel_rfl
theorem acall20 {args : List AV} (hn : args.length ≤ 60) {H : Heap} {v : AV} {H' : Heap} (h : ac Try.prog c20 (argEnv 0 args) H (Fin H rs20 v H')) : ACall Try.prog 20 args H v H' :=
  acall Try.func20 (c := Try.f20.body.getD .skip) rfl k20 (by kernel_rfl) hn h
theorem acallK20 {args : List AV} (hn : args.length ≤ 60) {H : Heap} {v : AV} {H' : Heap} (h : ac Try.prog c20 (argEnv 0 args) H (FinK rs20 v H')) : ACall Try.prog 20 args H v H' :=
  acallK Try.func20 (c := Try.f20.body.getD .skip) rfl k20 (by kernel_rfl) hn h

/- alidade/frame.Long -/
def c21 : SC :=
  (.seq (.reg [⟨some 2, .mv, [.c (.int .i64 0)], none, []⟩])
  (.seq (.seq (.reg [⟨some 3, .mv, [.r 0], none, [2]⟩,
    ⟨some 4, (.bin .lss), [.r 3, .c (.int .i64 1)], none, [3]⟩,
    ⟨some 5, .mv, [.r 4], none, [4]⟩,
    ⟨some 6, .mv, [.r 0], (some (5, false)), []⟩,
    ⟨some 7, (.bin .gtr), [.r 6, .c (.int .i64 8)], (some (5, false)), [6]⟩,
    ⟨some 8, .pick, [.r 5, .c (.bool true), .r 7], none, [5, 7]⟩])
  (.cond (.r 8)
    (.kl [0, 8] (.seq (.reg [⟨some 2, .mv, [.c (.int .i64 0)], none, []⟩])
    .ret))
    (.kl [8] .skip)))
  (.seq (.reg [⟨some 9, (.build [(.int .i64 0), (.int .i64 0), (.int .i64 0), (.int .i64 0), (.int .i64 0), (.int .i64 0), (.int .i64 0), (.int .i64 0)] [(0, 1), (1, 1), (2, 1), (3, 1), (4, 1), (5, 1), (6, 1), (7, 1)]), [.c (.int .i64 3), .c (.int .i64 8), .c (.int .i64 8), .c (.int .i64 5), .c (.int .i64 18), .c (.int .i64 4), .c (.int .i64 1), .c (.int .i64 15)], none, []⟩,
    ⟨some 10, .mv, [.r 0], none, [0]⟩,
    ⟨some 11, (.bin .sub), [.r 10, .c (.int .i64 1)], none, [10]⟩,
    ⟨some 12, (.idxA 1 8 false), [.r 9, .r 11], none, [9, 11]⟩,
    ⟨some 2, .mv, [.r 12], none, [12]⟩])
  .ret)))
def rs21 : List SR := [.tmp 2]
theorem k21 : okC Try.prog 13 (Try.f21.body.getD .skip) c21 = true := by kernel_rfl
theorem acall21 {args : List AV} (hn : args.length ≤ 13) {H : Heap} {v : AV} {H' : Heap} (h : ac Try.prog c21 (argEnv 0 args) H (Fin H rs21 v H')) : ACall Try.prog 21 args H v H' :=
  acall Try.func21 (c := Try.f21.body.getD .skip) rfl k21 (by kernel_rfl) hn h
theorem acallK21 {args : List AV} (hn : args.length ≤ 13) {H : Heap} {v : AV} {H' : Heap} (h : ac Try.prog c21 (argEnv 0 args) H (FinK rs21 v H')) : ACall Try.prog 21 args H v H' :=
  acallK Try.func21 (c := Try.f21.body.getD .skip) rfl k21 (by kernel_rfl) hn h

/- alidade/alidaderef08.Encode -/
def c22l0 : SC :=
  (.seq (.seq (.reg [⟨some 31, .mv, [.r 9], none, []⟩,
        ⟨some 32, (.bin .lss), [.r 31, .c (.int .i64 8)], none, [31]⟩])
      (.cond (.r 32)
        (.kl [32] .skip)
        (.kl [7, 8, 9, 32] (.exit 2))))
      (.seq (.block 3 (.seq (.reg [⟨some 35, .mv, [.r 5], none, [5]⟩,
        ⟨some 36, .mv, [.r 7], none, []⟩,
        ⟨some 37, .mv, [.r 8], none, []⟩,
        ⟨some 38, (.bin .quo), [.r 36, .r 37], none, [36, 37]⟩,
        ⟨some 39, (.bin .rem), [.r 38, .c (.int .u64 256)], none, [38]⟩,
        ⟨some 40, (.conv .u8), [.r 39], none, [39]⟩,
        ⟨some 41, (.bslice 1 1 [(.int .u8 0)] [(0, 1)]), [.r 40], none, [40]⟩,
        ⟨some 42, (.app 1 1), [.r 35, .r 41], none, [35, 41]⟩,
        ⟨some 5, .mv, [.r 42], none, [42]⟩])
      (.reg [⟨some 43, .mv, [.r 8], none, [8]⟩,
        ⟨some 44, (.bin .quo), [.r 43, .c (.int .u64 256)], none, [43]⟩,
        ⟨some 8, .mv, [.r 44], none, [44]⟩])))
      (.reg [⟨some 33, .mv, [.r 9], none, [9]⟩,
        ⟨some 34, (.bin .add), [.r 33, .c (.int .i64 1)], none, [33]⟩,
        ⟨some 9, .mv, [.r 34], none, [34]⟩])))
def c22l1 : SC :=
  (.seq (.seq (.reg [⟨some 18, .mv, [.r 6], none, []⟩,
      ⟨some 19, (.faddr 1), [.r 1], none, []⟩,
      ⟨some 20, .ld1, [.r 19], none, [19]⟩,
      ⟨some 21, .len, [.r 20], none, [20]⟩,
      ⟨some 22, (.bin .lss), [.r 18, .r 21], none, [18, 21]⟩])
    (.cond (.r 22)
      (.kl [22] .skip)
      (.kl [1, 6, 22] (.exit 0))))
    (.seq (.block 1 (.seq (.reg [⟨some 25, (.faddr 1), [.r 1], none, []⟩,
      ⟨some 26, .ld1, [.r 25], none, [25]⟩,
      ⟨some 27, .mv, [.r 6], none, []⟩,
      ⟨some 28, (.iaddrS 1), [.r 26, .r 27], none, [26, 27]⟩,
      ⟨some 29, .ld1, [.r 28], none, [28]⟩,
      ⟨some 30, (.conv .u64), [.r 29], none, [29]⟩,
      ⟨some 7, .mv, [.r 30], none, [30]⟩])
    (.seq (.reg [⟨some 8, .mv, [.c (.int .u64 72057594037927936)], none, []⟩])
    (.seq (.reg [⟨some 9, .mv, [.c (.int .i64 0)], none, []⟩])
    (.block 2 (.loop c22l0))))))
    (.reg [⟨some 23, .mv, [.r 6], none, [6]⟩,
      ⟨some 24, (.bin .add), [.r 23, .c (.int .i64 1)], none, [23]⟩,
      ⟨some 6, .mv, [.r 24], none, [24]⟩])))
def c22 : SC :=
  (.seq (.reg [⟨some 1, .box, [.r 0], none, [0]⟩,
    ⟨some 2, .mv, [.c .nils], none, []⟩,
    ⟨some 3, .mv, [.c (.int .i64 0)], none, [2]⟩])
  (.seq (.reg [⟨some 10, (.ldn 2), [.r 1], none, [3]⟩,
    ⟨some 11, (.call 11), [.r 10], none, [10]⟩,
    ⟨some 4, .mv, [.r 11], none, [11]⟩])
  (.seq (.seq (.reg [⟨some 12, .mv, [.r 4], none, [4]⟩,
    ⟨some 13, (.un .not), [.r 12], none, [12]⟩])
  (.cond (.r 13)
    (.kl [1, 13] (.seq (.reg [⟨some 2, .mv, [.c .nils], none, []⟩,
      ⟨some 3, .mv, [.c (.int .i64 1)], none, []⟩])
    .ret))
    (.kl [13] .skip)))
  (.seq (.reg [⟨some 14, (.faddr 0), [.r 1], none, []⟩,
    ⟨some 15, .ld1, [.r 14], none, [14]⟩,
    ⟨some 16, (.conv .u8), [.r 15], none, [15]⟩,
    ⟨some 17, (.bslice 1 1 [(.int .u8 0)] [(0, 1)]), [.r 16], none, [16]⟩,
    ⟨some 5, .mv, [.r 17], none, [17]⟩])
  (.seq (.seq (.reg [⟨some 6, .mv, [.c (.int .i64 0)], none, []⟩])
  (.block 0 (.loop c22l1)))
  (.seq (.reg [⟨some 45, .mv, [.r 5], none, [5]⟩,
    ⟨some 46, (.call 36), [.r 45], none, [45]⟩,
    ⟨some 2, .mv, [.r 46], none, [46]⟩,
    ⟨some 3, .mv, [.c (.int .i64 0)], none, []⟩])
  .ret))))))
def rs22 : List SR := [.tmp 2, .tmp 3]
theorem k22 : okC Try.prog 47 (Try.f22.body.getD .skip) c22 = true := by kernel_rfl
theorem acall22 {args : List AV} (hn : args.length ≤ 47) {H : Heap} {v : AV} {H' : Heap} (h : ac Try.prog c22 (argEnv 0 args) H (Fin H rs22 v H')) : ACall Try.prog 22 args H v H' :=
  acall Try.func22 (c := Try.f22.body.getD .skip) rfl k22 (by kernel_rfl) hn h
theorem acallK22 {args : List AV} (hn : args.length ≤ 47) {H : Heap} {v : AV} {H' : Heap} (h : ac Try.prog c22 (argEnv 0 args) H (FinK rs22 v H')) : ACall Try.prog 22 args H v H' :=
  acallK Try.func22 (c := Try.f22.body.getD .skip) rfl k22 (by kernel_rfl) hn h

/- alidade/alidaderef08.Decode -/
def c23l0 : SC :=
  (.seq (.seq (.reg [⟨some 48, .mv, [.r 10], none, []⟩,
        ⟨some 49, (.bin .lss), [.r 48, .c (.int .i64 8)], none, [48]⟩])
      (.cond (.r 49)
        (.kl [49] .skip)
        (.kl [10, 49] (.exit 2))))
      (.seq (.block 3 (.reg [⟨some 52, .mv, [.r 9], none, [9]⟩,
        ⟨some 53, (.bin .mul), [.r 52, .c (.int .u64 256)], none, [52]⟩,
        ⟨some 54, .mv, [.r 4], none, []⟩,
        ⟨some 55, .mv, [.r 8], none, []⟩,
        ⟨some 56, (.bin .mul), [.c (.int .i64 8), .r 55], none, [55]⟩,
        ⟨some 57, (.bin .add), [.c (.int .i64 1), .r 56], none, [56]⟩,
        ⟨some 58, .mv, [.r 10], none, []⟩,
        ⟨some 59, (.bin .add), [.r 57, .r 58], none, [57, 58]⟩,
        ⟨some 60, (.iaddrS 1), [.r 54, .r 59], none, [54, 59]⟩,
        ⟨some 61, .ld1, [.r 60], none, [60]⟩,
        ⟨some 62, (.conv .u64), [.r 61], none, [61]⟩,
        ⟨some 63, (.bin .add), [.r 53, .r 62], none, [53, 62]⟩,
        ⟨some 9, .mv, [.r 63], none, [63]⟩]))
      (.reg [⟨some 50, .mv, [.r 10], none, [10]⟩,
        ⟨some 51, (.bin .add), [.r 50, .c (.int .i64 1)], none, [50]⟩,
        ⟨some 10, .mv, [.r 51], none, [51]⟩])))
def c23l1 : SC :=
  (.seq (.seq (.reg [⟨some 43, .mv, [.r 8], none, []⟩,
      ⟨some 44, .mv, [.r 7], none, []⟩,
      ⟨some 45, (.bin .lss), [.r 43, .r 44], none, [43, 44]⟩])
    (.cond (.r 45)
      (.kl [45] .skip)
      (.kl [4, 7, 8, 45] (.exit 0))))
    (.seq (.block 1 (.seq (.reg [⟨some 9, .mv, [.c (.int .u64 0)], none, []⟩])
    (.seq (.seq (.reg [⟨some 10, .mv, [.c (.int .i64 0)], none, []⟩])
    (.block 2 (.loop c23l0)))
    (.reg [⟨some 64, (.faddr 1), [.r 6], none, []⟩,
      ⟨some 65, .ld1, [.r 64], none, [64]⟩,
      ⟨some 66, .mv, [.r 9], none, [9]⟩,
      ⟨some 67, (.conv .i64), [.r 66], none, [66]⟩,
      ⟨some 68, (.bslice 1 1 [(.int .i64 0)] [(0, 1)]), [.r 67], none, [67]⟩,
      ⟨some 69, (.app 1 8), [.r 65, .r 68], none, [65, 68]⟩,
      ⟨some 70, (.faddr 1), [.r 6], none, []⟩,
      ⟨none, (.st 1), [.r 70, .r 69], none, [69, 70]⟩]))))
    (.reg [⟨some 46, .mv, [.r 8], none, [8]⟩,
      ⟨some 47, (.bin .add), [.r 46, .c (.int .i64 1)], none, [46]⟩,
      ⟨some 8, .mv, [.r 47], none, [47]⟩])))
def c23 : SC :=
  (.seq (.reg [⟨some 2, (.alloc [(.int .i64 0), .nils]), [], none, []⟩,
    ⟨some 3, .mv, [.c (.int .i64 0)], none, []⟩])
  (.seq (.reg [⟨some 12, .mv, [.r 0], none, [0, 3]⟩,
    ⟨some 13, (.call 37), [.r 12], none, [12]⟩,
    ⟨some 11, .mv, [.r 13], none, [13]⟩,
    ⟨some 14, (.ext 0), [.r 11], none, []⟩,
    ⟨some 15, (.ext 1), [.r 11], none, [11]⟩,
    ⟨some 4, .mv, [.r 14], none, [14]⟩,
    ⟨some 5, .mv, [.r 15], none, [15]⟩])
  (.seq (.seq (.reg [⟨some 16, .mv, [.r 5], none, []⟩,
    ⟨some 17, (.bin .neq), [.r 16, .c (.int .i64 0)], none, [16]⟩])
  (.cond (.r 17)
    (.kl [4, 17] (.seq (.reg [⟨some 18, (.build [(.int .i64 0), .nils] []), [], none, []⟩,
      ⟨some 19, .mv, [.r 5], none, [5]⟩,
      ⟨none, (.st 2), [.r 2, .r 18], none, [18]⟩,
      ⟨some 3, .mv, [.r 19], none, [19]⟩])
    .ret))
    (.kl [5, 17] .skip)))
  (.seq (.seq (.reg [⟨some 20, .mv, [.r 4], none, []⟩,
    ⟨some 21, .len, [.r 20], none, [20]⟩,
    ⟨some 22, (.bin .eql), [.r 21, .c (.int .i64 0)], none, [21]⟩])
  (.cond (.r 22)
    (.kl [4, 22] (.seq (.reg [⟨some 23, (.build [(.int .i64 0), .nils] []), [], none, []⟩,
      ⟨none, (.st 2), [.r 2, .r 23], none, [23]⟩,
      ⟨some 3, .mv, [.c (.int .i64 2)], none, []⟩])
    .ret))
    (.kl [22] .skip)))
  (.seq (.reg [⟨some 24, .mv, [.r 4], none, []⟩,
    ⟨some 25, (.iaddrS 1), [.r 24, .c (.int .i64 0)], none, [24]⟩,
    ⟨some 26, .ld1, [.r 25], none, [25]⟩,
    ⟨some 27, (.conv .i64), [.r 26], none, [26]⟩,
    ⟨some 28, (.build [(.int .i64 0), .nils] [(0, 1)]), [.r 27], none, [27]⟩,
    ⟨some 6, (.alloc [(.int .i64 0), .nils]), [], none, []⟩,
    ⟨none, (.st 2), [.r 6, .r 28], none, [28]⟩])
  (.seq (.reg [⟨some 29, (.faddr 0), [.r 6], none, []⟩,
    ⟨some 30, .ld1, [.r 29], none, [29]⟩,
    ⟨some 31, (.call 25), [.r 30], none, [30]⟩,
    ⟨some 7, .mv, [.r 31], none, [31]⟩])
  (.seq (.seq (.reg [⟨some 32, .mv, [.r 7], none, []⟩,
    ⟨some 33, (.bin .eql), [.r 32, .c (.int .i64 0)], none, [32]⟩,
    ⟨some 34, .mv, [.r 33], none, [33]⟩,
    ⟨some 35, .mv, [.r 4], (some (34, false)), []⟩,
    ⟨some 36, .len, [.r 35], (some (34, false)), [35]⟩,
    ⟨some 37, .mv, [.r 7], (some (34, false)), []⟩,
    ⟨some 38, (.bin .mul), [.c (.int .i64 8), .r 37], (some (34, false)), [37]⟩,
    ⟨some 39, (.bin .add), [.c (.int .i64 1), .r 38], (some (34, false)), [38]⟩,
    ⟨some 40, (.bin .neq), [.r 36, .r 39], (some (34, false)), [36, 39]⟩,
    ⟨some 41, .pick, [.r 34, .c (.bool true), .r 40], none, [34, 40]⟩])
  (.cond (.r 41)
    (.kl [4, 6, 7, 41] (.seq (.reg [⟨some 42, (.build [(.int .i64 0), .nils] []), [], none, []⟩,
      ⟨none, (.st 2), [.r 2, .r 42], none, [42]⟩,
      ⟨some 3, .mv, [.c (.int .i64 2)], none, []⟩])
    .ret))
    (.kl [41] .skip)))
  (.seq (.seq (.reg [⟨some 8, .mv, [.c (.int .i64 0)], none, []⟩])
  (.block 0 (.loop c23l1)))
  (.seq (.reg [⟨some 71, (.ldn 2), [.r 6], none, [6]⟩,
    ⟨none, (.st 2), [.r 2, .r 71], none, [71]⟩,
    ⟨some 3, .mv, [.c (.int .i64 0)], none, []⟩])
  .ret)))))))))
def rs23 : List SR := [.celln 2 2, .tmp 3]
theorem k23 : okC Try.prog 72 (Try.f23.body.getD .skip) c23 = true := by kernel_rfl
theorem acall23 {args : List AV} (hn : args.length ≤ 72) {H : Heap} {v : AV} {H' : Heap} (h : ac Try.prog c23 (argEnv 0 args) H (Fin H rs23 v H')) : ACall Try.prog 23 args H v H' :=
  acall Try.func23 (c := Try.f23.body.getD .skip) rfl k23 (by kernel_rfl) hn h
theorem acallK23 {args : List AV} (hn : args.length ≤ 72) {H : Heap} {v : AV} {H' : Heap} (h : ac Try.prog c23 (argEnv 0 args) H (FinK rs23 v H')) : ACall Try.prog 23 args H v H' :=
  acallK Try.func23 (c := Try.f23.body.getD .skip) rfl k23 (by kernel_rfl) hn h

/- alidade/alidaderef07.Same -/
def c24l0 : SC :=
  (.seq (.seq (.reg [⟨some 11, .mv, [.r 5], none, []⟩,
      ⟨some 12, .mv, [.r 0], none, []⟩,
      ⟨some 13, .len, [.r 12], none, [12]⟩,
      ⟨some 14, (.bin .lss), [.r 11, .r 13], none, [11, 13]⟩])
    (.cond (.r 14)
      (.kl [14] .skip)
      (.kl [0, 1, 5, 14] (.exit 0))))
    (.seq (.block 1 (.seq (.dreg [⟨0, 0, false, false, ⟨some 17, .mv, [.r 0], none, []⟩⟩,
      ⟨1, 0, false, false, ⟨some 18, .mv, [.r 5], none, []⟩⟩,
      ⟨2, 3, false, false, ⟨some 19, (.iaddrS 1), [.r 17, .r 18], none, [17, 18]⟩⟩,
      ⟨3, 7, false, false, ⟨some 20, .ld1, [.r 19], none, [19]⟩⟩,
      ⟨4, 0, false, false, ⟨some 21, .mv, [.r 1], none, []⟩⟩,
      ⟨5, 0, false, false, ⟨some 22, .mv, [.r 5], none, []⟩⟩,
      ⟨6, 48, false, false, ⟨some 23, (.iaddrS 1), [.r 21, .r 22], none, [21, 22]⟩⟩,
      ⟨7, 112, false, false, ⟨some 24, .ld1, [.r 23], none, [23]⟩⟩,
      ⟨8, 255, false, false, ⟨some 25, (.bin .neq), [.r 20, .r 24], none, [20, 24]⟩⟩])
    (.cond (.r 25)
      (.kl [0, 1, 5, 25] (.seq (.reg [⟨some 4, .mv, [.c (.bool false)], none, []⟩])
      .ret))
      (.kl [25] .skip))))
    (.reg [⟨some 15, .mv, [.r 5], none, [5]⟩,
      ⟨some 16, (.bin .add), [.r 15, .c (.int .i64 1)], none, [15]⟩,
      ⟨some 5, .mv, [.r 16], none, [16]⟩])))
def c24 : SC :=
  (.seq (.reg [⟨some 4, .mv, [.c (.bool false)], none, []⟩])
  (.seq (.seq (.reg [⟨some 6, .mv, [.r 0], none, [4]⟩,
    ⟨some 7, .len, [.r 6], none, [6]⟩,
    ⟨some 8, .mv, [.r 1], none, []⟩,
    ⟨some 9, .len, [.r 8], none, [8]⟩,
    ⟨some 10, (.bin .neq), [.r 7, .r 9], none, [7, 9]⟩])
  (.cond (.r 10)
    (.kl [0, 1, 10] (.seq (.reg [⟨some 4, .mv, [.c (.bool false)], none, []⟩])
    .ret))
    (.kl [10] .skip)))
  (.seq (.seq (.reg [⟨some 5, .mv, [.c (.int .i64 0)], none, []⟩])
  (.block 0 (.loop c24l0)))
  (.seq (.reg [⟨some 4, .mv, [.c (.bool true)], none, []⟩])
  .ret))))
def rs24 : List SR := [.tmp 4]
theorem k24 : okC Try.prog 26 (Try.f24.body.getD .skip) c24 = true := by kernel_rfl
theorem acall24 {args : List AV} (hn : args.length ≤ 26) {H : Heap} {v : AV} {H' : Heap} (h : ac Try.prog c24 (argEnv 0 args) H (Fin H rs24 v H')) : ACall Try.prog 24 args H v H' :=
  acall Try.func24 (c := Try.f24.body.getD .skip) rfl k24 (by kernel_rfl) hn h
theorem acallK24 {args : List AV} (hn : args.length ≤ 26) {H : Heap} {v : AV} {H' : Heap} (h : ac Try.prog c24 (argEnv 0 args) H (FinK rs24 v H')) : ACall Try.prog 24 args H v H' :=
  acallK Try.func24 (c := Try.f24.body.getD .skip) rfl k24 (by kernel_rfl) hn h

/- alidade/alidaderef08.Long -/
def c25 : SC :=
  (.seq (.reg [⟨some 2, .mv, [.c (.int .i64 0)], none, []⟩])
  (.seq (.seq (.reg [⟨some 3, .mv, [.r 0], none, [0, 2]⟩])
  (.block 0 (.seq (.reg [⟨some 5, (.bin .eql), [.r 3, .c (.int .i64 1)], none, []⟩,
    ⟨some 4, .mv, [.r 5], none, [5]⟩])
  (.cond (.r 4)
    (.kl [3, 4] (.seq (.reg [⟨some 2, .mv, [.c (.int .i64 3)], none, []⟩])
    .ret))
    (.kl [4] (.seq (.reg [⟨some 7, (.bin .eql), [.r 3, .c (.int .i64 2)], none, []⟩,
      ⟨some 6, .mv, [.r 7], none, [7]⟩])
    (.cond (.r 6)
      (.kl [3, 6] (.seq (.reg [⟨some 2, .mv, [.c (.int .i64 8)], none, []⟩])
      .ret))
      (.kl [6] (.seq (.reg [⟨some 9, (.bin .eql), [.r 3, .c (.int .i64 3)], none, []⟩,
        ⟨some 8, .mv, [.r 9], none, [9]⟩])
      (.cond (.r 8)
        (.kl [3, 8] (.seq (.reg [⟨some 2, .mv, [.c (.int .i64 8)], none, []⟩])
        .ret))
        (.kl [8] (.seq (.reg [⟨some 11, (.bin .eql), [.r 3, .c (.int .i64 4)], none, []⟩,
          ⟨some 10, .mv, [.r 11], none, [11]⟩])
        (.cond (.r 10)
          (.kl [3, 10] (.seq (.reg [⟨some 2, .mv, [.c (.int .i64 5)], none, []⟩])
          .ret))
          (.kl [10] (.seq (.reg [⟨some 13, (.bin .eql), [.r 3, .c (.int .i64 5)], none, []⟩,
            ⟨some 12, .mv, [.r 13], none, [13]⟩])
          (.cond (.r 12)
            (.kl [3, 12] (.seq (.reg [⟨some 2, .mv, [.c (.int .i64 18)], none, []⟩])
            .ret))
            (.kl [12] (.seq (.reg [⟨some 15, (.bin .eql), [.r 3, .c (.int .i64 6)], none, []⟩,
              ⟨some 14, .mv, [.r 15], none, [15]⟩])
            (.cond (.r 14)
              (.kl [3, 14] (.seq (.reg [⟨some 2, .mv, [.c (.int .i64 4)], none, []⟩])
              .ret))
              (.kl [14] (.seq (.reg [⟨some 17, (.bin .eql), [.r 3, .c (.int .i64 7)], none, []⟩,
                ⟨some 16, .mv, [.r 17], none, [17]⟩])
              (.cond (.r 16)
                (.kl [3, 16] (.seq (.reg [⟨some 2, .mv, [.c (.int .i64 1)], none, []⟩])
                .ret))
                (.kl [16] (.seq (.reg [⟨some 19, (.bin .eql), [.r 3, .c (.int .i64 8)], none, [3]⟩,
                  ⟨some 18, .mv, [.r 19], none, [19]⟩])
                (.cond (.r 18)
                  (.kl [18] (.seq (.reg [⟨some 2, .mv, [.c (.int .i64 15)], none, []⟩])
                  .ret))
                  (.kl [18] .skip))))))))))))))))))))))))))
  (.seq (.reg [⟨some 2, .mv, [.c (.int .i64 0)], none, []⟩])
  .ret)))
def rs25 : List SR := [.tmp 2]
theorem k25 : okC Try.prog 20 (Try.f25.body.getD .skip) c25 = true := by kernel_rfl
theorem acall25 {args : List AV} (hn : args.length ≤ 20) {H : Heap} {v : AV} {H' : Heap} (h : ac Try.prog c25 (argEnv 0 args) H (Fin H rs25 v H')) : ACall Try.prog 25 args H v H' :=
  acall Try.func25 (c := Try.f25.body.getD .skip) rfl k25 (by kernel_rfl) hn h
theorem acallK25 {args : List AV} (hn : args.length ≤ 20) {H : Heap} {v : AV} {H' : Heap} (h : ac Try.prog c25 (argEnv 0 args) H (FinK rs25 v H')) : ACall Try.prog 25 args H v H' :=
  acallK Try.func25 (c := Try.f25.body.getD .skip) rfl k25 (by kernel_rfl) hn h

/- alidade/frame.Right -/
def c26 : SC :=
  (.seq (.reg [⟨some 1, .box, [.r 0], none, [0]⟩,
    ⟨some 2, .mv, [.c (.bool false)], none, []⟩])
  (.seq (.reg [⟨some 4, (.faddr 0), [.r 1], none, [2]⟩,
    ⟨some 5, .ld1, [.r 4], none, [4]⟩,
    ⟨some 6, (.call 21), [.r 5], none, [5]⟩,
    ⟨some 3, .mv, [.r 6], none, [6]⟩])
  (.seq (.reg [⟨some 7, .mv, [.r 3], none, []⟩,
    ⟨some 8, (.bin .gtr), [.r 7, .c (.int .i64 0)], none, [7]⟩,
    ⟨some 9, .mv, [.r 8], none, [8]⟩,
    ⟨some 10, (.faddr 1), [.r 1], (some (9, true)), [1]⟩,
    ⟨some 11, .ld1, [.r 10], (some (9, true)), [10]⟩,
    ⟨some 12, .len, [.r 11], (some (9, true)), [11]⟩,
    ⟨some 13, .mv, [.r 3], (some (9, true)), [3]⟩,
    ⟨some 14, (.bin .eql), [.r 12, .r 13], (some (9, true)), [12, 13]⟩,
    ⟨some 15, .pick, [.r 9, .r 14, .c (.bool false)], none, [9, 14]⟩,
    ⟨some 2, .mv, [.r 15], none, [15]⟩])
  .ret)))
def rs26 : List SR := [.tmp 2]
theorem k26 : okC Try.prog 16 (Try.f26.body.getD .skip) c26 = true := by kernel_rfl
theorem acall26 {args : List AV} (hn : args.length ≤ 16) {H : Heap} {v : AV} {H' : Heap} (h : ac Try.prog c26 (argEnv 0 args) H (Fin H rs26 v H')) : ACall Try.prog 26 args H v H' :=
  acall Try.func26 (c := Try.f26.body.getD .skip) rfl k26 (by kernel_rfl) hn h
theorem acallK26 {args : List AV} (hn : args.length ≤ 16) {H : Heap} {v : AV} {H' : Heap} (h : ac Try.prog c26 (argEnv 0 args) H (FinK rs26 v H')) : ACall Try.prog 26 args H v H' :=
  acallK Try.func26 (c := Try.f26.body.getD .skip) rfl k26 (by kernel_rfl) hn h

/- alidade/sum.Seal -/
def c27 : SC :=
  (.seq (.reg [⟨some 2, .mv, [.c .nils], none, []⟩])
  (.seq (.reg [⟨some 3, .mv, [.r 0], none, [2]⟩,
    ⟨some 4, .mv, [.r 0], none, [0]⟩,
    ⟨some 5, (.call 39), [.r 4], none, [4]⟩,
    ⟨some 6, (.bslice 1 2 [.nils, .nils] [(0, 1), (1, 1)]), [.r 3, .r 5], none, [3, 5]⟩,
    ⟨some 7, (.call 38), [.r 6], none, [6]⟩,
    ⟨some 2, .mv, [.r 7], none, [7]⟩])
  .ret))
def rs27 : List SR := [.tmp 2]
theorem k27 : okC Try.prog 8 (Try.f27.body.getD .skip) c27 = true := by kernel_rfl
theorem acall27 {args : List AV} (hn : args.length ≤ 8) {H : Heap} {v : AV} {H' : Heap} (h : ac Try.prog c27 (argEnv 0 args) H (Fin H rs27 v H')) : ACall Try.prog 27 args H v H' :=
  acall Try.func27 (c := Try.f27.body.getD .skip) rfl k27 (by kernel_rfl) hn h
theorem acallK27 {args : List AV} (hn : args.length ≤ 8) {H : Heap} {v : AV} {H' : Heap} (h : ac Try.prog c27 (argEnv 0 args) H (FinK rs27 v H')) : ACall Try.prog 27 args H v H' :=
  acallK Try.func27 (c := Try.f27.body.getD .skip) rfl k27 (by kernel_rfl) hn h

/- slices.Equal[[]int64,int64] -/
def c28l0 : SC :=
  (.seq (.reg [⟨some 14, (.bin .lss), [.r 13, .r 12], none, []⟩])
    (.seq (.cond (.r 14)
      (.kl [14] .skip)
      (.kl [0, 1, 12, 13, 14] (.exit 0)))
    (.seq (.block 1 (.seq (.reg [⟨some 15, .mv, [.r 13], none, []⟩,
      ⟨some 5, .mv, [.r 15], none, [15]⟩])
    (.seq (.dreg [⟨0, 0, false, false, ⟨some 16, .mv, [.r 0], none, []⟩⟩,
      ⟨1, 0, false, false, ⟨some 17, .mv, [.r 5], none, []⟩⟩,
      ⟨2, 3, false, false, ⟨some 18, (.iaddrS 1), [.r 16, .r 17], none, [16, 17]⟩⟩,
      ⟨3, 7, false, false, ⟨some 19, .ld1, [.r 18], none, [18]⟩⟩,
      ⟨4, 0, false, false, ⟨some 20, .mv, [.r 1], none, []⟩⟩,
      ⟨5, 0, false, false, ⟨some 21, .mv, [.r 5], none, [5]⟩⟩,
      ⟨6, 48, false, false, ⟨some 22, (.iaddrS 1), [.r 20, .r 21], none, [20, 21]⟩⟩,
      ⟨7, 112, false, false, ⟨some 23, .ld1, [.r 22], none, [22]⟩⟩,
      ⟨8, 255, false, false, ⟨some 24, (.bin .neq), [.r 19, .r 23], none, [19, 23]⟩⟩])
    (.cond (.r 24)
      (.kl [0, 1, 12, 13, 24] (.seq (.reg [⟨some 4, .mv, [.c (.bool false)], none, []⟩])
      .ret))
      (.kl [24] .skip)))))
    (.reg [⟨some 25, (.bin .add), [.r 13, .c (.int .i64 1)], none, [13]⟩,
      ⟨some 13, .mv, [.r 25], none, [25]⟩]))))
def c28 : SC :=
  (.seq (.reg [⟨some 4, .mv, [.c (.bool false)], none, []⟩])
  (.seq (.seq (.reg [⟨some 6, .mv, [.r 0], none, [4]⟩,
    ⟨some 7, .len, [.r 6], none, [6]⟩,
    ⟨some 8, .mv, [.r 1], none, []⟩,
    ⟨some 9, .len, [.r 8], none, [8]⟩,
    ⟨some 10, (.bin .neq), [.r 7, .r 9], none, [7, 9]⟩])
  (.cond (.r 10)
    (.kl [0, 1, 10] (.seq (.reg [⟨some 4, .mv, [.c (.bool false)], none, []⟩])
    .ret))
    (.kl [10] .skip)))
  (.seq (.seq (.reg [⟨some 11, .mv, [.r 0], none, []⟩,
    ⟨some 12, .len, [.r 11], none, [11]⟩,
    ⟨some 13, .mv, [.c (.int .i64 0)], none, []⟩])
  (.block 0 (.loop c28l0)))
  (.seq (.reg [⟨some 4, .mv, [.c (.bool true)], none, []⟩])
  .ret))))
def rs28 : List SR := [.tmp 4]
theorem k28 : okC Try.prog 26 (Try.f28.body.getD .skip) c28 = true := by kernel_rfl
theorem acall28 {args : List AV} (hn : args.length ≤ 26) {H : Heap} {v : AV} {H' : Heap} (h : ac Try.prog c28 (argEnv 0 args) H (Fin H rs28 v H')) : ACall Try.prog 28 args H v H' :=
  acall Try.func28 (c := Try.f28.body.getD .skip) rfl k28 (by kernel_rfl) hn h
theorem acallK28 {args : List AV} (hn : args.length ≤ 26) {H : Heap} {v : AV} {H' : Heap} (h : ac Try.prog c28 (argEnv 0 args) H (FinK rs28 v H')) : ACall Try.prog 28 args H v H' :=
  acallK Try.func28 (c := Try.f28.body.getD .skip) rfl k28 (by kernel_rfl) hn h

/- alidade/frame.Pack$1 -/
def c29 : SC :=
  (.seq (.reg [⟨some 3, .mv, [.c (.int .i64 0)], none, []⟩])
  (.seq (.seq (.reg [⟨some 4, .mv, [.r 0], none, [0]⟩])
  (.cond (.r 4)
    (.kl [3, 4] (.reg [⟨some 3, .mv, [.c (.int .i64 1)], none, []⟩]))
    (.kl [4] .skip)))
  (.reg [⟨some 5, .ld1, [.r 1], none, []⟩,
    ⟨some 6, .mv, [.r 3], none, [3]⟩,
    ⟨some 7, (.bslice 1 1 [(.int .i64 0)] [(0, 1)]), [.r 6], none, [6]⟩,
    ⟨some 8, (.app 1 8), [.r 5, .r 7], none, [5, 7]⟩,
    ⟨none, (.st 1), [.r 1, .r 8], none, [1, 8]⟩])))
def rs29 : List SR := []
theorem k29 : okC Try.prog 9 (Try.f29.body.getD .skip) c29 = true := by kernel_rfl
theorem acall29 {args : List AV} (hn : args.length ≤ 9) {H : Heap} {v : AV} {H' : Heap} (h : ac Try.prog c29 (argEnv 0 args) H (Fin H rs29 v H')) : ACall Try.prog 29 args H v H' :=
  acall Try.func29 (c := Try.f29.body.getD .skip) rfl k29 (by kernel_rfl) hn h
theorem acallK29 {args : List AV} (hn : args.length ≤ 9) {H : Heap} {v : AV} {H' : Heap} (h : ac Try.prog c29 (argEnv 0 args) H (FinK rs29 v H')) : ACall Try.prog 29 args H v H' :=
  acallK Try.func29 (c := Try.f29.body.getD .skip) rfl k29 (by kernel_rfl) hn h

/- alidade/frame.Pack$2 -/
def c30l0 : SC :=
  (.seq (.reg [⟨some 8, (.bin .lss), [.r 7, .r 6], none, []⟩])
    (.seq (.cond (.r 8)
      (.kl [8] .skip)
      (.kl [1, 5, 6, 7, 8] (.exit 0)))
    (.seq (.block 1 (.seq (.reg [⟨some 9, (.iaddrS 1), [.r 5, .r 7], none, []⟩,
      ⟨some 10, .ld1, [.r 9], none, [9]⟩,
      ⟨some 4, .mv, [.r 10], none, [10]⟩])
    (.reg [⟨some 11, .ld1, [.r 1], none, []⟩,
      ⟨some 12, .mv, [.r 4], none, [4]⟩,
      ⟨some 13, (.bslice 1 1 [(.int .i64 0)] [(0, 1)]), [.r 12], none, [12]⟩,
      ⟨some 14, (.app 1 8), [.r 11, .r 13], none, [11, 13]⟩,
      ⟨none, (.st 1), [.r 1, .r 14], none, [14]⟩])))
    (.reg [⟨some 15, (.bin .add), [.r 7, .c (.int .i64 1)], none, [7]⟩,
      ⟨some 7, .mv, [.r 15], none, [15]⟩]))))
def c30 : SC :=
  (.seq (.reg [⟨some 5, .mv, [.r 0], none, [0]⟩,
    ⟨some 6, .len, [.r 5], none, []⟩,
    ⟨some 7, .mv, [.c (.int .i64 0)], none, []⟩])
  (.block 0 (.loop c30l0)))
def rs30 : List SR := []
theorem k30 : okC Try.prog 16 (Try.f30.body.getD .skip) c30 = true := by kernel_rfl
theorem acall30 {args : List AV} (hn : args.length ≤ 16) {H : Heap} {v : AV} {H' : Heap} (h : ac Try.prog c30 (argEnv 0 args) H (Fin H rs30 v H')) : ACall Try.prog 30 args H v H' :=
  acall Try.func30 (c := Try.f30.body.getD .skip) rfl k30 (by kernel_rfl) hn h
theorem acallK30 {args : List AV} (hn : args.length ≤ 16) {H : Heap} {v : AV} {H' : Heap} (h : ac Try.prog c30 (argEnv 0 args) H (FinK rs30 v H')) : ACall Try.prog 30 args H v H' :=
  acallK Try.func30 (c := Try.f30.body.getD .skip) rfl k30 (by kernel_rfl) hn h

/- alidade/frame.Unpack$1 -/
def c31 : SC :=
  (.seq (.reg [⟨some 3, (.alloc [(.int .i64 0), (.int .i64 0), (.int .i64 0)]), [], none, []⟩])
  (.seq (.dreg [⟨0, 0, false, false, ⟨some 4, .ld1, [.r 1], none, []⟩⟩,
    ⟨1, 0, false, false, ⟨some 5, .mv, [.r 0], none, []⟩⟩,
    ⟨2, 3, false, false, ⟨some 6, (.iaddrS 1), [.r 4, .r 5], none, [4, 5]⟩⟩,
    ⟨3, 7, false, false, ⟨some 7, .ld1, [.r 6], none, [6]⟩⟩,
    ⟨4, 0, false, false, ⟨some 8, .ld1, [.r 1], none, []⟩⟩,
    ⟨5, 0, false, false, ⟨some 9, .mv, [.r 0], none, []⟩⟩,
    ⟨6, 32, false, false, ⟨some 10, (.bin .add), [.r 9, .c (.int .i64 1)], none, [9]⟩⟩,
    ⟨7, 112, false, false, ⟨some 11, (.iaddrS 1), [.r 8, .r 10], none, [8, 10]⟩⟩,
    ⟨8, 240, false, false, ⟨some 12, .ld1, [.r 11], none, [11]⟩⟩,
    ⟨9, 0, false, false, ⟨some 13, .ld1, [.r 1], none, [1]⟩⟩,
    ⟨10, 0, false, false, ⟨some 14, .mv, [.r 0], none, [0]⟩⟩,
    ⟨11, 1024, false, false, ⟨some 15, (.bin .add), [.r 14, .c (.int .i64 2)], none, [14]⟩⟩,
    ⟨12, 3584, false, false, ⟨some 16, (.iaddrS 1), [.r 13, .r 15], none, [13, 15]⟩⟩,
    ⟨13, 7680, false, false, ⟨some 17, .ld1, [.r 16], none, [16]⟩⟩,
    ⟨14, 16383, false, false, ⟨some 18, (.build [(.int .i64 0), (.int .i64 0), (.int .i64 0)] [(0, 1), (1, 1), (2, 1)]), [.r 7, .r 12, .r 17], none, [7, 12, 17]⟩⟩,
    ⟨15, 32767, false, false, ⟨none, (.st 3), [.r 3, .r 18], none, [18]⟩⟩])
  .ret))
def rs31 : List SR := [.celln 3 3]
theorem k31 : okC Try.prog 19 (Try.f31.body.getD .skip) c31 = true := by kernel_rfl
theorem acall31 {args : List AV} (hn : args.length ≤ 19) {H : Heap} {v : AV} {H' : Heap} (h : ac Try.prog c31 (argEnv 0 args) H (Fin H rs31 v H')) : ACall Try.prog 31 args H v H' :=
  acall Try.func31 (c := Try.f31.body.getD .skip) rfl k31 (by kernel_rfl) hn h
theorem acallK31 {args : List AV} (hn : args.length ≤ 19) {H : Heap} {v : AV} {H' : Heap} (h : ac Try.prog c31 (argEnv 0 args) H (FinK rs31 v H')) : ACall Try.prog 31 args H v H' :=
  acallK Try.func31 (c := Try.f31.body.getD .skip) rfl k31 (by kernel_rfl) hn h

/- alidade/alidaderef08.one -/
def c32 : SC :=
  (.seq (.reg [⟨some 2, .mv, [.c (.int .i64 0)], none, []⟩])
  (.seq (.seq (.reg [⟨some 3, .mv, [.r 0], none, [0, 2]⟩])
  (.cond (.r 3)
    (.kl [3] (.seq (.reg [⟨some 2, .mv, [.c (.int .i64 1)], none, []⟩])
    .ret))
    (.kl [3] .skip)))
  (.seq (.reg [⟨some 2, .mv, [.c (.int .i64 0)], none, []⟩])
  .ret)))
def rs32 : List SR := [.tmp 2]
theorem k32 : okC Try.prog 4 (Try.f32.body.getD .skip) c32 = true := by kernel_rfl
theorem acall32 {args : List AV} (hn : args.length ≤ 4) {H : Heap} {v : AV} {H' : Heap} (h : ac Try.prog c32 (argEnv 0 args) H (Fin H rs32 v H')) : ACall Try.prog 32 args H v H' :=
  acall Try.func32 (c := Try.f32.body.getD .skip) rfl k32 (by kernel_rfl) hn h
theorem acallK32 {args : List AV} (hn : args.length ≤ 4) {H : Heap} {v : AV} {H' : Heap} (h : ac Try.prog c32 (argEnv 0 args) H (FinK rs32 v H')) : ACall Try.prog 32 args H v H' :=
  acallK Try.func32 (c := Try.f32.body.getD .skip) rfl k32 (by kernel_rfl) hn h

/- alidade/sum.Open -/
def c33 : SC :=
  (.seq (.reg [⟨some 2, .mv, [.c .nils], none, []⟩,
    ⟨some 3, .mv, [.c (.int .i64 0)], none, [2]⟩])
  (.seq (.reg [⟨some 5, .mv, [.r 0], none, [3]⟩,
    ⟨some 6, .len, [.r 5], none, [5]⟩,
    ⟨some 7, (.bin .sub), [.r 6, .c (.int .i64 4)], none, [6]⟩,
    ⟨some 4, .mv, [.r 7], none, [7]⟩])
  (.seq (.seq (.reg [⟨some 8, .mv, [.r 4], none, []⟩,
    ⟨some 9, (.bin .lss), [.r 8, .c (.int .i64 0)], none, [8]⟩])
  (.cond (.r 9)
    (.kl [0, 4, 9] (.seq (.reg [⟨some 2, .mv, [.c .nils], none, []⟩,
      ⟨some 3, .mv, [.c (.int .i64 4)], none, []⟩])
    .ret))
    (.kl [9] .skip)))
  (.seq (.seq (.dreg [⟨0, 0, false, false, ⟨some 10, .mv, [.r 0], none, []⟩⟩,
    ⟨1, 0, false, false, ⟨some 11, .mv, [.r 4], none, []⟩⟩,
    ⟨2, 3, false, false, ⟨some 12, (.slice 1 false true false), [.r 10, .r 11], none, [10, 11]⟩⟩,
    ⟨3, 7, false, false, ⟨some 13, (.call 39), [.r 12], none, [12]⟩⟩,
    ⟨4, 0, false, false, ⟨some 14, .mv, [.r 0], none, []⟩⟩,
    ⟨5, 0, false, false, ⟨some 15, .mv, [.r 4], none, []⟩⟩,
    ⟨6, 48, false, false, ⟨some 16, (.slice 1 true false false), [.r 14, .r 15], none, [14, 15]⟩⟩,
    ⟨7, 127, false, false, ⟨some 17, (.call 40), [.r 13, .r 16], none, [13, 16]⟩⟩,
    ⟨8, 255, false, false, ⟨some 18, (.un .not), [.r 17], none, [17]⟩⟩])
  (.cond (.r 18)
    (.kl [0, 4, 18] (.seq (.reg [⟨some 2, .mv, [.c .nils], none, []⟩,
      ⟨some 3, .mv, [.c (.int .i64 3)], none, []⟩])
    .ret))
    (.kl [18] .skip)))
  (.seq (.reg [⟨some 19, .mv, [.r 0], none, [0]⟩,
    ⟨some 20, .mv, [.r 4], none, [4]⟩,
    ⟨some 21, (.slice 1 false true false), [.r 19, .r 20], none, [19, 20]⟩,
    ⟨some 22, (.call 41), [.r 21], none, [21]⟩,
    ⟨some 2, .mv, [.r 22], none, [22]⟩,
    ⟨some 3, .mv, [.c (.int .i64 0)], none, []⟩])
  .ret)))))
def rs33 : List SR := [.tmp 2, .tmp 3]
theorem k33 : okC Try.prog 23 (Try.f33.body.getD .skip) c33 = true := by kernel_rfl
theorem acall33 {args : List AV} (hn : args.length ≤ 23) {H : Heap} {v : AV} {H' : Heap} (h : ac Try.prog c33 (argEnv 0 args) H (Fin H rs33 v H')) : ACall Try.prog 33 args H v H' :=
  acall Try.func33 (c := Try.f33.body.getD .skip) rfl k33 (by kernel_rfl) hn h
theorem acallK33 {args : List AV} (hn : args.length ≤ 23) {H : Heap} {v : AV} {H' : Heap} (h : ac Try.prog c33 (argEnv 0 args) H (FinK rs33 v H')) : ACall Try.prog 33 args H v H' :=
  acallK Try.func33 (c := Try.f33.body.getD .skip) rfl k33 (by kernel_rfl) hn h

/- slices.Chunk[[]byte,byte] -/
def c34 : SC :=
  (.seq (.reg [⟨some 2, .box, [.r 0], none, [0]⟩,
    ⟨some 3, .box, [.r 1], none, [1]⟩,
    ⟨some 4, .mv, [.c .nilf], none, []⟩])
  (.seq (.seq (.reg [⟨some 5, .ld1, [.r 3], none, [4]⟩,
    ⟨some 6, (.bin .lss), [.r 5, .c (.int .i64 1)], none, [5]⟩])
  (.cond (.r 6)
    (.kl [6] (.reg [⟨some 7, .dead, [], none, []⟩,
      ⟨none, .dead, [], none, [7]⟩]))
    (.kl [6] .skip)))
  (.seq (.reg [⟨some 8, (.mkfn (.func 42) 0), [.r 2, .r 3], none, [2, 3]⟩,
    ⟨some 4, .mv, [.r 8], none, [8]⟩])
  .ret)))
def rs34 : List SR := [.tmp 4]
theorem k34 : okC Try.prog 9 (Try.f34.body.getD .skip) c34 = true := by kernel_rfl
theorem acall34 {args : List AV} (hn : args.length ≤ 9) {H : Heap} {v : AV} {H' : Heap} (h : ac Try.prog c34 (argEnv 0 args) H (Fin H rs34 v H')) : ACall Try.prog 34 args H v H' :=
  acall Try.func34 (c := Try.f34.body.getD .skip) rfl k34 (by kernel_rfl) hn h
theorem acallK34 {args : List AV} (hn : args.length ≤ 9) {H : Heap} {v : AV} {H' : Heap} (h : ac Try.prog c34 (argEnv 0 args) H (FinK rs34 v H')) : ACall Try.prog 34 args H v H' :=
  acallK Try.func34 (c := Try.f34.body.getD .skip) rfl k34 (by kernel_rfl) hn h

/- alidade/frame.number -/
def c35l0 : SC :=
  (.seq (.reg [⟨some 9, (.bin .lss), [.r 8, .r 7], none, []⟩])
    (.seq (.cond (.r 9)
      (.kl [9] .skip)
      (.kl [6, 7, 8, 9] (.exit 0)))
    (.seq (.block 1 (.seq (.reg [⟨some 10, (.iaddrS 1), [.r 6, .r 8], none, []⟩,
      ⟨some 11, .ld1, [.r 10], none, [10]⟩,
      ⟨some 5, .mv, [.r 11], none, [11]⟩])
    (.reg [⟨some 12, .mv, [.r 3], none, [3]⟩,
      ⟨some 13, (.bin .shl), [.r 12, .c (.int .u64 8)], none, [12]⟩,
      ⟨some 14, .mv, [.r 5], none, [5]⟩,
      ⟨some 15, (.conv .u64), [.r 14], none, [14]⟩,
      ⟨some 16, (.bin .or), [.r 13, .r 15], none, [13, 15]⟩,
      ⟨some 3, .mv, [.r 16], none, [16]⟩])))
    (.reg [⟨some 17, (.bin .add), [.r 8, .c (.int .i64 1)], none, [8]⟩,
      ⟨some 8, .mv, [.r 17], none, [17]⟩]))))
def c35 : SC :=
  (.seq (.reg [⟨some 2, .mv, [.c (.int .i64 0)], none, []⟩])
  (.seq (.reg [⟨some 3, .mv, [.c (.int .u64 0)], none, [2]⟩])
  (.seq (.seq (.reg [⟨some 6, .mv, [.r 0], none, [0]⟩,
    ⟨some 7, .len, [.r 6], none, []⟩,
    ⟨some 8, .mv, [.c (.int .i64 0)], none, []⟩])
  (.block 0 (.loop c35l0)))
  (.seq (.reg [⟨some 18, .mv, [.r 3], none, [3]⟩,
    ⟨some 19, (.conv .i64), [.r 18], none, [18]⟩,
    ⟨some 2, .mv, [.r 19], none, [19]⟩])
  .ret))))
def rs35 : List SR := [.tmp 2]
theorem k35 : okC Try.prog 20 (Try.f35.body.getD .skip) c35 = true := by kernel_rfl
theorem acall35 {args : List AV} (hn : args.length ≤ 20) {H : Heap} {v : AV} {H' : Heap} (h : ac Try.prog c35 (argEnv 0 args) H (Fin H rs35 v H')) : ACall Try.prog 35 args H v H' :=
  acall Try.func35 (c := Try.f35.body.getD .skip) rfl k35 (by kernel_rfl) hn h
theorem acallK35 {args : List AV} (hn : args.length ≤ 20) {H : Heap} {v : AV} {H' : Heap} (h : ac Try.prog c35 (argEnv 0 args) H (FinK rs35 v H')) : ACall Try.prog 35 args H v H' :=
  acallK Try.func35 (c := Try.f35.body.getD .skip) rfl k35 (by kernel_rfl) hn h

/- alidade/alidaderef07.Seal -/
def c36l0 : SC :=
  (.seq (.seq (.reg [⟨some 11, .mv, [.r 5], none, []⟩,
      ⟨some 12, (.bin .lss), [.r 11, .c (.int .i64 4)], none, [11]⟩])
    (.cond (.r 12)
      (.kl [12] .skip)
      (.kl [4, 5, 12] (.exit 0))))
    (.seq (.block 1 (.seq (.reg [⟨some 15, .mv, [.r 3], none, [3]⟩,
      ⟨some 16, .mv, [.r 4], none, []⟩,
      ⟨some 17, (.bin .rem), [.r 16, .c (.int .u32 256)], none, [16]⟩,
      ⟨some 18, (.conv .u8), [.r 17], none, [17]⟩,
      ⟨some 19, (.bslice 1 1 [(.int .u8 0)] [(0, 1)]), [.r 18], none, [18]⟩,
      ⟨some 20, (.app 1 1), [.r 15, .r 19], none, [15, 19]⟩,
      ⟨some 3, .mv, [.r 20], none, [20]⟩])
    (.reg [⟨some 21, .mv, [.r 4], none, [4]⟩,
      ⟨some 22, (.bin .quo), [.r 21, .c (.int .u32 256)], none, [21]⟩,
      ⟨some 4, .mv, [.r 22], none, [22]⟩])))
    (.reg [⟨some 13, .mv, [.r 5], none, [5]⟩,
      ⟨some 14, (.bin .add), [.r 13, .c (.int .i64 1)], none, [13]⟩,
      ⟨some 5, .mv, [.r 14], none, [14]⟩])))
def c36 : SC :=
  (.seq (.reg [⟨some 2, .mv, [.c .nils], none, []⟩])
  (.seq (.reg [⟨some 6, (.bslice 1 0 [] []), [], none, [2]⟩,
    ⟨some 7, .mv, [.r 0], none, []⟩,
    ⟨some 8, (.app 1 1), [.r 6, .r 7], none, [6, 7]⟩,
    ⟨some 3, .mv, [.r 8], none, [8]⟩])
  (.seq (.reg [⟨some 9, .mv, [.r 0], none, [0]⟩,
    ⟨some 10, (.call 43), [.r 9], none, [9]⟩,
    ⟨some 4, .mv, [.r 10], none, [10]⟩])
  (.seq (.seq (.reg [⟨some 5, .mv, [.c (.int .i64 0)], none, []⟩])
  (.block 0 (.loop c36l0)))
  (.seq (.reg [⟨some 23, .mv, [.r 3], none, [3]⟩,
    ⟨some 2, .mv, [.r 23], none, [23]⟩])
  .ret)))))
def rs36 : List SR := [.tmp 2]
theorem k36 : okC Try.prog 24 (Try.f36.body.getD .skip) c36 = true := by kernel_rfl
theorem acall36 {args : List AV} (hn : args.length ≤ 24) {H : Heap} {v : AV} {H' : Heap} (h : ac Try.prog c36 (argEnv 0 args) H (Fin H rs36 v H')) : ACall Try.prog 36 args H v H' :=
  acall Try.func36 (c := Try.f36.body.getD .skip) rfl k36 (by kernel_rfl) hn h
theorem acallK36 {args : List AV} (hn : args.length ≤ 24) {H : Heap} {v : AV} {H' : Heap} (h : ac Try.prog c36 (argEnv 0 args) H (FinK rs36 v H')) : ACall Try.prog 36 args H v H' :=
  acallK Try.func36 (c := Try.f36.body.getD .skip) rfl k36 (by kernel_rfl) hn h

/- alidade/alidaderef07.Open -/
def c37 : SC :=
  (.seq (.reg [⟨some 2, .mv, [.c .nils], none, []⟩,
    ⟨some 3, .mv, [.c (.int .i64 0)], none, [2]⟩])
  (.seq (.seq (.reg [⟨some 6, .mv, [.r 0], none, [3]⟩,
    ⟨some 7, .len, [.r 6], none, [6]⟩,
    ⟨some 8, (.bin .lss), [.r 7, .c (.int .i64 4)], none, [7]⟩])
  (.cond (.r 8)
    (.kl [0, 8] (.seq (.reg [⟨some 2, .mv, [.c .nils], none, []⟩,
      ⟨some 3, .mv, [.c (.int .i64 4)], none, []⟩])
    .ret))
    (.kl [8] .skip)))
  (.seq (.reg [⟨some 9, (.bslice 1 0 [] []), [], none, []⟩,
    ⟨some 10, .mv, [.r 0], none, []⟩,
    ⟨some 11, .mv, [.r 0], none, []⟩,
    ⟨some 12, .len, [.r 11], none, [11]⟩,
    ⟨some 13, (.bin .sub), [.r 12, .c (.int .i64 4)], none, [12]⟩,
    ⟨some 14, (.slice 1 false true false), [.r 10, .r 13], none, [10, 13]⟩,
    ⟨some 15, (.app 1 1), [.r 9, .r 14], none, [9, 14]⟩,
    ⟨some 4, .mv, [.r 15], none, [15]⟩])
  (.seq (.reg [⟨some 16, .mv, [.r 4], none, []⟩,
    ⟨some 17, (.call 36), [.r 16], none, [16]⟩,
    ⟨some 18, .mv, [.r 0], none, [0]⟩,
    ⟨some 19, (.call 24), [.r 17, .r 18], none, [17, 18]⟩,
    ⟨some 5, .mv, [.r 19], none, [19]⟩])
  (.seq (.seq (.reg [⟨some 20, .mv, [.r 5], none, [5]⟩,
    ⟨some 21, (.un .not), [.r 20], none, [20]⟩])
  (.cond (.r 21)
    (.kl [4, 21] (.seq (.reg [⟨some 2, .mv, [.c .nils], none, []⟩,
      ⟨some 3, .mv, [.c (.int .i64 3)], none, []⟩])
    .ret))
    (.kl [21] .skip)))
  (.seq (.reg [⟨some 22, .mv, [.r 4], none, [4]⟩,
    ⟨some 2, .mv, [.r 22], none, [22]⟩,
    ⟨some 3, .mv, [.c (.int .i64 0)], none, []⟩])
  .ret))))))
def rs37 : List SR := [.tmp 2, .tmp 3]
theorem k37 : okC Try.prog 23 (Try.f37.body.getD .skip) c37 = true := by kernel_rfl
theorem acall37 {args : List AV} (hn : args.length ≤ 23) {H : Heap} {v : AV} {H' : Heap} (h : ac Try.prog c37 (argEnv 0 args) H (Fin H rs37 v H')) : ACall Try.prog 37 args H v H' :=
  acall Try.func37 (c := Try.f37.body.getD .skip) rfl k37 (by kernel_rfl) hn h
theorem acallK37 {args : List AV} (hn : args.length ≤ 23) {H : Heap} {v : AV} {H' : Heap} (h : ac Try.prog c37 (argEnv 0 args) H (FinK rs37 v H')) : ACall Try.prog 37 args H v H' :=
  acallK Try.func37 (c := Try.f37.body.getD .skip) rfl k37 (by kernel_rfl) hn h

/- slices.Concat[[]byte,byte] -/
def c38l0 : SC :=
  (.seq (.reg [⟨some 28, (.bin .lss), [.r 27, .r 26], none, []⟩])
    (.seq (.cond (.r 28)
      (.kl [28] .skip)
      (.kl [25, 26, 27, 28] (.exit 2)))
    (.seq (.block 3 (.seq (.reg [⟨some 29, (.iaddrS 1), [.r 25, .r 27], none, []⟩,
      ⟨some 30, .ld1, [.r 29], none, [29]⟩,
      ⟨some 8, .mv, [.r 30], none, [30]⟩])
    (.reg [⟨some 31, .mv, [.r 6], none, [6]⟩,
      ⟨some 32, .mv, [.r 8], none, [8]⟩,
      ⟨some 33, (.app 1 1), [.r 31, .r 32], none, [31, 32]⟩,
      ⟨some 6, .mv, [.r 33], none, [33]⟩])))
    (.reg [⟨some 34, (.bin .add), [.r 27, .c (.int .i64 1)], none, [27]⟩,
      ⟨some 27, .mv, [.r 34], none, [34]⟩]))))
def c38l1 : SC :=
  (.seq (.reg [⟨some 12, (.bin .lss), [.r 11, .r 10], none, []⟩])
    (.seq (.cond (.r 12)
      (.kl [12] .skip)
      (.kl [9, 10, 11, 12] (.exit 0)))
    (.seq (.block 1 (.seq (.reg [⟨some 13, (.iaddrS 1), [.r 9, .r 11], none, []⟩,
      ⟨some 14, .ld1, [.r 13], none, [13]⟩,
      ⟨some 5, .mv, [.r 14], none, [14]⟩])
    (.seq (.reg [⟨some 15, .mv, [.r 3], none, [3]⟩,
      ⟨some 16, .mv, [.r 5], none, [5]⟩,
      ⟨some 17, .len, [.r 16], none, [16]⟩,
      ⟨some 18, (.bin .add), [.r 15, .r 17], none, [15, 17]⟩,
      ⟨some 3, .mv, [.r 18], none, [18]⟩])
    (.seq (.reg [⟨some 19, .mv, [.r 3], none, []⟩,
      ⟨some 20, (.bin .lss), [.r 19, .c (.int .i64 0)], none, [19]⟩])
    (.cond (.r 20)
      (.kl [20] (.reg [⟨some 21, .dead, [], none, []⟩,
        ⟨none, .dead, [], none, [21]⟩]))
      (.kl [20] .skip))))))
    (.reg [⟨some 22, (.bin .add), [.r 11, .c (.int .i64 1)], none, [11]⟩,
      ⟨some 11, .mv, [.r 22], none, [22]⟩]))))
def c38 : SC :=
  (.seq (.reg [⟨some 2, .mv, [.c .nils], none, []⟩])
  (.seq (.reg [⟨some 3, .mv, [.c (.int .i64 0)], none, [2]⟩])
  (.seq (.seq (.reg [⟨some 9, .mv, [.r 0], none, []⟩,
    ⟨some 10, .len, [.r 9], none, []⟩,
    ⟨some 11, .mv, [.c (.int .i64 0)], none, []⟩])
  (.block 0 (.loop c38l1)))
  (.seq (.reg [⟨some 23, .mv, [.r 3], none, [3]⟩,
    ⟨some 24, (.call 44), [.c .nils, .r 23], none, [23]⟩,
    ⟨some 6, .mv, [.r 24], none, [24]⟩])
  (.seq (.seq (.reg [⟨some 25, .mv, [.r 0], none, [0]⟩,
    ⟨some 26, .len, [.r 25], none, []⟩,
    ⟨some 27, .mv, [.c (.int .i64 0)], none, []⟩])
  (.block 2 (.loop c38l0)))
  (.seq (.reg [⟨some 35, .mv, [.r 6], none, [6]⟩,
    ⟨some 2, .mv, [.r 35], none, [35]⟩])
  .ret))))))
def rs38 : List SR := [.tmp 2]
theorem k38 : okC Try.prog 36 (Try.f38.body.getD .skip) c38 = true := by kernel_rfl
theorem acall38 {args : List AV} (hn : args.length ≤ 36) {H : Heap} {v : AV} {H' : Heap} (h : ac Try.prog c38 (argEnv 0 args) H (Fin H rs38 v H')) : ACall Try.prog 38 args H v H' :=
  acall Try.func38 (c := Try.f38.body.getD .skip) rfl k38 (by kernel_rfl) hn h
theorem acallK38 {args : List AV} (hn : args.length ≤ 36) {H : Heap} {v : AV} {H' : Heap} (h : ac Try.prog c38 (argEnv 0 args) H (FinK rs38 v H')) : ACall Try.prog 38 args H v H' :=
  acallK Try.func38 (c := Try.f38.body.getD .skip) rfl k38 (by kernel_rfl) hn h

/- alidade/sum.tail -/
def c39l0 : SC :=
  (.seq (.reg [⟨some 10, (.bin .lss), [.r 9, .c (.int .i64 4)], none, []⟩])
    (.seq (.cond (.r 10)
      (.kl [10] .skip)
      (.kl [3, 9, 10] (.exit 0)))
    (.seq (.block 1 (.seq (.reg [⟨some 11, .mv, [.r 9], none, []⟩,
      ⟨some 5, .mv, [.r 11], none, [11]⟩])
    (.reg [⟨some 12, .mv, [.r 4], none, []⟩,
      ⟨some 13, .mv, [.r 5], none, []⟩,
      ⟨some 14, .mv, [.r 3], none, []⟩,
      ⟨some 15, .mv, [.r 5], none, [5]⟩,
      ⟨some 16, (.bin .mul), [.c (.int .i64 8), .r 15], none, [15]⟩,
      ⟨some 17, (.bin .shr), [.r 14, .r 16], none, [14, 16]⟩,
      ⟨some 18, (.conv .u8), [.r 17], none, [17]⟩,
      ⟨some 19, (.iaddrS 1), [.r 12, .r 13], none, [12, 13]⟩,
      ⟨none, (.st 1), [.r 19, .r 18], none, [18, 19]⟩])))
    (.reg [⟨some 20, (.bin .add), [.r 9, .c (.int .i64 1)], none, [9]⟩,
      ⟨some 9, .mv, [.r 20], none, [20]⟩]))))
def c39 : SC :=
  (.seq (.reg [⟨some 2, .mv, [.c .nils], none, []⟩])
  (.seq (.reg [⟨some 6, .mv, [.r 0], none, [0, 2]⟩,
    ⟨some 7, (.call 45), [.r 6], none, [6]⟩,
    ⟨some 3, .mv, [.r 7], none, [7]⟩])
  (.seq (.reg [⟨some 8, (.mksl 1 1 [(.int .u8 0)]), [.c (.int .i64 4), .c (.int .i64 4)], none, []⟩,
    ⟨some 4, .mv, [.r 8], none, [8]⟩])
  (.seq (.seq (.reg [⟨some 9, .mv, [.c (.int .i64 0)], none, []⟩])
  (.block 0 (.loop c39l0)))
  (.seq (.reg [⟨some 21, .mv, [.r 4], none, [4]⟩,
    ⟨some 2, .mv, [.r 21], none, [21]⟩])
  .ret)))))
def rs39 : List SR := [.tmp 2]
theorem k39 : okC Try.prog 22 (Try.f39.body.getD .skip) c39 = true := by kernel_rfl
theorem acall39 {args : List AV} (hn : args.length ≤ 22) {H : Heap} {v : AV} {H' : Heap} (h : ac Try.prog c39 (argEnv 0 args) H (Fin H rs39 v H')) : ACall Try.prog 39 args H v H' :=
  acall Try.func39 (c := Try.f39.body.getD .skip) rfl k39 (by kernel_rfl) hn h
theorem acallK39 {args : List AV} (hn : args.length ≤ 22) {H : Heap} {v : AV} {H' : Heap} (h : ac Try.prog c39 (argEnv 0 args) H (FinK rs39 v H')) : ACall Try.prog 39 args H v H' :=
  acallK Try.func39 (c := Try.f39.body.getD .skip) rfl k39 (by kernel_rfl) hn h

/- bytes.Equal -/
def c40 : SC :=
  (.seq (.reg [⟨some 4, .mv, [.c (.bool false)], none, []⟩])
  (.seq (.reg [⟨some 5, .mv, [.r 0], none, [0, 4]⟩,
    ⟨some 6, .strOf, [.r 5], none, [5]⟩,
    ⟨some 7, .mv, [.r 1], none, [1]⟩,
    ⟨some 8, .strOf, [.r 7], none, [7]⟩,
    ⟨some 9, (.eqs false), [.r 6, .r 8], none, [6, 8]⟩,
    ⟨some 4, .mv, [.r 9], none, [9]⟩])
  .ret))
def rs40 : List SR := [.tmp 4]
theorem k40 : okC Try.prog 10 (Try.f40.body.getD .skip) c40 = true := by kernel_rfl
theorem acall40 {args : List AV} (hn : args.length ≤ 10) {H : Heap} {v : AV} {H' : Heap} (h : ac Try.prog c40 (argEnv 0 args) H (Fin H rs40 v H')) : ACall Try.prog 40 args H v H' :=
  acall Try.func40 (c := Try.f40.body.getD .skip) rfl k40 (by kernel_rfl) hn h
theorem acallK40 {args : List AV} (hn : args.length ≤ 10) {H : Heap} {v : AV} {H' : Heap} (h : ac Try.prog c40 (argEnv 0 args) H (FinK rs40 v H')) : ACall Try.prog 40 args H v H' :=
  acallK Try.func40 (c := Try.f40.body.getD .skip) rfl k40 (by kernel_rfl) hn h

/- slices.Clone[[]byte,byte] -/
def c41 : SC :=
  (.seq (.reg [⟨some 2, .mv, [.c .nils], none, []⟩])
  (.seq (.seq (.reg [⟨some 3, .mv, [.r 0], none, [2]⟩,
    ⟨some 4, (.eqnil false), [.r 3], none, [3]⟩])
  (.cond (.r 4)
    (.kl [0, 4] (.seq (.reg [⟨some 2, .mv, [.c .nils], none, []⟩])
    .ret))
    (.kl [4] .skip)))
  (.seq (.reg [⟨some 5, (.bslice 1 0 [] []), [], none, []⟩,
    ⟨some 6, .mv, [.r 0], none, [0]⟩,
    ⟨some 7, (.app 1 1), [.r 5, .r 6], none, [5, 6]⟩,
    ⟨some 2, .mv, [.r 7], none, [7]⟩])
  .ret)))
def rs41 : List SR := [.tmp 2]
theorem k41 : okC Try.prog 8 (Try.f41.body.getD .skip) c41 = true := by kernel_rfl
theorem acall41 {args : List AV} (hn : args.length ≤ 8) {H : Heap} {v : AV} {H' : Heap} (h : ac Try.prog c41 (argEnv 0 args) H (Fin H rs41 v H')) : ACall Try.prog 41 args H v H' :=
  acall Try.func41 (c := Try.f41.body.getD .skip) rfl k41 (by kernel_rfl) hn h
theorem acallK41 {args : List AV} (hn : args.length ≤ 8) {H : Heap} {v : AV} {H' : Heap} (h : ac Try.prog c41 (argEnv 0 args) H (FinK rs41 v H')) : ACall Try.prog 41 args H v H' :=
  acallK Try.func41 (c := Try.f41.body.getD .skip) rfl k41 (by kernel_rfl) hn h

/- slices.Chunk[[]byte,byte]$1 -/
def c42l0 : SC :=
  (.seq (.seq (.reg [⟨some 6, .mv, [.r 4], none, []⟩,
      ⟨some 7, .ld1, [.r 1], none, []⟩,
      ⟨some 8, .len, [.r 7], none, [7]⟩,
      ⟨some 9, (.bin .lss), [.r 6, .r 8], none, [6, 8]⟩])
    (.cond (.r 9)
      (.kl [9] .skip)
      (.kl [0, 1, 2, 4, 9] (.exit 0))))
    (.seq (.block 1 (.seq (.dreg [⟨0, 0, false, false, ⟨some 13, .ld1, [.r 2], none, []⟩⟩,
      ⟨1, 0, false, false, ⟨some 14, .ld1, [.r 1], none, []⟩⟩,
      ⟨2, 0, false, false, ⟨some 15, .mv, [.r 4], none, []⟩⟩,
      ⟨3, 6, false, false, ⟨some 16, (.slice 1 true false false), [.r 14, .r 15], none, [14, 15]⟩⟩,
      ⟨4, 14, false, false, ⟨some 17, .len, [.r 16], none, [16]⟩⟩,
      ⟨5, 31, false, false, ⟨some 18, .mn, [.r 13, .r 17], none, [13, 17]⟩⟩,
      ⟨6, 63, false, false, ⟨some 5, .mv, [.r 18], none, [18]⟩⟩])
    (.seq (.reg [⟨some 19, .mv, [.r 0], none, []⟩,
      ⟨some 20, .ld1, [.r 1], none, []⟩,
      ⟨some 21, .mv, [.r 4], none, []⟩,
      ⟨some 22, .mv, [.r 4], none, []⟩,
      ⟨some 23, .mv, [.r 5], none, []⟩,
      ⟨some 24, (.bin .add), [.r 22, .r 23], none, [22, 23]⟩,
      ⟨some 25, .mv, [.r 4], none, []⟩,
      ⟨some 26, .mv, [.r 5], none, [5]⟩,
      ⟨some 27, (.bin .add), [.r 25, .r 26], none, [25, 26]⟩,
      ⟨some 28, (.slice 1 true true true), [.r 20, .r 21, .r 24, .r 27], none, [20, 21, 24, 27]⟩,
      ⟨some 29, .callv, [.r 19, .r 28], none, [19, 28]⟩,
      ⟨some 30, (.un .not), [.r 29], none, [29]⟩])
    (.cond (.r 30)
      (.kl [0, 1, 2, 4, 30] .ret)
      (.kl [30] .skip)))))
    (.reg [⟨some 10, .mv, [.r 4], none, [4]⟩,
      ⟨some 11, .ld1, [.r 2], none, []⟩,
      ⟨some 12, (.bin .add), [.r 10, .r 11], none, [10, 11]⟩,
      ⟨some 4, .mv, [.r 12], none, [12]⟩])))
def c42 : SC :=
  (.seq (.reg [⟨some 4, .mv, [.c (.int .i64 0)], none, []⟩])
  (.block 0 (.loop c42l0)))
def rs42 : List SR := []
theorem k42 : okC Try.prog 31 (Try.f42.body.getD .skip) c42 = true := by kernel_rfl
theorem acall42 {args : List AV} (hn : args.length ≤ 31) {H : Heap} {v : AV} {H' : Heap} (h : ac Try.prog c42 (argEnv 0 args) H (Fin H rs42 v H')) : ACall Try.prog 42 args H v H' :=
  acall Try.func42 (c := Try.f42.body.getD .skip) rfl k42 (by kernel_rfl) hn h
theorem acallK42 {args : List AV} (hn : args.length ≤ 31) {H : Heap} {v : AV} {H' : Heap} (h : ac Try.prog c42 (argEnv 0 args) H (FinK rs42 v H')) : ACall Try.prog 42 args H v H' :=
  acallK Try.func42 (c := Try.f42.body.getD .skip) rfl k42 (by kernel_rfl) hn h

/- alidade/alidaderef07.Of -/
def c43 : SC :=
  (.seq (.reg [⟨some 2, .mv, [.c (.int .u32 0)], none, []⟩])
  (.seq (.reg [⟨some 3, .mv, [.r 0], none, [0, 2]⟩,
    ⟨some 4, (.call 46), [.c (.int .u32 4294967295), .r 3], none, [3]⟩,
    ⟨some 5, (.bin .sub), [.c (.int .u32 4294967295), .r 4], none, [4]⟩,
    ⟨some 2, .mv, [.r 5], none, [5]⟩])
  .ret))
def rs43 : List SR := [.tmp 2]
theorem k43 : okC Try.prog 6 (Try.f43.body.getD .skip) c43 = true := by kernel_rfl
theorem acall43 {args : List AV} (hn : args.length ≤ 6) {H : Heap} {v : AV} {H' : Heap} (h : ac Try.prog c43 (argEnv 0 args) H (Fin H rs43 v H')) : ACall Try.prog 43 args H v H' :=
  acall Try.func43 (c := Try.f43.body.getD .skip) rfl k43 (by kernel_rfl) hn h
theorem acallK43 {args : List AV} (hn : args.length ≤ 6) {H : Heap} {v : AV} {H' : Heap} (h : ac Try.prog c43 (argEnv 0 args) H (FinK rs43 v H')) : ACall Try.prog 43 args H v H' :=
  acallK Try.func43 (c := Try.f43.body.getD .skip) rfl k43 (by kernel_rfl) hn h

/- slices.Grow[[]byte,byte] -/
def c44 : SC :=
  (.seq (.reg [⟨some 4, .mv, [.c .nils], none, []⟩])
  (.seq (.seq (.reg [⟨some 5, .mv, [.r 1], none, [4]⟩,
    ⟨some 6, (.bin .lss), [.r 5, .c (.int .i64 0)], none, [5]⟩])
  (.cond (.r 6)
    (.kl [6] (.reg [⟨some 7, .dead, [], none, []⟩,
      ⟨none, .dead, [], none, [7]⟩]))
    (.kl [6] .skip)))
  (.seq (.seq (.reg [⟨some 8, .mv, [.r 1], none, [1]⟩,
    ⟨some 9, .mv, [.r 0], none, []⟩,
    ⟨some 10, .cap, [.r 9], none, [9]⟩,
    ⟨some 11, .mv, [.r 0], none, []⟩,
    ⟨some 12, .len, [.r 11], none, [11]⟩,
    ⟨some 13, (.bin .sub), [.r 10, .r 12], none, [10, 12]⟩,
    ⟨some 14, (.bin .sub), [.r 8, .r 13], none, [8, 13]⟩,
    ⟨some 1, .mv, [.r 14], none, [14]⟩])
  (.seq (.reg [⟨some 15, .mv, [.r 1], none, []⟩,
    ⟨some 16, (.bin .gtr), [.r 15, .c (.int .i64 0)], none, [15]⟩])
  (.cond (.r 16)
    (.kl [16] (.reg [⟨some 17, .mv, [.r 0], none, []⟩,
      ⟨some 18, .mv, [.r 0], none, []⟩,
      ⟨some 19, .cap, [.r 18], none, [18]⟩,
      ⟨some 20, (.slice 1 false true false), [.r 17, .r 19], none, [17, 19]⟩,
      ⟨some 21, .mv, [.r 1], none, [1]⟩,
      ⟨some 22, (.appZ 1 1 [(.int .u8 0)]), [.r 20, .r 21], none, [20, 21]⟩,
      ⟨some 23, .mv, [.r 0], none, [0]⟩,
      ⟨some 24, .len, [.r 23], none, [23]⟩,
      ⟨some 25, (.slice 1 false true false), [.r 22, .r 24], none, [22, 24]⟩,
      ⟨some 0, .mv, [.r 25], none, [25]⟩]))
    (.kl [1, 16] .skip))))
  (.seq (.reg [⟨some 26, .mv, [.r 0], none, [0]⟩,
    ⟨some 4, .mv, [.r 26], none, [26]⟩])
  .ret))))
def rs44 : List SR := [.tmp 4]
theorem k44 : okC Try.prog 27 (Try.f44.body.getD .skip) c44 = true := by kernel_rfl
theorem acall44 {args : List AV} (hn : args.length ≤ 27) {H : Heap} {v : AV} {H' : Heap} (h : ac Try.prog c44 (argEnv 0 args) H (Fin H rs44 v H')) : ACall Try.prog 44 args H v H' :=
  acall Try.func44 (c := Try.f44.body.getD .skip) rfl k44 (by kernel_rfl) hn h
theorem acallK44 {args : List AV} (hn : args.length ≤ 27) {H : Heap} {v : AV} {H' : Heap} (h : ac Try.prog c44 (argEnv 0 args) H (FinK rs44 v H')) : ACall Try.prog 44 args H v H' :=
  acallK Try.func44 (c := Try.f44.body.getD .skip) rfl k44 (by kernel_rfl) hn h

/- alidade/sum.Of -/
def c45 : SC :=
  (.seq (.reg [⟨some 2, .mv, [.c (.int .u32 0)], none, []⟩])
  (.seq (.reg [⟨some 3, .mv, [.r 0], none, [0, 2]⟩,
    ⟨some 4, (.call 47), [.c (.int .u32 4294967295), .r 3], none, [3]⟩,
    ⟨some 5, (.un .xor), [.r 4], none, [4]⟩,
    ⟨some 2, .mv, [.r 5], none, [5]⟩])
  .ret))
def rs45 : List SR := [.tmp 2]
theorem k45 : okC Try.prog 6 (Try.f45.body.getD .skip) c45 = true := by kernel_rfl
theorem acall45 {args : List AV} (hn : args.length ≤ 6) {H : Heap} {v : AV} {H' : Heap} (h : ac Try.prog c45 (argEnv 0 args) H (Fin H rs45 v H')) : ACall Try.prog 45 args H v H' :=
  acall Try.func45 (c := Try.f45.body.getD .skip) rfl k45 (by kernel_rfl) hn h
theorem acallK45 {args : List AV} (hn : args.length ≤ 6) {H : Heap} {v : AV} {H' : Heap} (h : ac Try.prog c45 (argEnv 0 args) H (FinK rs45 v H')) : ACall Try.prog 45 args H v H' :=
  acallK Try.func45 (c := Try.f45.body.getD .skip) rfl k45 (by kernel_rfl) hn h

/- alidade/alidaderef07.More -/
def c46l0 : SC :=
  (.seq (.seq (.reg [⟨some 22, .mv, [.r 7], none, []⟩,
        ⟨some 23, (.bin .lss), [.r 22, .c (.int .i64 8)], none, [22]⟩])
      (.cond (.r 23)
        (.kl [23] .skip)
        (.kl [7, 23] (.exit 2))))
      (.seq (.block 3 (.reg [⟨some 26, .mv, [.r 6], none, [6]⟩,
        ⟨some 27, (.call 48), [.r 26], none, [26]⟩,
        ⟨some 6, .mv, [.r 27], none, [27]⟩]))
      (.reg [⟨some 24, .mv, [.r 7], none, [7]⟩,
        ⟨some 25, (.bin .add), [.r 24, .c (.int .i64 1)], none, [24]⟩,
        ⟨some 7, .mv, [.r 25], none, [25]⟩])))
def c46l1 : SC :=
  (.seq (.seq (.reg [⟨some 8, .mv, [.r 5], none, []⟩,
      ⟨some 9, .mv, [.r 1], none, []⟩,
      ⟨some 10, .len, [.r 9], none, [9]⟩,
      ⟨some 11, (.bin .lss), [.r 8, .r 10], none, [8, 10]⟩])
    (.cond (.r 11)
      (.kl [11] .skip)
      (.kl [1, 5, 11] (.exit 0))))
    (.seq (.block 1 (.seq (.reg [⟨some 14, .mv, [.r 0], none, []⟩,
      ⟨some 15, (.bin .rem), [.r 14, .c (.int .u32 256)], none, [14]⟩,
      ⟨some 16, .mv, [.r 1], none, []⟩,
      ⟨some 17, .mv, [.r 5], none, []⟩,
      ⟨some 18, (.iaddrS 1), [.r 16, .r 17], none, [16, 17]⟩,
      ⟨some 19, .ld1, [.r 18], none, [18]⟩,
      ⟨some 20, (.conv .u32), [.r 19], none, [19]⟩,
      ⟨some 21, (.bin .xor), [.r 15, .r 20], none, [15, 20]⟩,
      ⟨some 6, .mv, [.r 21], none, [21]⟩])
    (.seq (.seq (.reg [⟨some 7, .mv, [.c (.int .i64 0)], none, []⟩])
    (.block 2 (.loop c46l0)))
    (.reg [⟨some 28, .mv, [.r 0], none, [0]⟩,
      ⟨some 29, (.bin .quo), [.r 28, .c (.int .u32 256)], none, [28]⟩,
      ⟨some 30, .mv, [.r 6], none, [6]⟩,
      ⟨some 31, (.bin .xor), [.r 29, .r 30], none, [29, 30]⟩,
      ⟨some 0, .mv, [.r 31], none, [31]⟩]))))
    (.reg [⟨some 12, .mv, [.r 5], none, [5]⟩,
      ⟨some 13, (.bin .add), [.r 12, .c (.int .i64 1)], none, [12]⟩,
      ⟨some 5, .mv, [.r 13], none, [13]⟩])))
def c46 : SC :=
  (.seq (.reg [⟨some 4, .mv, [.c (.int .u32 0)], none, []⟩])
  (.seq (.seq (.reg [⟨some 5, .mv, [.c (.int .i64 0)], none, [4]⟩])
  (.block 0 (.loop c46l1)))
  (.seq (.reg [⟨some 32, .mv, [.r 0], none, [0]⟩,
    ⟨some 4, .mv, [.r 32], none, [32]⟩])
  .ret)))
def rs46 : List SR := [.tmp 4]
theorem k46 : okC Try.prog 33 (Try.f46.body.getD .skip) c46 = true := by kernel_rfl
theorem acall46 {args : List AV} (hn : args.length ≤ 33) {H : Heap} {v : AV} {H' : Heap} (h : ac Try.prog c46 (argEnv 0 args) H (Fin H rs46 v H')) : ACall Try.prog 46 args H v H' :=
  acall Try.func46 (c := Try.f46.body.getD .skip) rfl k46 (by kernel_rfl) hn h
theorem acallK46 {args : List AV} (hn : args.length ≤ 33) {H : Heap} {v : AV} {H' : Heap} (h : ac Try.prog c46 (argEnv 0 args) H (FinK rs46 v H')) : ACall Try.prog 46 args H v H' :=
  acallK Try.func46 (c := Try.f46.body.getD .skip) rfl k46 (by kernel_rfl) hn h

/- alidade/sum.More -/
def c47l0 : SC :=
  (.seq (.reg [⟨some 12, (.bin .lss), [.r 11, .r 10], none, []⟩])
    (.seq (.cond (.r 12)
      (.kl [12] .skip)
      (.kl [5, 9, 10, 11, 12] (.exit 0)))
    (.seq (.block 1 (.seq (.reg [⟨some 13, (.iaddrS 1), [.r 9, .r 11], none, []⟩,
      ⟨some 14, .ld1, [.r 13], none, [13]⟩,
      ⟨some 7, .mv, [.r 14], none, [14]⟩])
    (.reg [⟨some 15, .mv, [.r 0], none, []⟩,
      ⟨some 16, (.bin .shr), [.r 15, .c (.int .u64 8)], none, [15]⟩,
      ⟨some 17, .mv, [.r 0], none, [0]⟩,
      ⟨some 18, (.conv .u8), [.r 17], none, [17]⟩,
      ⟨some 19, .mv, [.r 7], none, [7]⟩,
      ⟨some 20, (.bin .xor), [.r 18, .r 19], none, [18, 19]⟩,
      ⟨some 21, (.iaddrA 1 256), [.r 5, .r 20], none, [20]⟩,
      ⟨some 22, .ld1, [.r 21], none, [21]⟩,
      ⟨some 23, (.bin .xor), [.r 16, .r 22], none, [16, 22]⟩,
      ⟨some 0, .mv, [.r 23], none, [23]⟩])))
    (.reg [⟨some 24, (.bin .add), [.r 11, .c (.int .i64 1)], none, [11]⟩,
      ⟨some 11, .mv, [.r 24], none, [24]⟩]))))
def c47 : SC :=
  (.seq (.reg [⟨some 4, .mv, [.c (.int .u32 0)], none, []⟩])
  (.seq (.reg [⟨some 8, (.call 49), [], none, [4]⟩,
    ⟨some 5, (.alloc (List.replicate 256 (.int .u32 0))), [], none, []⟩,
    ⟨none, (.st 256), [.r 5, .r 8], none, [8]⟩])
  (.seq (.seq (.reg [⟨some 9, .mv, [.r 1], none, [1]⟩,
    ⟨some 10, .len, [.r 9], none, []⟩,
    ⟨some 11, .mv, [.c (.int .i64 0)], none, []⟩])
  (.block 0 (.loop c47l0)))
  (.seq (.reg [⟨some 25, .mv, [.r 0], none, [0]⟩,
    ⟨some 4, .mv, [.r 25], none, [25]⟩])
  .ret))))
def rs47 : List SR := [.tmp 4]
theorem k47 : okC Try.prog 26 (Try.f47.body.getD .skip) c47 = true := by kernel_rfl
theorem acall47 {args : List AV} (hn : args.length ≤ 26) {H : Heap} {v : AV} {H' : Heap} (h : ac Try.prog c47 (argEnv 0 args) H (Fin H rs47 v H')) : ACall Try.prog 47 args H v H' :=
  acall Try.func47 (c := Try.f47.body.getD .skip) rfl k47 (by kernel_rfl) hn h
theorem acallK47 {args : List AV} (hn : args.length ≤ 26) {H : Heap} {v : AV} {H' : Heap} (h : ac Try.prog c47 (argEnv 0 args) H (FinK rs47 v H')) : ACall Try.prog 47 args H v H' :=
  acallK Try.func47 (c := Try.f47.body.getD .skip) rfl k47 (by kernel_rfl) hn h

/- alidade/alidaderef07.on -/
def c48 : SC :=
  (.seq (.reg [⟨some 2, .mv, [.c (.int .u32 0)], none, []⟩])
  (.seq (.seq (.reg [⟨some 3, .mv, [.r 0], none, [2]⟩,
    ⟨some 4, (.bin .rem), [.r 3, .c (.int .u32 2)], none, [3]⟩,
    ⟨some 5, (.bin .eql), [.r 4, .c (.int .u32 1)], none, [4]⟩])
  (.cond (.r 5)
    (.kl [5] (.seq (.reg [⟨some 6, .mv, [.r 0], none, [0]⟩,
      ⟨some 7, (.bin .quo), [.r 6, .c (.int .u32 2)], none, [6]⟩,
      ⟨some 8, (.bin .xor), [.r 7, .c (.int .u32 3988292384)], none, [7]⟩,
      ⟨some 2, .mv, [.r 8], none, [8]⟩])
    .ret))
    (.kl [5] .skip)))
  (.seq (.reg [⟨some 9, .mv, [.r 0], none, [0]⟩,
    ⟨some 10, (.bin .quo), [.r 9, .c (.int .u32 2)], none, [9]⟩,
    ⟨some 2, .mv, [.r 10], none, [10]⟩])
  .ret)))
def rs48 : List SR := [.tmp 2]
theorem k48 : okC Try.prog 11 (Try.f48.body.getD .skip) c48 = true := by kernel_rfl
theorem acall48 {args : List AV} (hn : args.length ≤ 11) {H : Heap} {v : AV} {H' : Heap} (h : ac Try.prog c48 (argEnv 0 args) H (Fin H rs48 v H')) : ACall Try.prog 48 args H v H' :=
  acall Try.func48 (c := Try.f48.body.getD .skip) rfl k48 (by kernel_rfl) hn h
theorem acallK48 {args : List AV} (hn : args.length ≤ 11) {H : Heap} {v : AV} {H' : Heap} (h : ac Try.prog c48 (argEnv 0 args) H (FinK rs48 v H')) : ACall Try.prog 48 args H v H' :=
  acallK Try.func48 (c := Try.f48.body.getD .skip) rfl k48 (by kernel_rfl) hn h

/- alidade/sum.Table -/
def c49l0 : SC :=
  (.seq (.reg [⟨some 10, (.bin .lss), [.r 9, .c (.int .i64 8)], none, []⟩])
      (.seq (.cond (.r 10)
        (.kl [10] .skip)
        (.kl [9, 10] (.exit 2)))
      (.seq (.block 3 (.seq (.reg [⟨some 11, .mv, [.r 3], none, []⟩,
        ⟨some 12, (.bin .and), [.r 11, .c (.int .u32 1)], none, [11]⟩,
        ⟨some 13, (.bin .eql), [.r 12, .c (.int .u32 1)], none, [12]⟩])
      (.cond (.r 13)
        (.kl [13] (.reg [⟨some 14, .mv, [.r 3], none, [3]⟩,
          ⟨some 15, (.bin .shr), [.r 14, .c (.int .u64 1)], none, [14]⟩,
          ⟨some 16, (.bin .xor), [.r 15, .c (.int .u32 3988292384)], none, [15]⟩,
          ⟨some 3, .mv, [.r 16], none, [16]⟩]))
        (.kl [13] (.reg [⟨some 17, .mv, [.r 3], none, [3]⟩,
          ⟨some 18, (.bin .shr), [.r 17, .c (.int .u64 1)], none, [17]⟩,
          ⟨some 3, .mv, [.r 18], none, [18]⟩])))))
      (.reg [⟨some 19, (.bin .add), [.r 9, .c (.int .i64 1)], none, [9]⟩,
        ⟨some 9, .mv, [.r 19], none, [19]⟩]))))
def c49l1 : SC :=
  (.seq (.reg [⟨some 5, (.bin .lss), [.r 4, .c (.int .i64 256)], none, []⟩])
    (.seq (.cond (.r 5)
      (.kl [5] .skip)
      (.kl [4, 5] (.exit 0)))
    (.seq (.block 1 (.seq (.reg [⟨some 6, .mv, [.r 4], none, []⟩,
      ⟨some 2, .mv, [.r 6], none, [6]⟩])
    (.seq (.reg [⟨some 7, .mv, [.r 2], none, []⟩,
      ⟨some 8, (.conv .u32), [.r 7], none, [7]⟩,
      ⟨some 3, .mv, [.r 8], none, [8]⟩])
    (.seq (.seq (.reg [⟨some 9, .mv, [.c (.int .i64 0)], none, []⟩])
    (.block 2 (.loop c49l0)))
    (.reg [⟨some 20, .mv, [.r 2], none, [2]⟩,
      ⟨some 21, .mv, [.r 3], none, [3]⟩,
      ⟨some 22, (.iaddrA 1 256), [.r 1, .r 20], none, [20]⟩,
      ⟨none, (.st 1), [.r 22, .r 21], none, [21, 22]⟩])))))
    (.reg [⟨some 23, (.bin .add), [.r 4, .c (.int .i64 1)], none, [4]⟩,
      ⟨some 4, .mv, [.r 23], none, [23]⟩]))))
def c49 : SC :=
  (.seq (.reg [⟨some 0, (.alloc (List.replicate 256 (.int .u32 0))), [], none, []⟩])
  (.seq (.reg [⟨some 1, (.alloc (List.replicate 256 (.int .u32 0))), [], none, []⟩])
  (.seq (.seq (.reg [⟨some 4, .mv, [.c (.int .i64 0)], none, []⟩])
  (.block 0 (.loop c49l1)))
  (.seq (.reg [⟨some 24, (.ldn 256), [.r 1], none, [1]⟩,
    ⟨none, (.st 256), [.r 0, .r 24], none, [24]⟩])
  .ret))))
def rs49 : List SR := [.celln 0 256]
theorem k49 : okC Try.prog 25 (Try.f49.body.getD .skip) c49 = true := by kernel_rfl
theorem acall49 {args : List AV} (hn : args.length ≤ 25) {H : Heap} {v : AV} {H' : Heap} (h : ac Try.prog c49 (argEnv 0 args) H (Fin H rs49 v H')) : ACall Try.prog 49 args H v H' :=
  acall Try.func49 (c := Try.f49.body.getD .skip) rfl k49 (by kernel_rfl) hn h
theorem acallK49 {args : List AV} (hn : args.length ≤ 25) {H : Heap} {v : AV} {H' : Heap} (h : ac Try.prog c49 (argEnv 0 args) H (FinK rs49 v H')) : ACall Try.prog 49 args H v H' :=
  acallK Try.func49 (c := Try.f49.body.getD .skip) rfl k49 (by kernel_rfl) hn h

end Go.Proofs.Ytjibphejlmiocaa.Ah
