/- G15: a part of the proof: contracts of functions, or plain laws. Conditions: none. -/
import Derived.Test.YtbjlbcihhleclaaEc
import Derived.Test.YtbjlbcihhleclaaProg
import Derived.KernelRfl
namespace Go.Proofs.Ytbjlbcihhleclaa.Ah
open Go
variable {args : List AV} {H : Heap} {v : AV} {H' : Heap}
def c7l0 : SC :=
 (.seq (.seq (.reg [⟨some 34, .mv, [.r 10], none, []⟩,
 ⟨some 35, (.bin .lss), [.r 34, .c (.int .i64 3)], none, [34]⟩])
 (.cond (.r 35)
 (.kl [35] .skip)
 (.kl [10, 35] (.exit 0))))
 (.seq (.block 1 (.seq (.dreg [⟨0, 0, false, false, ⟨some 38, .mv, [.r 10], none, []⟩, []⟩,
 ⟨1, 0, false, false, ⟨some 39, (.faddr 4), [.r 4], none, []⟩, []⟩,
 ⟨2, 3, false, false, ⟨some 40, (.iaddrA 6 3), [.r 39, .r 38], none, [38, 39]⟩, []⟩,
 ⟨3, 7, false, false, ⟨some 41, (.faddr 0), [.r 40], none, [40]⟩, []⟩,
 ⟨4, 15, false, false, ⟨some 42, (.faddr 2), [.r 41], none, [41]⟩, []⟩,
 ⟨5, 31, false, false, ⟨some 43, .ld1, [.r 42], none, [42]⟩, []⟩,
 ⟨6, 63, false, false, ⟨some 44, .len, [.r 43], none, [43]⟩, []⟩,
 ⟨7, 0, false, false, ⟨some 45, .mv, [.r 10], none, []⟩, []⟩,
 ⟨8, 0, false, false, ⟨some 46, (.faddr 4), [.r 4], none, []⟩, []⟩,
 ⟨9, 384, false, false, ⟨some 47, (.iaddrA 6 3), [.r 46, .r 45], none, [45, 46]⟩, []⟩,
 ⟨10, 896, false, false, ⟨some 48, (.faddr 3), [.r 47], none, [47]⟩, []⟩,
 ⟨11, 1920, false, false, ⟨some 49, (.faddr 2), [.r 48], none, [48]⟩, []⟩,
 ⟨12, 3968, false, false, ⟨some 50, .ld1, [.r 49], none, [49]⟩, []⟩,
 ⟨13, 8064, false, false, ⟨some 51, .len, [.r 50], none, [50]⟩, []⟩,
 ⟨14, 16383, false, false, ⟨some 52, (.bin .add), [.r 44, .r 51], none, [44, 51]⟩, []⟩,
 ⟨15, 32767, false, false, ⟨some 53, (.bin .gtr), [.r 52, .c (.int .i64 40)], none, [52]⟩, []⟩])
 (.cond (.r 53)
 (.kl [3, 4, 5, 6, 7, 8, 10, 53] (.seq (.reg [⟨some 54, .mv, [.r 9], none, [9]⟩,
 ⟨some 2, .mv, [.r 54], none, [54]⟩])
 .ret))
 (.kl [53] .skip))))
 (.reg [⟨some 36, .mv, [.r 10], none, [10]⟩,
 ⟨some 37, (.bin .add), [.r 36, .c (.int .i64 1)], none, [36]⟩,
 ⟨some 10, .mv, [.r 37], none, [37]⟩])))
def c7 : SC :=
 (.seq (.reg [⟨some 1, .box, [.r 0], none, [0]⟩,
 ⟨some 2, .mv, [.c (.bool false)], none, []⟩])
 (.seq (.reg [⟨some 21, (.faddr 0), [.r 1], none, [2]⟩,
 ⟨some 22, (.ldn 6), [.r 21], none, [21]⟩,
 ⟨some 3, (.alloc [(.int .i64 0), (.int .i64 0), (.int .i64 0), (.int .i64 0), (.int .i64 0), (.int .i64 0)]), [], none, []⟩,
 ⟨none, (.st 6), [.r 3, .r 22], none, [22]⟩])
 (.seq (.reg [⟨some 23, (.faddr 6), [.r 1], none, []⟩,
 ⟨some 24, (.ldn 29), [.r 23], none, [23]⟩,
 ⟨some 4, (.alloc [(.int .i64 0), (.int .i64 0), (.int .i64 0), (.int .i64 0), (.int .i64 0), (.int .i64 0), .nils, (.int .i64 0), (.int .i64 0), .nils, (.int .i64 0), (.int .i64 0), .nils, (.int .i64 0), (.int .i64 0), .nils, (.int .i64 0), (.int .i64 0), .nils, (.int .i64 0), (.int .i64 0), .nils, (.int .i64 0), (.int .i64 0), (.int .i64 0), (.int .i64 0), (.int .i64 0), (.int .i64 0), (.bool false)]), [], none, []⟩,
 ⟨none, (.st 29), [.r 4, .r 24], none, [24]⟩])
 (.seq (.reg [⟨some 25, (.faddr 35), [.r 1], none, []⟩,
 ⟨some 26, (.ldn 49), [.r 25], none, [25]⟩,
 ⟨some 5, (.alloc [(.int .i64 0), (.int .i64 0), (.int .i64 0), (.int .i64 0), (.bool false), (.bool false), (.bool false), (.bool false), (.bool false), (.int .i64 0), (.int .i64 0), (.int .i64 0), (.int .i64 0), (.int .i64 0), (.int .i64 0), (.int .i64 0), (.int .i64 0), (.int .i64 0), (.int .i64 0), (.int .i64 0), (.int .i64 0), (.int .i64 0), (.int .i64 0), (.int .i64 0), (.int .i64 0), (.int .i64 0), (.int .i64 0), (.int .i64 0), (.int .i64 0), (.int .i64 0), (.int .i64 0), (.int .i64 0), (.int .i64 0), (.int .i64 0), (.int .i64 0), (.int .i64 0), (.int .i64 0), (.int .i64 0), (.int .i64 0), (.int .i64 0), (.int .i64 0), (.int .i64 0), (.int .i64 0), (.int .i64 0), (.int .i64 0), (.int .i64 0), (.int .i64 0), (.int .i64 0), (.int .i64 0)]), [], none, []⟩,
 ⟨none, (.st 49), [.r 5, .r 26], none, [26]⟩])
 (.seq (.reg [⟨some 27, (.faddr 84), [.r 1], none, []⟩,
 ⟨some 28, (.ldn 4), [.r 27], none, [27]⟩,
 ⟨some 6, (.alloc [(.int .i64 0), (.int .i64 0), (.int .i64 0), (.int .i64 0)]), [], none, []⟩,
 ⟨none, (.st 4), [.r 6, .r 28], none, [28]⟩])
 (.seq (.reg [⟨some 29, (.faddr 88), [.r 1], none, []⟩,
 ⟨some 30, .ld1, [.r 29], none, [29]⟩,
 ⟨some 7, .mv, [.r 30], none, [30]⟩])
 (.seq (.reg [⟨some 31, (.faddr 89), [.r 1], none, [1]⟩,
 ⟨some 32, (.ldn 8), [.r 31], none, [31]⟩,
 ⟨some 8, (.alloc [(.int .i64 0), (.int .i64 0), (.int .i64 0), (.int .i64 0), (.int .i64 0), (.int .i64 0), (.int .i64 0), (.int .i64 0)]), [], none, []⟩,
 ⟨none, (.st 8), [.r 8, .r 32], none, [32]⟩])
 (.seq (.reg [⟨some 33, (.call 10), [], none, []⟩,
 ⟨some 9, .mv, [.r 33], none, [33]⟩])
 (.seq (.seq (.reg [⟨some 10, .mv, [.c (.int .i64 0)], none, []⟩])
 (.block 0 (.loop c7l0)))
 (.seq (.reg [⟨some 56, (.ldn 6), [.r 3], none, []⟩,
 ⟨some 57, (.ldn 29), [.r 4], none, []⟩,
 ⟨some 58, (.call 16), [.r 56, .r 57], none, [56, 57]⟩,
 ⟨some 55, .mv, [.r 58], none, [58]⟩,
 ⟨some 59, (.ext 0), [.r 55], none, []⟩,
 ⟨some 60, (.ext 1), [.r 55], none, []⟩,
 ⟨some 61, (.ext 2), [.r 55], none, [55]⟩,
 ⟨some 11, .mv, [.r 59], none, [59]⟩,
 ⟨some 12, .mv, [.r 60], none, [60]⟩,
 ⟨some 13, .mv, [.r 61], none, [61]⟩])
 (.seq (.reg [⟨some 63, (.ldn 6), [.r 3], none, []⟩,
 ⟨some 64, (.ldn 29), [.r 4], none, [4]⟩,
 ⟨some 65, (.call 20), [.r 63, .r 64], none, [63, 64]⟩,
 ⟨some 62, .mv, [.r 65], none, [65]⟩,
 ⟨some 66, (.ext 0), [.r 62], none, []⟩,
 ⟨some 67, (.ext 1), [.r 62], none, []⟩,
 ⟨some 68, (.ext 2), [.r 62], none, [62]⟩,
 ⟨some 14, .mv, [.r 66], none, [66]⟩,
 ⟨some 15, .mv, [.r 67], none, [67]⟩,
 ⟨some 16, .mv, [.r 68], none, [68]⟩])
 (.seq (.reg [⟨some 70, (.ldn 6), [.r 3], none, []⟩,
 ⟨some 71, (.ldn 49), [.r 5], none, []⟩,
 ⟨some 72, (.call 21), [.r 70, .r 71], none, [70, 71]⟩,
 ⟨some 69, .mv, [.r 72], none, [72]⟩,
 ⟨some 73, (.ext 0), [.r 69], none, []⟩,
 ⟨some 74, (.ext 1), [.r 69], none, [69]⟩,
 ⟨some 17, (.alloc [(.int .i64 0), (.int .i64 0), (.int .i64 0), (.int .i64 0), (.int .i64 0), (.int .i64 0), .nils, (.int .i64 0), (.int .i64 0), .nils, (.int .i64 0), (.int .i64 0), .nils, (.int .i64 0), (.int .i64 0), .nils, (.int .i64 0), (.int .i64 0), .nils, (.int .i64 0), (.int .i64 0), .nils, (.int .i64 0), (.int .i64 0), (.int .i64 0), (.int .i64 0), (.int .i64 0), (.int .i64 0), (.bool false)]), [], none, []⟩,
 ⟨none, (.st 29), [.r 17, .r 73], none, [73]⟩,
 ⟨some 18, .mv, [.r 74], none, [74]⟩])
 (.seq (.reg [⟨some 76, (.ldn 6), [.r 3], none, [3]⟩,
 ⟨some 77, (.ldn 49), [.r 5], none, []⟩,
 ⟨some 78, (.call 22), [.r 76, .r 77], none, [76, 77]⟩,
 ⟨some 75, .mv, [.r 78], none, [78]⟩,
 ⟨some 79, (.ext 0), [.r 75], none, []⟩,
 ⟨some 80, (.ext 1), [.r 75], none, [75]⟩,
 ⟨some 19, (.alloc [(.int .i64 0), (.int .i64 0), (.int .i64 0), (.int .i64 0), (.int .i64 0), (.int .i64 0), .nils, (.int .i64 0), (.int .i64 0), .nils, (.int .i64 0), (.int .i64 0), .nils, (.int .i64 0), (.int .i64 0), .nils, (.int .i64 0), (.int .i64 0), .nils, (.int .i64 0), (.int .i64 0), .nils, (.int .i64 0), (.int .i64 0), (.int .i64 0), (.int .i64 0), (.int .i64 0), (.int .i64 0), (.bool false)]), [], none, []⟩,
 ⟨none, (.st 29), [.r 19, .r 79], none, [79]⟩,
 ⟨some 20, .mv, [.r 80], none, [80]⟩])
 (.seq (.dreg [⟨0, 0, false, false, ⟨some 81, .mv, [.r 9], none, [9]⟩, []⟩,
 ⟨1, 1, false, false, ⟨some 82, .mv, [.r 81], none, [81]⟩, []⟩,
 ⟨2, 3, false, false, ⟨some 83, .mv, [.r 11], (some (82, true)), [11]⟩, []⟩,
 ⟨3, 3, false, false, ⟨some 84, .mv, [.r 14], (some (82, true)), [14]⟩, []⟩,
 ⟨4, 15, false, false, ⟨some 85, (.call 23), [.r 83, .r 84], (some (82, true)), [83, 84]⟩, []⟩,
 ⟨5, 31, false, false, ⟨some 86, .pick, [.r 82, .r 85, .c (.bool false)], none, [82, 85]⟩, []⟩,
 ⟨6, 63, false, false, ⟨some 87, .mv, [.r 86], none, [86]⟩, []⟩,
 ⟨7, 127, false, false, ⟨some 88, .mv, [.r 12], (some (87, true)), [12]⟩, []⟩,
 ⟨8, 127, false, false, ⟨some 89, .mv, [.r 15], (some (87, true)), [15]⟩, []⟩,
 ⟨9, 511, false, false, ⟨some 90, (.bin .eql), [.r 88, .r 89], (some (87, true)), [88, 89]⟩, []⟩,
 ⟨10, 1023, false, false, ⟨some 91, .pick, [.r 87, .r 90, .c (.bool false)], none, [87, 90]⟩, []⟩,
 ⟨11, 2047, false, false, ⟨some 92, .mv, [.r 91], none, [91]⟩, []⟩,
 ⟨12, 4095, false, false, ⟨some 93, .mv, [.r 13], (some (92, true)), [13]⟩, []⟩,
 ⟨13, 4095, false, false, ⟨some 94, .mv, [.r 16], (some (92, true)), [16]⟩, []⟩,
 ⟨14, 16383, false, false, ⟨some 95, (.bin .eql), [.r 93, .r 94], (some (92, true)), [93, 94]⟩, []⟩,
 ⟨15, 32767, false, false, ⟨some 96, .pick, [.r 92, .r 95, .c (.bool false)], none, [92, 95]⟩, []⟩,
 ⟨16, 65535, false, false, ⟨some 97, .mv, [.r 96], none, [96]⟩, []⟩,
 ⟨17, 131071, false, false, ⟨some 98, (.ldn 4), [.r 6], (some (97, true)), []⟩, []⟩,
 ⟨18, 262143, false, true, ⟨some 99, (.call 17), [.r 98], (some (97, true)), [98]⟩, []⟩,
 ⟨19, 131071, false, false, ⟨some 100, (.ldn 4), [.r 6], (some (97, true)), []⟩, []⟩,
 ⟨20, 1048575, false, false, ⟨some 101, (.call 19), [.r 100], (some (97, true)), [100]⟩, []⟩,
 ⟨21, 2097151, false, false, ⟨some 102, (.eqb false), [.r 99, .r 101], (some (97, true)), [99, 101]⟩, []⟩,
 ⟨22, 4194303, false, false, ⟨some 103, .pick, [.r 97, .r 102, .c (.bool false)], none, [97, 102]⟩, []⟩,
 ⟨23, 8388607, false, false, ⟨some 104, .mv, [.r 103], none, [103]⟩, []⟩,
 ⟨24, 16777215, false, false, ⟨some 105, (.ldn 49), [.r 5], (some (104, true)), []⟩, []⟩,
 ⟨25, 16777215, false, false, ⟨some 106, (.ldn 4), [.r 6], (some (104, true)), []⟩, []⟩,
 ⟨26, 16777215, false, false, ⟨some 107, .mv, [.r 7], (some (104, true)), []⟩, []⟩,
 ⟨27, 16777215, false, false, ⟨some 108, (.ldn 8), [.r 8], (some (104, true)), []⟩, []⟩,
 ⟨28, 268435455, false, true, ⟨some 109, (.call 18), [.r 105, .r 106, .r 107, .r 108], (some (104, true)), [105, 106, 107, 108]⟩, []⟩,
 ⟨29, 16777215, false, false, ⟨some 110, (.ldn 49), [.r 5], (some (104, true)), [5]⟩, []⟩,
 ⟨30, 16777215, false, false, ⟨some 111, (.ldn 4), [.r 6], (some (104, true)), [6]⟩, []⟩,
 ⟨31, 16777215, false, false, ⟨some 112, .mv, [.r 7], (some (104, true)), [7]⟩, []⟩,
 ⟨32, 16777215, false, false, ⟨some 113, (.ldn 8), [.r 8], (some (104, true)), [8]⟩, []⟩,
 ⟨33, 8589934591, false, false, ⟨some 114, (.call 24), [.r 110, .r 111, .r 112, .r 113], (some (104, true)), [110, 111, 112, 113]⟩, []⟩,
 ⟨34, 17179869183, false, false, ⟨some 115, (.eqv false [.int, .int, .int, .int, .bool, .bool, .bool, .bool, .bool, .int, .int, .int, .int, .int, .int, .int, .int, .int, .int, .int, .int, .int, .int, .int, .int, .int, .int, .int, .int, .int, .int, .int, .int, .int, .int, .int, .int, .int, .int, .int, .int, .int, .int, .int, .int, .int, .int, .int, .int]), [.r 109, .r 114], (some (104, true)), [109, 114]⟩, []⟩,
 ⟨35, 34359738367, false, false, ⟨some 116, .pick, [.r 104, .r 115, .c (.bool false)], none, [104, 115]⟩, []⟩,
 ⟨36, 68719476735, false, false, ⟨some 117, .mv, [.r 116], none, [116]⟩, []⟩,
 ⟨37, 137438953471, false, false, ⟨some 118, (.ldn 29), [.r 17], (some (117, true)), [17]⟩, []⟩,
 ⟨38, 137438953471, false, false, ⟨some 119, (.ldn 29), [.r 19], (some (117, true)), [19]⟩, []⟩,
 ⟨39, 549755813887, false, false, ⟨some 120, (.call 13), [.r 118, .r 119], (some (117, true)), [118, 119]⟩, []⟩,
 ⟨40, 1099511627775, false, false, ⟨some 121, .pick, [.r 117, .r 120, .c (.bool false)], none, [117, 120]⟩, []⟩,
 ⟨41, 2199023255551, false, false, ⟨some 122, .mv, [.r 121], none, [121]⟩, []⟩,
 ⟨42, 4398046511103, false, false, ⟨some 123, .mv, [.r 18], (some (122, true)), [18]⟩, []⟩,
 ⟨43, 4398046511103, false, false, ⟨some 124, .mv, [.r 20], (some (122, true)), [20]⟩, []⟩,
 ⟨44, 17592186044415, false, false, ⟨some 125, (.eqb false), [.r 123, .r 124], (some (122, true)), [123, 124]⟩, []⟩,
 ⟨45, 35184372088831, false, false, ⟨some 126, .pick, [.r 122, .r 125, .c (.bool false)], none, [122, 125]⟩, []⟩,
 ⟨46, 70368744177663, false, false, ⟨some 2, .mv, [.r 126], none, [126]⟩, []⟩])
 .ret))))))))))))))
def rs7 : List SR := [.tmp 2]
theorem acall7 (hn : args.length ≤ 127) (h : ac Try.prog c7 (argEnv 0 args) H (Fin H rs7 v H')) : ACall Try.prog 7 args H v H' :=
 acall Try.func7 (c := Try.f7.body.getD .skip) rfl (by kernel_rfl) (by kernel_rfl) hn h
def c10 : SC :=
 (.seq (.reg [⟨some 0, .mv, [.c (.bool false)], none, []⟩])
 (.seq (.reg [⟨some 10, (.call 25), [], none, [0]⟩,
 ⟨some 11, (.call 15), [.r 10], none, [10]⟩,
 ⟨some 9, .mv, [.r 11], none, [11]⟩,
 ⟨some 12, (.ext 0), [.r 9], none, []⟩,
 ⟨some 13, (.ext 1), [.r 9], none, [9]⟩,
 ⟨some 1, (.alloc [(.int .i64 0), (.int .i64 0), (.int .i64 0), (.int .i64 0), (.int .i64 0), (.int .i64 0), .nils, (.int .i64 0), (.int .i64 0), .nils, (.int .i64 0), (.int .i64 0), .nils, (.int .i64 0), (.int .i64 0), .nils, (.int .i64 0), (.int .i64 0), .nils, (.int .i64 0), (.int .i64 0), .nils, (.int .i64 0), (.int .i64 0), (.int .i64 0), (.int .i64 0), (.int .i64 0), (.int .i64 0), (.bool false)]), [], none, []⟩,
 ⟨none, (.st 29), [.r 1, .r 12], none, [12]⟩,
 ⟨some 2, .mv, [.r 13], none, [13]⟩])
 (.seq (.dreg [⟨0, 0, false, true, ⟨some 15, (.call 25), [], none, [2]⟩, []⟩,
 ⟨1, 0, false, false, ⟨some 16, (.ldn 29), [.r 1], none, []⟩, []⟩,
 ⟨2, 3, false, false, ⟨some 17, (.call 16), [.r 15, .r 16], none, [15, 16]⟩, []⟩,
 ⟨3, 7, false, false, ⟨some 14, .mv, [.r 17], none, [17]⟩, []⟩,
 ⟨4, 15, false, false, ⟨some 18, (.ext 0), [.r 14], none, []⟩, []⟩,
 ⟨5, 15, false, false, ⟨some 19, (.ext 1), [.r 14], none, []⟩, []⟩,
 ⟨6, 15, false, false, ⟨some 20, (.ext 2), [.r 14], none, [14]⟩, []⟩,
 ⟨7, 31, false, false, ⟨some 3, .mv, [.r 18], none, [18]⟩, []⟩,
 ⟨8, 191, false, false, ⟨some 4, .mv, [.r 19], none, [19]⟩, []⟩,
 ⟨9, 511, false, false, ⟨some 5, .mv, [.r 20], none, [20]⟩, []⟩])
 (.seq (.reg [⟨some 21, (.build [(.int .i64 0), (.int .i64 0), (.int .i64 0), (.int .i64 0)] [(2, 1)]), [.c (.int .i64 3)], none, []⟩,
 ⟨some 22, (.ldn 29), [.r 1], none, []⟩,
 ⟨some 23, (.call 12), [.c .nilm, .r 21, .r 22], none, [21, 22]⟩,
 ⟨some 6, .mv, [.r 23], none, [23]⟩])
 (.seq (.reg [⟨some 25, .mv, [.r 6], none, [6]⟩,
 ⟨some 26, (.build [(.int .i64 0), (.int .i64 0), (.int .i64 0), (.int .i64 0)] [(2, 1)]), [.c (.int .i64 3)], none, []⟩,
 ⟨some 27, (.mp (.lkp [.int, .int, .int, .int] true [(.int .i64 0), (.int .i64 0), (.int .i64 0), (.int .i64 0), (.int .i64 0), (.int .i64 0), .nils, (.int .i64 0), (.int .i64 0), .nils, (.int .i64 0), (.int .i64 0), .nils, (.int .i64 0), (.int .i64 0), .nils, (.int .i64 0), (.int .i64 0), .nils, (.int .i64 0), (.int .i64 0), .nils, (.int .i64 0), (.int .i64 0), (.int .i64 0), (.int .i64 0), (.int .i64 0), (.int .i64 0), (.bool false)] true true)), [.r 25, .r 26], none, [25, 26]⟩,
 ⟨some 24, .mv, [.r 27], none, [27]⟩,
 ⟨some 28, (.ext 0), [.r 24], none, []⟩,
 ⟨some 29, (.ext 1), [.r 24], none, [24]⟩,
 ⟨some 7, (.alloc [(.int .i64 0), (.int .i64 0), (.int .i64 0), (.int .i64 0), (.int .i64 0), (.int .i64 0), .nils, (.int .i64 0), (.int .i64 0), .nils, (.int .i64 0), (.int .i64 0), .nils, (.int .i64 0), (.int .i64 0), .nils, (.int .i64 0), (.int .i64 0), .nils, (.int .i64 0), (.int .i64 0), .nils, (.int .i64 0), (.int .i64 0), (.int .i64 0), (.int .i64 0), (.int .i64 0), (.int .i64 0), (.bool false)]), [], none, []⟩,
 ⟨none, (.st 29), [.r 7, .r 28], none, [28]⟩,
 ⟨some 8, .mv, [.r 29], none, [29]⟩])
 (.seq (.reg [⟨some 30, .mv, [.r 5], none, [5]⟩,
 ⟨some 31, (.bin .eql), [.r 30, .c (.int .i64 0)], none, [30]⟩,
 ⟨some 32, .mv, [.r 31], none, [31]⟩,
 ⟨some 33, .mv, [.r 3], (some (32, true)), []⟩,
 ⟨some 34, .len, [.r 33], (some (32, true)), [33]⟩,
 ⟨some 35, (.bin .eql), [.r 34, .c (.int .i64 1)], (some (32, true)), [34]⟩,
 ⟨some 36, .pick, [.r 32, .r 35, .c (.bool false)], none, [32, 35]⟩,
 ⟨some 37, .mv, [.r 36], none, [36]⟩,
 ⟨some 38, .mv, [.r 4], (some (37, true)), [4]⟩,
 ⟨some 39, (.bin .eql), [.r 38, .c (.int .i64 1)], (some (37, true)), [38]⟩,
 ⟨some 40, .pick, [.r 37, .r 39, .c (.bool false)], none, [37, 39]⟩,
 ⟨some 41, .mv, [.r 40], none, [40]⟩,
 ⟨some 42, .mv, [.r 3], (some (41, true)), [3]⟩,
 ⟨some 43, (.iaddrS 8), [.r 42, .c (.int .i64 0)], (some (41, true)), [42]⟩,
 ⟨some 44, (.ldn 8), [.r 43], (some (41, true)), [43]⟩,
 ⟨some 45, (.build [(.int .i64 0), (.int .i64 0), (.int .i64 0), (.int .i64 0), (.int .i64 0), (.int .i64 0), (.int .i64 0), (.int .i64 0)] []), [], (some (41, true)), []⟩,
 ⟨some 46, (.eqv false [.int, .int, .int, .int, .int, .int, .int, .int]), [.r 44, .r 45], (some (41, true)), [44, 45]⟩,
 ⟨some 47, .pick, [.r 41, .r 46, .c (.bool false)], none, [41, 46]⟩,
 ⟨some 48, .mv, [.r 47], none, [47]⟩,
 ⟨some 49, .mv, [.r 8], (some (48, true)), [8]⟩,
 ⟨some 50, .pick, [.r 48, .r 49, .c (.bool false)], none, [48, 49]⟩,
 ⟨some 51, .mv, [.r 50], none, [50]⟩,
 ⟨some 52, (.ldn 29), [.r 1], (some (51, true)), [1]⟩,
 ⟨some 53, (.ldn 29), [.r 7], (some (51, true)), [7]⟩,
 ⟨some 54, (.call 13), [.r 52, .r 53], (some (51, true)), [52, 53]⟩,
 ⟨some 55, .pick, [.r 51, .r 54, .c (.bool false)], none, [51, 54]⟩,
 ⟨some 56, .mv, [.r 55], none, [55]⟩,
 ⟨some 57, (.build [(.int .i64 0), (.int .i64 0), (.int .i64 0), (.int .i64 0)] [(3, 1)]), [.c (.int .i64 39)], (some (56, true)), []⟩,
 ⟨some 58, (.call 17), [.r 57], (some (56, true)), [57]⟩,
 ⟨some 59, .pick, [.r 56, .r 58, .c (.bool false)], none, [56, 58]⟩,
 ⟨some 0, .mv, [.r 59], none, [59]⟩])
 .ret))))))
def rs10 : List SR := [.tmp 0]
theorem acall10 (hn : args.length ≤ 60) (h : ac Try.prog c10 (argEnv 0 args) H (Fin H rs10 v H')) : ACall Try.prog 10 args H v H' :=
 acall Try.func10 (c := Try.f10.body.getD .skip) rfl (by kernel_rfl) (by kernel_rfl) hn h
def c11l0 : SC :=
 (.seq (.seq (.reg [⟨some 40, .mv, [.r 4], none, []⟩,
 ⟨some 41, (.bin .lss), [.r 40, .c (.int .i64 3)], none, [40]⟩])
 (.cond (.r 41)
 (.kl [41] .skip)
 (.kl [4, 41] (.exit 2))))
 (.seq (.block 3 (.seq (.reg [⟨some 44, .mv, [.r 4], none, []⟩,
 ⟨some 45, (.faddr 4), [.r 1], none, []⟩,
 ⟨some 46, (.iaddrA 6 3), [.r 45, .r 44], none, [44, 45]⟩,
 ⟨some 47, (.ldn 6), [.r 46], none, [46]⟩,
 ⟨some 48, (.call 26), [.r 47], none, [47]⟩,
 ⟨some 5, .mv, [.r 48], none, [48]⟩])
 (.seq (.reg [⟨some 49, .mv, [.r 5], none, [5]⟩,
 ⟨some 50, (.un .not), [.r 49], none, [49]⟩,
 ⟨some 51, .mv, [.r 50], none, [50]⟩,
 ⟨some 52, .mv, [.r 4], (some (51, false)), []⟩,
 ⟨some 53, (.faddr 4), [.r 1], (some (51, false)), []⟩,
 ⟨some 54, (.iaddrA 6 3), [.r 53, .r 52], (some (51, false)), [52, 53]⟩,
 ⟨some 55, (.faddr 0), [.r 54], (some (51, false)), [54]⟩,
 ⟨some 56, (.faddr 0), [.r 55], (some (51, false)), [55]⟩,
 ⟨some 57, .ld1, [.r 56], (some (51, false)), [56]⟩,
 ⟨some 58, (.bin .neq), [.r 57, .c (.int .i64 3)], (some (51, false)), [57]⟩,
 ⟨some 59, .pick, [.r 51, .c (.bool true), .r 58], none, [51, 58]⟩])
 (.cond (.r 59)
 (.kl [1, 4, 59] (.seq (.reg [⟨some 2, .mv, [.c (.bool false)], none, []⟩])
 .ret))
 (.kl [59] .skip)))))
 (.reg [⟨some 42, .mv, [.r 4], none, [4]⟩,
 ⟨some 43, (.bin .add), [.r 42, .c (.int .i64 1)], none, [42]⟩,
 ⟨some 4, .mv, [.r 43], none, [43]⟩])))
def c11l1 : SC :=
 (.seq (.seq (.reg [⟨some 24, .mv, [.r 3], none, []⟩,
 ⟨some 25, (.bin .lss), [.r 24, .c (.int .i64 4)], none, [24]⟩])
 (.cond (.r 25)
 (.kl [25] .skip)
 (.kl [3, 25] (.exit 0))))
 (.seq (.block 1 (.seq (.reg [⟨some 28, .mv, [.r 3], none, []⟩,
 ⟨some 29, (.faddr 24), [.r 1], none, []⟩,
 ⟨some 30, (.iaddrA 1 4), [.r 29, .r 28], none, [28, 29]⟩,
 ⟨some 31, .ld1, [.r 30], none, [30]⟩,
 ⟨some 32, (.bin .lss), [.r 31, .c (.int .i64 0)], none, [31]⟩,
 ⟨some 33, .mv, [.r 32], none, [32]⟩,
 ⟨some 34, .mv, [.r 3], (some (33, false)), []⟩,
 ⟨some 35, (.faddr 24), [.r 1], (some (33, false)), []⟩,
 ⟨some 36, (.iaddrA 1 4), [.r 35, .r 34], (some (33, false)), [34, 35]⟩,
 ⟨some 37, .ld1, [.r 36], (some (33, false)), [36]⟩,
 ⟨some 38, (.bin .gtr), [.r 37, .c (.int .i64 1000)], (some (33, false)), [37]⟩,
 ⟨some 39, .pick, [.r 33, .c (.bool true), .r 38], none, [33, 38]⟩])
 (.cond (.r 39)
 (.kl [1, 3, 39] (.seq (.reg [⟨some 2, .mv, [.c (.bool false)], none, []⟩])
 .ret))
 (.kl [39] .skip))))
 (.reg [⟨some 26, .mv, [.r 3], none, [3]⟩,
 ⟨some 27, (.bin .add), [.r 26, .c (.int .i64 1)], none, [26]⟩,
 ⟨some 3, .mv, [.r 27], none, [27]⟩])))
def c11 : SC :=
 (.seq (.reg [⟨some 1, .box, [.r 0], none, [0]⟩,
 ⟨some 2, .mv, [.c (.bool false)], none, []⟩])
 (.seq (.seq (.reg [⟨some 6, (.faddr 22), [.r 1], none, [2]⟩,
 ⟨some 7, .ld1, [.r 6], none, [6]⟩,
 ⟨some 8, (.bin .lss), [.r 7, .c (.int .i64 0)], none, [7]⟩,
 ⟨some 9, .mv, [.r 8], none, [8]⟩,
 ⟨some 10, (.faddr 22), [.r 1], (some (9, false)), []⟩,
 ⟨some 11, .ld1, [.r 10], (some (9, false)), [10]⟩,
 ⟨some 12, (.bin .gtr), [.r 11, .c (.int .i64 1099511627776)], (some (9, false)), [11]⟩,
 ⟨some 13, .pick, [.r 9, .c (.bool true), .r 12], none, [9, 12]⟩,
 ⟨some 14, .mv, [.r 13], none, [13]⟩,
 ⟨some 15, (.faddr 23), [.r 1], (some (14, false)), []⟩,
 ⟨some 16, .ld1, [.r 15], (some (14, false)), [15]⟩,
 ⟨some 17, (.bin .lss), [.r 16, .c (.int .i64 0)], (some (14, false)), [16]⟩,
 ⟨some 18, .pick, [.r 14, .c (.bool true), .r 17], none, [14, 17]⟩,
 ⟨some 19, .mv, [.r 18], none, [18]⟩,
 ⟨some 20, (.faddr 23), [.r 1], (some (19, false)), []⟩,
 ⟨some 21, .ld1, [.r 20], (some (19, false)), [20]⟩,
 ⟨some 22, (.bin .gtr), [.r 21, .c (.int .i64 1000)], (some (19, false)), [21]⟩,
 ⟨some 23, .pick, [.r 19, .c (.bool true), .r 22], none, [19, 22]⟩])
 (.cond (.r 23)
 (.kl [1, 23] (.seq (.reg [⟨some 2, .mv, [.c (.bool false)], none, []⟩])
 .ret))
 (.kl [23] .skip)))
 (.seq (.seq (.reg [⟨some 3, .mv, [.c (.int .i64 0)], none, []⟩])
 (.block 0 (.loop c11l1)))
 (.seq (.seq (.reg [⟨some 4, .mv, [.c (.int .i64 0)], none, []⟩])
 (.block 2 (.loop c11l0)))
 (.seq (.reg [⟨some 60, (.faddr 0), [.r 1], none, [1]⟩,
 ⟨some 61, (.ldn 4), [.r 60], none, [60]⟩,
 ⟨some 62, (.call 27), [.r 61], none, [61]⟩,
 ⟨some 2, .mv, [.r 62], none, [62]⟩])
 .ret)))))
def rs11 : List SR := [.tmp 2]
theorem acall11 (hn : args.length ≤ 63) (h : ac Try.prog c11 (argEnv 0 args) H (Fin H rs11 v H')) : ACall Try.prog 11 args H v H' :=
 acall Try.func11 (c := Try.f11.body.getD .skip) rfl (by kernel_rfl) (by kernel_rfl) hn h
def c12 : SC :=
 (.seq (.reg [⟨some 4, .box, [.r 1], none, [1]⟩,
 ⟨some 5, .box, [.r 2], none, [2]⟩,
 ⟨some 6, .mv, [.c .nilm], none, []⟩])
 (.seq (.reg [⟨some 8, .mv, [.r 0], none, [0, 6]⟩,
 ⟨some 9, (.call 28), [.r 8], none, [8]⟩,
 ⟨some 7, .mv, [.r 9], none, [9]⟩])
 (.seq (.seq (.reg [⟨some 10, .mv, [.r 7], none, []⟩,
 ⟨some 11, (.mp (.isnil false)), [.r 10], none, [10]⟩])
 (.cond (.r 11)
 (.kl [7, 11] (.reg [⟨some 12, (.mp .mk), [], none, []⟩,
 ⟨some 7, .mv, [.r 12], none, [12]⟩]))
 (.kl [11] .skip)))
 (.seq (.reg [⟨some 13, .mv, [.r 7], none, []⟩,
 ⟨some 14, (.ldn 4), [.r 4], none, [4]⟩,
 ⟨some 15, (.ldn 29), [.r 5], none, [5]⟩,
 ⟨none, (.mp (.upd [.int, .int, .int, .int] true)), [.r 13, .r 14, .r 15], none, [13, 14, 15]⟩])
 (.seq (.reg [⟨some 16, .mv, [.r 7], none, [7]⟩,
 ⟨some 6, .mv, [.r 16], none, [16]⟩])
 .ret)))))
def rs12 : List SR := [.tmp 6]
theorem acallK12 (hn : args.length ≤ 17) (h : ac Try.prog c12 (argEnv 0 args) H (FinK rs12 v H')) : ACall Try.prog 12 args H v H' :=
 acallK Try.func12 (c := Try.f12.body.getD .skip) rfl (by kernel_rfl) (by kernel_rfl) hn h
def c13 : SC :=
 (.seq (.reg [⟨some 2, .box, [.r 0], none, [0]⟩,
 ⟨some 3, .box, [.r 1], none, [1]⟩,
 ⟨some 4, .mv, [.c (.bool false)], none, []⟩])
 (.seq (.reg [⟨some 6, (.faddr 4), [.r 2], none, [4]⟩,
 ⟨some 7, (.iaddrA 6 3), [.r 6, .c (.int .i64 0)], none, [6]⟩,
 ⟨some 8, (.ldn 6), [.r 7], none, [7]⟩,
 ⟨some 9, (.faddr 4), [.r 3], none, []⟩,
 ⟨some 10, (.iaddrA 6 3), [.r 9, .c (.int .i64 0)], none, [9]⟩,
 ⟨some 11, (.ldn 6), [.r 10], none, [10]⟩,
 ⟨some 12, (.call 29), [.r 8, .r 11], none, [8, 11]⟩,
 ⟨some 13, .mv, [.r 12], none, [12]⟩,
 ⟨some 14, (.faddr 4), [.r 2], (some (13, true)), []⟩,
 ⟨some 15, (.iaddrA 6 3), [.r 14, .c (.int .i64 1)], (some (13, true)), [14]⟩,
 ⟨some 16, (.ldn 6), [.r 15], (some (13, true)), [15]⟩,
 ⟨some 17, (.faddr 4), [.r 3], (some (13, true)), []⟩,
 ⟨some 18, (.iaddrA 6 3), [.r 17, .c (.int .i64 1)], (some (13, true)), [17]⟩,
 ⟨some 19, (.ldn 6), [.r 18], (some (13, true)), [18]⟩,
 ⟨some 20, (.call 29), [.r 16, .r 19], (some (13, true)), [16, 19]⟩,
 ⟨some 21, .pick, [.r 13, .r 20, .c (.bool false)], none, [13, 20]⟩,
 ⟨some 22, .mv, [.r 21], none, [21]⟩,
 ⟨some 23, (.faddr 4), [.r 2], (some (22, true)), []⟩,
 ⟨some 24, (.iaddrA 6 3), [.r 23, .c (.int .i64 2)], (some (22, true)), [23]⟩,
 ⟨some 25, (.ldn 6), [.r 24], (some (22, true)), [24]⟩,
 ⟨some 26, (.faddr 4), [.r 3], (some (22, true)), []⟩,
 ⟨some 27, (.iaddrA 6 3), [.r 26, .c (.int .i64 2)], (some (22, true)), [26]⟩,
 ⟨some 28, (.ldn 6), [.r 27], (some (22, true)), [27]⟩,
 ⟨some 29, (.call 29), [.r 25, .r 28], (some (22, true)), [25, 28]⟩,
 ⟨some 30, .pick, [.r 22, .r 29, .c (.bool false)], none, [22, 29]⟩,
 ⟨some 5, .mv, [.r 30], none, [30]⟩])
 (.seq (.reg [⟨some 31, .mv, [.r 5], none, [5]⟩,
 ⟨some 32, .mv, [.r 31], none, [31]⟩,
 ⟨some 33, (.faddr 0), [.r 2], (some (32, true)), []⟩,
 ⟨some 34, (.ldn 4), [.r 33], (some (32, true)), [33]⟩,
 ⟨some 35, (.faddr 0), [.r 3], (some (32, true)), []⟩,
 ⟨some 36, (.ldn 4), [.r 35], (some (32, true)), [35]⟩,
 ⟨some 37, (.eqv false [.int, .int, .int, .int]), [.r 34, .r 36], (some (32, true)), [34, 36]⟩,
 ⟨some 38, .pick, [.r 32, .r 37, .c (.bool false)], none, [32, 37]⟩,
 ⟨some 39, .mv, [.r 38], none, [38]⟩,
 ⟨some 40, (.faddr 22), [.r 2], (some (39, true)), []⟩,
 ⟨some 41, .ld1, [.r 40], (some (39, true)), [40]⟩,
 ⟨some 42, (.faddr 22), [.r 3], (some (39, true)), []⟩,
 ⟨some 43, .ld1, [.r 42], (some (39, true)), [42]⟩,
 ⟨some 44, (.bin .eql), [.r 41, .r 43], (some (39, true)), [41, 43]⟩,
 ⟨some 45, .pick, [.r 39, .r 44, .c (.bool false)], none, [39, 44]⟩,
 ⟨some 46, .mv, [.r 45], none, [45]⟩,
 ⟨some 47, (.faddr 23), [.r 2], (some (46, true)), []⟩,
 ⟨some 48, .ld1, [.r 47], (some (46, true)), [47]⟩,
 ⟨some 49, (.faddr 23), [.r 3], (some (46, true)), []⟩,
 ⟨some 50, .ld1, [.r 49], (some (46, true)), [49]⟩,
 ⟨some 51, (.bin .eql), [.r 48, .r 50], (some (46, true)), [48, 50]⟩,
 ⟨some 52, .pick, [.r 46, .r 51, .c (.bool false)], none, [46, 51]⟩,
 ⟨some 53, .mv, [.r 52], none, [52]⟩,
 ⟨some 54, (.faddr 24), [.r 2], (some (53, true)), []⟩,
 ⟨some 55, (.ldn 4), [.r 54], (some (53, true)), [54]⟩,
 ⟨some 56, (.faddr 24), [.r 3], (some (53, true)), []⟩,
 ⟨some 57, (.ldn 4), [.r 56], (some (53, true)), [56]⟩,
 ⟨some 58, (.eqv false [.int, .int, .int, .int]), [.r 55, .r 57], (some (53, true)), [55, 57]⟩,
 ⟨some 59, .pick, [.r 53, .r 58, .c (.bool false)], none, [53, 58]⟩,
 ⟨some 60, .mv, [.r 59], none, [59]⟩,
 ⟨some 61, (.faddr 28), [.r 2], (some (60, true)), [2]⟩,
 ⟨some 62, .ld1, [.r 61], (some (60, true)), [61]⟩,
 ⟨some 63, (.faddr 28), [.r 3], (some (60, true)), [3]⟩,
 ⟨some 64, .ld1, [.r 63], (some (60, true)), [63]⟩,
 ⟨some 65, (.eqb false), [.r 62, .r 64], (some (60, true)), [62, 64]⟩,
 ⟨some 66, .pick, [.r 60, .r 65, .c (.bool false)], none, [60, 65]⟩,
 ⟨some 4, .mv, [.r 66], none, [66]⟩])
 .ret)))
def rs13 : List SR := [.tmp 4]
theorem acall13 (hn : args.length ≤ 67) (h : ac Try.prog c13 (argEnv 0 args) H (Fin H rs13 v H')) : ACall Try.prog 13 args H v H' :=
 acall Try.func13 (c := Try.f13.body.getD .skip) rfl (by kernel_rfl) (by kernel_rfl) hn h
def c14l0 : SC :=
 (.seq (.seq (.reg [⟨some 18, .mv, [.r 4], none, []⟩,
 ⟨some 19, .mv, [.r 3], none, []⟩,
 ⟨some 20, .len, [.r 19], none, [19]⟩,
 ⟨some 21, (.bin .lss), [.r 18, .r 20], none, [18, 20]⟩])
 (.cond (.r 21)
 (.kl [21] .skip)
 (.kl [3, 4, 21] (.exit 0))))
 (.seq (.block 1 (.seq (.reg [⟨some 24, .mv, [.r 3], none, []⟩,
 ⟨some 25, .mv, [.r 4], none, []⟩,
 ⟨some 26, (.iaddrS 1), [.r 24, .r 25], none, [24, 25]⟩,
 ⟨some 27, .ld1, [.r 26], none, [26]⟩,
 ⟨some 28, (.bin .lss), [.r 27, .c (.int .i64 1)], none, [27]⟩,
 ⟨some 29, .mv, [.r 28], none, [28]⟩,
 ⟨some 30, .mv, [.r 3], (some (29, false)), []⟩,
 ⟨some 31, .mv, [.r 4], (some (29, false)), []⟩,
 ⟨some 32, (.iaddrS 1), [.r 30, .r 31], (some (29, false)), [30, 31]⟩,
 ⟨some 33, .ld1, [.r 32], (some (29, false)), [32]⟩,
 ⟨some 34, (.bin .gtr), [.r 33, .c (.int .i64 17179869184)], (some (29, false)), [33]⟩,
 ⟨some 35, .pick, [.r 29, .c (.bool true), .r 34], none, [29, 34]⟩])
 (.cond (.r 35)
 (.kl [3, 4, 35] (.seq (.reg [⟨some 2, .mv, [.c (.bool false)], none, []⟩])
 .ret))
 (.kl [35] .skip))))
 (.reg [⟨some 22, .mv, [.r 4], none, [4]⟩,
 ⟨some 23, (.bin .add), [.r 22, .c (.int .i64 1)], none, [22]⟩,
 ⟨some 4, .mv, [.r 23], none, [23]⟩])))
def c14 : SC :=
 (.seq (.reg [⟨some 1, .box, [.r 0], none, [0]⟩,
 ⟨some 2, .mv, [.c (.bool false)], none, []⟩])
 (.seq (.reg [⟨some 5, (.faddr 0), [.r 1], none, [2]⟩,
 ⟨some 6, .ld1, [.r 5], none, [5]⟩,
 ⟨some 7, (.faddr 1), [.r 1], none, []⟩,
 ⟨some 8, .ld1, [.r 7], none, [7]⟩,
 ⟨some 9, (.faddr 2), [.r 1], none, []⟩,
 ⟨some 10, .ld1, [.r 9], none, [9]⟩,
 ⟨some 11, (.faddr 3), [.r 1], none, []⟩,
 ⟨some 12, .ld1, [.r 11], none, [11]⟩,
 ⟨some 13, (.faddr 4), [.r 1], none, []⟩,
 ⟨some 14, .ld1, [.r 13], none, [13]⟩,
 ⟨some 15, (.faddr 5), [.r 1], none, [1]⟩,
 ⟨some 16, .ld1, [.r 15], none, [15]⟩,
 ⟨some 17, (.bslice 1 6 [(.int .i64 0), (.int .i64 0), (.int .i64 0), (.int .i64 0), (.int .i64 0), (.int .i64 0)] [(0, 1), (1, 1), (2, 1), (3, 1), (4, 1), (5, 1)]), [.r 6, .r 8, .r 10, .r 12, .r 14, .r 16], none, [6, 8, 10, 12, 14, 16]⟩,
 ⟨some 3, .mv, [.r 17], none, [17]⟩])
 (.seq (.seq (.reg [⟨some 4, .mv, [.c (.int .i64 0)], none, []⟩])
 (.block 0 (.loop c14l0)))
 (.seq (.reg [⟨some 2, .mv, [.c (.bool true)], none, []⟩])
 .ret))))
def rs14 : List SR := [.tmp 2]
theorem acall14 (hn : args.length ≤ 36) (h : ac Try.prog c14 (argEnv 0 args) H (Fin H rs14 v H')) : ACall Try.prog 14 args H v H' :=
 acall Try.func14 (c := Try.f14.body.getD .skip) rfl (by kernel_rfl) (by kernel_rfl) hn h
def c15l0 : SC :=
 (.seq (.seq (.reg [⟨some 16, .mv, [.r 6], none, []⟩,
 ⟨some 17, (.bin .lss), [.r 16, .c (.int .i64 3)], none, [16]⟩])
 (.cond (.r 17)
 (.kl [17] .skip)
 (.kl [6, 17] (.exit 0))))
 (.seq (.block 1 (.seq (.reg [⟨some 21, (.bslice 1 3 [(.int .i64 0), (.int .i64 0), (.int .i64 0)] [(0, 1), (1, 1), (2, 1)]), [.c (.int .i64 0), .c (.int .i64 0), .c (.int .i64 0)], none, []⟩,
 ⟨some 22, (.bslice 1 3 [(.int .i64 0), (.int .i64 0), (.int .i64 0)] [(0, 1), (1, 1), (2, 1)]), [.c (.int .i64 1677721600), .c (.int .i64 167772160), .c (.int .i64 16777216)], none, []⟩,
 ⟨some 23, (.call 30), [.r 21, .r 22], none, [21, 22]⟩,
 ⟨some 20, .mv, [.r 23], none, [23]⟩,
 ⟨some 24, (.ext 0), [.r 20], none, []⟩,
 ⟨some 25, (.ext 1), [.r 20], none, [20]⟩,
 ⟨some 7, (.alloc [(.int .i64 0), (.int .i64 0), .nils, (.int .i64 0), (.int .i64 0), .nils]), [], none, []⟩,
 ⟨none, (.st 6), [.r 7, .r 24], none, [24]⟩,
 ⟨some 8, .mv, [.r 25], none, [25]⟩])
 (.reg [⟨some 26, .mv, [.r 6], none, [8]⟩,
 ⟨some 27, (.ldn 6), [.r 7], none, [7]⟩,
 ⟨some 28, (.faddr 4), [.r 5], none, []⟩,
 ⟨some 29, (.iaddrA 6 3), [.r 28, .r 26], none, [26, 28]⟩,
 ⟨none, (.st 6), [.r 29, .r 27], none, [27, 29]⟩])))
 (.reg [⟨some 18, .mv, [.r 6], none, [6]⟩,
 ⟨some 19, (.bin .add), [.r 18, .c (.int .i64 1)], none, [18]⟩,
 ⟨some 6, .mv, [.r 19], none, [19]⟩])))
def c15 : SC :=
 (.seq (.reg [⟨some 1, .box, [.r 0], none, [0]⟩,
 ⟨some 2, (.alloc [(.int .i64 0), (.int .i64 0), (.int .i64 0), (.int .i64 0), (.int .i64 0), (.int .i64 0), .nils, (.int .i64 0), (.int .i64 0), .nils, (.int .i64 0), (.int .i64 0), .nils, (.int .i64 0), (.int .i64 0), .nils, (.int .i64 0), (.int .i64 0), .nils, (.int .i64 0), (.int .i64 0), .nils, (.int .i64 0), (.int .i64 0), (.int .i64 0), (.int .i64 0), (.int .i64 0), (.int .i64 0), (.bool false)]), [], none, []⟩,
 ⟨some 3, .mv, [.c (.int .i64 0)], none, []⟩])
 (.seq (.reg [⟨some 9, (.ldn 6), [.r 1], none, [1, 3]⟩,
 ⟨some 10, (.call 14), [.r 9], none, [9]⟩,
 ⟨some 4, .mv, [.r 10], none, [10]⟩])
 (.seq (.seq (.reg [⟨some 11, .mv, [.r 4], none, [4]⟩,
 ⟨some 12, (.un .not), [.r 11], none, [11]⟩])
 (.cond (.r 12)
 (.kl [12] (.seq (.reg [⟨some 13, (.build [(.int .i64 0), (.int .i64 0), (.int .i64 0), (.int .i64 0), (.int .i64 0), (.int .i64 0), .nils, (.int .i64 0), (.int .i64 0), .nils, (.int .i64 0), (.int .i64 0), .nils, (.int .i64 0), (.int .i64 0), .nils, (.int .i64 0), (.int .i64 0), .nils, (.int .i64 0), (.int .i64 0), .nils, (.int .i64 0), (.int .i64 0), (.int .i64 0), (.int .i64 0), (.int .i64 0), (.int .i64 0), (.bool false)] []), [], none, []⟩,
 ⟨none, (.st 29), [.r 2, .r 13], none, [13]⟩,
 ⟨some 3, .mv, [.c (.int .i64 1)], none, []⟩])
 .ret))
 (.kl [12] .skip)))
 (.seq (.reg [⟨some 14, (.build [(.int .i64 0), (.int .i64 0), (.int .i64 0), (.int .i64 0)] [(0, 1), (1, 1), (2, 1), (3, 1)]), [.c (.int .i64 16777216), .c (.int .i64 0), .c (.int .i64 0), .c (.int .i64 0)], none, []⟩,
 ⟨some 15, (.build [(.int .i64 0), (.int .i64 0), (.int .i64 0), (.int .i64 0), (.int .i64 0), (.int .i64 0), .nils, (.int .i64 0), (.int .i64 0), .nils, (.int .i64 0), (.int .i64 0), .nils, (.int .i64 0), (.int .i64 0), .nils, (.int .i64 0), (.int .i64 0), .nils, (.int .i64 0), (.int .i64 0), .nils, (.int .i64 0), (.int .i64 0), (.int .i64 0), (.int .i64 0), (.int .i64 0), (.int .i64 0), (.bool false)] [(0, 4)]), [.r 14], none, [14]⟩,
 ⟨some 5, (.alloc [(.int .i64 0), (.int .i64 0), (.int .i64 0), (.int .i64 0), (.int .i64 0), (.int .i64 0), .nils, (.int .i64 0), (.int .i64 0), .nils, (.int .i64 0), (.int .i64 0), .nils, (.int .i64 0), (.int .i64 0), .nils, (.int .i64 0), (.int .i64 0), .nils, (.int .i64 0), (.int .i64 0), .nils, (.int .i64 0), (.int .i64 0), (.int .i64 0), (.int .i64 0), (.int .i64 0), (.int .i64 0), (.bool false)]), [], none, []⟩,
 ⟨none, (.st 29), [.r 5, .r 15], none, [15]⟩])
 (.seq (.seq (.reg [⟨some 6, .mv, [.c (.int .i64 0)], none, []⟩])
 (.block 0 (.loop c15l0)))
 (.seq (.reg [⟨some 30, (.ldn 29), [.r 5], none, [5]⟩,
 ⟨none, (.st 29), [.r 2, .r 30], none, [30]⟩,
 ⟨some 3, .mv, [.c (.int .i64 0)], none, []⟩])
 .ret))))))
def rs15 : List SR := [.celln 2 29, .tmp 3]
theorem acallK15 (hn : args.length ≤ 31) (h : ac Try.prog c15 (argEnv 0 args) H (FinK rs15 v H')) : ACall Try.prog 15 args H v H' :=
 acallK Try.func15 (c := Try.f15.body.getD .skip) rfl (by kernel_rfl) (by kernel_rfl) hn h
def c16 : SC :=
 (.seq (.reg [⟨some 2, .box, [.r 0], none, [0]⟩,
 ⟨some 3, .box, [.r 1], none, [1]⟩,
 ⟨some 4, .mv, [.c .nils], none, []⟩,
 ⟨some 5, .mv, [.c (.int .i64 0)], none, [4]⟩,
 ⟨some 6, .mv, [.c (.int .i64 0)], none, [5]⟩])
 (.seq (.reg [⟨some 12, (.ldn 6), [.r 2], none, [2, 6]⟩,
 ⟨some 13, (.call 31), [.r 12], none, [12]⟩,
 ⟨some 11, .mv, [.r 13], none, [13]⟩,
 ⟨some 14, (.ext 0), [.r 11], none, []⟩,
 ⟨some 15, (.ext 1), [.r 11], none, [11]⟩,
 ⟨some 7, .mv, [.r 14], none, [14]⟩,
 ⟨some 8, .mv, [.r 15], none, [15]⟩])
 (.seq (.seq (.reg [⟨some 16, .mv, [.r 8], none, [8]⟩,
 ⟨some 17, (.bin .neq), [.r 16, .c (.int .i64 0)], none, [16]⟩,
 ⟨some 18, .mv, [.r 17], none, [17]⟩,
 ⟨some 19, (.ldn 29), [.r 3], (some (18, false)), []⟩,
 ⟨some 20, (.call 32), [.r 19], (some (18, false)), [19]⟩,
 ⟨some 21, (.un .not), [.r 20], (some (18, false)), [20]⟩,
 ⟨some 22, .pick, [.r 18, .c (.bool true), .r 21], none, [18, 21]⟩])
 (.cond (.r 22)
 (.kl [3, 7, 22] (.seq (.reg [⟨some 4, .mv, [.c .nils], none, []⟩,
 ⟨some 5, .mv, [.c (.int .i64 0)], none, []⟩,
 ⟨some 6, .mv, [.c (.int .i64 1)], none, []⟩])
 .ret))
 (.kl [22] .skip)))
 (.seq (.reg [⟨some 24, .mv, [.r 7], none, [7]⟩,
 ⟨some 25, (.ldn 29), [.r 3], none, [3]⟩,
 ⟨some 26, (.call 34), [.r 25], none, [25]⟩,
 ⟨some 27, (.call 33), [.r 24, .r 26], none, [24, 26]⟩,
 ⟨some 23, .mv, [.r 27], none, [27]⟩,
 ⟨some 28, (.ext 0), [.r 23], none, []⟩,
 ⟨some 29, (.ext 1), [.r 23], none, [23]⟩,
 ⟨some 9, .mv, [.r 28], none, [28]⟩,
 ⟨some 10, .mv, [.r 29], none, [29]⟩])
 (.seq (.reg [⟨some 30, .mv, [.r 9], none, [10]⟩,
 ⟨some 31, (.call 35), [.r 30], none, [30]⟩,
 ⟨some 32, .mv, [.r 9], none, [9]⟩,
 ⟨some 33, .len, [.r 32], none, [32]⟩,
 ⟨some 4, .mv, [.r 31], none, [31]⟩,
 ⟨some 5, .mv, [.r 33], none, [33]⟩,
 ⟨some 6, .mv, [.c (.int .i64 0)], none, []⟩])
 .ret)))))
def rs16 : List SR := [.tmp 4, .tmp 5, .tmp 6]
theorem acallK16 (hn : args.length ≤ 34) (h : ac Try.prog c16 (argEnv 0 args) H (FinK rs16 v H')) : ACall Try.prog 16 args H v H' :=
 acallK Try.func16 (c := Try.f16.body.getD .skip) rfl (by kernel_rfl) (by kernel_rfl) hn h
def c17 : SC :=
 (.seq (.reg [⟨some 1, .box, [.r 0], none, [0]⟩,
 ⟨some 2, .mv, [.c (.bool false)], none, []⟩])
 (.seq (.reg [⟨some 3, .mv, [.c (.fn (.func 36) [] [])], none, [2]⟩])
 (.seq (.reg [⟨some 4, (.faddr 0), [.r 1], none, []⟩,
 ⟨some 5, .ld1, [.r 4], none, [4]⟩,
 ⟨some 6, (.faddr 1), [.r 1], none, []⟩,
 ⟨some 7, .ld1, [.r 6], none, [6]⟩,
 ⟨some 8, (.faddr 2), [.r 1], none, []⟩,
 ⟨some 9, .ld1, [.r 8], none, [8]⟩,
 ⟨some 10, (.bslice 1 3 [(.int .i64 0), (.int .i64 0), (.int .i64 0)] [(0, 1), (1, 1), (2, 1)]), [.r 5, .r 7, .r 9], none, [5, 7, 9]⟩,
 ⟨some 11, .mv, [.r 3], none, [3]⟩,
 ⟨some 12, (.call 37), [.r 10, .r 11], none, [10, 11]⟩,
 ⟨some 13, (.un .not), [.r 12], none, [12]⟩,
 ⟨some 14, .mv, [.r 13], none, [13]⟩,
 ⟨some 15, (.faddr 3), [.r 1], (some (14, true)), []⟩,
 ⟨some 16, .ld1, [.r 15], (some (14, true)), [15]⟩,
 ⟨some 17, (.bin .geq), [.r 16, .c (.int .i64 1)], (some (14, true)), [16]⟩,
 ⟨some 18, .pick, [.r 14, .r 17, .c (.bool false)], none, [14, 17]⟩,
 ⟨some 19, .mv, [.r 18], none, [18]⟩,
 ⟨some 20, (.faddr 3), [.r 1], (some (19, true)), [1]⟩,
 ⟨some 21, .ld1, [.r 20], (some (19, true)), [20]⟩,
 ⟨some 22, (.bin .leq), [.r 21, .c (.int .i64 39)], (some (19, true)), [21]⟩,
 ⟨some 23, .pick, [.r 19, .r 22, .c (.bool false)], none, [19, 22]⟩,
 ⟨some 2, .mv, [.r 23], none, [23]⟩])
 .ret)))
def rs17 : List SR := [.tmp 2]
theorem acall17 (hn : args.length ≤ 24) (h : ac Try.prog c17 (argEnv 0 args) H (Fin H rs17 v H')) : ACall Try.prog 17 args H v H' :=
 acall Try.func17 (c := Try.f17.body.getD .skip) rfl (by kernel_rfl) (by kernel_rfl) hn h
def c18 : SC :=
 (.seq (.reg [⟨some 4, .box, [.r 0], none, [0]⟩,
 ⟨some 5, .box, [.r 1], none, [1]⟩,
 ⟨some 7, .box, [.r 3], none, [3]⟩,
 ⟨some 8, (.alloc [(.int .i64 0), (.int .i64 0), (.int .i64 0), (.int .i64 0), (.bool false), (.bool false), (.bool false), (.bool false), (.bool false), (.int .i64 0), (.int .i64 0), (.int .i64 0), (.int .i64 0), (.int .i64 0), (.int .i64 0), (.int .i64 0), (.int .i64 0), (.int .i64 0), (.int .i64 0), (.int .i64 0), (.int .i64 0), (.int .i64 0), (.int .i64 0), (.int .i64 0), (.int .i64 0), (.int .i64 0), (.int .i64 0), (.int .i64 0), (.int .i64 0), (.int .i64 0), (.int .i64 0), (.int .i64 0), (.int .i64 0), (.int .i64 0), (.int .i64 0), (.int .i64 0), (.int .i64 0), (.int .i64 0), (.int .i64 0), (.int .i64 0), (.int .i64 0), (.int .i64 0), (.int .i64 0), (.int .i64 0), (.int .i64 0), (.int .i64 0), (.int .i64 0), (.int .i64 0), (.int .i64 0)]), [], none, []⟩])
 (.seq (.block 0 (.seq (.reg [⟨some 10, (.ldn 4), [.r 5], none, []⟩,
 ⟨some 11, (.call 17), [.r 10], none, [10]⟩,
 ⟨some 12, (.un .not), [.r 11], none, [11]⟩,
 ⟨some 13, .mv, [.r 12], none, [12]⟩,
 ⟨some 14, .mv, [.r 2], (some (13, false)), []⟩,
 ⟨some 15, (.bin .lss), [.r 14, .c (.int .i64 0)], (some (13, false)), [14]⟩,
 ⟨some 16, .pick, [.r 13, .c (.bool true), .r 15], none, [13, 15]⟩,
 ⟨some 17, .mv, [.r 16], none, [16]⟩,
 ⟨some 18, .mv, [.r 2], (some (17, false)), []⟩,
 ⟨some 19, (.ldn 4), [.r 5], (some (17, false)), []⟩,
 ⟨some 20, (.call 38), [.r 19], (some (17, false)), [19]⟩,
 ⟨some 21, (.bin .geq), [.r 18, .r 20], (some (17, false)), [18, 20]⟩,
 ⟨some 22, .pick, [.r 17, .c (.bool true), .r 21], none, [17, 21]⟩,
 ⟨some 9, .mv, [.r 22], none, [22]⟩])
 (.cond (.r 9)
 (.kl [2, 5, 7, 9] (.seq (.reg [⟨some 23, (.ldn 49), [.r 4], none, [4]⟩,
 ⟨none, (.st 49), [.r 8, .r 23], none, [23]⟩])
 .ret))
 (.kl [9] (.seq (.reg [⟨some 25, (.ldn 4), [.r 5], none, []⟩,
 ⟨some 26, (.faddr 0), [.r 4], none, []⟩,
 ⟨some 27, (.ldn 4), [.r 26], none, [26]⟩,
 ⟨some 28, (.eqv true [.int, .int, .int, .int]), [.r 25, .r 27], none, [25, 27]⟩,
 ⟨some 29, .mv, [.r 28], none, [28]⟩,
 ⟨some 30, (.faddr 0), [.r 5], (some (29, true)), []⟩,
 ⟨some 31, .ld1, [.r 30], (some (29, true)), [30]⟩,
 ⟨some 32, (.faddr 0), [.r 4], (some (29, true)), []⟩,
 ⟨some 33, (.faddr 0), [.r 32], (some (29, true)), [32]⟩,
 ⟨some 34, .ld1, [.r 33], (some (29, true)), [33]⟩,
 ⟨some 35, (.bin .eql), [.r 31, .r 34], (some (29, true)), [31, 34]⟩,
 ⟨some 36, .pick, [.r 29, .r 35, .c (.bool false)], none, [29, 35]⟩,
 ⟨some 37, .mv, [.r 36], none, [36]⟩,
 ⟨some 38, (.faddr 1), [.r 5], (some (37, true)), []⟩,
 ⟨some 39, .ld1, [.r 38], (some (37, true)), [38]⟩,
 ⟨some 40, (.faddr 0), [.r 4], (some (37, true)), []⟩,
 ⟨some 41, (.faddr 1), [.r 40], (some (37, true)), [40]⟩,
 ⟨some 42, .ld1, [.r 41], (some (37, true)), [41]⟩,
 ⟨some 43, (.bin .eql), [.r 39, .r 42], (some (37, true)), [39, 42]⟩,
 ⟨some 44, .pick, [.r 37, .r 43, .c (.bool false)], none, [37, 43]⟩,
 ⟨some 45, .mv, [.r 44], none, [44]⟩,
 ⟨some 46, (.faddr 2), [.r 5], (some (45, true)), []⟩,
 ⟨some 47, .ld1, [.r 46], (some (45, true)), [46]⟩,
 ⟨some 48, (.faddr 0), [.r 4], (some (45, true)), []⟩,
 ⟨some 49, (.faddr 2), [.r 48], (some (45, true)), [48]⟩,
 ⟨some 50, .ld1, [.r 49], (some (45, true)), [49]⟩,
 ⟨some 51, (.bin .lss), [.r 47, .r 50], (some (45, true)), [47, 50]⟩,
 ⟨some 52, .pick, [.r 45, .r 51, .c (.bool false)], none, [45, 51]⟩,
 ⟨some 24, .mv, [.r 52], none, [52]⟩])
 (.cond (.r 24)
 (.kl [2, 5, 7, 24] (.seq (.reg [⟨some 53, (.ldn 49), [.r 4], none, [4]⟩,
 ⟨none, (.st 49), [.r 8, .r 53], none, [53]⟩])
 .ret))
 (.kl [24] (.seq (.reg [⟨some 55, (.ldn 4), [.r 5], none, []⟩,
 ⟨some 56, (.faddr 0), [.r 4], none, []⟩,
 ⟨some 57, (.ldn 4), [.r 56], none, [56]⟩,
 ⟨some 58, (.eqv true [.int, .int, .int, .int]), [.r 55, .r 57], none, [55, 57]⟩,
 ⟨some 54, .mv, [.r 58], none, [58]⟩])
 (.cond (.r 54)
 (.kl [54] (.reg [⟨some 59, (.ldn 4), [.r 5], none, [5]⟩,
 ⟨some 60, (.build [(.int .i64 0), (.int .i64 0), (.int .i64 0), (.int .i64 0), (.bool false), (.bool false), (.bool false), (.bool false), (.bool false), (.int .i64 0), (.int .i64 0), (.int .i64 0), (.int .i64 0), (.int .i64 0), (.int .i64 0), (.int .i64 0), (.int .i64 0), (.int .i64 0), (.int .i64 0), (.int .i64 0), (.int .i64 0), (.int .i64 0), (.int .i64 0), (.int .i64 0), (.int .i64 0), (.int .i64 0), (.int .i64 0), (.int .i64 0), (.int .i64 0), (.int .i64 0), (.int .i64 0), (.int .i64 0), (.int .i64 0), (.int .i64 0), (.int .i64 0), (.int .i64 0), (.int .i64 0), (.int .i64 0), (.int .i64 0), (.int .i64 0), (.int .i64 0), (.int .i64 0), (.int .i64 0), (.int .i64 0), (.int .i64 0), (.int .i64 0), (.int .i64 0), (.int .i64 0), (.int .i64 0)] [(0, 4)]), [.r 59], none, [59]⟩,
 ⟨none, (.st 49), [.r 4, .r 60], none, [60]⟩]))
 (.kl [5, 54] .skip))))))))))
 (.seq (.dreg [⟨0, 0, false, false, ⟨some 61, .mv, [.r 2], none, []⟩, []⟩,
 ⟨1, 0, false, false, ⟨some 62, .mv, [.r 2], none, [2]⟩, []⟩,
 ⟨2, 0, false, false, ⟨some 63, (.ldn 8), [.r 7], none, []⟩, []⟩,
 ⟨3, 0, false, false, ⟨some 64, (.faddr 4), [.r 4], none, []⟩, []⟩,
 ⟨4, 9, false, false, ⟨some 65, (.iaddrA 1 5), [.r 64, .r 61], none, [61, 64]⟩, []⟩,
 ⟨5, 25, false, false, ⟨none, (.st 1), [.r 65, .c (.bool true)], none, [7, 65]⟩, [7]⟩,
 ⟨6, 0, false, false, ⟨some 66, (.faddr 9), [.r 4], none, []⟩, []⟩,
 ⟨7, 127, false, false, ⟨some 67, (.iaddrA 8 5), [.r 66, .r 62], none, [62, 66]⟩, []⟩,
 ⟨8, 255, false, false, ⟨none, (.st 8), [.r 67, .r 63], none, [63, 67]⟩, []⟩])
 (.seq (.reg [⟨some 68, (.ldn 49), [.r 4], none, [4]⟩,
 ⟨none, (.st 49), [.r 8, .r 68], none, [68]⟩])
 .ret))))
def rs18 : List SR := [.celln 8 49]
theorem acall18 (hn : args.length ≤ 69) (h : ac Try.prog c18 (argEnv 0 args) H (Fin H rs18 v H')) : ACall Try.prog 18 args H v H' :=
 acall Try.func18 (c := Try.f18.body.getD .skip) rfl (by kernel_rfl) (by kernel_rfl) hn h
def c19 : SC :=
 (.seq (.reg [⟨some 1, .box, [.r 0], none, [0]⟩,
 ⟨some 2, .mv, [.c (.bool false)], none, []⟩])
 (.seq (.reg [⟨some 3, (.faddr 0), [.r 1], none, [2]⟩,
 ⟨some 4, .ld1, [.r 3], none, [3]⟩,
 ⟨some 5, (.bin .geq), [.r 4, .c (.int .i64 0)], none, [4]⟩,
 ⟨some 6, .mv, [.r 5], none, [5]⟩,
 ⟨some 7, (.faddr 0), [.r 1], (some (6, true)), []⟩,
 ⟨some 8, .ld1, [.r 7], (some (6, true)), [7]⟩,
 ⟨some 9, (.bin .leq), [.r 8, .c (.int .i64 4611686018427387904)], (some (6, true)), [8]⟩,
 ⟨some 10, .pick, [.r 6, .r 9, .c (.bool false)], none, [6, 9]⟩,
 ⟨some 11, .mv, [.r 10], none, [10]⟩,
 ⟨some 12, (.faddr 1), [.r 1], (some (11, true)), []⟩,
 ⟨some 13, .ld1, [.r 12], (some (11, true)), [12]⟩,
 ⟨some 14, (.bin .geq), [.r 13, .c (.int .i64 0)], (some (11, true)), [13]⟩,
 ⟨some 15, .pick, [.r 11, .r 14, .c (.bool false)], none, [11, 14]⟩,
 ⟨some 16, .mv, [.r 15], none, [15]⟩,
 ⟨some 17, (.faddr 1), [.r 1], (some (16, true)), []⟩,
 ⟨some 18, .ld1, [.r 17], (some (16, true)), [17]⟩,
 ⟨some 19, (.bin .leq), [.r 18, .c (.int .i64 4611686018427387904)], (some (16, true)), [18]⟩,
 ⟨some 20, .pick, [.r 16, .r 19, .c (.bool false)], none, [16, 19]⟩,
 ⟨some 21, .mv, [.r 20], none, [20]⟩,
 ⟨some 22, (.faddr 2), [.r 1], (some (21, true)), []⟩,
 ⟨some 23, .ld1, [.r 22], (some (21, true)), [22]⟩,
 ⟨some 24, (.bin .geq), [.r 23, .c (.int .i64 0)], (some (21, true)), [23]⟩,
 ⟨some 25, .pick, [.r 21, .r 24, .c (.bool false)], none, [21, 24]⟩,
 ⟨some 26, .mv, [.r 25], none, [25]⟩,
 ⟨some 27, (.faddr 2), [.r 1], (some (26, true)), []⟩,
 ⟨some 28, .ld1, [.r 27], (some (26, true)), [27]⟩,
 ⟨some 29, (.bin .leq), [.r 28, .c (.int .i64 4611686018427387904)], (some (26, true)), [28]⟩,
 ⟨some 30, .pick, [.r 26, .r 29, .c (.bool false)], none, [26, 29]⟩,
 ⟨some 31, .mv, [.r 30], none, [30]⟩,
 ⟨some 32, (.faddr 3), [.r 1], (some (31, true)), []⟩,
 ⟨some 33, .ld1, [.r 32], (some (31, true)), [32]⟩,
 ⟨some 34, (.bin .geq), [.r 33, .c (.int .i64 1)], (some (31, true)), [33]⟩,
 ⟨some 35, .pick, [.r 31, .r 34, .c (.bool false)], none, [31, 34]⟩,
 ⟨some 36, .mv, [.r 35], none, [35]⟩,
 ⟨some 37, (.faddr 3), [.r 1], (some (36, true)), [1]⟩,
 ⟨some 38, .ld1, [.r 37], (some (36, true)), [37]⟩,
 ⟨some 39, (.bin .leq), [.r 38, .c (.int .i64 39)], (some (36, true)), [38]⟩,
 ⟨some 40, .pick, [.r 36, .r 39, .c (.bool false)], none, [36, 39]⟩,
 ⟨some 2, .mv, [.r 40], none, [40]⟩])
 .ret))
def rs19 : List SR := [.tmp 2]
theorem acall19 (hn : args.length ≤ 41) (h : ac Try.prog c19 (argEnv 0 args) H (Fin H rs19 v H')) : ACall Try.prog 19 args H v H' :=
 acall Try.func19 (c := Try.f19.body.getD .skip) rfl (by kernel_rfl) (by kernel_rfl) hn h
def c20 : SC :=
 (.seq (.reg [⟨some 2, .box, [.r 0], none, [0]⟩,
 ⟨some 3, .box, [.r 1], none, [1]⟩,
 ⟨some 4, .mv, [.c .nils], none, []⟩,
 ⟨some 5, .mv, [.c (.int .i64 0)], none, [4]⟩,
 ⟨some 6, .mv, [.c (.int .i64 0)], none, [5]⟩])
 (.seq (.reg [⟨some 13, (.ldn 6), [.r 2], none, [2, 6]⟩,
 ⟨some 14, (.call 15), [.r 13], none, [13]⟩,
 ⟨some 12, .mv, [.r 14], none, [14]⟩,
 ⟨some 15, (.ext 0), [.r 12], none, []⟩,
 ⟨some 16, (.ext 1), [.r 12], none, [12]⟩,
 ⟨some 7, (.alloc [(.int .i64 0), (.int .i64 0), (.int .i64 0), (.int .i64 0), (.int .i64 0), (.int .i64 0), .nils, (.int .i64 0), (.int .i64 0), .nils, (.int .i64 0), (.int .i64 0), .nils, (.int .i64 0), (.int .i64 0), .nils, (.int .i64 0), (.int .i64 0), .nils, (.int .i64 0), (.int .i64 0), .nils, (.int .i64 0), (.int .i64 0), (.int .i64 0), (.int .i64 0), (.int .i64 0), (.int .i64 0), (.bool false)]), [], none, []⟩,
 ⟨none, (.st 29), [.r 7, .r 15], none, [15]⟩,
 ⟨some 8, .mv, [.r 16], none, [16]⟩])
 (.seq (.reg [⟨some 17, (.ldn 29), [.r 3], none, []⟩,
 ⟨some 18, (.call 11), [.r 17], none, [17]⟩,
 ⟨some 9, .mv, [.r 18], none, [18]⟩])
 (.seq (.seq (.reg [⟨some 19, .mv, [.r 8], none, [8]⟩,
 ⟨some 20, (.bin .neq), [.r 19, .c (.int .i64 0)], none, [19]⟩,
 ⟨some 21, .mv, [.r 20], none, [20]⟩,
 ⟨some 22, .mv, [.r 9], (some (21, false)), [9]⟩,
 ⟨some 23, (.un .not), [.r 22], (some (21, false)), [22]⟩,
 ⟨some 24, .pick, [.r 21, .c (.bool true), .r 23], none, [21, 23]⟩])
 (.cond (.r 24)
 (.kl [3, 7, 24] (.seq (.reg [⟨some 4, .mv, [.c .nils], none, []⟩,
 ⟨some 5, .mv, [.c (.int .i64 0)], none, []⟩,
 ⟨some 6, .mv, [.c (.int .i64 1)], none, []⟩])
 .ret))
 (.kl [24] .skip)))
 (.seq (.dreg [⟨0, 0, false, false, ⟨some 26, (.ldn 29), [.r 7], none, [7]⟩, []⟩,
 ⟨1, 1, true, false, ⟨some 27, (.call 40), [.r 26], none, [26]⟩, []⟩,
 ⟨2, 0, false, false, ⟨some 28, (.ldn 29), [.r 3], none, [3]⟩, []⟩,
 ⟨3, 7, false, false, ⟨some 29, (.call 40), [.r 28], none, [28]⟩, []⟩,
 ⟨4, 15, false, false, ⟨some 30, (.call 39), [.r 27, .r 29], none, [27, 29]⟩, []⟩,
 ⟨5, 31, false, false, ⟨some 25, .mv, [.r 30], none, [30]⟩, []⟩,
 ⟨6, 63, false, false, ⟨some 31, (.ext 0), [.r 25], none, []⟩, []⟩,
 ⟨7, 63, false, false, ⟨some 32, (.ext 1), [.r 25], none, [25]⟩, []⟩,
 ⟨8, 127, false, false, ⟨some 10, .mv, [.r 31], none, [31]⟩, []⟩,
 ⟨9, 511, false, false, ⟨some 11, .mv, [.r 32], none, [32]⟩, []⟩])
 (.seq (.reg [⟨some 33, .mv, [.r 10], none, [11]⟩,
 ⟨some 34, (.call 41), [.r 33], none, [33]⟩,
 ⟨some 35, .mv, [.r 10], none, [10]⟩,
 ⟨some 36, .len, [.r 35], none, [35]⟩,
 ⟨some 4, .mv, [.r 34], none, [34]⟩,
 ⟨some 5, .mv, [.r 36], none, [36]⟩,
 ⟨some 6, .mv, [.c (.int .i64 0)], none, []⟩])
 .ret))))))
def rs20 : List SR := [.tmp 4, .tmp 5, .tmp 6]
theorem acallK20 (hn : args.length ≤ 37) (h : ac Try.prog c20 (argEnv 0 args) H (FinK rs20 v H')) : ACall Try.prog 20 args H v H' :=
 acallK Try.func20 (c := Try.f20.body.getD .skip) rfl (by kernel_rfl) (by kernel_rfl) hn h
def c21 : SC :=
 (.seq (.reg [⟨some 2, .box, [.r 0], none, [0]⟩,
 ⟨some 3, .box, [.r 1], none, [1]⟩,
 ⟨some 4, (.alloc [(.int .i64 0), (.int .i64 0), (.int .i64 0), (.int .i64 0), (.int .i64 0), (.int .i64 0), .nils, (.int .i64 0), (.int .i64 0), .nils, (.int .i64 0), (.int .i64 0), .nils, (.int .i64 0), (.int .i64 0), .nils, (.int .i64 0), (.int .i64 0), .nils, (.int .i64 0), (.int .i64 0), .nils, (.int .i64 0), (.int .i64 0), (.int .i64 0), (.int .i64 0), (.int .i64 0), (.int .i64 0), (.bool false)]), [], none, []⟩,
 ⟨some 5, .mv, [.c (.bool false)], none, []⟩])
 (.seq (.reg [⟨some 13, (.ldn 6), [.r 2], none, [2, 5]⟩,
 ⟨some 14, (.call 31), [.r 13], none, [13]⟩,
 ⟨some 12, .mv, [.r 14], none, [14]⟩,
 ⟨some 15, (.ext 0), [.r 12], none, []⟩,
 ⟨some 16, (.ext 1), [.r 12], none, [12]⟩,
 ⟨some 6, .mv, [.r 15], none, [15]⟩,
 ⟨some 7, .mv, [.r 16], none, [16]⟩])
 (.seq (.seq (.reg [⟨some 17, .mv, [.r 7], none, [7]⟩,
 ⟨some 18, (.bin .neq), [.r 17, .c (.int .i64 0)], none, [17]⟩,
 ⟨some 19, .mv, [.r 18], none, [18]⟩,
 ⟨some 20, (.faddr 0), [.r 3], (some (19, false)), []⟩,
 ⟨some 21, (.ldn 4), [.r 20], (some (19, false)), [20]⟩,
 ⟨some 22, (.call 17), [.r 21], (some (19, false)), [21]⟩,
 ⟨some 23, (.un .not), [.r 22], (some (19, false)), [22]⟩,
 ⟨some 24, .pick, [.r 19, .c (.bool true), .r 23], none, [19, 23]⟩])
 (.cond (.r 24)
 (.kl [3, 6, 24] (.seq (.reg [⟨some 25, (.build [(.int .i64 0), (.int .i64 0), (.int .i64 0), (.int .i64 0), (.int .i64 0), (.int .i64 0), .nils, (.int .i64 0), (.int .i64 0), .nils, (.int .i64 0), (.int .i64 0), .nils, (.int .i64 0), (.int .i64 0), .nils, (.int .i64 0), (.int .i64 0), .nils, (.int .i64 0), (.int .i64 0), .nils, (.int .i64 0), (.int .i64 0), (.int .i64 0), (.int .i64 0), (.int .i64 0), (.int .i64 0), (.bool false)] []), [], none, []⟩,
 ⟨none, (.st 29), [.r 4, .r 25], none, [25]⟩,
 ⟨some 5, .mv, [.c (.bool false)], none, []⟩])
 .ret))
 (.kl [24] .skip)))
 (.seq (.reg [⟨some 26, (.faddr 0), [.r 3], none, []⟩,
 ⟨some 27, (.ldn 4), [.r 26], none, [26]⟩,
 ⟨some 28, (.call 38), [.r 27], none, [27]⟩,
 ⟨some 8, .mv, [.r 28], none, [28]⟩])
 (.seq (.seq (.reg [⟨some 29, (.faddr 4), [.r 3], none, []⟩,
 ⟨some 30, .mv, [.r 8], none, []⟩,
 ⟨some 31, (.aslice 1 5 false true false), [.r 29, .r 30], none, [29, 30]⟩,
 ⟨some 32, (.call 42), [.r 31, .c (.bool false)], none, [31]⟩])
 (.cond (.r 32)
 (.kl [3, 6, 8, 32] (.seq (.reg [⟨some 33, (.build [(.int .i64 0), (.int .i64 0), (.int .i64 0), (.int .i64 0), (.int .i64 0), (.int .i64 0), .nils, (.int .i64 0), (.int .i64 0), .nils, (.int .i64 0), (.int .i64 0), .nils, (.int .i64 0), (.int .i64 0), .nils, (.int .i64 0), (.int .i64 0), .nils, (.int .i64 0), (.int .i64 0), .nils, (.int .i64 0), (.int .i64 0), (.int .i64 0), (.int .i64 0), (.int .i64 0), (.int .i64 0), (.bool false)] []), [], none, []⟩,
 ⟨none, (.st 29), [.r 4, .r 33], none, [33]⟩,
 ⟨some 5, .mv, [.c (.bool false)], none, []⟩])
 .ret))
 (.kl [32] .skip)))
 (.seq (.dreg [⟨0, 0, false, false, ⟨some 35, (.faddr 9), [.r 3], none, []⟩, []⟩,
 ⟨1, 0, false, false, ⟨some 36, .mv, [.r 8], none, [8]⟩, []⟩,
 ⟨2, 3, true, false, ⟨some 37, (.aslice 8 5 false true false), [.r 35, .r 36], none, [35, 36]⟩, []⟩,
 ⟨3, 0, false, false, ⟨some 38, (.faddr 0), [.r 3], none, [3]⟩, []⟩,
 ⟨4, 8, false, false, ⟨some 39, (.faddr 3), [.r 38], none, [38]⟩, []⟩,
 ⟨5, 24, false, false, ⟨some 40, .ld1, [.r 39], none, [39]⟩, []⟩,
 ⟨6, 63, false, false, ⟨some 41, (.call 43), [.r 37, .r 40], none, [37, 40]⟩, []⟩,
 ⟨7, 127, false, false, ⟨some 34, .mv, [.r 41], none, [41]⟩, []⟩,
 ⟨8, 255, false, false, ⟨some 42, (.ext 0), [.r 34], none, []⟩, []⟩,
 ⟨9, 255, false, false, ⟨some 43, (.ext 1), [.r 34], none, [34]⟩, []⟩,
 ⟨10, 511, false, false, ⟨some 9, .mv, [.r 42], none, [42]⟩, []⟩,
 ⟨11, 2047, false, false, ⟨some 7, .mv, [.r 43], none, [43]⟩, []⟩])
 (.seq (.seq (.reg [⟨some 44, .mv, [.r 7], none, [7]⟩,
 ⟨some 45, (.bin .neq), [.r 44, .c (.int .i64 0)], none, [44]⟩])
 (.cond (.r 45)
 (.kl [6, 9, 45] (.seq (.reg [⟨some 46, (.build [(.int .i64 0), (.int .i64 0), (.int .i64 0), (.int .i64 0), (.int .i64 0), (.int .i64 0), .nils, (.int .i64 0), (.int .i64 0), .nils, (.int .i64 0), (.int .i64 0), .nils, (.int .i64 0), (.int .i64 0), .nils, (.int .i64 0), (.int .i64 0), .nils, (.int .i64 0), (.int .i64 0), .nils, (.int .i64 0), (.int .i64 0), (.int .i64 0), (.int .i64 0), (.int .i64 0), (.int .i64 0), (.bool false)] []), [], none, []⟩,
 ⟨none, (.st 29), [.r 4, .r 46], none, [46]⟩,
 ⟨some 5, .mv, [.c (.bool false)], none, []⟩])
 .ret))
 (.kl [45] .skip)))
 (.seq (.reg [⟨some 48, .mv, [.r 6], none, [6]⟩,
 ⟨some 49, .mv, [.r 9], none, [9]⟩,
 ⟨some 50, (.call 44), [.r 48, .r 49], none, [48, 49]⟩,
 ⟨some 47, .mv, [.r 50], none, [50]⟩,
 ⟨some 51, (.ext 0), [.r 47], none, []⟩,
 ⟨some 52, (.ext 1), [.r 47], none, [47]⟩,
 ⟨some 10, .mv, [.r 51], none, [51]⟩,
 ⟨some 7, .mv, [.r 52], none, [52]⟩])
 (.seq (.seq (.reg [⟨some 53, .mv, [.r 7], none, [7]⟩,
 ⟨some 54, (.bin .neq), [.r 53, .c (.int .i64 0)], none, [53]⟩])
 (.cond (.r 54)
 (.kl [10, 54] (.seq (.reg [⟨some 55, (.build [(.int .i64 0), (.int .i64 0), (.int .i64 0), (.int .i64 0), (.int .i64 0), (.int .i64 0), .nils, (.int .i64 0), (.int .i64 0), .nils, (.int .i64 0), (.int .i64 0), .nils, (.int .i64 0), (.int .i64 0), .nils, (.int .i64 0), (.int .i64 0), .nils, (.int .i64 0), (.int .i64 0), .nils, (.int .i64 0), (.int .i64 0), (.int .i64 0), (.int .i64 0), (.int .i64 0), (.int .i64 0), (.bool false)] []), [], none, []⟩,
 ⟨none, (.st 29), [.r 4, .r 55], none, [55]⟩,
 ⟨some 5, .mv, [.c (.bool false)], none, []⟩])
 .ret))
 (.kl [54] .skip)))
 (.seq (.reg [⟨some 57, .mv, [.r 10], none, [10]⟩,
 ⟨some 58, (.call 45), [.r 57], none, [57]⟩,
 ⟨some 56, .mv, [.r 58], none, [58]⟩,
 ⟨some 59, (.ext 0), [.r 56], none, []⟩,
 ⟨some 60, (.ext 1), [.r 56], none, [56]⟩,
 ⟨some 11, (.alloc [(.int .i64 0), (.int .i64 0), (.int .i64 0), (.int .i64 0), (.int .i64 0), (.int .i64 0), .nils, (.int .i64 0), (.int .i64 0), .nils, (.int .i64 0), (.int .i64 0), .nils, (.int .i64 0), (.int .i64 0), .nils, (.int .i64 0), (.int .i64 0), .nils, (.int .i64 0), (.int .i64 0), .nils, (.int .i64 0), (.int .i64 0), (.int .i64 0), (.int .i64 0), (.int .i64 0), (.int .i64 0), (.bool false)]), [], none, []⟩,
 ⟨none, (.st 29), [.r 11, .r 59], none, [59]⟩,
 ⟨some 7, .mv, [.r 60], none, [60]⟩])
 (.seq (.reg [⟨some 61, (.ldn 29), [.r 11], none, [11]⟩,
 ⟨some 62, .mv, [.r 7], none, [7]⟩,
 ⟨some 63, (.bin .eql), [.r 62, .c (.int .i64 0)], none, [62]⟩,
 ⟨none, (.st 29), [.r 4, .r 61], none, [61]⟩,
 ⟨some 5, .mv, [.r 63], none, [63]⟩])
 .ret)))))))))))
def rs21 : List SR := [.celln 4 29, .tmp 5]
theorem acallK21 (hn : args.length ≤ 64) (h : ac Try.prog c21 (argEnv 0 args) H (FinK rs21 v H')) : ACall Try.prog 21 args H v H' :=
 acallK Try.func21 (c := Try.f21.body.getD .skip) rfl (by kernel_rfl) (by kernel_rfl) hn h
def c22l0 : SC :=
 (.seq (.seq (.reg [⟨some 38, .mv, [.r 11], none, []⟩,
 ⟨some 39, .mv, [.r 9], none, []⟩,
 ⟨some 40, (.bin .lss), [.r 38, .r 39], none, [38, 39]⟩])
 (.cond (.r 40)
 (.kl [40] .skip)
 (.kl [9, 11, 40] (.exit 0))))
 (.seq (.block 1 (.seq (.seq (.reg [⟨some 43, .mv, [.r 11], none, []⟩,
 ⟨some 44, (.faddr 4), [.r 3], none, []⟩,
 ⟨some 45, (.iaddrA 1 5), [.r 44, .r 43], none, [43, 44]⟩,
 ⟨some 46, .ld1, [.r 45], none, [45]⟩,
 ⟨some 47, (.un .not), [.r 46], none, [46]⟩])
 (.cond (.r 47)
 (.kl [3, 6, 9, 10, 11, 47] (.seq (.reg [⟨some 48, (.build [(.int .i64 0), (.int .i64 0), (.int .i64 0), (.int .i64 0), (.int .i64 0), (.int .i64 0), .nils, (.int .i64 0), (.int .i64 0), .nils, (.int .i64 0), (.int .i64 0), .nils, (.int .i64 0), (.int .i64 0), .nils, (.int .i64 0), (.int .i64 0), .nils, (.int .i64 0), (.int .i64 0), .nils, (.int .i64 0), (.int .i64 0), (.int .i64 0), (.int .i64 0), (.int .i64 0), (.int .i64 0), (.bool false)] []), [], none, []⟩,
 ⟨none, (.st 29), [.r 4, .r 48], none, [48]⟩,
 ⟨some 5, .mv, [.c (.bool false)], none, []⟩])
 .ret))
 (.kl [47] .skip)))
 (.reg [⟨some 49, .mv, [.r 10], none, [10]⟩,
 ⟨some 50, .mv, [.r 11], none, []⟩,
 ⟨some 51, (.faddr 9), [.r 3], none, []⟩,
 ⟨some 52, (.iaddrA 8 5), [.r 51, .r 50], none, [50, 51]⟩,
 ⟨some 53, (.ldn 8), [.r 52], none, [52]⟩,
 ⟨some 54, (.bslice 8 1 [(.int .i64 0), (.int .i64 0), (.int .i64 0), (.int .i64 0), (.int .i64 0), (.int .i64 0), (.int .i64 0), (.int .i64 0)] [(0, 8)]), [.r 53], none, [53]⟩,
 ⟨some 55, (.app 8 64), [.r 49, .r 54], none, [49, 54]⟩,
 ⟨some 10, .mv, [.r 55], none, [55]⟩])))
 (.reg [⟨some 41, .mv, [.r 11], none, [11]⟩,
 ⟨some 42, (.bin .add), [.r 41, .c (.int .i64 1)], none, [41]⟩,
 ⟨some 11, .mv, [.r 42], none, [42]⟩])))
def c22 : SC :=
 (.seq (.reg [⟨some 2, .box, [.r 0], none, [0]⟩,
 ⟨some 3, .box, [.r 1], none, [1]⟩,
 ⟨some 4, (.alloc [(.int .i64 0), (.int .i64 0), (.int .i64 0), (.int .i64 0), (.int .i64 0), (.int .i64 0), .nils, (.int .i64 0), (.int .i64 0), .nils, (.int .i64 0), (.int .i64 0), .nils, (.int .i64 0), (.int .i64 0), .nils, (.int .i64 0), (.int .i64 0), .nils, (.int .i64 0), (.int .i64 0), .nils, (.int .i64 0), (.int .i64 0), (.int .i64 0), (.int .i64 0), (.int .i64 0), (.int .i64 0), (.bool false)]), [], none, []⟩,
 ⟨some 5, .mv, [.c (.bool false)], none, []⟩])
 (.seq (.reg [⟨some 19, (.ldn 6), [.r 2], none, [2, 5]⟩,
 ⟨some 20, (.call 15), [.r 19], none, [19]⟩,
 ⟨some 18, .mv, [.r 20], none, [20]⟩,
 ⟨some 21, (.ext 0), [.r 18], none, []⟩,
 ⟨some 22, (.ext 1), [.r 18], none, [18]⟩,
 ⟨some 6, (.alloc [(.int .i64 0), (.int .i64 0), (.int .i64 0), (.int .i64 0), (.int .i64 0), (.int .i64 0), .nils, (.int .i64 0), (.int .i64 0), .nils, (.int .i64 0), (.int .i64 0), .nils, (.int .i64 0), (.int .i64 0), .nils, (.int .i64 0), (.int .i64 0), .nils, (.int .i64 0), (.int .i64 0), .nils, (.int .i64 0), (.int .i64 0), (.int .i64 0), (.int .i64 0), (.int .i64 0), (.int .i64 0), (.bool false)]), [], none, []⟩,
 ⟨none, (.st 29), [.r 6, .r 21], none, [21]⟩,
 ⟨some 7, .mv, [.r 22], none, [22]⟩])
 (.seq (.reg [⟨some 23, (.faddr 0), [.r 3], none, []⟩,
 ⟨some 24, (.ldn 4), [.r 23], none, [23]⟩,
 ⟨some 25, (.call 19), [.r 24], none, [24]⟩,
 ⟨some 8, .mv, [.r 25], none, [25]⟩])
 (.seq (.seq (.reg [⟨some 26, .mv, [.r 7], none, [7]⟩,
 ⟨some 27, (.bin .neq), [.r 26, .c (.int .i64 0)], none, [26]⟩,
 ⟨some 28, .mv, [.r 27], none, [27]⟩,
 ⟨some 29, .mv, [.r 8], (some (28, false)), [8]⟩,
 ⟨some 30, (.un .not), [.r 29], (some (28, false)), [29]⟩,
 ⟨some 31, .pick, [.r 28, .c (.bool true), .r 30], none, [28, 30]⟩])
 (.cond (.r 31)
 (.kl [3, 6, 31] (.seq (.reg [⟨some 32, (.build [(.int .i64 0), (.int .i64 0), (.int .i64 0), (.int .i64 0), (.int .i64 0), (.int .i64 0), .nils, (.int .i64 0), (.int .i64 0), .nils, (.int .i64 0), (.int .i64 0), .nils, (.int .i64 0), (.int .i64 0), .nils, (.int .i64 0), (.int .i64 0), .nils, (.int .i64 0), (.int .i64 0), .nils, (.int .i64 0), (.int .i64 0), (.int .i64 0), (.int .i64 0), (.int .i64 0), (.int .i64 0), (.bool false)] []), [], none, []⟩,
 ⟨none, (.st 29), [.r 4, .r 32], none, [32]⟩,
 ⟨some 5, .mv, [.c (.bool false)], none, []⟩])
 .ret))
 (.kl [31] .skip)))
 (.seq (.reg [⟨some 33, (.faddr 0), [.r 3], none, []⟩,
 ⟨some 34, (.faddr 3), [.r 33], none, [33]⟩,
 ⟨some 35, .ld1, [.r 34], none, [34]⟩,
 ⟨some 36, (.bin .add), [.r 35, .c (.int .i64 7)], none, [35]⟩,
 ⟨some 37, (.bin .quo), [.r 36, .c (.int .i64 8)], none, [36]⟩,
 ⟨some 9, .mv, [.r 37], none, [37]⟩])
 (.seq (.reg [⟨some 10, .mv, [.c .nils], none, []⟩])
 (.seq (.seq (.reg [⟨some 11, .mv, [.c (.int .i64 0)], none, []⟩])
 (.block 0 (.loop c22l0)))
 (.seq (.reg [⟨some 57, .mv, [.r 10], none, [10]⟩,
 ⟨some 58, (.faddr 0), [.r 3], none, [3]⟩,
 ⟨some 59, (.faddr 3), [.r 58], none, [58]⟩,
 ⟨some 60, .ld1, [.r 59], none, [59]⟩,
 ⟨some 61, (.call 46), [.r 57, .r 60], none, [57, 60]⟩,
 ⟨some 56, .mv, [.r 61], none, [61]⟩,
 ⟨some 62, (.ext 0), [.r 56], none, []⟩,
 ⟨some 63, (.ext 1), [.r 56], none, [56]⟩,
 ⟨some 12, .mv, [.r 62], none, [62]⟩,
 ⟨some 13, .mv, [.r 63], none, [63]⟩])
 (.seq (.seq (.reg [⟨some 64, .mv, [.r 13], none, [13]⟩,
 ⟨some 65, (.bin .neq), [.r 64, .c (.int .i64 0)], none, [64]⟩])
 (.cond (.r 65)
 (.kl [6, 12, 65] (.seq (.reg [⟨some 66, (.build [(.int .i64 0), (.int .i64 0), (.int .i64 0), (.int .i64 0), (.int .i64 0), (.int .i64 0), .nils, (.int .i64 0), (.int .i64 0), .nils, (.int .i64 0), (.int .i64 0), .nils, (.int .i64 0), (.int .i64 0), .nils, (.int .i64 0), (.int .i64 0), .nils, (.int .i64 0), (.int .i64 0), .nils, (.int .i64 0), (.int .i64 0), (.int .i64 0), (.int .i64 0), (.int .i64 0), (.int .i64 0), (.bool false)] []), [], none, []⟩,
 ⟨none, (.st 29), [.r 4, .r 66], none, [66]⟩,
 ⟨some 5, .mv, [.c (.bool false)], none, []⟩])
 .ret))
 (.kl [65] .skip)))
 (.seq (.reg [⟨some 68, (.ldn 29), [.r 6], none, [6]⟩,
 ⟨some 69, (.call 40), [.r 68], none, [68]⟩,
 ⟨some 70, .mv, [.r 12], none, [12]⟩,
 ⟨some 71, (.call 47), [.r 69, .r 70], none, [69, 70]⟩,
 ⟨some 67, .mv, [.r 71], none, [71]⟩,
 ⟨some 72, (.ext 0), [.r 67], none, []⟩,
 ⟨some 73, (.ext 1), [.r 67], none, [67]⟩,
 ⟨some 14, .mv, [.r 72], none, [72]⟩,
 ⟨some 15, .mv, [.r 73], none, [73]⟩])
 (.seq (.seq (.reg [⟨some 74, .mv, [.r 15], none, [15]⟩,
 ⟨some 75, (.bin .neq), [.r 74, .c (.int .i64 0)], none, [74]⟩])
 (.cond (.r 75)
 (.kl [14, 75] (.seq (.reg [⟨some 76, (.build [(.int .i64 0), (.int .i64 0), (.int .i64 0), (.int .i64 0), (.int .i64 0), (.int .i64 0), .nils, (.int .i64 0), (.int .i64 0), .nils, (.int .i64 0), (.int .i64 0), .nils, (.int .i64 0), (.int .i64 0), .nils, (.int .i64 0), (.int .i64 0), .nils, (.int .i64 0), (.int .i64 0), .nils, (.int .i64 0), (.int .i64 0), (.int .i64 0), (.int .i64 0), (.int .i64 0), (.int .i64 0), (.bool false)] []), [], none, []⟩,
 ⟨none, (.st 29), [.r 4, .r 76], none, [76]⟩,
 ⟨some 5, .mv, [.c (.bool false)], none, []⟩])
 .ret))
 (.kl [75] .skip)))
 (.seq (.reg [⟨some 78, .mv, [.r 14], none, [14]⟩,
 ⟨some 79, (.call 48), [.r 78], none, [78]⟩,
 ⟨some 77, .mv, [.r 79], none, [79]⟩,
 ⟨some 80, (.ext 0), [.r 77], none, []⟩,
 ⟨some 81, (.ext 1), [.r 77], none, [77]⟩,
 ⟨some 16, (.alloc [(.int .i64 0), (.int .i64 0), (.int .i64 0), (.int .i64 0), (.int .i64 0), (.int .i64 0), .nils, (.int .i64 0), (.int .i64 0), .nils, (.int .i64 0), (.int .i64 0), .nils, (.int .i64 0), (.int .i64 0), .nils, (.int .i64 0), (.int .i64 0), .nils, (.int .i64 0), (.int .i64 0), .nils, (.int .i64 0), (.int .i64 0), (.int .i64 0), (.int .i64 0), (.int .i64 0), (.int .i64 0), (.bool false)]), [], none, []⟩,
 ⟨none, (.st 29), [.r 16, .r 80], none, [80]⟩,
 ⟨some 17, .mv, [.r 81], none, [81]⟩])
 (.seq (.seq (.reg [⟨some 82, .mv, [.r 17], none, [17]⟩,
 ⟨some 83, (.bin .neq), [.r 82, .c (.int .i64 0)], none, [82]⟩])
 (.cond (.r 83)
 (.kl [16, 83] (.seq (.reg [⟨some 84, (.build [(.int .i64 0), (.int .i64 0), (.int .i64 0), (.int .i64 0), (.int .i64 0), (.int .i64 0), .nils, (.int .i64 0), (.int .i64 0), .nils, (.int .i64 0), (.int .i64 0), .nils, (.int .i64 0), (.int .i64 0), .nils, (.int .i64 0), (.int .i64 0), .nils, (.int .i64 0), (.int .i64 0), .nils, (.int .i64 0), (.int .i64 0), (.int .i64 0), (.int .i64 0), (.int .i64 0), (.int .i64 0), (.bool false)] []), [], none, []⟩,
 ⟨none, (.st 29), [.r 4, .r 84], none, [84]⟩,
 ⟨some 5, .mv, [.c (.bool false)], none, []⟩])
 .ret))
 (.kl [83] .skip)))
 (.seq (.reg [⟨some 85, (.ldn 29), [.r 16], none, [16]⟩,
 ⟨none, (.st 29), [.r 4, .r 85], none, [85]⟩,
 ⟨some 5, .mv, [.c (.bool true)], none, []⟩])
 .ret))))))))))))))
def rs22 : List SR := [.celln 4 29, .tmp 5]
theorem acallK22 (hn : args.length ≤ 86) (h : ac Try.prog c22 (argEnv 0 args) H (FinK rs22 v H')) : ACall Try.prog 22 args H v H' :=
 acallK Try.func22 (c := Try.f22.body.getD .skip) rfl (by kernel_rfl) (by kernel_rfl) hn h
def c23l0 : SC :=
 (.seq (.seq (.reg [⟨some 11, .mv, [.r 5], none, []⟩,
 ⟨some 12, .mv, [.r 0], none, []⟩,
 ⟨some 13, .len, [.r 12], none, [12]⟩,
 ⟨some 14, (.bin .lss), [.r 11, .r 13], none, [11, 13]⟩])
 (.cond (.r 14)
 (.kl [14] .skip)
 (.kl [0, 1, 5, 14] (.exit 0))))
 (.seq (.block 1 (.seq (.dreg [⟨0, 0, false, false, ⟨some 17, .mv, [.r 0], none, []⟩, []⟩,
 ⟨1, 0, false, false, ⟨some 18, .mv, [.r 5], none, []⟩, []⟩,
 ⟨2, 3, false, false, ⟨some 19, (.iaddrS 8), [.r 17, .r 18], none, [17, 18]⟩, []⟩,
 ⟨3, 7, false, false, ⟨some 20, (.ldn 8), [.r 19], none, [19]⟩, []⟩,
 ⟨4, 0, false, false, ⟨some 21, .mv, [.r 1], none, []⟩, []⟩,
 ⟨5, 0, false, false, ⟨some 22, .mv, [.r 5], none, []⟩, []⟩,
 ⟨6, 48, false, false, ⟨some 23, (.iaddrS 8), [.r 21, .r 22], none, [21, 22]⟩, []⟩,
 ⟨7, 112, false, false, ⟨some 24, (.ldn 8), [.r 23], none, [23]⟩, []⟩,
 ⟨8, 255, false, false, ⟨some 25, (.eqv true [.int, .int, .int, .int, .int, .int, .int, .int]), [.r 20, .r 24], none, [20, 24]⟩, []⟩])
 (.cond (.r 25)
 (.kl [0, 1, 5, 25] (.seq (.reg [⟨some 4, .mv, [.c (.bool false)], none, []⟩])
 .ret))
 (.kl [25] .skip))))
 (.reg [⟨some 15, .mv, [.r 5], none, [5]⟩,
 ⟨some 16, (.bin .add), [.r 15, .c (.int .i64 1)], none, [15]⟩,
 ⟨some 5, .mv, [.r 16], none, [16]⟩])))
def c23 : SC :=
 (.seq (.reg [⟨some 4, .mv, [.c (.bool false)], none, []⟩])
 (.seq (.seq (.reg [⟨some 6, .mv, [.r 0], none, [4]⟩,
 ⟨some 7, .len, [.r 6], none, [6]⟩,
 ⟨some 8, .mv, [.r 1], none, []⟩,
 ⟨some 9, .len, [.r 8], none, [8]⟩,
 ⟨some 10, (.bin .neq), [.r 7, .r 9], none, [7, 9]⟩])
 (.cond (.r 10)
 (.kl [0, 1, 10] (.seq (.reg [⟨some 4, .mv, [.c (.bool false)], none, []⟩])
 .ret))
 (.kl [10] .skip)))
 (.seq (.seq (.reg [⟨some 5, .mv, [.c (.int .i64 0)], none, []⟩])
 (.block 0 (.loop c23l0)))
 (.seq (.reg [⟨some 4, .mv, [.c (.bool true)], none, []⟩])
 .ret))))
def rs23 : List SR := [.tmp 4]
theorem acall23 (hn : args.length ≤ 26) (h : ac Try.prog c23 (argEnv 0 args) H (Fin H rs23 v H')) : ACall Try.prog 23 args H v H' :=
 acall Try.func23 (c := Try.f23.body.getD .skip) rfl (by kernel_rfl) (by kernel_rfl) hn h
def c24 : SC :=
 (.seq (.reg [⟨some 4, .box, [.r 0], none, [0]⟩,
 ⟨some 5, .box, [.r 1], none, [1]⟩,
 ⟨some 7, .box, [.r 3], none, [3]⟩,
 ⟨some 8, (.alloc [(.int .i64 0), (.int .i64 0), (.int .i64 0), (.int .i64 0), (.bool false), (.bool false), (.bool false), (.bool false), (.bool false), (.int .i64 0), (.int .i64 0), (.int .i64 0), (.int .i64 0), (.int .i64 0), (.int .i64 0), (.int .i64 0), (.int .i64 0), (.int .i64 0), (.int .i64 0), (.int .i64 0), (.int .i64 0), (.int .i64 0), (.int .i64 0), (.int .i64 0), (.int .i64 0), (.int .i64 0), (.int .i64 0), (.int .i64 0), (.int .i64 0), (.int .i64 0), (.int .i64 0), (.int .i64 0), (.int .i64 0), (.int .i64 0), (.int .i64 0), (.int .i64 0), (.int .i64 0), (.int .i64 0), (.int .i64 0), (.int .i64 0), (.int .i64 0), (.int .i64 0), (.int .i64 0), (.int .i64 0), (.int .i64 0), (.int .i64 0), (.int .i64 0), (.int .i64 0), (.int .i64 0)]), [], none, []⟩])
 (.seq (.reg [⟨some 12, (.ldn 4), [.r 5], none, []⟩,
 ⟨some 13, (.call 19), [.r 12], none, [12]⟩,
 ⟨some 9, .mv, [.r 13], none, [13]⟩])
 (.seq (.seq (.reg [⟨some 14, .mv, [.r 9], none, [9]⟩,
 ⟨some 15, (.un .not), [.r 14], none, [14]⟩])
 (.cond (.r 15)
 (.kl [2, 5, 7, 15] (.seq (.reg [⟨some 16, (.ldn 49), [.r 4], none, [4]⟩,
 ⟨none, (.st 49), [.r 8, .r 16], none, [16]⟩])
 .ret))
 (.kl [15] .skip)))
 (.seq (.reg [⟨some 17, (.faddr 3), [.r 5], none, []⟩,
 ⟨some 18, .ld1, [.r 17], none, [17]⟩,
 ⟨some 19, (.bin .add), [.r 18, .c (.int .i64 7)], none, [18]⟩,
 ⟨some 20, (.bin .quo), [.r 19, .c (.int .i64 8)], none, [19]⟩,
 ⟨some 10, .mv, [.r 20], none, [20]⟩])
 (.seq (.seq (.reg [⟨some 21, .mv, [.r 2], none, []⟩,
 ⟨some 22, (.bin .lss), [.r 21, .c (.int .i64 0)], none, [21]⟩,
 ⟨some 23, .mv, [.r 22], none, [22]⟩,
 ⟨some 24, .mv, [.r 2], (some (23, false)), []⟩,
 ⟨some 25, .mv, [.r 10], (some (23, false)), [10]⟩,
 ⟨some 26, (.bin .geq), [.r 24, .r 25], (some (23, false)), [24, 25]⟩,
 ⟨some 27, .pick, [.r 23, .c (.bool true), .r 26], none, [23, 26]⟩])
 (.cond (.r 27)
 (.kl [2, 5, 7, 27] (.seq (.reg [⟨some 28, (.ldn 49), [.r 4], none, [4]⟩,
 ⟨none, (.st 49), [.r 8, .r 28], none, [28]⟩])
 .ret))
 (.kl [27] .skip)))
 (.seq (.reg [⟨some 29, (.ldn 49), [.r 4], none, []⟩,
 ⟨some 11, (.alloc [(.int .i64 0), (.int .i64 0), (.int .i64 0), (.int .i64 0), (.bool false), (.bool false), (.bool false), (.bool false), (.bool false), (.int .i64 0), (.int .i64 0), (.int .i64 0), (.int .i64 0), (.int .i64 0), (.int .i64 0), (.int .i64 0), (.int .i64 0), (.int .i64 0), (.int .i64 0), (.int .i64 0), (.int .i64 0), (.int .i64 0), (.int .i64 0), (.int .i64 0), (.int .i64 0), (.int .i64 0), (.int .i64 0), (.int .i64 0), (.int .i64 0), (.int .i64 0), (.int .i64 0), (.int .i64 0), (.int .i64 0), (.int .i64 0), (.int .i64 0), (.int .i64 0), (.int .i64 0), (.int .i64 0), (.int .i64 0), (.int .i64 0), (.int .i64 0), (.int .i64 0), (.int .i64 0), (.int .i64 0), (.int .i64 0), (.int .i64 0), (.int .i64 0), (.int .i64 0), (.int .i64 0)]), [], none, []⟩,
 ⟨none, (.st 49), [.r 11, .r 29], none, [29]⟩])
 (.seq (.seq (.reg [⟨some 30, (.ldn 4), [.r 5], none, []⟩,
 ⟨some 31, (.faddr 0), [.r 4], none, []⟩,
 ⟨some 32, (.ldn 4), [.r 31], none, [31]⟩,
 ⟨some 33, (.eqv true [.int, .int, .int, .int]), [.r 30, .r 32], none, [30, 32]⟩])
 (.cond (.r 33)
 (.kl [33] (.seq (.seq (.reg [⟨some 34, (.faddr 0), [.r 5], none, []⟩,
 ⟨some 35, .ld1, [.r 34], none, [34]⟩,
 ⟨some 36, (.faddr 0), [.r 4], none, []⟩,
 ⟨some 37, (.faddr 0), [.r 36], none, [36]⟩,
 ⟨some 38, .ld1, [.r 37], none, [37]⟩,
 ⟨some 39, (.bin .eql), [.r 35, .r 38], none, [35, 38]⟩,
 ⟨some 40, .mv, [.r 39], none, [39]⟩,
 ⟨some 41, (.faddr 1), [.r 5], (some (40, true)), []⟩,
 ⟨some 42, .ld1, [.r 41], (some (40, true)), [41]⟩,
 ⟨some 43, (.faddr 0), [.r 4], (some (40, true)), []⟩,
 ⟨some 44, (.faddr 1), [.r 43], (some (40, true)), [43]⟩,
 ⟨some 45, .ld1, [.r 44], (some (40, true)), [44]⟩,
 ⟨some 46, (.bin .eql), [.r 42, .r 45], (some (40, true)), [42, 45]⟩,
 ⟨some 47, .pick, [.r 40, .r 46, .c (.bool false)], none, [40, 46]⟩,
 ⟨some 48, .mv, [.r 47], none, [47]⟩,
 ⟨some 49, (.faddr 2), [.r 5], (some (48, true)), []⟩,
 ⟨some 50, .ld1, [.r 49], (some (48, true)), [49]⟩,
 ⟨some 51, (.faddr 0), [.r 4], (some (48, true)), []⟩,
 ⟨some 52, (.faddr 2), [.r 51], (some (48, true)), [51]⟩,
 ⟨some 53, .ld1, [.r 52], (some (48, true)), [52]⟩,
 ⟨some 54, (.bin .lss), [.r 50, .r 53], (some (48, true)), [50, 53]⟩,
 ⟨some 55, .pick, [.r 48, .r 54, .c (.bool false)], none, [48, 54]⟩])
 (.cond (.r 55)
 (.kl [2, 5, 7, 11, 55] (.seq (.reg [⟨some 56, (.ldn 49), [.r 4], none, [4]⟩,
 ⟨none, (.st 49), [.r 8, .r 56], none, [56]⟩])
 .ret))
 (.kl [4, 55] .skip)))
 (.reg [⟨some 57, (.ldn 4), [.r 5], none, [5]⟩,
 ⟨some 58, (.build [(.int .i64 0), (.int .i64 0), (.int .i64 0), (.int .i64 0), (.bool false), (.bool false), (.bool false), (.bool false), (.bool false), (.int .i64 0), (.int .i64 0), (.int .i64 0), (.int .i64 0), (.int .i64 0), (.int .i64 0), (.int .i64 0), (.int .i64 0), (.int .i64 0), (.int .i64 0), (.int .i64 0), (.int .i64 0), (.int .i64 0), (.int .i64 0), (.int .i64 0), (.int .i64 0), (.int .i64 0), (.int .i64 0), (.int .i64 0), (.int .i64 0), (.int .i64 0), (.int .i64 0), (.int .i64 0), (.int .i64 0), (.int .i64 0), (.int .i64 0), (.int .i64 0), (.int .i64 0), (.int .i64 0), (.int .i64 0), (.int .i64 0), (.int .i64 0), (.int .i64 0), (.int .i64 0), (.int .i64 0), (.int .i64 0), (.int .i64 0), (.int .i64 0), (.int .i64 0), (.int .i64 0)] [(0, 4)]), [.r 57], none, [57]⟩,
 ⟨none, (.st 49), [.r 11, .r 58], none, [58]⟩])))
 (.kl [4, 5, 33] .skip)))
 (.seq (.reg [⟨some 59, .mv, [.r 2], none, []⟩,
 ⟨some 60, (.faddr 4), [.r 11], none, []⟩,
 ⟨some 61, (.iaddrA 1 5), [.r 60, .r 59], none, [59, 60]⟩,
 ⟨none, (.st 1), [.r 61, .c (.bool true)], none, [61]⟩])
 (.seq (.reg [⟨some 62, .mv, [.r 2], none, [2]⟩,
 ⟨some 63, (.ldn 8), [.r 7], none, [7]⟩,
 ⟨some 64, (.faddr 9), [.r 11], none, []⟩,
 ⟨some 65, (.iaddrA 8 5), [.r 64, .r 62], none, [62, 64]⟩,
 ⟨none, (.st 8), [.r 65, .r 63], none, [63, 65]⟩])
 (.seq (.reg [⟨some 66, (.ldn 49), [.r 11], none, [11]⟩,
 ⟨none, (.st 49), [.r 8, .r 66], none, [66]⟩])
 .ret))))))))))
def rs24 : List SR := [.celln 8 49]
theorem acall24 (hn : args.length ≤ 67) (h : ac Try.prog c24 (argEnv 0 args) H (Fin H rs24 v H')) : ACall Try.prog 24 args H v H' :=
 acall Try.func24 (c := Try.f24.body.getD .skip) rfl (by kernel_rfl) (by kernel_rfl) hn h
def c25 : SC :=
 (.seq (.reg [⟨some 0, (.alloc [(.int .i64 0), (.int .i64 0), (.int .i64 0), (.int .i64 0), (.int .i64 0), (.int .i64 0)]), [], none, []⟩])
 (.seq (.reg [⟨some 1, (.build [(.int .i64 0), (.int .i64 0), (.int .i64 0), (.int .i64 0), (.int .i64 0), (.int .i64 0)] [(0, 1), (1, 1), (2, 1), (3, 1), (4, 1), (5, 1)]), [.c (.int .i64 2097152), .c (.int .i64 16777216), .c (.int .i64 262144), .c (.int .i64 16777216), .c (.int .i64 16777216), .c (.int .i64 268435456)], none, []⟩,
 ⟨none, (.st 6), [.r 0, .r 1], none, [1]⟩])
 .ret))
def rs25 : List SR := [.celln 0 6]
theorem acall25 (hn : args.length ≤ 2) (h : ac Try.prog c25 (argEnv 0 args) H (Fin H rs25 v H')) : ACall Try.prog 25 args H v H' :=
 acall Try.func25 (c := Try.f25.body.getD .skip) rfl (by kernel_rfl) (by kernel_rfl) hn h
def c26l0 : SC :=
 (.seq (.seq (.reg [⟨some 59, .mv, [.r 7], none, []⟩,
 ⟨some 60, .mv, [.r 6], none, []⟩,
 ⟨some 61, (.bin .lss), [.r 59, .r 60], none, [59, 60]⟩])
 (.cond (.r 61)
 (.kl [61] .skip)
 (.kl [7, 61] (.exit 2))))
 (.seq (.block 3 (.seq (.dreg [⟨0, 0, false, false, ⟨some 64, (.faddr 3), [.r 1], none, []⟩, []⟩,
 ⟨1, 1, false, false, ⟨some 65, (.faddr 2), [.r 64], none, [64]⟩, []⟩,
 ⟨2, 3, false, false, ⟨some 66, .ld1, [.r 65], none, [65]⟩, []⟩,
 ⟨3, 0, false, false, ⟨some 67, .mv, [.r 6], none, []⟩, []⟩,
 ⟨4, 0, false, false, ⟨some 68, .mv, [.r 5], none, []⟩, []⟩,
 ⟨5, 24, false, false, ⟨some 69, (.bin .mul), [.r 67, .r 68], none, [67, 68]⟩, []⟩,
 ⟨6, 0, false, false, ⟨some 70, .mv, [.r 7], none, []⟩, []⟩,
 ⟨7, 120, false, false, ⟨some 71, (.bin .add), [.r 69, .r 70], none, [69, 70]⟩, []⟩,
 ⟨8, 255, false, false, ⟨some 72, (.iaddrS 1), [.r 66, .r 71], none, [66, 71]⟩, []⟩,
 ⟨9, 511, false, false, ⟨some 73, .ld1, [.r 72], none, [72]⟩, []⟩,
 ⟨10, 0, false, false, ⟨some 74, (.faddr 3), [.r 1], none, []⟩, []⟩,
 ⟨11, 1024, false, false, ⟨some 75, (.faddr 2), [.r 74], none, [74]⟩, []⟩,
 ⟨12, 3072, false, false, ⟨some 76, .ld1, [.r 75], none, [75]⟩, []⟩,
 ⟨13, 0, false, false, ⟨some 77, .mv, [.r 7], none, []⟩, []⟩,
 ⟨14, 0, false, false, ⟨some 78, .mv, [.r 5], none, []⟩, []⟩,
 ⟨15, 24576, false, false, ⟨some 79, (.bin .mul), [.r 77, .r 78], none, [77, 78]⟩, []⟩,
 ⟨16, 0, false, false, ⟨some 80, .mv, [.r 6], none, []⟩, []⟩,
 ⟨17, 122880, false, false, ⟨some 81, (.bin .add), [.r 79, .r 80], none, [79, 80]⟩, []⟩,
 ⟨18, 261120, false, false, ⟨some 82, (.iaddrS 1), [.r 76, .r 81], none, [76, 81]⟩, []⟩,
 ⟨19, 523264, false, false, ⟨some 83, .ld1, [.r 82], none, [82]⟩, []⟩,
 ⟨20, 1048575, false, false, ⟨some 84, (.bin .neq), [.r 73, .r 83], none, [73, 83]⟩, []⟩])
 (.cond (.r 84)
 (.kl [1, 5, 6, 7, 84] (.seq (.reg [⟨some 2, .mv, [.c (.bool false)], none, []⟩])
 .ret))
 (.kl [84] .skip))))
 (.reg [⟨some 62, .mv, [.r 7], none, [7]⟩,
 ⟨some 63, (.bin .add), [.r 62, .c (.int .i64 1)], none, [62]⟩,
 ⟨some 7, .mv, [.r 63], none, [63]⟩])))
def c26l1 : SC :=
 (.seq (.seq (.reg [⟨some 43, .mv, [.r 6], none, []⟩,
 ⟨some 44, .mv, [.r 5], none, []⟩,
 ⟨some 45, (.bin .lss), [.r 43, .r 44], none, [43, 44]⟩])
 (.cond (.r 45)
 (.kl [45] .skip)
 (.kl [1, 5, 6, 45] (.exit 0))))
 (.seq (.block 1 (.seq (.seq (.reg [⟨some 48, (.faddr 3), [.r 1], none, []⟩,
 ⟨some 49, (.faddr 2), [.r 48], none, [48]⟩,
 ⟨some 50, .ld1, [.r 49], none, [49]⟩,
 ⟨some 51, .mv, [.r 6], none, []⟩,
 ⟨some 52, .mv, [.r 5], none, []⟩,
 ⟨some 53, (.bin .mul), [.r 51, .r 52], none, [51, 52]⟩,
 ⟨some 54, .mv, [.r 6], none, []⟩,
 ⟨some 55, (.bin .add), [.r 53, .r 54], none, [53, 54]⟩,
 ⟨some 56, (.iaddrS 1), [.r 50, .r 55], none, [50, 55]⟩,
 ⟨some 57, .ld1, [.r 56], none, [56]⟩,
 ⟨some 58, (.bin .lss), [.r 57, .c (.int .i64 0)], none, [57]⟩])
 (.cond (.r 58)
 (.kl [1, 5, 6, 58] (.seq (.reg [⟨some 2, .mv, [.c (.bool false)], none, []⟩])
 .ret))
 (.kl [58] .skip)))
 (.seq (.reg [⟨some 7, .mv, [.c (.int .i64 0)], none, []⟩])
 (.block 2 (.loop c26l0)))))
 (.reg [⟨some 46, .mv, [.r 6], none, [6]⟩,
 ⟨some 47, (.bin .add), [.r 46, .c (.int .i64 1)], none, [46]⟩,
 ⟨some 6, .mv, [.r 47], none, [47]⟩])))
def c26 : SC :=
 (.seq (.reg [⟨some 1, .box, [.r 0], none, [0]⟩,
 ⟨some 2, .mv, [.c (.bool false)], none, []⟩])
 (.seq (.reg [⟨some 8, (.faddr 0), [.r 1], none, [2]⟩,
 ⟨some 9, (.ldn 3), [.r 8], none, [8]⟩,
 ⟨some 10, (.call 49), [.r 9], none, [9]⟩,
 ⟨some 3, .mv, [.r 10], none, [10]⟩])
 (.seq (.reg [⟨some 11, (.faddr 3), [.r 1], none, []⟩,
 ⟨some 12, (.ldn 3), [.r 11], none, [11]⟩,
 ⟨some 13, (.call 49), [.r 12], none, [12]⟩,
 ⟨some 4, .mv, [.r 13], none, [13]⟩])
 (.seq (.reg [⟨some 14, (.faddr 0), [.r 1], none, []⟩,
 ⟨some 15, (.faddr 0), [.r 14], none, [14]⟩,
 ⟨some 16, .ld1, [.r 15], none, [15]⟩,
 ⟨some 5, .mv, [.r 16], none, [16]⟩])
 (.seq (.seq (.reg [⟨some 17, .mv, [.r 3], none, [3]⟩,
 ⟨some 18, (.un .not), [.r 17], none, [17]⟩,
 ⟨some 19, .mv, [.r 18], none, [18]⟩,
 ⟨some 20, .mv, [.r 4], (some (19, false)), [4]⟩,
 ⟨some 21, (.un .not), [.r 20], (some (19, false)), [20]⟩,
 ⟨some 22, .pick, [.r 19, .c (.bool true), .r 21], none, [19, 21]⟩,
 ⟨some 23, .mv, [.r 22], none, [22]⟩,
 ⟨some 24, (.faddr 0), [.r 1], (some (23, false)), []⟩,
 ⟨some 25, (.faddr 1), [.r 24], (some (23, false)), [24]⟩,
 ⟨some 26, .ld1, [.r 25], (some (23, false)), [25]⟩,
 ⟨some 27, (.bin .neq), [.r 26, .c (.int .i64 1)], (some (23, false)), [26]⟩,
 ⟨some 28, .pick, [.r 23, .c (.bool true), .r 27], none, [23, 27]⟩,
 ⟨some 29, .mv, [.r 28], none, [28]⟩,
 ⟨some 30, (.faddr 3), [.r 1], (some (29, false)), []⟩,
 ⟨some 31, (.faddr 0), [.r 30], (some (29, false)), [30]⟩,
 ⟨some 32, .ld1, [.r 31], (some (29, false)), [31]⟩,
 ⟨some 33, .mv, [.r 5], (some (29, false)), []⟩,
 ⟨some 34, (.bin .neq), [.r 32, .r 33], (some (29, false)), [32, 33]⟩,
 ⟨some 35, .pick, [.r 29, .c (.bool true), .r 34], none, [29, 34]⟩,
 ⟨some 36, .mv, [.r 35], none, [35]⟩,
 ⟨some 37, (.faddr 3), [.r 1], (some (36, false)), []⟩,
 ⟨some 38, (.faddr 1), [.r 37], (some (36, false)), [37]⟩,
 ⟨some 39, .ld1, [.r 38], (some (36, false)), [38]⟩,
 ⟨some 40, .mv, [.r 5], (some (36, false)), []⟩,
 ⟨some 41, (.bin .neq), [.r 39, .r 40], (some (36, false)), [39, 40]⟩,
 ⟨some 42, .pick, [.r 36, .c (.bool true), .r 41], none, [36, 41]⟩])
 (.cond (.r 42)
 (.kl [1, 5, 42] (.seq (.reg [⟨some 2, .mv, [.c (.bool false)], none, []⟩])
 .ret))
 (.kl [42] .skip)))
 (.seq (.seq (.reg [⟨some 6, .mv, [.c (.int .i64 0)], none, []⟩])
 (.block 0 (.loop c26l1)))
 (.seq (.reg [⟨some 2, .mv, [.c (.bool true)], none, []⟩])
 .ret)))))))
def rs26 : List SR := [.tmp 2]
theorem acall26 (hn : args.length ≤ 85) (h : ac Try.prog c26 (argEnv 0 args) H (Fin H rs26 v H')) : ACall Try.prog 26 args H v H' :=
 acall Try.func26 (c := Try.f26.body.getD .skip) rfl (by kernel_rfl) (by kernel_rfl) hn h
def c27l0 : SC :=
 (.seq (.seq (.reg [⟨some 5, .mv, [.r 3], none, []⟩,
 ⟨some 6, (.bin .lss), [.r 5, .c (.int .i64 4)], none, [5]⟩])
 (.cond (.r 6)
 (.kl [6] .skip)
 (.kl [1, 3, 6] (.exit 0))))
 (.seq (.block 1 (.seq (.reg [⟨some 9, .mv, [.r 3], none, []⟩,
 ⟨some 10, (.iaddrA 1 4), [.r 1, .r 9], none, [9]⟩,
 ⟨some 11, .ld1, [.r 10], none, [10]⟩,
 ⟨some 12, (.call 50), [.r 11], none, [11]⟩,
 ⟨some 4, .mv, [.r 12], none, [12]⟩])
 (.seq (.reg [⟨some 13, .mv, [.r 4], none, [4]⟩,
 ⟨some 14, (.un .not), [.r 13], none, [13]⟩])
 (.cond (.r 14)
 (.kl [1, 3, 14] (.seq (.reg [⟨some 2, .mv, [.c (.bool false)], none, []⟩])
 .ret))
 (.kl [14] .skip)))))
 (.reg [⟨some 7, .mv, [.r 3], none, [3]⟩,
 ⟨some 8, (.bin .add), [.r 7, .c (.int .i64 1)], none, [7]⟩,
 ⟨some 3, .mv, [.r 8], none, [8]⟩])))
def c27 : SC :=
 (.seq (.reg [⟨some 1, .box, [.r 0], none, [0]⟩,
 ⟨some 2, .mv, [.c (.bool false)], none, []⟩])
 (.seq (.seq (.reg [⟨some 3, .mv, [.c (.int .i64 0)], none, [2]⟩])
 (.block 0 (.loop c27l0)))
 (.seq (.reg [⟨some 2, .mv, [.c (.bool true)], none, []⟩])
 .ret)))
def rs27 : List SR := [.tmp 2]
theorem acall27 (hn : args.length ≤ 15) (h : ac Try.prog c27 (argEnv 0 args) H (Fin H rs27 v H')) : ACall Try.prog 27 args H v H' :=
 acall Try.func27 (c := Try.f27.body.getD .skip) rfl (by kernel_rfl) (by kernel_rfl) hn h
def c28 : SC :=
 (.seq (.reg [⟨some 2, .mv, [.c .nilm], none, []⟩])
 (.seq (.seq (.reg [⟨some 3, .mv, [.r 0], none, [2]⟩,
 ⟨some 4, (.mp (.isnil false)), [.r 3], none, [3]⟩])
 (.cond (.r 4)
 (.kl [0, 4] (.seq (.reg [⟨some 2, .mv, [.c .nilm], none, []⟩])
 .ret))
 (.kl [4] .skip)))
 (.seq (.reg [⟨some 5, .mv, [.r 0], none, [0]⟩,
 ⟨some 6, .dead, [], none, [5]⟩,
 ⟨some 7, .dead, [], none, [6]⟩,
 ⟨some 8, .dead, [], none, [7]⟩,
 ⟨some 2, .mv, [.r 8], none, [8]⟩])
 .ret)))
def rs28 : List SR := [.tmp 2]
theorem acall28 (hn : args.length ≤ 9) (h : ac Try.prog c28 (argEnv 0 args) H (Fin H rs28 v H')) : ACall Try.prog 28 args H v H' :=
 acall Try.func28 (c := Try.f28.body.getD .skip) rfl (by kernel_rfl) (by kernel_rfl) hn h
def c29 : SC :=
 (.seq (.reg [⟨some 2, .box, [.r 0], none, [0]⟩,
 ⟨some 3, .box, [.r 1], none, [1]⟩,
 ⟨some 4, .mv, [.c (.bool false)], none, []⟩])
 (.seq (.reg [⟨some 5, (.faddr 0), [.r 2], none, [4]⟩,
 ⟨some 6, (.ldn 3), [.r 5], none, [5]⟩,
 ⟨some 7, (.faddr 0), [.r 3], none, []⟩,
 ⟨some 8, (.ldn 3), [.r 7], none, [7]⟩,
 ⟨some 9, (.call 52), [.r 6, .r 8], none, [6, 8]⟩,
 ⟨some 10, .mv, [.r 9], none, [9]⟩,
 ⟨some 11, (.faddr 3), [.r 2], (some (10, true)), [2]⟩,
 ⟨some 12, (.ldn 3), [.r 11], (some (10, true)), [11]⟩,
 ⟨some 13, (.faddr 3), [.r 3], (some (10, true)), [3]⟩,
 ⟨some 14, (.ldn 3), [.r 13], (some (10, true)), [13]⟩,
 ⟨some 15, (.call 52), [.r 12, .r 14], (some (10, true)), [12, 14]⟩,
 ⟨some 16, .pick, [.r 10, .r 15, .c (.bool false)], none, [10, 15]⟩,
 ⟨some 4, .mv, [.r 16], none, [16]⟩])
 .ret))
def rs29 : List SR := [.tmp 4]
theorem acall29 (hn : args.length ≤ 17) (h : ac Try.prog c29 (argEnv 0 args) H (Fin H rs29 v H')) : ACall Try.prog 29 args H v H' :=
 acall Try.func29 (c := Try.f29.body.getD .skip) rfl (by kernel_rfl) (by kernel_rfl) hn h
def c30l0 : SC :=
 (.seq (.seq (.reg [⟨some 25, .mv, [.r 8], none, []⟩,
 ⟨some 26, .mv, [.r 0], none, []⟩,
 ⟨some 27, .len, [.r 26], none, [26]⟩,
 ⟨some 28, (.bin .lss), [.r 25, .r 27], none, [25, 27]⟩])
 (.cond (.r 28)
 (.kl [28] .skip)
 (.kl [1, 8, 28] (.exit 0))))
 (.seq (.block 1 (.seq (.reg [⟨some 31, .mv, [.r 0], none, []⟩,
 ⟨some 32, .mv, [.r 8], none, []⟩,
 ⟨some 33, (.iaddrS 1), [.r 31, .r 32], none, [31, 32]⟩,
 ⟨some 34, .ld1, [.r 33], none, [33]⟩,
 ⟨some 35, (.call 50), [.r 34], none, [34]⟩,
 ⟨some 9, .mv, [.r 35], none, [35]⟩])
 (.seq (.reg [⟨some 36, .mv, [.r 9], none, [9]⟩,
 ⟨some 37, (.un .not), [.r 36], none, [36]⟩,
 ⟨some 38, .mv, [.r 37], none, [37]⟩,
 ⟨some 39, .mv, [.r 1], (some (38, false)), []⟩,
 ⟨some 40, .mv, [.r 8], (some (38, false)), []⟩,
 ⟨some 41, (.iaddrS 1), [.r 39, .r 40], (some (38, false)), [39, 40]⟩,
 ⟨some 42, .ld1, [.r 41], (some (38, false)), [41]⟩,
 ⟨some 43, (.bin .lss), [.r 42, .c (.int .i64 0)], (some (38, false)), [42]⟩,
 ⟨some 44, .pick, [.r 38, .c (.bool true), .r 43], none, [38, 43]⟩])
 (.cond (.r 44)
 (.kl [0, 1, 6, 8, 44] (.seq (.reg [⟨some 45, (.build [(.int .i64 0), (.int .i64 0), .nils, (.int .i64 0), (.int .i64 0), .nils] []), [], none, []⟩,
 ⟨none, (.st 6), [.r 4, .r 45], none, [45]⟩,
 ⟨some 5, .mv, [.c (.int .i64 1)], none, []⟩])
 .ret))
 (.kl [44] .skip)))))
 (.reg [⟨some 29, .mv, [.r 8], none, [8]⟩,
 ⟨some 30, (.bin .add), [.r 29, .c (.int .i64 1)], none, [29]⟩,
 ⟨some 8, .mv, [.r 30], none, [30]⟩])))
def c30 : SC :=
 (.seq (.reg [⟨some 4, (.alloc [(.int .i64 0), (.int .i64 0), .nils, (.int .i64 0), (.int .i64 0), .nils]), [], none, []⟩,
 ⟨some 5, .mv, [.c (.int .i64 0)], none, []⟩])
 (.seq (.reg [⟨some 11, .mv, [.r 1], none, [5]⟩,
 ⟨some 12, (.call 53), [.r 11], none, [11]⟩,
 ⟨some 10, .mv, [.r 12], none, [12]⟩,
 ⟨some 13, (.ext 0), [.r 10], none, []⟩,
 ⟨some 14, (.ext 1), [.r 10], none, [10]⟩,
 ⟨some 6, (.alloc [(.int .i64 0), (.int .i64 0), .nils]), [], none, []⟩,
 ⟨none, (.st 3), [.r 6, .r 13], none, [13]⟩,
 ⟨some 7, .mv, [.r 14], none, [14]⟩])
 (.seq (.seq (.reg [⟨some 15, .mv, [.r 7], none, [7]⟩,
 ⟨some 16, (.bin .neq), [.r 15, .c (.int .i64 0)], none, [15]⟩,
 ⟨some 17, .mv, [.r 16], none, [16]⟩,
 ⟨some 18, .mv, [.r 0], (some (17, false)), []⟩,
 ⟨some 19, .len, [.r 18], (some (17, false)), [18]⟩,
 ⟨some 20, .mv, [.r 1], (some (17, false)), []⟩,
 ⟨some 21, .len, [.r 20], (some (17, false)), [20]⟩,
 ⟨some 22, (.bin .neq), [.r 19, .r 21], (some (17, false)), [19, 21]⟩,
 ⟨some 23, .pick, [.r 17, .c (.bool true), .r 22], none, [17, 22]⟩])
 (.cond (.r 23)
 (.kl [0, 1, 6, 23] (.seq (.reg [⟨some 24, (.build [(.int .i64 0), (.int .i64 0), .nils, (.int .i64 0), (.int .i64 0), .nils] []), [], none, []⟩,
 ⟨none, (.st 6), [.r 4, .r 24], none, [24]⟩,
 ⟨some 5, .mv, [.c (.int .i64 1)], none, []⟩])
 .ret))
 (.kl [23] .skip)))
 (.seq (.seq (.reg [⟨some 8, .mv, [.c (.int .i64 0)], none, []⟩])
 (.block 0 (.loop c30l0)))
 (.seq (.dreg [⟨0, 0, false, false, ⟨some 46, .mv, [.r 0], none, []⟩, []⟩,
 ⟨1, 1, false, false, ⟨some 47, .len, [.r 46], none, [46]⟩, []⟩,
 ⟨3, 0, false, false, ⟨some 49, .mv, [.r 0], none, [0]⟩, []⟩,
 ⟨6, 0, false, false, ⟨some 52, (.ldn 3), [.r 6], none, [6]⟩, []⟩,
 ⟨2, 0, true, false, ⟨some 48, (.bslice 1 0 [] []), [], none, []⟩, []⟩,
 ⟨4, 12, true, false, ⟨some 50, (.app 1 8), [.r 48, .r 49], none, [48, 49]⟩, []⟩,
 ⟨5, 31, false, false, ⟨some 51, (.build [(.int .i64 0), (.int .i64 0), .nils] [(0, 1), (1, 1), (2, 1)]), [.r 47, .c (.int .i64 1), .r 50], none, [47, 50]⟩, []⟩,
 ⟨7, 127, false, false, ⟨some 53, (.build [(.int .i64 0), (.int .i64 0), .nils, (.int .i64 0), (.int .i64 0), .nils] [(0, 3), (3, 3)]), [.r 51, .r 52], none, [51, 52]⟩, []⟩,
 ⟨8, 255, false, false, ⟨none, (.st 6), [.r 4, .r 53], none, [53]⟩, []⟩,
 ⟨9, 511, false, false, ⟨some 5, .mv, [.c (.int .i64 0)], none, []⟩, []⟩])
 .ret)))))
def rs30 : List SR := [.celln 4 6, .tmp 5]
theorem acallK30 (hn : args.length ≤ 54) (h : ac Try.prog c30 (argEnv 0 args) H (FinK rs30 v H')) : ACall Try.prog 30 args H v H' :=
 acallK Try.func30 (c := Try.f30.body.getD .skip) rfl (by kernel_rfl) (by kernel_rfl) hn h
def c31 : SC :=
 (.seq (.reg [⟨some 1, .box, [.r 0], none, [0]⟩,
 ⟨some 2, .mv, [.c .nils], none, []⟩,
 ⟨some 3, .mv, [.c (.int .i64 0)], none, [2]⟩])
 (.seq (.reg [⟨some 7, (.ldn 6), [.r 1], none, [1, 3]⟩,
 ⟨some 8, (.call 54), [.r 7], none, [7]⟩,
 ⟨some 6, .mv, [.r 8], none, [8]⟩,
 ⟨some 9, (.ext 0), [.r 6], none, []⟩,
 ⟨some 10, (.ext 1), [.r 6], none, [6]⟩,
 ⟨some 4, (.alloc [(.int .i64 0), (.int .i64 0), (.int .i64 0), (.int .i64 0), (.int .i64 0), (.int .i64 0), .nils, (.int .i64 0), (.int .i64 0), .nils, (.int .i64 0), (.int .i64 0), .nils, (.int .i64 0), (.int .i64 0), .nils, (.int .i64 0), (.int .i64 0), .nils, (.int .i64 0), (.int .i64 0), .nils, (.int .i64 0), (.int .i64 0), (.int .i64 0), (.int .i64 0), (.int .i64 0), (.int .i64 0), (.bool false)]), [], none, []⟩,
 ⟨none, (.st 29), [.r 4, .r 9], none, [9]⟩,
 ⟨some 5, .mv, [.r 10], none, [10]⟩])
 (.seq (.seq (.reg [⟨some 11, .mv, [.r 5], none, []⟩,
 ⟨some 12, (.bin .neq), [.r 11, .c (.int .i64 0)], none, [11]⟩])
 (.cond (.r 12)
 (.kl [4, 12] (.seq (.reg [⟨some 13, .mv, [.r 5], none, [5]⟩,
 ⟨some 2, .mv, [.c .nils], none, []⟩,
 ⟨some 3, .mv, [.r 13], none, [13]⟩])
 .ret))
 (.kl [5, 12] .skip)))
 (.seq (.reg [⟨some 14, (.ldn 29), [.r 4], none, [4]⟩,
 ⟨some 15, (.call 34), [.r 14], none, [14]⟩,
 ⟨some 2, .mv, [.r 15], none, [15]⟩,
 ⟨some 3, .mv, [.c (.int .i64 0)], none, []⟩])
 .ret))))
def rs31 : List SR := [.tmp 2, .tmp 3]
theorem acallK31 (hn : args.length ≤ 16) (h : ac Try.prog c31 (argEnv 0 args) H (FinK rs31 v H')) : ACall Try.prog 31 args H v H' :=
 acallK Try.func31 (c := Try.f31.body.getD .skip) rfl (by kernel_rfl) (by kernel_rfl) hn h
def c32l0 : SC :=
 (.seq (.reg [⟨some 9, (.bin .lss), [.r 8, .c (.int .i64 3)], none, []⟩])
 (.seq (.cond (.r 9)
 (.kl [9] .skip)
 (.kl [7, 8, 9] (.exit 0)))
 (.seq (.block 1 (.seq (.reg [⟨some 10, (.idxA 6 3 true), [.r 7, .r 8], none, []⟩,
 ⟨some 4, (.alloc [(.int .i64 0), (.int .i64 0), .nils, (.int .i64 0), (.int .i64 0), .nils]), [], none, []⟩,
 ⟨none, (.st 6), [.r 4, .r 10], none, [10]⟩])
 (.seq (.reg [⟨some 11, (.ldn 6), [.r 4], none, []⟩,
 ⟨some 12, (.call 55), [.r 11], none, [11]⟩,
 ⟨some 13, (.un .not), [.r 12], none, [12]⟩,
 ⟨some 14, .mv, [.r 13], none, [13]⟩,
 ⟨some 15, (.faddr 0), [.r 4], (some (14, false)), [4]⟩,
 ⟨some 16, (.faddr 0), [.r 15], (some (14, false)), [15]⟩,
 ⟨some 17, .ld1, [.r 16], (some (14, false)), [16]⟩,
 ⟨some 18, (.bin .neq), [.r 17, .c (.int .i64 3)], (some (14, false)), [17]⟩,
 ⟨some 19, .pick, [.r 14, .c (.bool true), .r 18], none, [14, 18]⟩])
 (.cond (.r 19)
 (.kl [1, 7, 8, 19] (.seq (.reg [⟨some 2, .mv, [.c (.bool false)], none, []⟩])
 .ret))
 (.kl [19] .skip)))))
 (.reg [⟨some 20, (.bin .add), [.r 8, .c (.int .i64 1)], none, [8]⟩,
 ⟨some 8, .mv, [.r 20], none, [20]⟩]))))
def c32 : SC :=
 (.seq (.reg [⟨some 1, .box, [.r 0], none, [0]⟩,
 ⟨some 2, .mv, [.c (.bool false)], none, []⟩])
 (.seq (.seq (.reg [⟨some 6, (.faddr 4), [.r 1], none, [2]⟩,
 ⟨some 7, (.ldn 18), [.r 6], none, [6]⟩,
 ⟨some 8, .mv, [.c (.int .i64 0)], none, []⟩])
 (.block 0 (.loop c32l0)))
 (.seq (.reg [⟨some 5, .mv, [.c (.fn (.func 56) [] [])], none, []⟩])
 (.seq (.reg [⟨some 21, (.faddr 0), [.r 1], none, []⟩,
 ⟨some 22, (.ldn 4), [.r 21], none, [21]⟩,
 ⟨some 23, (.call 57), [.r 22], none, [22]⟩,
 ⟨some 24, .mv, [.r 23], none, [23]⟩,
 ⟨some 25, (.faddr 22), [.r 1], (some (24, true)), []⟩,
 ⟨some 26, .ld1, [.r 25], (some (24, true)), [25]⟩,
 ⟨some 27, (.bin .geq), [.r 26, .c (.int .i64 0)], (some (24, true)), [26]⟩,
 ⟨some 28, .pick, [.r 24, .r 27, .c (.bool false)], none, [24, 27]⟩,
 ⟨some 29, .mv, [.r 28], none, [28]⟩,
 ⟨some 30, (.faddr 22), [.r 1], (some (29, true)), []⟩,
 ⟨some 31, .ld1, [.r 30], (some (29, true)), [30]⟩,
 ⟨some 32, (.bin .leq), [.r 31, .c (.int .i64 1099511627776)], (some (29, true)), [31]⟩,
 ⟨some 33, .pick, [.r 29, .r 32, .c (.bool false)], none, [29, 32]⟩,
 ⟨some 34, .mv, [.r 33], none, [33]⟩,
 ⟨some 35, .mv, [.r 5], (some (34, true)), []⟩,
 ⟨some 36, (.faddr 23), [.r 1], (some (34, true)), []⟩,
 ⟨some 37, .ld1, [.r 36], (some (34, true)), [36]⟩,
 ⟨some 38, .callv, [.r 35, .r 37], (some (34, true)), [35, 37]⟩,
 ⟨some 39, (.un .not), [.r 38], (some (34, true)), [38]⟩,
 ⟨some 40, .pick, [.r 34, .r 39, .c (.bool false)], none, [34, 39]⟩,
 ⟨some 41, .mv, [.r 40], none, [40]⟩,
 ⟨some 42, (.faddr 24), [.r 1], (some (41, true)), [1]⟩,
 ⟨some 43, (.aslice 1 4 false false false), [.r 42], (some (41, true)), [42]⟩,
 ⟨some 44, .mv, [.r 5], (some (41, true)), [5]⟩,
 ⟨some 45, (.call 58), [.r 43, .r 44], (some (41, true)), [43, 44]⟩,
 ⟨some 46, (.un .not), [.r 45], (some (41, true)), [45]⟩,
 ⟨some 47, .pick, [.r 41, .r 46, .c (.bool false)], none, [41, 46]⟩,
 ⟨some 2, .mv, [.r 47], none, [47]⟩])
 .ret))))
def rs32 : List SR := [.tmp 2]
theorem acall32 (hn : args.length ≤ 48) (h : ac Try.prog c32 (argEnv 0 args) H (Fin H rs32 v H')) : ACall Try.prog 32 args H v H' :=
 acall Try.func32 (c := Try.f32.body.getD .skip) rfl (by kernel_rfl) (by kernel_rfl) hn h
def c33l0 : SC :=
 (.seq (.reg [⟨some 26, (.bin .lss), [.r 25, .r 24], none, []⟩])
 (.seq (.cond (.r 26)
 (.kl [26] .skip)
 (.kl [0, 23, 24, 25, 26] (.exit 1)))
 (.seq (.block 2 (.seq (.reg [⟨some 27, .mv, [.r 25], none, []⟩,
 ⟨some 28, (.iaddrS 1), [.r 23, .r 25], none, []⟩,
 ⟨some 29, .ld1, [.r 28], none, [28]⟩,
 ⟨some 7, .mv, [.r 27], none, [27]⟩,
 ⟨some 8, .mv, [.r 29], none, [29]⟩])
 (.seq (.reg [⟨some 30, .mv, [.r 8], none, []⟩,
 ⟨some 31, .mv, [.r 0], none, []⟩,
 ⟨some 32, .mv, [.r 7], none, []⟩,
 ⟨some 33, (.iaddrS 1), [.r 31, .r 32], none, [31, 32]⟩,
 ⟨some 34, .ld1, [.r 33], none, [33]⟩,
 ⟨some 35, (.bin .neq), [.r 30, .r 34], none, [30, 34]⟩])
 (.cond (.r 35)
 (.kl [35] (.seq (.dreg [⟨0, 0, false, false, ⟨some 36, .mv, [.r 6], none, []⟩, []⟩,
 ⟨1, 0, false, false, ⟨some 37, .mv, [.r 7], none, []⟩, []⟩,
 ⟨2, 2, false, false, ⟨some 38, (.bin .quo), [.r 37, .c (.int .i64 60)], none, [37]⟩, []⟩,
 ⟨3, 7, false, false, ⟨some 39, (.iaddrS 1), [.r 36, .r 38], none, []⟩, []⟩,
 ⟨4, 15, false, false, ⟨some 40, .ld1, [.r 39], none, [39]⟩, []⟩,
 ⟨5, 0, false, false, ⟨some 41, .mv, [.r 7], none, [7]⟩, []⟩,
 ⟨6, 32, false, false, ⟨some 42, (.bin .rem), [.r 41, .c (.int .i64 60)], none, [41]⟩, []⟩,
 ⟨7, 96, false, false, ⟨some 43, (.bin .shl), [.c (.int .i64 1), .r 42], none, [42]⟩, []⟩,
 ⟨8, 255, false, false, ⟨some 44, (.bin .or), [.r 40, .r 43], none, [40, 43]⟩, []⟩,
 ⟨9, 511, false, false, ⟨some 45, (.iaddrS 1), [.r 36, .r 38], none, [36, 38]⟩, []⟩,
 ⟨10, 1023, false, false, ⟨none, (.st 1), [.r 45, .r 44], none, [44, 45]⟩, []⟩])
 (.reg [⟨some 46, .mv, [.r 6], none, [6]⟩,
 ⟨some 47, .mv, [.r 8], none, [8]⟩,
 ⟨some 48, (.bslice 1 1 [(.int .i64 0)] [(0, 1)]), [.r 47], none, [47]⟩,
 ⟨some 49, (.app 1 8), [.r 46, .r 48], none, [46, 48]⟩,
 ⟨some 6, .mv, [.r 49], none, [49]⟩])))
 (.kl [7, 8, 35] .skip)))))
 (.reg [⟨some 50, (.bin .add), [.r 25, .c (.int .i64 1)], none, [25]⟩,
 ⟨some 25, .mv, [.r 50], none, [50]⟩]))))
def c33 : SC :=
 (.seq (.reg [⟨some 4, .mv, [.c .nils], none, []⟩,
 ⟨some 5, .mv, [.c (.int .i64 0)], none, [4]⟩])
 (.seq (.block 0 (.seq (.reg [⟨some 10, .mv, [.r 0], none, [5]⟩,
 ⟨some 11, .len, [.r 10], none, [10]⟩,
 ⟨some 12, .mv, [.r 1], none, []⟩,
 ⟨some 13, .len, [.r 12], none, [12]⟩,
 ⟨some 14, (.bin .neq), [.r 11, .r 13], none, [11, 13]⟩,
 ⟨some 9, .mv, [.r 14], none, [14]⟩])
 (.cond (.r 9)
 (.kl [0, 1, 9] (.seq (.reg [⟨some 4, .mv, [.c .nils], none, []⟩,
 ⟨some 5, .mv, [.c (.int .i64 9)], none, []⟩])
 .ret))
 (.kl [9] (.seq (.reg [⟨some 16, .mv, [.r 0], none, []⟩,
 ⟨some 17, .len, [.r 16], none, [16]⟩,
 ⟨some 18, (.bin .gtr), [.r 17, .c (.int .i64 600)], none, [17]⟩,
 ⟨some 15, .mv, [.r 18], none, [18]⟩])
 (.cond (.r 15)
 (.kl [0, 1, 15] (.seq (.reg [⟨some 4, .mv, [.c .nils], none, []⟩,
 ⟨some 5, .mv, [.c (.int .i64 5)], none, []⟩])
 .ret))
 (.kl [15] .skip)))))))
 (.seq (.reg [⟨some 19, .mv, [.r 1], none, []⟩,
 ⟨some 20, .len, [.r 19], none, [19]⟩,
 ⟨some 21, (.call 59), [.r 20], none, [20]⟩,
 ⟨some 22, (.mksl 1 8 [(.int .i64 0)]), [.r 21, .r 21], none, [21]⟩,
 ⟨some 6, .mv, [.r 22], none, [22]⟩])
 (.seq (.seq (.reg [⟨some 23, .mv, [.r 1], none, [1]⟩,
 ⟨some 24, .len, [.r 23], none, []⟩,
 ⟨some 25, .mv, [.c (.int .i64 0)], none, []⟩])
 (.block 1 (.loop c33l0)))
 (.seq (.reg [⟨some 51, .mv, [.r 6], none, [6]⟩,
 ⟨some 4, .mv, [.r 51], none, [51]⟩,
 ⟨some 5, .mv, [.c (.int .i64 0)], none, []⟩])
 .ret)))))
def rs33 : List SR := [.tmp 4, .tmp 5]
theorem acall33 (hn : args.length ≤ 52) (h : ac Try.prog c33 (argEnv 0 args) H (Fin H rs33 v H')) : ACall Try.prog 33 args H v H' :=
 acall Try.func33 (c := Try.f33.body.getD .skip) rfl (by kernel_rfl) (by kernel_rfl) hn h
def c34l0 : SC :=
 (.seq (.reg [⟨some 72, (.bin .lss), [.r 71, .r 70], none, []⟩])
 (.seq (.cond (.r 72)
 (.kl [72] .skip)
 (.kl [69, 70, 71, 72] (.exit 2)))
 (.seq (.block 3 (.seq (.reg [⟨some 73, (.iaddrS 1), [.r 69, .r 71], none, []⟩,
 ⟨some 74, .ld1, [.r 73], none, [73]⟩,
 ⟨some 9, .mv, [.r 74], none, [74]⟩])
 (.reg [⟨some 75, .ld1, [.r 3], none, []⟩,
 ⟨some 76, .mv, [.r 9], none, [9]⟩,
 ⟨some 77, (.bslice 1 1 [(.int .i64 0)] [(0, 1)]), [.r 76], none, [76]⟩,
 ⟨some 78, (.app 1 8), [.r 75, .r 77], none, [75, 77]⟩,
 ⟨none, (.st 1), [.r 3, .r 78], none, [78]⟩])))
 (.reg [⟨some 79, (.bin .add), [.r 71, .c (.int .i64 1)], none, [71]⟩,
 ⟨some 71, .mv, [.r 79], none, [79]⟩]))))
def c34l1 : SC :=
 (.seq (.reg [⟨some 18, (.bin .lss), [.r 17, .c (.int .i64 3)], none, []⟩])
 (.seq (.cond (.r 18)
 (.kl [18] .skip)
 (.kl [4, 16, 17, 18] (.exit 0)))
 (.seq (.block 1 (.seq (.reg [⟨some 19, (.idxA 6 3 true), [.r 16, .r 17], none, []⟩,
 ⟨some 6, (.alloc [(.int .i64 0), (.int .i64 0), .nils, (.int .i64 0), (.int .i64 0), .nils]), [], none, []⟩,
 ⟨none, (.st 6), [.r 6, .r 19], none, [19]⟩])
 (.seq (.reg [⟨some 20, .mv, [.r 4], none, []⟩,
 ⟨some 21, (.faddr 0), [.r 6], none, []⟩,
 ⟨some 22, (.faddr 2), [.r 21], none, [21]⟩,
 ⟨some 23, .ld1, [.r 22], none, [22]⟩,
 ⟨some 24, .callv, [.r 20, .r 23], none, [20, 23]⟩])
 (.seq (.reg [⟨some 25, .mv, [.r 4], none, [24]⟩,
 ⟨some 26, (.faddr 3), [.r 6], none, []⟩,
 ⟨some 27, (.faddr 2), [.r 26], none, [26]⟩,
 ⟨some 28, .ld1, [.r 27], none, [27]⟩,
 ⟨some 29, (.slice 1 false true false), [.r 28, .c (.int .i64 3)], none, [28]⟩,
 ⟨some 30, .callv, [.r 25, .r 29], none, [25, 29]⟩])
 (.dreg [⟨0, 0, false, false, ⟨some 31, .mv, [.r 4], none, [30]⟩, []⟩,
 ⟨1, 0, false, false, ⟨some 32, (.faddr 3), [.r 6], none, []⟩, []⟩,
 ⟨2, 2, false, false, ⟨some 33, (.faddr 2), [.r 32], none, [32]⟩, []⟩,
 ⟨3, 6, false, false, ⟨some 34, .ld1, [.r 33], none, [33]⟩, []⟩,
 ⟨4, 14, false, false, ⟨some 35, (.iaddrS 1), [.r 34, .c (.int .i64 4)], none, [34]⟩, []⟩,
 ⟨5, 30, false, false, ⟨some 36, .ld1, [.r 35], none, [35]⟩, []⟩,
 ⟨6, 0, false, false, ⟨some 37, (.faddr 3), [.r 6], none, []⟩, []⟩,
 ⟨7, 64, false, false, ⟨some 38, (.faddr 2), [.r 37], none, [37]⟩, []⟩,
 ⟨8, 192, false, false, ⟨some 39, .ld1, [.r 38], none, [38]⟩, []⟩,
 ⟨9, 448, false, false, ⟨some 40, (.iaddrS 1), [.r 39, .c (.int .i64 5)], none, [39]⟩, []⟩,
 ⟨10, 960, false, false, ⟨some 41, .ld1, [.r 40], none, [40]⟩, []⟩,
 ⟨11, 0, false, false, ⟨some 42, (.faddr 3), [.r 6], none, [6]⟩, []⟩,
 ⟨12, 2048, false, false, ⟨some 43, (.faddr 2), [.r 42], none, [42]⟩, []⟩,
 ⟨13, 6144, false, false, ⟨some 44, .ld1, [.r 43], none, [43]⟩, []⟩,
 ⟨14, 14336, false, false, ⟨some 45, (.iaddrS 1), [.r 44, .c (.int .i64 8)], none, [44]⟩, []⟩,
 ⟨15, 30720, false, false, ⟨some 46, .ld1, [.r 45], none, [45]⟩, []⟩,
 ⟨16, 65534, false, false, ⟨some 47, (.bslice 1 3 [(.int .i64 0), (.int .i64 0), (.int .i64 0)] [(0, 1), (1, 1), (2, 1)]), [.r 36, .r 41, .r 46], none, [36, 41, 46]⟩, []⟩,
 ⟨17, 131071, false, false, ⟨some 48, .callv, [.r 31, .r 47], none, [31, 47]⟩, []⟩])))))
 (.reg [⟨some 49, (.bin .add), [.r 17, .c (.int .i64 1)], none, [17, 48]⟩,
 ⟨some 17, .mv, [.r 49], none, [49]⟩]))))
def c34 : SC :=
 (.seq (.reg [⟨some 1, .box, [.r 0], none, [0]⟩,
 ⟨some 2, .mv, [.c .nils], none, []⟩])
 (.seq (.reg [⟨some 3, (.alloc [.nils]), [], none, [2]⟩])
 (.seq (.reg [⟨some 10, (.mkfn (.func 60) 0), [.r 3], none, []⟩,
 ⟨some 4, .mv, [.r 10], none, [10]⟩])
 (.seq (.reg [⟨some 11, .mv, [.r 4], none, []⟩,
 ⟨some 12, (.faddr 0), [.r 1], none, []⟩,
 ⟨some 13, (.aslice 1 4 false false false), [.r 12], none, [12]⟩,
 ⟨some 14, .callv, [.r 11, .r 13], none, [11, 13]⟩])
 (.seq (.seq (.reg [⟨some 15, (.faddr 4), [.r 1], none, [14]⟩,
 ⟨some 16, (.ldn 18), [.r 15], none, [15]⟩,
 ⟨some 17, .mv, [.c (.int .i64 0)], none, []⟩])
 (.block 0 (.loop c34l1)))
 (.seq (.reg [⟨some 7, .mv, [.c (.int .i64 0)], none, []⟩])
 (.seq (.seq (.reg [⟨some 50, (.faddr 28), [.r 1], none, []⟩,
 ⟨some 51, .ld1, [.r 50], none, [50]⟩])
 (.cond (.r 51)
 (.kl [7, 51] (.reg [⟨some 7, .mv, [.c (.int .i64 1)], none, []⟩]))
 (.kl [51] .skip)))
 (.seq (.seq (.reg [⟨some 52, (.faddr 22), [.r 1], none, []⟩,
 ⟨some 53, .ld1, [.r 52], none, [52]⟩,
 ⟨some 54, (.faddr 23), [.r 1], none, []⟩,
 ⟨some 55, .ld1, [.r 54], none, [54]⟩,
 ⟨some 56, (.faddr 24), [.r 1], none, []⟩,
 ⟨some 57, (.iaddrA 1 4), [.r 56, .c (.int .i64 0)], none, [56]⟩,
 ⟨some 58, .ld1, [.r 57], none, [57]⟩,
 ⟨some 59, (.faddr 24), [.r 1], none, []⟩,
 ⟨some 60, (.iaddrA 1 4), [.r 59, .c (.int .i64 1)], none, [59]⟩,
 ⟨some 61, .ld1, [.r 60], none, [60]⟩,
 ⟨some 62, (.faddr 24), [.r 1], none, []⟩,
 ⟨some 63, (.iaddrA 1 4), [.r 62, .c (.int .i64 2)], none, [62]⟩,
 ⟨some 64, .ld1, [.r 63], none, [63]⟩,
 ⟨some 65, (.faddr 24), [.r 1], none, [1]⟩,
 ⟨some 66, (.iaddrA 1 4), [.r 65, .c (.int .i64 3)], none, [65]⟩,
 ⟨some 67, .ld1, [.r 66], none, [66]⟩,
 ⟨some 68, .mv, [.r 7], none, [7]⟩,
 ⟨some 69, (.bslice 1 7 [(.int .i64 0), (.int .i64 0), (.int .i64 0), (.int .i64 0), (.int .i64 0), (.int .i64 0), (.int .i64 0)] [(0, 1), (1, 1), (2, 1), (3, 1), (4, 1), (5, 1), (6, 1)]), [.r 53, .r 55, .r 58, .r 61, .r 64, .r 67, .r 68], none, [53, 55, 58, 61, 64, 67, 68]⟩,
 ⟨some 70, .len, [.r 69], none, []⟩,
 ⟨some 71, .mv, [.c (.int .i64 0)], none, []⟩])
 (.block 2 (.loop c34l0)))
 (.seq (.reg [⟨some 80, .ld1, [.r 3], none, [3]⟩,
 ⟨some 2, .mv, [.r 80], none, [80]⟩])
 .ret)))))))))
def rs34 : List SR := [.tmp 2]
theorem acallK34 (hn : args.length ≤ 81) (h : ac Try.prog c34 (argEnv 0 args) H (FinK rs34 v H')) : ACall Try.prog 34 args H v H' :=
 acallK Try.func34 (c := Try.f34.body.getD .skip) rfl (by kernel_rfl) (by kernel_rfl) hn h
def c35l0 : SC :=
 (.block 1 (.seq (.reg [⟨some 5, (.alloc [(.int .i64 0), (.int .i64 0), (.int .i64 0), (.int .i64 0), (.int .i64 0), (.int .i64 0), (.int .i64 0), (.int .i64 0)]), [], none, []⟩])
 (.seq (.reg [⟨some 9, (.aslice 1 8 false false false), [.r 5], none, []⟩,
 ⟨some 10, .mv, [.r 4], none, [4]⟩,
 ⟨some 11, (.copy 1), [.r 9, .r 10], none, [9, 10]⟩])
 (.reg [⟨some 12, .ld1, [.r 3], none, [11]⟩,
 ⟨some 13, (.ldn 8), [.r 5], none, [5]⟩,
 ⟨some 14, (.bslice 8 1 [(.int .i64 0), (.int .i64 0), (.int .i64 0), (.int .i64 0), (.int .i64 0), (.int .i64 0), (.int .i64 0), (.int .i64 0)] [(0, 8)]), [.r 13], none, [13]⟩,
 ⟨some 15, (.app 8 64), [.r 12, .r 14], none, [12, 14]⟩,
 ⟨none, (.st 1), [.r 3, .r 15], none, [3, 15]⟩]))))
def c35l1 : SC :=
 (.kl [7] (.reg [⟨some 4, .mv, [.r 8], none, [8]⟩]))
def c35 : SC :=
 (.seq (.reg [⟨some 2, .mv, [.c .nils], none, []⟩])
 (.seq (.reg [⟨some 3, (.alloc [.nils]), [], none, [2]⟩])
 (.seq (.seq (.reg [⟨some 6, .mv, [.r 0], none, [0]⟩,
 ⟨some 7, (.call 61), [.r 6, .c (.int .i64 8)], none, [6]⟩])
 (.block 0 (.rfun (.r 7) 17 [8] c35l1
 c35l0)))
 (.seq (.reg [⟨some 16, .ld1, [.r 3], none, [3, 7]⟩,
 ⟨some 2, .mv, [.r 16], none, [16]⟩])
 .ret))))
def rs35 : List SR := [.tmp 2]
theorem acallK35 (hn : args.length ≤ 17) (h : ac Try.prog c35 (argEnv 0 args) H (FinK rs35 v H')) : ACall Try.prog 35 args H v H' :=
 acallK Try.func35 (c := Try.f35.body.getD .skip) rfl (by kernel_rfl) (by kernel_rfl) hn h
def c36 : SC :=
 (.seq (.reg [⟨some 2, .mv, [.c (.bool false)], none, []⟩])
 (.seq (.reg [⟨some 3, .mv, [.r 0], none, [2]⟩,
 ⟨some 4, (.bin .lss), [.r 3, .c (.int .i64 0)], none, [3]⟩,
 ⟨some 5, .mv, [.r 4], none, [4]⟩,
 ⟨some 6, .mv, [.r 0], (some (5, false)), [0]⟩,
 ⟨some 7, (.bin .gtr), [.r 6, .c (.int .i64 4611686018427387904)], (some (5, false)), [6]⟩,
 ⟨some 8, .pick, [.r 5, .c (.bool true), .r 7], none, [5, 7]⟩,
 ⟨some 2, .mv, [.r 8], none, [8]⟩])
 .ret))
def rs36 : List SR := [.tmp 2]
theorem acall36 (hn : args.length ≤ 9) (h : ac Try.prog c36 (argEnv 0 args) H (Fin H rs36 v H')) : ACall Try.prog 36 args H v H' :=
 acall Try.func36 (c := Try.f36.body.getD .skip) rfl (by kernel_rfl) (by kernel_rfl) hn h
def c37 : SC :=
 (.seq (.reg [⟨some 4, .mv, [.c (.bool false)], none, []⟩])
 (.seq (.reg [⟨some 5, .mv, [.r 0], none, [0, 4]⟩,
 ⟨some 6, .mv, [.r 1], none, [1]⟩,
 ⟨some 7, (.call 62), [.r 5, .r 6], none, [5, 6]⟩,
 ⟨some 8, (.bin .geq), [.r 7, .c (.int .i64 0)], none, [7]⟩,
 ⟨some 4, .mv, [.r 8], none, [8]⟩])
 .ret))
def rs37 : List SR := [.tmp 4]
theorem acall37 (hn : args.length ≤ 9) (h : ac Try.prog c37 (argEnv 0 args) H (Fin H rs37 v H')) : ACall Try.prog 37 args H v H' :=
 acall Try.func37 (c := Try.f37.body.getD .skip) rfl (by kernel_rfl) (by kernel_rfl) hn h
def c38 : SC :=
 (.seq (.reg [⟨some 1, .box, [.r 0], none, [0]⟩,
 ⟨some 2, .mv, [.c (.int .i64 0)], none, []⟩])
 (.seq (.reg [⟨some 3, (.faddr 3), [.r 1], none, [1, 2]⟩,
 ⟨some 4, .ld1, [.r 3], none, [3]⟩,
 ⟨some 5, (.call 63), [.r 4], none, [4]⟩,
 ⟨some 2, .mv, [.r 5], none, [5]⟩])
 .ret))
def rs38 : List SR := [.tmp 2]
theorem acall38 (hn : args.length ≤ 6) (h : ac Try.prog c38 (argEnv 0 args) H (Fin H rs38 v H')) : ACall Try.prog 38 args H v H' :=
 acall Try.func38 (c := Try.f38.body.getD .skip) rfl (by kernel_rfl) (by kernel_rfl) hn h
def c39l0 : SC :=
 (.seq (.seq (.reg [⟨some 19, .mv, [.r 10], none, []⟩,
 ⟨some 20, .mv, [.r 1], none, []⟩,
 ⟨some 21, .len, [.r 20], none, [20]⟩,
 ⟨some 22, (.bin .lss), [.r 19, .r 21], none, [19, 21]⟩])
 (.cond (.r 22)
 (.kl [22] .skip)
 (.kl [0, 1, 8, 9, 10, 22] (.exit 0))))
 (.seq (.block 1 (.seq (.seq (.dreg [⟨0, 0, false, false, ⟨some 25, .mv, [.r 1], none, []⟩, []⟩,
 ⟨1, 0, false, false, ⟨some 26, .mv, [.r 10], none, []⟩, []⟩,
 ⟨2, 3, false, false, ⟨some 27, (.iaddrS 1), [.r 25, .r 26], none, [25, 26]⟩, []⟩,
 ⟨3, 7, false, false, ⟨some 28, .ld1, [.r 27], none, [27]⟩, []⟩,
 ⟨4, 0, false, false, ⟨some 29, .mv, [.r 0], none, []⟩, []⟩,
 ⟨5, 0, false, false, ⟨some 30, .mv, [.r 10], none, []⟩, []⟩,
 ⟨6, 48, false, false, ⟨some 31, (.iaddrS 1), [.r 29, .r 30], none, [29, 30]⟩, []⟩,
 ⟨7, 112, false, false, ⟨some 32, .ld1, [.r 31], none, [31]⟩, []⟩,
 ⟨8, 255, false, false, ⟨some 33, (.bin .neq), [.r 28, .r 32], none, [28, 32]⟩, []⟩])
 (.cond (.r 33)
 (.kl [33] (.seq (.reg [⟨some 34, .mv, [.r 8], none, [8]⟩,
 ⟨some 35, .mv, [.r 9], none, []⟩,
 ⟨some 36, (.bin .add), [.r 34, .r 35], none, [34, 35]⟩,
 ⟨some 8, .mv, [.r 36], none, [36]⟩])
 (.reg [⟨some 37, .mv, [.r 7], none, [7]⟩,
 ⟨some 38, .mv, [.r 1], none, []⟩,
 ⟨some 39, .mv, [.r 10], none, []⟩,
 ⟨some 40, (.iaddrS 1), [.r 38, .r 39], none, [38, 39]⟩,
 ⟨some 41, .ld1, [.r 40], none, [40]⟩,
 ⟨some 42, (.bslice 1 1 [(.int .i64 0)] [(0, 1)]), [.r 41], none, [41]⟩,
 ⟨some 43, (.app 1 8), [.r 37, .r 42], none, [37, 42]⟩,
 ⟨some 7, .mv, [.r 43], none, [43]⟩])))
 (.kl [33] .skip)))
 (.seq (.reg [⟨some 44, .mv, [.r 9], none, [9]⟩,
 ⟨some 45, (.bin .mul), [.r 44, .c (.int .i64 2)], none, [44]⟩,
 ⟨some 9, .mv, [.r 45], none, [45]⟩])
 (.seq (.reg [⟨some 46, .mv, [.r 10], none, []⟩,
 ⟨some 47, (.bin .rem), [.r 46, .c (.int .i64 60)], none, [46]⟩,
 ⟨some 48, (.bin .eql), [.r 47, .c (.int .i64 59)], none, [47]⟩,
 ⟨some 49, .mv, [.r 48], none, [48]⟩,
 ⟨some 50, .mv, [.r 10], (some (49, false)), []⟩,
 ⟨some 51, .mv, [.r 1], (some (49, false)), []⟩,
 ⟨some 52, .len, [.r 51], (some (49, false)), [51]⟩,
 ⟨some 53, (.bin .sub), [.r 52, .c (.int .i64 1)], (some (49, false)), [52]⟩,
 ⟨some 54, (.bin .eql), [.r 50, .r 53], (some (49, false)), [50, 53]⟩,
 ⟨some 55, .pick, [.r 49, .c (.bool true), .r 54], none, [49, 54]⟩])
 (.cond (.r 55)
 (.kl [9, 55] (.seq (.reg [⟨some 56, .mv, [.r 6], none, [6]⟩,
 ⟨some 57, .mv, [.r 8], none, [8]⟩,
 ⟨some 58, (.bslice 1 1 [(.int .i64 0)] [(0, 1)]), [.r 57], none, [57]⟩,
 ⟨some 59, (.app 1 8), [.r 56, .r 58], none, [56, 58]⟩,
 ⟨some 6, .mv, [.r 59], none, [59]⟩])
 (.seq (.reg [⟨some 8, .mv, [.c (.int .i64 0)], none, []⟩])
 (.reg [⟨some 9, .mv, [.c (.int .i64 1)], none, []⟩]))))
 (.kl [55] .skip))))))
 (.reg [⟨some 23, .mv, [.r 10], none, [10]⟩,
 ⟨some 24, (.bin .add), [.r 23, .c (.int .i64 1)], none, [23]⟩,
 ⟨some 10, .mv, [.r 24], none, [24]⟩])))
def c39 : SC :=
 (.seq (.reg [⟨some 4, .mv, [.c .nils], none, []⟩,
 ⟨some 5, .mv, [.c (.int .i64 0)], none, [4]⟩])
 (.seq (.seq (.reg [⟨some 11, .mv, [.r 0], none, [5]⟩,
 ⟨some 12, .len, [.r 11], none, [11]⟩,
 ⟨some 13, .mv, [.r 1], none, []⟩,
 ⟨some 14, .len, [.r 13], none, [13]⟩,
 ⟨some 15, (.bin .neq), [.r 12, .r 14], none, [12, 14]⟩])
 (.cond (.r 15)
 (.kl [0, 1, 15] (.seq (.reg [⟨some 4, .mv, [.c .nils], none, []⟩,
 ⟨some 5, .mv, [.c (.int .i64 9)], none, []⟩])
 .ret))
 (.kl [15] .skip)))
 (.seq (.seq (.reg [⟨some 16, .mv, [.r 0], none, []⟩,
 ⟨some 17, .len, [.r 16], none, [16]⟩,
 ⟨some 18, (.bin .gtr), [.r 17, .c (.int .i64 600)], none, [17]⟩])
 (.cond (.r 18)
 (.kl [0, 1, 18] (.seq (.reg [⟨some 4, .mv, [.c .nils], none, []⟩,
 ⟨some 5, .mv, [.c (.int .i64 5)], none, []⟩])
 .ret))
 (.kl [18] .skip)))
 (.seq (.reg [⟨some 6, .mv, [.c .nils], none, []⟩])
 (.seq (.reg [⟨some 7, .mv, [.c .nils], none, []⟩])
 (.seq (.reg [⟨some 8, .mv, [.c (.int .i64 0)], none, []⟩])
 (.seq (.reg [⟨some 9, .mv, [.c (.int .i64 1)], none, []⟩])
 (.seq (.seq (.reg [⟨some 10, .mv, [.c (.int .i64 0)], none, []⟩])
 (.block 0 (.loop c39l0)))
 (.seq (.reg [⟨some 60, .mv, [.r 6], none, [6]⟩,
 ⟨some 61, .mv, [.r 7], none, [7]⟩,
 ⟨some 62, (.app 1 8), [.r 60, .r 61], none, [60, 61]⟩,
 ⟨some 4, .mv, [.r 62], none, [62]⟩,
 ⟨some 5, .mv, [.c (.int .i64 0)], none, []⟩])
 .ret)))))))))
def rs39 : List SR := [.tmp 4, .tmp 5]
theorem acall39 (hn : args.length ≤ 63) (h : ac Try.prog c39 (argEnv 0 args) H (Fin H rs39 v H')) : ACall Try.prog 39 args H v H' :=
 acall Try.func39 (c := Try.f39.body.getD .skip) rfl (by kernel_rfl) (by kernel_rfl) hn h
def c40l0 : SC :=
 (.seq (.seq (.reg [⟨some 47, .mv, [.r 9], none, []⟩,
 ⟨some 48, (.bin .lss), [.r 47, .c (.int .i64 3)], none, [47]⟩])
 (.cond (.r 48)
 (.kl [48] .skip)
 (.kl [9, 48] (.exit 8))))
 (.seq (.block 9 (.reg [⟨some 51, .mv, [.r 3], none, [3]⟩,
 ⟨some 52, (.faddr 3), [.r 6], none, []⟩,
 ⟨some 53, (.faddr 2), [.r 52], none, [52]⟩,
 ⟨some 54, .ld1, [.r 53], none, [53]⟩,
 ⟨some 55, .mv, [.r 8], none, []⟩,
 ⟨some 56, (.bin .mul), [.c (.int .i64 3), .r 55], none, [55]⟩,
 ⟨some 57, .mv, [.r 9], none, []⟩,
 ⟨some 58, (.bin .add), [.r 56, .r 57], none, [56, 57]⟩,
 ⟨some 59, (.iaddrS 1), [.r 54, .r 58], none, [54, 58]⟩,
 ⟨some 60, .ld1, [.r 59], none, [59]⟩,
 ⟨some 61, (.bslice 1 1 [(.int .i64 0)] [(0, 1)]), [.r 60], none, [60]⟩,
 ⟨some 62, (.app 1 8), [.r 51, .r 61], none, [51, 61]⟩,
 ⟨some 3, .mv, [.r 62], none, [62]⟩]))
 (.reg [⟨some 49, .mv, [.r 9], none, [9]⟩,
 ⟨some 50, (.bin .add), [.r 49, .c (.int .i64 1)], none, [49]⟩,
 ⟨some 9, .mv, [.r 50], none, [50]⟩])))
def c40l1 : SC :=
 (.seq (.seq (.reg [⟨some 42, .mv, [.r 8], none, []⟩,
 ⟨some 43, (.bin .lss), [.r 42, .c (.int .i64 3)], none, [42]⟩])
 (.cond (.r 43)
 (.kl [43] .skip)
 (.kl [6, 8, 43] (.exit 6))))
 (.seq (.block 7 (.seq (.reg [⟨some 46, .mv, [.r 8], none, []⟩,
 ⟨some 9, .mv, [.r 46], none, [46]⟩])
 (.block 8 (.loop c40l0))))
 (.reg [⟨some 44, .mv, [.r 8], none, [8]⟩,
 ⟨some 45, (.bin .add), [.r 44, .c (.int .i64 1)], none, [44]⟩,
 ⟨some 8, .mv, [.r 45], none, [45]⟩])))
def c40l2 : SC :=
 (.seq (.seq (.reg [⟨some 29, .mv, [.r 7], none, []⟩,
 ⟨some 30, (.bin .lss), [.r 29, .c (.int .i64 3)], none, [29]⟩])
 (.cond (.r 30)
 (.kl [30] .skip)
 (.kl [7, 30] (.exit 4))))
 (.seq (.block 5 (.reg [⟨some 33, .mv, [.r 3], none, [3]⟩,
 ⟨some 34, (.faddr 0), [.r 6], none, []⟩,
 ⟨some 35, (.faddr 2), [.r 34], none, [34]⟩,
 ⟨some 36, .ld1, [.r 35], none, [35]⟩,
 ⟨some 37, .mv, [.r 7], none, []⟩,
 ⟨some 38, (.iaddrS 1), [.r 36, .r 37], none, [36, 37]⟩,
 ⟨some 39, .ld1, [.r 38], none, [38]⟩,
 ⟨some 40, (.bslice 1 1 [(.int .i64 0)] [(0, 1)]), [.r 39], none, [39]⟩,
 ⟨some 41, (.app 1 8), [.r 33, .r 40], none, [33, 40]⟩,
 ⟨some 3, .mv, [.r 41], none, [41]⟩]))
 (.reg [⟨some 31, .mv, [.r 7], none, [7]⟩,
 ⟨some 32, (.bin .add), [.r 31, .c (.int .i64 1)], none, [31]⟩,
 ⟨some 7, .mv, [.r 32], none, [32]⟩])))
def c40l3 : SC :=
 (.seq (.seq (.reg [⟨some 21, .mv, [.r 5], none, []⟩,
 ⟨some 22, (.bin .lss), [.r 21, .c (.int .i64 3)], none, [21]⟩])
 (.cond (.r 22)
 (.kl [22] .skip)
 (.kl [5, 22] (.exit 2))))
 (.seq (.block 3 (.seq (.reg [⟨some 25, .mv, [.r 5], none, []⟩,
 ⟨some 26, (.faddr 4), [.r 1], none, []⟩,
 ⟨some 27, (.iaddrA 6 3), [.r 26, .r 25], none, [25, 26]⟩,
 ⟨some 28, (.ldn 6), [.r 27], none, [27]⟩,
 ⟨some 6, (.alloc [(.int .i64 0), (.int .i64 0), .nils, (.int .i64 0), (.int .i64 0), .nils]), [], none, []⟩,
 ⟨none, (.st 6), [.r 6, .r 28], none, [28]⟩])
 (.seq (.seq (.reg [⟨some 7, .mv, [.c (.int .i64 0)], none, []⟩])
 (.block 4 (.loop c40l2)))
 (.seq (.reg [⟨some 8, .mv, [.c (.int .i64 0)], none, []⟩])
 (.block 6 (.loop c40l1))))))
 (.reg [⟨some 23, .mv, [.r 5], none, [5]⟩,
 ⟨some 24, (.bin .add), [.r 23, .c (.int .i64 1)], none, [23]⟩,
 ⟨some 5, .mv, [.r 24], none, [24]⟩])))
def c40l4 : SC :=
 (.seq (.seq (.reg [⟨some 10, .mv, [.r 4], none, []⟩,
 ⟨some 11, (.bin .lss), [.r 10, .c (.int .i64 4)], none, [10]⟩])
 (.cond (.r 11)
 (.kl [11] .skip)
 (.kl [4, 11] (.exit 0))))
 (.seq (.block 1 (.reg [⟨some 14, .mv, [.r 3], none, [3]⟩,
 ⟨some 15, .mv, [.r 4], none, []⟩,
 ⟨some 16, (.faddr 0), [.r 1], none, []⟩,
 ⟨some 17, (.iaddrA 1 4), [.r 16, .r 15], none, [15, 16]⟩,
 ⟨some 18, .ld1, [.r 17], none, [17]⟩,
 ⟨some 19, (.bslice 1 1 [(.int .i64 0)] [(0, 1)]), [.r 18], none, [18]⟩,
 ⟨some 20, (.app 1 8), [.r 14, .r 19], none, [14, 19]⟩,
 ⟨some 3, .mv, [.r 20], none, [20]⟩]))
 (.reg [⟨some 12, .mv, [.r 4], none, [4]⟩,
 ⟨some 13, (.bin .add), [.r 12, .c (.int .i64 1)], none, [12]⟩,
 ⟨some 4, .mv, [.r 13], none, [13]⟩])))
def c40 : SC :=
 (.seq (.reg [⟨some 1, .box, [.r 0], none, [0]⟩,
 ⟨some 2, .mv, [.c .nils], none, []⟩])
 (.seq (.reg [⟨some 3, .mv, [.c .nils], none, [2]⟩])
 (.seq (.seq (.reg [⟨some 4, .mv, [.c (.int .i64 0)], none, []⟩])
 (.block 0 (.loop c40l4)))
 (.seq (.seq (.reg [⟨some 5, .mv, [.c (.int .i64 0)], none, []⟩])
 (.block 2 (.loop c40l3)))
 (.seq (.reg [⟨some 63, .mv, [.r 3], none, [3]⟩,
 ⟨some 64, (.faddr 22), [.r 1], none, []⟩,
 ⟨some 65, .ld1, [.r 64], none, [64]⟩,
 ⟨some 66, (.faddr 23), [.r 1], none, []⟩,
 ⟨some 67, .ld1, [.r 66], none, [66]⟩,
 ⟨some 68, (.faddr 24), [.r 1], none, []⟩,
 ⟨some 69, (.iaddrA 1 4), [.r 68, .c (.int .i64 0)], none, [68]⟩,
 ⟨some 70, .ld1, [.r 69], none, [69]⟩,
 ⟨some 71, (.faddr 24), [.r 1], none, []⟩,
 ⟨some 72, (.iaddrA 1 4), [.r 71, .c (.int .i64 1)], none, [71]⟩,
 ⟨some 73, .ld1, [.r 72], none, [72]⟩,
 ⟨some 74, (.faddr 24), [.r 1], none, []⟩,
 ⟨some 75, (.iaddrA 1 4), [.r 74, .c (.int .i64 2)], none, [74]⟩,
 ⟨some 76, .ld1, [.r 75], none, [75]⟩,
 ⟨some 77, (.faddr 24), [.r 1], none, []⟩,
 ⟨some 78, (.iaddrA 1 4), [.r 77, .c (.int .i64 3)], none, [77]⟩,
 ⟨some 79, .ld1, [.r 78], none, [78]⟩,
 ⟨some 80, (.bslice 1 6 [(.int .i64 0), (.int .i64 0), (.int .i64 0), (.int .i64 0), (.int .i64 0), (.int .i64 0)] [(0, 1), (1, 1), (2, 1), (3, 1), (4, 1), (5, 1)]), [.r 65, .r 67, .r 70, .r 73, .r 76, .r 79], none, [65, 67, 70, 73, 76, 79]⟩,
 ⟨some 81, (.app 1 8), [.r 63, .r 80], none, [63, 80]⟩,
 ⟨some 3, .mv, [.r 81], none, [81]⟩])
 (.seq (.seq (.reg [⟨some 82, (.faddr 28), [.r 1], none, [1]⟩,
 ⟨some 83, .ld1, [.r 82], none, [82]⟩])
 (.cond (.r 83)
 (.kl [83] (.seq (.reg [⟨some 84, .mv, [.r 3], none, [3]⟩,
 ⟨some 85, (.bslice 1 1 [(.int .i64 0)] [(0, 1)]), [.c (.int .i64 1)], none, []⟩,
 ⟨some 86, (.app 1 8), [.r 84, .r 85], none, [84, 85]⟩,
 ⟨some 2, .mv, [.r 86], none, [86]⟩])
 .ret))
 (.kl [83] .skip)))
 (.seq (.reg [⟨some 87, .mv, [.r 3], none, [3]⟩,
 ⟨some 88, (.bslice 1 1 [(.int .i64 0)] [(0, 1)]), [.c (.int .i64 0)], none, []⟩,
 ⟨some 89, (.app 1 8), [.r 87, .r 88], none, [87, 88]⟩,
 ⟨some 2, .mv, [.r 89], none, [89]⟩])
 .ret)))))))
def rs40 : List SR := [.tmp 2]
theorem acallK40 (hn : args.length ≤ 90) (h : ac Try.prog c40 (argEnv 0 args) H (FinK rs40 v H')) : ACall Try.prog 40 args H v H' :=
 acallK Try.func40 (c := Try.f40.body.getD .skip) rfl (by kernel_rfl) (by kernel_rfl) hn h
def c41l0 : SC :=
 (.seq (.seq (.reg [⟨some 5, .mv, [.r 4], none, []⟩,
 ⟨some 6, .mv, [.r 0], none, []⟩,
 ⟨some 7, .len, [.r 6], none, [6]⟩,
 ⟨some 8, (.bin .lss), [.r 5, .r 7], none, [5, 7]⟩])
 (.cond (.r 8)
 (.kl [8] .skip)
 (.kl [0, 4, 8] (.exit 0))))
 (.seq (.block 1 (.seq (.seq (.reg [⟨some 11, .mv, [.r 4], none, []⟩,
 ⟨some 12, (.bin .rem), [.r 11, .c (.int .i64 8)], none, [11]⟩,
 ⟨some 13, (.bin .eql), [.r 12, .c (.int .i64 0)], none, [12]⟩])
 (.cond (.r 13)
 (.kl [13] (.reg [⟨some 14, .mv, [.r 3], none, [3]⟩,
 ⟨some 15, (.build [(.int .i64 0), (.int .i64 0), (.int .i64 0), (.int .i64 0), (.int .i64 0), (.int .i64 0), (.int .i64 0), (.int .i64 0)] []), [], none, []⟩,
 ⟨some 16, (.bslice 8 1 [(.int .i64 0), (.int .i64 0), (.int .i64 0), (.int .i64 0), (.int .i64 0), (.int .i64 0), (.int .i64 0), (.int .i64 0)] [(0, 8)]), [.r 15], none, [15]⟩,
 ⟨some 17, (.app 8 64), [.r 14, .r 16], none, [14, 16]⟩,
 ⟨some 3, .mv, [.r 17], none, [17]⟩]))
 (.kl [13] .skip)))
 (.dreg [⟨0, 0, false, false, ⟨some 18, .mv, [.r 3], none, []⟩, []⟩,
 ⟨1, 0, false, false, ⟨some 19, .mv, [.r 4], none, []⟩, []⟩,
 ⟨2, 2, false, false, ⟨some 20, (.bin .quo), [.r 19, .c (.int .i64 8)], none, [19]⟩, []⟩,
 ⟨3, 0, false, false, ⟨some 21, .mv, [.r 4], none, []⟩, []⟩,
 ⟨4, 8, false, false, ⟨some 22, (.bin .rem), [.r 21, .c (.int .i64 8)], none, [21]⟩, []⟩,
 ⟨5, 0, false, false, ⟨some 23, .mv, [.r 0], none, []⟩, []⟩,
 ⟨6, 0, false, false, ⟨some 24, .mv, [.r 4], none, []⟩, []⟩,
 ⟨7, 96, false, false, ⟨some 25, (.iaddrS 1), [.r 23, .r 24], none, [23, 24]⟩, []⟩,
 ⟨8, 224, false, false, ⟨some 26, .ld1, [.r 25], none, [25]⟩, []⟩,
 ⟨9, 7, false, false, ⟨some 27, (.iaddrS 8), [.r 18, .r 20], none, [18, 20]⟩, []⟩,
 ⟨10, 1023, false, false, ⟨some 28, (.iaddrA 1 8), [.r 27, .r 22], none, [22, 27]⟩, []⟩,
 ⟨11, 2047, false, false, ⟨none, (.st 1), [.r 28, .r 26], none, [26, 28]⟩, []⟩])))
 (.reg [⟨some 9, .mv, [.r 4], none, [4]⟩,
 ⟨some 10, (.bin .add), [.r 9, .c (.int .i64 1)], none, [9]⟩,
 ⟨some 4, .mv, [.r 10], none, [10]⟩])))
def c41 : SC :=
 (.seq (.reg [⟨some 2, .mv, [.c .nils], none, []⟩])
 (.seq (.reg [⟨some 3, .mv, [.c .nils], none, [2]⟩])
 (.seq (.seq (.reg [⟨some 4, .mv, [.c (.int .i64 0)], none, []⟩])
 (.block 0 (.loop c41l0)))
 (.seq (.reg [⟨some 29, .mv, [.r 3], none, [3]⟩,
 ⟨some 2, .mv, [.r 29], none, [29]⟩])
 .ret))))
def rs41 : List SR := [.tmp 2]
theorem acallK41 (hn : args.length ≤ 30) (h : ac Try.prog c41 (argEnv 0 args) H (FinK rs41 v H')) : ACall Try.prog 41 args H v H' :=
 acallK Try.func41 (c := Try.f41.body.getD .skip) rfl (by kernel_rfl) (by kernel_rfl) hn h
def c42 : SC :=
 (.seq (.reg [⟨some 4, .mv, [.c (.bool false)], none, []⟩])
 (.seq (.reg [⟨some 5, .mv, [.r 0], none, [0, 4]⟩,
 ⟨some 6, .mv, [.r 1], none, [1]⟩,
 ⟨some 7, (.call 64), [.r 5, .r 6], none, [5, 6]⟩,
 ⟨some 8, (.bin .geq), [.r 7, .c (.int .i64 0)], none, [7]⟩,
 ⟨some 4, .mv, [.r 8], none, [8]⟩])
 .ret))
def rs42 : List SR := [.tmp 4]
theorem acall42 (hn : args.length ≤ 9) (h : ac Try.prog c42 (argEnv 0 args) H (Fin H rs42 v H')) : ACall Try.prog 42 args H v H' :=
 acall Try.func42 (c := Try.f42.body.getD .skip) rfl (by kernel_rfl) (by kernel_rfl) hn h
def c43l0 : SC :=
 (.seq (.reg [⟨some 35, (.bin .lss), [.r 34, .r 33], none, []⟩])
 (.seq (.cond (.r 35)
 (.kl [35] .skip)
 (.kl [32, 33, 34, 35] (.exit 2)))
 (.seq (.block 3 (.seq (.reg [⟨some 36, (.iaddrS 1), [.r 32, .r 34], none, []⟩,
 ⟨some 37, .ld1, [.r 36], none, [36]⟩,
 ⟨some 10, .mv, [.r 37], none, [37]⟩])
 (.seq (.reg [⟨some 38, .mv, [.r 10], none, [10]⟩,
 ⟨some 39, (.bin .neq), [.r 38, .c (.int .i64 0)], none, [38]⟩])
 (.cond (.r 39)
 (.kl [1, 6, 32, 33, 34, 39] (.seq (.reg [⟨some 4, .mv, [.c .nils], none, []⟩,
 ⟨some 5, .mv, [.c (.int .i64 9)], none, []⟩])
 .ret))
 (.kl [39] .skip)))))
 (.reg [⟨some 40, (.bin .add), [.r 34, .c (.int .i64 1)], none, [34]⟩,
 ⟨some 34, .mv, [.r 40], none, [40]⟩]))))
def c43l1 : SC :=
 (.seq (.reg [⟨some 23, (.bin .lss), [.r 22, .r 21], none, []⟩])
 (.seq (.cond (.r 23)
 (.kl [23] .skip)
 (.kl [20, 21, 22, 23] (.exit 0)))
 (.seq (.block 1 (.seq (.reg [⟨some 24, (.iaddrS 8), [.r 20, .r 22], none, []⟩,
 ⟨some 25, (.ldn 8), [.r 24], none, [24]⟩,
 ⟨some 8, (.alloc [(.int .i64 0), (.int .i64 0), (.int .i64 0), (.int .i64 0), (.int .i64 0), (.int .i64 0), (.int .i64 0), (.int .i64 0)]), [], none, []⟩,
 ⟨none, (.st 8), [.r 8, .r 25], none, [25]⟩])
 (.reg [⟨some 26, .mv, [.r 6], none, [6]⟩,
 ⟨some 27, (.aslice 1 8 false false false), [.r 8], none, [8]⟩,
 ⟨some 28, (.app 1 8), [.r 26, .r 27], none, [26, 27]⟩,
 ⟨some 6, .mv, [.r 28], none, [28]⟩])))
 (.reg [⟨some 29, (.bin .add), [.r 22, .c (.int .i64 1)], none, [22]⟩,
 ⟨some 22, .mv, [.r 29], none, [29]⟩]))))
def c43 : SC :=
 (.seq (.reg [⟨some 4, .mv, [.c .nils], none, []⟩,
 ⟨some 5, .mv, [.c (.int .i64 0)], none, [4]⟩])
 (.seq (.seq (.reg [⟨some 11, .mv, [.r 1], none, [5]⟩,
 ⟨some 12, (.bin .lss), [.r 11, .c (.int .i64 0)], none, [11]⟩,
 ⟨some 13, .mv, [.r 12], none, [12]⟩,
 ⟨some 14, .mv, [.r 0], (some (13, false)), []⟩,
 ⟨some 15, .len, [.r 14], (some (13, false)), [14]⟩,
 ⟨some 16, .mv, [.r 1], (some (13, false)), []⟩,
 ⟨some 17, (.call 63), [.r 16], (some (13, false)), [16]⟩,
 ⟨some 18, (.bin .neq), [.r 15, .r 17], (some (13, false)), [15, 17]⟩,
 ⟨some 19, .pick, [.r 13, .c (.bool true), .r 18], none, [13, 18]⟩])
 (.cond (.r 19)
 (.kl [0, 1, 19] (.seq (.reg [⟨some 4, .mv, [.c .nils], none, []⟩,
 ⟨some 5, .mv, [.c (.int .i64 9)], none, []⟩])
 .ret))
 (.kl [19] .skip)))
 (.seq (.reg [⟨some 6, .mv, [.c .nils], none, []⟩])
 (.seq (.seq (.reg [⟨some 20, .mv, [.r 0], none, [0]⟩,
 ⟨some 21, .len, [.r 20], none, []⟩,
 ⟨some 22, .mv, [.c (.int .i64 0)], none, []⟩])
 (.block 0 (.loop c43l1)))
 (.seq (.seq (.reg [⟨some 30, .mv, [.r 6], none, []⟩,
 ⟨some 31, .mv, [.r 1], none, []⟩,
 ⟨some 32, (.slice 1 true false false), [.r 30, .r 31], none, [30, 31]⟩,
 ⟨some 33, .len, [.r 32], none, []⟩,
 ⟨some 34, .mv, [.c (.int .i64 0)], none, []⟩])
 (.block 2 (.loop c43l0)))
 (.seq (.reg [⟨some 41, .mv, [.r 6], none, [6]⟩,
 ⟨some 42, .mv, [.r 1], none, [1]⟩,
 ⟨some 43, (.slice 1 false true false), [.r 41, .r 42], none, [41, 42]⟩,
 ⟨some 4, .mv, [.r 43], none, [43]⟩,
 ⟨some 5, .mv, [.c (.int .i64 0)], none, []⟩])
 .ret))))))
def rs43 : List SR := [.tmp 4, .tmp 5]
theorem acallK43 (hn : args.length ≤ 44) (h : ac Try.prog c43 (argEnv 0 args) H (FinK rs43 v H')) : ACall Try.prog 43 args H v H' :=
 acallK Try.func43 (c := Try.f43.body.getD .skip) rfl (by kernel_rfl) (by kernel_rfl) hn h
def c44l0 : SC :=
 (.seq (.reg [⟨some 44, (.bin .lss), [.r 43, .r 42], none, []⟩])
 (.seq (.cond (.r 44)
 (.kl [44] .skip)
 (.kl [7, 42, 43, 44] (.exit 1)))
 (.seq (.block 2 (.seq (.reg [⟨some 45, .mv, [.r 43], none, []⟩,
 ⟨some 10, .mv, [.r 45], none, [45]⟩])
 (.seq (.seq (.reg [⟨some 46, .mv, [.r 7], none, []⟩,
 ⟨some 47, .mv, [.r 10], none, []⟩,
 ⟨some 48, (.bin .quo), [.r 47, .c (.int .i64 60)], none, [47]⟩,
 ⟨some 49, (.iaddrS 1), [.r 46, .r 48], none, [46, 48]⟩,
 ⟨some 50, .ld1, [.r 49], none, [49]⟩,
 ⟨some 51, .mv, [.r 10], none, []⟩,
 ⟨some 52, (.bin .rem), [.r 51, .c (.int .i64 60)], none, [51]⟩,
 ⟨some 53, (.bin .shr), [.r 50, .r 52], none, [50, 52]⟩,
 ⟨some 54, (.bin .and), [.r 53, .c (.int .i64 1)], none, [53]⟩,
 ⟨some 55, (.bin .eql), [.r 54, .c (.int .i64 0)], none, [54]⟩])
 (.cond (.r 55)
 (.kl [10, 55] (.exit 2))
 (.kl [55] .skip)))
 (.seq (.seq (.dreg [⟨0, 0, false, false, ⟨some 56, .mv, [.r 8], none, []⟩, []⟩,
 ⟨1, 1, false, false, ⟨some 57, (.iaddrS 1), [.r 56, .c (.int .i64 0)], none, [56]⟩, []⟩,
 ⟨2, 3, false, false, ⟨some 58, .ld1, [.r 57], none, [57]⟩, []⟩,
 ⟨3, 0, false, false, ⟨some 59, .mv, [.r 9], none, []⟩, []⟩,
 ⟨4, 0, false, false, ⟨some 60, .mv, [.r 10], none, []⟩, []⟩,
 ⟨5, 24, false, false, ⟨some 61, (.iaddrS 1), [.r 59, .r 60], none, [59, 60]⟩, []⟩,
 ⟨6, 56, false, false, ⟨some 62, .ld1, [.r 61], none, [61]⟩, []⟩,
 ⟨7, 127, false, false, ⟨some 63, (.bin .eql), [.r 58, .r 62], none, [58, 62]⟩, []⟩])
 (.cond (.r 63)
 (.kl [7, 8, 9, 10, 42, 43, 63] (.seq (.reg [⟨some 4, .mv, [.c .nils], none, []⟩,
 ⟨some 5, .mv, [.c (.int .i64 2)], none, []⟩])
 .ret))
 (.kl [63] .skip)))
 (.dreg [⟨0, 0, false, false, ⟨some 64, .mv, [.r 9], none, []⟩, []⟩,
 ⟨1, 0, false, false, ⟨some 65, .mv, [.r 10], none, [10]⟩, []⟩,
 ⟨2, 0, false, false, ⟨some 66, .mv, [.r 8], none, []⟩, []⟩,
 ⟨3, 4, false, false, ⟨some 67, (.iaddrS 1), [.r 66, .c (.int .i64 0)], none, [66]⟩, []⟩,
 ⟨4, 12, false, false, ⟨some 68, .ld1, [.r 67], none, [67]⟩, []⟩,
 ⟨5, 0, false, false, ⟨some 69, .mv, [.r 8], none, [8]⟩, []⟩,
 ⟨6, 32, false, false, ⟨some 70, (.slice 1 true false false), [.r 69, .c (.int .i64 1)], none, [69]⟩, []⟩,
 ⟨7, 31, false, false, ⟨some 71, (.iaddrS 1), [.r 64, .r 65], none, [64, 65]⟩, []⟩,
 ⟨8, 159, false, false, ⟨none, (.st 1), [.r 71, .r 68], none, [68, 71]⟩, []⟩,
 ⟨9, 511, false, false, ⟨some 8, .mv, [.r 70], none, [70]⟩, []⟩])))))
 (.reg [⟨some 72, (.bin .add), [.r 43, .c (.int .i64 1)], none, [43]⟩,
 ⟨some 43, .mv, [.r 72], none, [72]⟩]))))
def c44 : SC :=
 (.seq (.reg [⟨some 4, .mv, [.c .nils], none, []⟩,
 ⟨some 5, .mv, [.c (.int .i64 0)], none, [4]⟩])
 (.seq (.reg [⟨some 11, .mv, [.r 0], none, [5]⟩,
 ⟨some 12, .len, [.r 11], none, [11]⟩,
 ⟨some 13, (.call 59), [.r 12], none, [12]⟩,
 ⟨some 6, .mv, [.r 13], none, [13]⟩])
 (.seq (.block 0 (.seq (.reg [⟨some 15, .mv, [.r 0], none, []⟩,
 ⟨some 16, .len, [.r 15], none, [15]⟩,
 ⟨some 17, (.bin .gtr), [.r 16, .c (.int .i64 600)], none, [16]⟩,
 ⟨some 14, .mv, [.r 17], none, [17]⟩])
 (.cond (.r 14)
 (.kl [0, 1, 6, 14] (.seq (.reg [⟨some 4, .mv, [.c .nils], none, []⟩,
 ⟨some 5, .mv, [.c (.int .i64 5)], none, []⟩])
 .ret))
 (.kl [14] (.seq (.reg [⟨some 19, .mv, [.r 1], none, []⟩,
 ⟨some 20, .len, [.r 19], none, [19]⟩,
 ⟨some 21, .mv, [.r 6], none, []⟩,
 ⟨some 22, (.bin .lss), [.r 20, .r 21], none, [20, 21]⟩,
 ⟨some 18, .mv, [.r 22], none, [22]⟩])
 (.cond (.r 18)
 (.kl [0, 1, 6, 18] (.seq (.reg [⟨some 4, .mv, [.c .nils], none, []⟩,
 ⟨some 5, .mv, [.c (.int .i64 4)], none, []⟩])
 .ret))
 (.kl [18] .skip)))))))
 (.seq (.dreg [⟨0, 0, false, false, ⟨some 23, .mv, [.r 1], none, []⟩, []⟩,
 ⟨1, 0, false, false, ⟨some 24, .mv, [.r 6], none, []⟩, []⟩,
 ⟨2, 0, false, false, ⟨some 25, .mv, [.r 6], none, []⟩, []⟩,
 ⟨3, 7, false, false, ⟨some 26, (.slice 1 false true true), [.r 23, .r 24, .r 25], none, [23, 24, 25]⟩, []⟩,
 ⟨4, 0, false, false, ⟨some 27, .mv, [.r 1], none, [1]⟩, []⟩,
 ⟨5, 0, false, false, ⟨some 28, .mv, [.r 6], none, [6]⟩, []⟩,
 ⟨6, 48, false, false, ⟨some 29, (.slice 1 true false false), [.r 27, .r 28], none, [27, 28]⟩, []⟩,
 ⟨7, 15, false, false, ⟨some 7, .mv, [.r 26], none, [26]⟩, []⟩,
 ⟨8, 255, false, false, ⟨some 8, .mv, [.r 29], none, [29]⟩, []⟩])
 (.seq (.seq (.reg [⟨some 30, .mv, [.r 7], none, []⟩,
 ⟨some 31, (.call 65), [.r 30], none, [30]⟩,
 ⟨some 32, .mv, [.r 8], none, []⟩,
 ⟨some 33, .len, [.r 32], none, [32]⟩,
 ⟨some 34, (.bin .neq), [.r 31, .r 33], none, [31, 33]⟩])
 (.cond (.r 34)
 (.kl [0, 7, 8, 34] (.seq (.reg [⟨some 4, .mv, [.c .nils], none, []⟩,
 ⟨some 5, .mv, [.c (.int .i64 2)], none, []⟩])
 .ret))
 (.kl [34] .skip)))
 (.seq (.reg [⟨some 35, .mv, [.r 0], none, []⟩,
 ⟨some 36, .len, [.r 35], none, [35]⟩,
 ⟨some 37, (.mksl 1 8 [(.int .i64 0)]), [.r 36, .r 36], none, [36]⟩,
 ⟨some 9, .mv, [.r 37], none, [37]⟩])
 (.seq (.reg [⟨some 38, .mv, [.r 9], none, []⟩,
 ⟨some 39, .mv, [.r 0], none, [0]⟩,
 ⟨some 40, (.copy 1), [.r 38, .r 39], none, [38, 39]⟩])
 (.seq (.seq (.reg [⟨some 41, .mv, [.r 9], none, [40]⟩,
 ⟨some 42, .len, [.r 41], none, [41]⟩,
 ⟨some 43, .mv, [.c (.int .i64 0)], none, []⟩])
 (.block 1 (.loop c44l0)))
 (.seq (.seq (.reg [⟨some 73, .mv, [.r 8], none, [8]⟩,
 ⟨some 74, .len, [.r 73], none, [73]⟩,
 ⟨some 75, (.bin .gtr), [.r 74, .c (.int .i64 0)], none, [74]⟩])
 (.cond (.r 75)
 (.kl [9, 75] (.seq (.reg [⟨some 4, .mv, [.c .nils], none, []⟩,
 ⟨some 5, .mv, [.c (.int .i64 2)], none, []⟩])
 .ret))
 (.kl [75] .skip)))
 (.seq (.reg [⟨some 76, .mv, [.r 9], none, [9]⟩,
 ⟨some 4, .mv, [.r 76], none, [76]⟩,
 ⟨some 5, .mv, [.c (.int .i64 0)], none, []⟩])
 .ret))))))))))
def rs44 : List SR := [.tmp 4, .tmp 5]
theorem acall44 (hn : args.length ≤ 77) (h : ac Try.prog c44 (argEnv 0 args) H (Fin H rs44 v H')) : ACall Try.prog 44 args H v H' :=
 acall Try.func44 (c := Try.f44.body.getD .skip) rfl (by kernel_rfl) (by kernel_rfl) hn h
def c45l0 : SC :=
 (.seq (.reg [⟨some 90, (.bin .lss), [.r 89, .c (.int .i64 4)], none, []⟩])
 (.seq (.cond (.r 90)
 (.kl [90] .skip)
 (.kl [89, 90] (.exit 4)))
 (.seq (.block 5 (.seq (.reg [⟨some 91, .mv, [.r 89], none, []⟩,
 ⟨some 16, .mv, [.r 91], none, [91]⟩])
 (.reg [⟨some 92, .mv, [.r 16], none, [16]⟩,
 ⟨some 93, .mv, [.r 5], none, []⟩,
 ⟨some 94, .callv, [.r 93], none, [93]⟩,
 ⟨some 95, (.faddr 24), [.r 6], none, []⟩,
 ⟨some 96, (.iaddrA 1 4), [.r 95, .r 92], none, [92, 95]⟩,
 ⟨none, (.st 1), [.r 96, .r 94], none, [94, 96]⟩])))
 (.reg [⟨some 97, (.bin .add), [.r 89, .c (.int .i64 1)], none, [89]⟩,
 ⟨some 89, .mv, [.r 97], none, [97]⟩]))))
def c45l1 : SC :=
 (.seq (.reg [⟨some 44, (.bin .lss), [.r 43, .c (.int .i64 3)], none, []⟩])
 (.seq (.cond (.r 44)
 (.kl [44] .skip)
 (.kl [43, 44] (.exit 2)))
 (.seq (.block 3 (.seq (.reg [⟨some 45, .mv, [.r 43], none, []⟩,
 ⟨some 8, .mv, [.r 45], none, [45]⟩])
 (.seq (.reg [⟨some 46, .mv, [.r 5], none, []⟩,
 ⟨some 47, .callv, [.r 46], none, [46]⟩,
 ⟨some 48, .mv, [.r 5], none, []⟩,
 ⟨some 49, .callv, [.r 48], none, [48]⟩,
 ⟨some 50, .mv, [.r 5], none, []⟩,
 ⟨some 51, .callv, [.r 50], none, [50]⟩,
 ⟨some 52, (.bslice 1 3 [(.int .i64 0), (.int .i64 0), (.int .i64 0)] [(0, 1), (1, 1), (2, 1)]), [.r 47, .r 49, .r 51], none, [47, 49, 51]⟩,
 ⟨some 9, .mv, [.r 52], none, [52]⟩])
 (.seq (.reg [⟨some 53, .mv, [.r 5], none, []⟩,
 ⟨some 54, .callv, [.r 53], none, [53]⟩,
 ⟨some 55, .mv, [.r 5], none, []⟩,
 ⟨some 56, .callv, [.r 55], none, [55]⟩,
 ⟨some 57, .mv, [.r 5], none, []⟩,
 ⟨some 58, .callv, [.r 57], none, [57]⟩,
 ⟨some 59, .mv, [.r 5], none, []⟩,
 ⟨some 60, .callv, [.r 59], none, [59]⟩,
 ⟨some 61, .mv, [.r 5], none, []⟩,
 ⟨some 62, .callv, [.r 61], none, [61]⟩,
 ⟨some 63, .mv, [.r 5], none, []⟩,
 ⟨some 64, .callv, [.r 63], none, [63]⟩,
 ⟨some 10, .mv, [.r 54], none, [54]⟩,
 ⟨some 11, .mv, [.r 56], none, [56]⟩,
 ⟨some 12, .mv, [.r 58], none, [58]⟩,
 ⟨some 13, .mv, [.r 60], none, [60]⟩,
 ⟨some 14, .mv, [.r 62], none, [62]⟩,
 ⟨some 15, .mv, [.r 64], none, [64]⟩])
 (.reg [⟨some 65, .mv, [.r 8], none, [8]⟩,
 ⟨some 66, .mv, [.r 9], none, [9]⟩,
 ⟨some 67, (.build [(.int .i64 0), (.int .i64 0), .nils] [(0, 1), (1, 1), (2, 1)]), [.c (.int .i64 3), .c (.int .i64 1), .r 66], none, [66]⟩,
 ⟨some 68, .mv, [.r 10], none, [10]⟩,
 ⟨some 69, .mv, [.r 11], none, []⟩,
 ⟨some 70, .mv, [.r 12], none, []⟩,
 ⟨some 71, .mv, [.r 11], none, [11]⟩,
 ⟨some 72, .mv, [.r 13], none, [13]⟩,
 ⟨some 73, .mv, [.r 14], none, []⟩,
 ⟨some 74, .mv, [.r 12], none, [12]⟩,
 ⟨some 75, .mv, [.r 14], none, [14]⟩,
 ⟨some 76, .mv, [.r 15], none, [15]⟩,
 ⟨some 77, (.bslice 1 9 [(.int .i64 0), (.int .i64 0), (.int .i64 0), (.int .i64 0), (.int .i64 0), (.int .i64 0), (.int .i64 0), (.int .i64 0), (.int .i64 0)] [(0, 1), (1, 1), (2, 1), (3, 1), (4, 1), (5, 1), (6, 1), (7, 1), (8, 1)]), [.r 68, .r 69, .r 70, .r 71, .r 72, .r 73, .r 74, .r 75, .r 76], none, [68, 69, 70, 71, 72, 73, 74, 75, 76]⟩,
 ⟨some 78, (.build [(.int .i64 0), (.int .i64 0), .nils] [(0, 1), (1, 1), (2, 1)]), [.c (.int .i64 3), .c (.int .i64 3), .r 77], none, [77]⟩,
 ⟨some 79, (.build [(.int .i64 0), (.int .i64 0), .nils, (.int .i64 0), (.int .i64 0), .nils] [(0, 3), (3, 3)]), [.r 67, .r 78], none, [67, 78]⟩,
 ⟨some 80, (.faddr 4), [.r 6], none, []⟩,
 ⟨some 81, (.iaddrA 6 3), [.r 80, .r 65], none, [65, 80]⟩,
 ⟨none, (.st 6), [.r 81, .r 79], none, [79, 81]⟩])))))
 (.reg [⟨some 82, (.bin .add), [.r 43, .c (.int .i64 1)], none, [43]⟩,
 ⟨some 43, .mv, [.r 82], none, [82]⟩]))))
def c45l2 : SC :=
 (.seq (.reg [⟨some 35, (.bin .lss), [.r 34, .c (.int .i64 4)], none, []⟩])
 (.seq (.cond (.r 35)
 (.kl [35] .skip)
 (.kl [34, 35] (.exit 0)))
 (.seq (.block 1 (.seq (.reg [⟨some 36, .mv, [.r 34], none, []⟩,
 ⟨some 7, .mv, [.r 36], none, [36]⟩])
 (.reg [⟨some 37, .mv, [.r 7], none, [7]⟩,
 ⟨some 38, .mv, [.r 5], none, []⟩,
 ⟨some 39, .callv, [.r 38], none, [38]⟩,
 ⟨some 40, (.faddr 0), [.r 6], none, []⟩,
 ⟨some 41, (.iaddrA 1 4), [.r 40, .r 37], none, [37, 40]⟩,
 ⟨none, (.st 1), [.r 41, .r 39], none, [39, 41]⟩])))
 (.reg [⟨some 42, (.bin .add), [.r 34, .c (.int .i64 1)], none, [34]⟩,
 ⟨some 34, .mv, [.r 42], none, [42]⟩]))))
def c45 : SC :=
 (.seq (.reg [⟨some 1, .box, [.r 0], none, [0]⟩,
 ⟨some 2, (.alloc [(.int .i64 0), (.int .i64 0), (.int .i64 0), (.int .i64 0), (.int .i64 0), (.int .i64 0), .nils, (.int .i64 0), (.int .i64 0), .nils, (.int .i64 0), (.int .i64 0), .nils, (.int .i64 0), (.int .i64 0), .nils, (.int .i64 0), (.int .i64 0), .nils, (.int .i64 0), (.int .i64 0), .nils, (.int .i64 0), (.int .i64 0), (.int .i64 0), (.int .i64 0), (.int .i64 0), (.int .i64 0), (.bool false)]), [], none, []⟩,
 ⟨some 3, .mv, [.c (.int .i64 0)], none, []⟩])
 (.seq (.seq (.reg [⟨some 17, .ld1, [.r 1], none, [3]⟩,
 ⟨some 18, .len, [.r 17], none, [17]⟩,
 ⟨some 19, (.bin .neq), [.r 18, .c (.int .i64 38)], none, [18]⟩,
 ⟨some 20, .mv, [.r 19], none, [19]⟩,
 ⟨some 21, .ld1, [.r 1], (some (20, false)), []⟩,
 ⟨some 22, (.iaddrS 1), [.r 21, .c (.int .i64 37)], (some (20, false)), [21]⟩,
 ⟨some 23, .ld1, [.r 22], (some (20, false)), [22]⟩,
 ⟨some 24, (.bin .neq), [.r 23, .c (.int .i64 0)], (some (20, false)), [23]⟩,
 ⟨some 25, .mv, [.r 24], (some (20, false)), [24]⟩,
 ⟨some 26, .ld1, [.r 1], (some (25, true)), []⟩,
 ⟨some 27, (.iaddrS 1), [.r 26, .c (.int .i64 37)], (some (25, true)), [26]⟩,
 ⟨some 28, .ld1, [.r 27], (some (25, true)), [27]⟩,
 ⟨some 29, (.bin .neq), [.r 28, .c (.int .i64 1)], (some (25, true)), [28]⟩,
 ⟨some 30, .pick, [.r 25, .r 29, .c (.bool false)], (some (20, false)), [25, 29]⟩,
 ⟨some 31, .pick, [.r 20, .c (.bool true), .r 30], none, [20, 30]⟩])
 (.cond (.r 31)
 (.kl [1, 31] (.seq (.reg [⟨some 32, (.build [(.int .i64 0), (.int .i64 0), (.int .i64 0), (.int .i64 0), (.int .i64 0), (.int .i64 0), .nils, (.int .i64 0), (.int .i64 0), .nils, (.int .i64 0), (.int .i64 0), .nils, (.int .i64 0), (.int .i64 0), .nils, (.int .i64 0), (.int .i64 0), .nils, (.int .i64 0), (.int .i64 0), .nils, (.int .i64 0), (.int .i64 0), (.int .i64 0), (.int .i64 0), (.int .i64 0), (.int .i64 0), (.bool false)] []), [], none, []⟩,
 ⟨none, (.st 29), [.r 2, .r 32], none, [32]⟩,
 ⟨some 3, .mv, [.c (.int .i64 2)], none, []⟩])
 .ret))
 (.kl [31] .skip)))
 (.seq (.reg [⟨some 4, (.alloc [(.int .i64 0)]), [], none, []⟩,
 ⟨none, (.st 1), [.r 4, .c (.int .i64 0)], none, []⟩])
 (.seq (.reg [⟨some 33, (.mkfn (.func 66) 0), [.r 4, .r 1], none, [1, 4]⟩,
 ⟨some 5, .mv, [.r 33], none, [33]⟩])
 (.seq (.reg [⟨some 6, (.alloc [(.int .i64 0), (.int .i64 0), (.int .i64 0), (.int .i64 0), (.int .i64 0), (.int .i64 0), .nils, (.int .i64 0), (.int .i64 0), .nils, (.int .i64 0), (.int .i64 0), .nils, (.int .i64 0), (.int .i64 0), .nils, (.int .i64 0), (.int .i64 0), .nils, (.int .i64 0), (.int .i64 0), .nils, (.int .i64 0), (.int .i64 0), (.int .i64 0), (.int .i64 0), (.int .i64 0), (.int .i64 0), (.bool false)]), [], none, []⟩])
 (.seq (.seq (.reg [⟨some 34, .mv, [.c (.int .i64 0)], none, []⟩])
 (.block 0 (.loop c45l2)))
 (.seq (.seq (.reg [⟨some 43, .mv, [.c (.int .i64 0)], none, []⟩])
 (.block 2 (.loop c45l1)))
 (.seq (.reg [⟨some 83, .mv, [.r 5], none, []⟩,
 ⟨some 84, .callv, [.r 83], none, [83]⟩,
 ⟨some 85, .mv, [.r 5], none, []⟩,
 ⟨some 86, .callv, [.r 85], none, [85]⟩,
 ⟨some 87, (.faddr 22), [.r 6], none, []⟩,
 ⟨none, (.st 1), [.r 87, .r 84], none, [84, 87]⟩,
 ⟨some 88, (.faddr 23), [.r 6], none, []⟩,
 ⟨none, (.st 1), [.r 88, .r 86], none, [86, 88]⟩])
 (.seq (.seq (.reg [⟨some 89, .mv, [.c (.int .i64 0)], none, []⟩])
 (.block 4 (.loop c45l0)))
 (.seq (.reg [⟨some 98, .mv, [.r 5], none, [5]⟩,
 ⟨some 99, .callv, [.r 98], none, [98]⟩,
 ⟨some 100, (.bin .eql), [.r 99, .c (.int .i64 1)], none, [99]⟩,
 ⟨some 101, (.faddr 28), [.r 6], none, []⟩,
 ⟨none, (.st 1), [.r 101, .r 100], none, [100, 101]⟩])
 (.seq (.seq (.reg [⟨some 102, (.ldn 29), [.r 6], none, []⟩,
 ⟨some 103, (.call 32), [.r 102], none, [102]⟩,
 ⟨some 104, (.un .not), [.r 103], none, [103]⟩])
 (.cond (.r 104)
 (.kl [6, 104] (.seq (.reg [⟨some 105, (.build [(.int .i64 0), (.int .i64 0), (.int .i64 0), (.int .i64 0), (.int .i64 0), (.int .i64 0), .nils, (.int .i64 0), (.int .i64 0), .nils, (.int .i64 0), (.int .i64 0), .nils, (.int .i64 0), (.int .i64 0), .nils, (.int .i64 0), (.int .i64 0), .nils, (.int .i64 0), (.int .i64 0), .nils, (.int .i64 0), (.int .i64 0), (.int .i64 0), (.int .i64 0), (.int .i64 0), (.int .i64 0), (.bool false)] []), [], none, []⟩,
 ⟨none, (.st 29), [.r 2, .r 105], none, [105]⟩,
 ⟨some 3, .mv, [.c (.int .i64 2)], none, []⟩])
 .ret))
 (.kl [104] .skip)))
 (.seq (.reg [⟨some 106, (.ldn 29), [.r 6], none, [6]⟩,
 ⟨none, (.st 29), [.r 2, .r 106], none, [106]⟩,
 ⟨some 3, .mv, [.c (.int .i64 0)], none, []⟩])
 .ret))))))))))))
def rs45 : List SR := [.celln 2 29, .tmp 3]
theorem acallK45 (hn : args.length ≤ 107) (h : ac Try.prog c45 (argEnv 0 args) H (FinK rs45 v H')) : ACall Try.prog 45 args H v H' :=
 acallK Try.func45 (c := Try.f45.body.getD .skip) rfl (by kernel_rfl) (by kernel_rfl) hn h
def c46l0 : SC :=
 (.seq (.seq (.reg [⟨some 26, .mv, [.r 7], none, []⟩,
 ⟨some 27, .mv, [.r 0], none, []⟩,
 ⟨some 28, .len, [.r 27], none, [27]⟩,
 ⟨some 29, (.bin .mul), [.c (.int .i64 8), .r 28], none, [28]⟩,
 ⟨some 30, (.bin .lss), [.r 26, .r 29], none, [26, 29]⟩])
 (.cond (.r 30)
 (.kl [30] .skip)
 (.kl [0, 1, 7, 30] (.exit 0))))
 (.seq (.block 1 (.seq (.reg [⟨some 33, .mv, [.r 0], none, []⟩,
 ⟨some 34, .mv, [.r 7], none, []⟩,
 ⟨some 35, (.bin .quo), [.r 34, .c (.int .i64 8)], none, [34]⟩,
 ⟨some 36, .mv, [.r 7], none, []⟩,
 ⟨some 37, (.bin .rem), [.r 36, .c (.int .i64 8)], none, [36]⟩,
 ⟨some 38, (.iaddrS 8), [.r 33, .r 35], none, [33, 35]⟩,
 ⟨some 39, (.iaddrA 1 8), [.r 38, .r 37], none, [37, 38]⟩,
 ⟨some 40, .ld1, [.r 39], none, [39]⟩,
 ⟨some 8, .mv, [.r 40], none, [40]⟩])
 (.seq (.reg [⟨some 41, .mv, [.r 7], none, []⟩,
 ⟨some 42, .mv, [.r 1], none, []⟩,
 ⟨some 43, (.bin .lss), [.r 41, .r 42], none, [41, 42]⟩])
 (.cond (.r 43)
 (.kl [43] (.reg [⟨some 44, .mv, [.r 6], none, [6]⟩,
 ⟨some 45, .mv, [.r 8], none, [8]⟩,
 ⟨some 46, (.bslice 1 1 [(.int .i64 0)] [(0, 1)]), [.r 45], none, [45]⟩,
 ⟨some 47, (.app 1 8), [.r 44, .r 46], none, [44, 46]⟩,
 ⟨some 6, .mv, [.r 47], none, [47]⟩]))
 (.kl [43] (.seq (.reg [⟨some 48, .mv, [.r 8], none, [8]⟩,
 ⟨some 49, (.bin .neq), [.r 48, .c (.int .i64 0)], none, [48]⟩])
 (.cond (.r 49)
 (.kl [0, 1, 6, 7, 49] (.seq (.reg [⟨some 4, .mv, [.c .nils], none, []⟩,
 ⟨some 5, .mv, [.c (.int .i64 9)], none, []⟩])
 .ret))
 (.kl [49] .skip))))))))
 (.reg [⟨some 31, .mv, [.r 7], none, [7]⟩,
 ⟨some 32, (.bin .add), [.r 31, .c (.int .i64 1)], none, [31]⟩,
 ⟨some 7, .mv, [.r 32], none, [32]⟩])))
def c46 : SC :=
 (.seq (.reg [⟨some 4, .mv, [.c .nils], none, []⟩,
 ⟨some 5, .mv, [.c (.int .i64 0)], none, [4]⟩])
 (.seq (.seq (.reg [⟨some 9, .mv, [.r 1], none, [5]⟩,
 ⟨some 10, (.bin .lss), [.r 9, .c (.int .i64 0)], none, [9]⟩,
 ⟨some 11, .mv, [.r 10], none, [10]⟩,
 ⟨some 12, .mv, [.r 1], (some (11, false)), []⟩,
 ⟨some 13, .mv, [.r 0], (some (11, false)), []⟩,
 ⟨some 14, .len, [.r 13], (some (11, false)), [13]⟩,
 ⟨some 15, (.bin .mul), [.c (.int .i64 8), .r 14], (some (11, false)), [14]⟩,
 ⟨some 16, (.bin .gtr), [.r 12, .r 15], (some (11, false)), [12, 15]⟩,
 ⟨some 17, .pick, [.r 11, .c (.bool true), .r 16], none, [11, 16]⟩,
 ⟨some 18, .mv, [.r 17], none, [17]⟩,
 ⟨some 19, .mv, [.r 1], (some (18, false)), []⟩,
 ⟨some 20, .mv, [.r 0], (some (18, false)), []⟩,
 ⟨some 21, .len, [.r 20], (some (18, false)), [20]⟩,
 ⟨some 22, (.bin .mul), [.c (.int .i64 8), .r 21], (some (18, false)), [21]⟩,
 ⟨some 23, (.bin .sub), [.r 22, .c (.int .i64 8)], (some (18, false)), [22]⟩,
 ⟨some 24, (.bin .leq), [.r 19, .r 23], (some (18, false)), [19, 23]⟩,
 ⟨some 25, .pick, [.r 18, .c (.bool true), .r 24], none, [18, 24]⟩])
 (.cond (.r 25)
 (.kl [0, 1, 25] (.seq (.reg [⟨some 4, .mv, [.c .nils], none, []⟩,
 ⟨some 5, .mv, [.c (.int .i64 9)], none, []⟩])
 .ret))
 (.kl [25] .skip)))
 (.seq (.reg [⟨some 6, .mv, [.c .nils], none, []⟩])
 (.seq (.seq (.reg [⟨some 7, .mv, [.c (.int .i64 0)], none, []⟩])
 (.block 0 (.loop c46l0)))
 (.seq (.reg [⟨some 50, .mv, [.r 6], none, [6]⟩,
 ⟨some 4, .mv, [.r 50], none, [50]⟩,
 ⟨some 5, .mv, [.c (.int .i64 0)], none, []⟩])
 .ret)))))
def rs46 : List SR := [.tmp 4, .tmp 5]
theorem acallK46 (hn : args.length ≤ 51) (h : ac Try.prog c46 (argEnv 0 args) H (FinK rs46 v H')) : ACall Try.prog 46 args H v H' :=
 acallK Try.func46 (c := Try.f46.body.getD .skip) rfl (by kernel_rfl) (by kernel_rfl) hn h
def c47l0 : SC :=
 (.seq (.seq (.reg [⟨some 26, .mv, [.r 9], none, []⟩,
 ⟨some 27, .mv, [.r 6], none, []⟩,
 ⟨some 28, (.bin .mul), [.c (.int .i64 64), .r 27], none, [27]⟩,
 ⟨some 29, (.bin .lss), [.r 26, .r 28], none, [26, 28]⟩])
 (.cond (.r 29)
 (.kl [29] .skip)
 (.kl [0, 6, 9, 29] (.exit 0))))
 (.seq (.block 1 (.seq (.reg [⟨some 32, .mv, [.r 9], none, []⟩,
 ⟨some 33, (.bin .quo), [.r 32, .c (.int .i64 64)], none, [32]⟩,
 ⟨some 10, .mv, [.r 33], none, [33]⟩])
 (.seq (.reg [⟨some 34, .mv, [.r 9], none, []⟩,
 ⟨some 35, (.bin .rem), [.r 34, .c (.int .i64 64)], none, [34]⟩,
 ⟨some 11, .mv, [.r 35], none, [35]⟩])
 (.seq (.reg [⟨some 36, .mv, [.r 1], none, []⟩,
 ⟨some 37, .mv, [.r 10], none, []⟩,
 ⟨some 38, (.iaddrS 1), [.r 36, .r 37], none, [36, 37]⟩,
 ⟨some 39, .ld1, [.r 38], none, [38]⟩,
 ⟨some 40, .mv, [.r 11], none, []⟩,
 ⟨some 41, (.call 67), [.r 39, .r 40], none, [39, 40]⟩,
 ⟨some 12, .mv, [.r 41], none, [41]⟩])
 (.seq (.reg [⟨some 42, .mv, [.r 10], none, [10]⟩,
 ⟨some 43, (.bin .mul), [.c (.int .i64 60), .r 42], none, [42]⟩,
 ⟨some 44, .mv, [.r 11], none, []⟩,
 ⟨some 45, (.bin .add), [.r 43, .r 44], none, [43, 44]⟩,
 ⟨some 13, .mv, [.r 45], none, [45]⟩])
 (.seq (.seq (.reg [⟨some 46, .mv, [.r 11], none, [11]⟩,
 ⟨some 47, (.bin .geq), [.r 46, .c (.int .i64 60)], none, [46]⟩,
 ⟨some 48, .mv, [.r 47], none, [47]⟩,
 ⟨some 49, .mv, [.r 13], (some (48, false)), []⟩,
 ⟨some 50, .mv, [.r 0], (some (48, false)), []⟩,
 ⟨some 51, .len, [.r 50], (some (48, false)), [50]⟩,
 ⟨some 52, (.bin .geq), [.r 49, .r 51], (some (48, false)), [49, 51]⟩,
 ⟨some 53, .pick, [.r 48, .c (.bool true), .r 52], none, [48, 52]⟩])
 (.cond (.r 53)
 (.kl [13, 53] (.seq (.seq (.reg [⟨some 54, .mv, [.r 12], none, [12]⟩])
 (.cond (.r 54)
 (.kl [0, 1, 6, 7, 8, 9, 54] (.seq (.reg [⟨some 4, .mv, [.c .nils], none, []⟩,
 ⟨some 5, .mv, [.c (.int .i64 2)], none, []⟩])
 .ret))
 (.kl [54] .skip)))
 (.exit 1)))
 (.kl [53] .skip)))
 (.seq (.seq (.reg [⟨some 55, .mv, [.r 12], none, [12]⟩,
 ⟨some 56, (.un .not), [.r 55], none, [55]⟩])
 (.cond (.r 56)
 (.kl [56] (.seq (.reg [⟨some 57, .mv, [.r 7], none, [7]⟩,
 ⟨some 58, .mv, [.r 0], none, []⟩,
 ⟨some 59, .mv, [.r 13], none, [13]⟩,
 ⟨some 60, (.iaddrS 1), [.r 58, .r 59], none, [58, 59]⟩,
 ⟨some 61, .ld1, [.r 60], none, [60]⟩,
 ⟨some 62, (.bslice 1 1 [(.int .i64 0)] [(0, 1)]), [.r 61], none, [61]⟩,
 ⟨some 63, (.app 1 8), [.r 57, .r 62], none, [57, 62]⟩,
 ⟨some 7, .mv, [.r 63], none, [63]⟩])
 (.exit 1)))
 (.kl [56] .skip)))
 (.seq (.seq (.dreg [⟨0, 0, false, false, ⟨some 64, .mv, [.r 8], none, []⟩, []⟩,
 ⟨1, 0, false, false, ⟨some 65, .mv, [.r 1], none, []⟩, []⟩,
 ⟨2, 2, false, false, ⟨some 66, .len, [.r 65], none, [65]⟩, []⟩,
 ⟨3, 7, false, false, ⟨some 67, (.bin .geq), [.r 64, .r 66], none, [64, 66]⟩, []⟩,
 ⟨4, 15, false, false, ⟨some 68, .mv, [.r 67], none, [67]⟩, []⟩,
 ⟨5, 31, false, false, ⟨some 69, .mv, [.r 1], (some (68, false)), []⟩, []⟩,
 ⟨6, 31, false, false, ⟨some 70, .mv, [.r 8], (some (68, false)), []⟩, []⟩,
 ⟨7, 127, false, false, ⟨some 71, (.iaddrS 1), [.r 69, .r 70], (some (68, false)), [69, 70]⟩, []⟩,
 ⟨8, 255, false, false, ⟨some 72, .ld1, [.r 71], (some (68, false)), [71]⟩, []⟩,
 ⟨9, 31, false, false, ⟨some 73, .mv, [.r 0], (some (68, false)), []⟩, []⟩,
 ⟨10, 31, false, false, ⟨some 74, .mv, [.r 13], (some (68, false)), [13]⟩, []⟩,
 ⟨11, 1567, false, false, ⟨some 75, (.iaddrS 1), [.r 73, .r 74], (some (68, false)), [73, 74]⟩, []⟩,
 ⟨12, 3615, false, false, ⟨some 76, .ld1, [.r 75], (some (68, false)), [75]⟩, []⟩,
 ⟨13, 8191, false, false, ⟨some 77, (.bin .eql), [.r 72, .r 76], (some (68, false)), [72, 76]⟩, []⟩,
 ⟨14, 16383, false, false, ⟨some 78, .pick, [.r 68, .c (.bool true), .r 77], none, [68, 77]⟩, []⟩])
 (.cond (.r 78)
 (.kl [0, 1, 6, 7, 8, 9, 78] (.seq (.reg [⟨some 4, .mv, [.c .nils], none, []⟩,
 ⟨some 5, .mv, [.c (.int .i64 2)], none, []⟩])
 .ret))
 (.kl [78] .skip)))
 (.seq (.reg [⟨some 79, .mv, [.r 7], none, [7]⟩,
 ⟨some 80, .mv, [.r 1], none, []⟩,
 ⟨some 81, .mv, [.r 8], none, []⟩,
 ⟨some 82, (.iaddrS 1), [.r 80, .r 81], none, [80, 81]⟩,
 ⟨some 83, .ld1, [.r 82], none, [82]⟩,
 ⟨some 84, (.bslice 1 1 [(.int .i64 0)] [(0, 1)]), [.r 83], none, [83]⟩,
 ⟨some 85, (.app 1 8), [.r 79, .r 84], none, [79, 84]⟩,
 ⟨some 7, .mv, [.r 85], none, [85]⟩])
 (.reg [⟨some 86, .mv, [.r 8], none, [8]⟩,
 ⟨some 87, (.bin .add), [.r 86, .c (.int .i64 1)], none, [86]⟩,
 ⟨some 8, .mv, [.r 87], none, [87]⟩]))))))))))
 (.reg [⟨some 30, .mv, [.r 9], none, [9]⟩,
 ⟨some 31, (.bin .add), [.r 30, .c (.int .i64 1)], none, [30]⟩,
 ⟨some 9, .mv, [.r 31], none, [31]⟩])))
def c47 : SC :=
 (.seq (.reg [⟨some 4, .mv, [.c .nils], none, []⟩,
 ⟨some 5, .mv, [.c (.int .i64 0)], none, [4]⟩])
 (.seq (.seq (.reg [⟨some 14, .mv, [.r 0], none, [5]⟩,
 ⟨some 15, .len, [.r 14], none, [14]⟩,
 ⟨some 16, (.bin .gtr), [.r 15, .c (.int .i64 600)], none, [15]⟩])
 (.cond (.r 16)
 (.kl [0, 1, 16] (.seq (.reg [⟨some 4, .mv, [.c .nils], none, []⟩,
 ⟨some 5, .mv, [.c (.int .i64 5)], none, []⟩])
 .ret))
 (.kl [16] .skip)))
 (.seq (.reg [⟨some 17, .mv, [.r 0], none, []⟩,
 ⟨some 18, .len, [.r 17], none, [17]⟩,
 ⟨some 19, (.bin .add), [.r 18, .c (.int .i64 59)], none, [18]⟩,
 ⟨some 20, (.bin .quo), [.r 19, .c (.int .i64 60)], none, [19]⟩,
 ⟨some 6, .mv, [.r 20], none, [20]⟩])
 (.seq (.seq (.reg [⟨some 21, .mv, [.r 1], none, []⟩,
 ⟨some 22, .len, [.r 21], none, [21]⟩,
 ⟨some 23, .mv, [.r 6], none, []⟩,
 ⟨some 24, (.bin .lss), [.r 22, .r 23], none, [22, 23]⟩])
 (.cond (.r 24)
 (.kl [0, 1, 6, 24] (.seq (.reg [⟨some 4, .mv, [.c .nils], none, []⟩,
 ⟨some 5, .mv, [.c (.int .i64 4)], none, []⟩])
 .ret))
 (.kl [24] .skip)))
 (.seq (.reg [⟨some 7, .mv, [.c .nils], none, []⟩])
 (.seq (.reg [⟨some 25, .mv, [.r 6], none, []⟩,
 ⟨some 8, .mv, [.r 25], none, [25]⟩])
 (.seq (.seq (.reg [⟨some 9, .mv, [.c (.int .i64 0)], none, []⟩])
 (.block 0 (.loop c47l0)))
 (.seq (.seq (.reg [⟨some 88, .mv, [.r 8], none, [8]⟩,
 ⟨some 89, .mv, [.r 1], none, [1]⟩,
 ⟨some 90, .len, [.r 89], none, [89]⟩,
 ⟨some 91, (.bin .lss), [.r 88, .r 90], none, [88, 90]⟩])
 (.cond (.r 91)
 (.kl [7, 91] (.seq (.reg [⟨some 4, .mv, [.c .nils], none, []⟩,
 ⟨some 5, .mv, [.c (.int .i64 2)], none, []⟩])
 .ret))
 (.kl [91] .skip)))
 (.seq (.reg [⟨some 92, .mv, [.r 7], none, [7]⟩,
 ⟨some 4, .mv, [.r 92], none, [92]⟩,
 ⟨some 5, .mv, [.c (.int .i64 0)], none, []⟩])
 .ret)))))))))
def rs47 : List SR := [.tmp 4, .tmp 5]
theorem acall47 (hn : args.length ≤ 93) (h : ac Try.prog c47 (argEnv 0 args) H (Fin H rs47 v H')) : ACall Try.prog 47 args H v H' :=
 acall Try.func47 (c := Try.f47.body.getD .skip) rfl (by kernel_rfl) (by kernel_rfl) hn h
def c48l0 : SC :=
 (.seq (.seq (.reg [⟨some 102, .mv, [.r 13], none, []⟩,
 ⟨some 103, (.bin .lss), [.r 102, .c (.int .i64 4)], none, [102]⟩])
 (.cond (.r 103)
 (.kl [103] .skip)
 (.kl [13, 103] (.exit 8))))
 (.seq (.block 9 (.reg [⟨some 106, .mv, [.r 13], none, []⟩,
 ⟨some 107, .mv, [.r 0], none, []⟩,
 ⟨some 108, .mv, [.r 13], none, []⟩,
 ⟨some 109, (.bin .add), [.c (.int .i64 33), .r 108], none, [108]⟩,
 ⟨some 110, (.iaddrS 1), [.r 107, .r 109], none, [107, 109]⟩,
 ⟨some 111, .ld1, [.r 110], none, [110]⟩,
 ⟨some 112, (.faddr 24), [.r 4], none, []⟩,
 ⟨some 113, (.iaddrA 1 4), [.r 112, .r 106], none, [106, 112]⟩,
 ⟨none, (.st 1), [.r 113, .r 111], none, [111, 113]⟩]))
 (.reg [⟨some 104, .mv, [.r 13], none, [13]⟩,
 ⟨some 105, (.bin .add), [.r 104, .c (.int .i64 1)], none, [104]⟩,
 ⟨some 13, .mv, [.r 105], none, [105]⟩])))
def c48l1 : SC :=
 (.seq (.seq (.reg [⟨some 60, .mv, [.r 12], none, []⟩,
 ⟨some 61, (.bin .lss), [.r 60, .c (.int .i64 3)], none, [60]⟩])
 (.cond (.r 61)
 (.kl [61] .skip)
 (.kl [12, 61] (.exit 6))))
 (.seq (.block 7 (.seq (.dreg [⟨0, 0, false, false, ⟨some 64, (.faddr 2), [.r 9], none, []⟩, []⟩,
 ⟨1, 1, false, false, ⟨some 65, .ld1, [.r 64], none, [64]⟩, []⟩,
 ⟨2, 0, false, false, ⟨some 66, .mv, [.r 11], none, []⟩, []⟩,
 ⟨3, 4, false, false, ⟨some 67, (.bin .mul), [.c (.int .i64 3), .r 66], none, [66]⟩, []⟩,
 ⟨4, 0, false, false, ⟨some 68, .mv, [.r 12], none, []⟩, []⟩,
 ⟨5, 28, false, false, ⟨some 69, (.bin .add), [.r 67, .r 68], none, [67, 68]⟩, []⟩,
 ⟨6, 0, false, false, ⟨some 70, .mv, [.r 7], none, []⟩, []⟩,
 ⟨7, 0, false, false, ⟨some 71, .mv, [.r 10], none, []⟩, []⟩,
 ⟨8, 192, false, false, ⟨some 72, (.iaddrS 1), [.r 70, .r 71], none, [70, 71]⟩, []⟩,
 ⟨9, 448, false, false, ⟨some 73, .ld1, [.r 72], none, [72]⟩, []⟩,
 ⟨10, 1023, false, false, ⟨some 74, (.iaddrS 1), [.r 65, .r 69], none, [65, 69]⟩, []⟩,
 ⟨11, 2047, false, false, ⟨none, (.st 1), [.r 74, .r 73], none, [73, 74]⟩, []⟩])
 (.seq (.dreg [⟨0, 0, false, false, ⟨some 75, (.faddr 2), [.r 9], none, []⟩, []⟩,
 ⟨1, 1, false, false, ⟨some 76, .ld1, [.r 75], none, [75]⟩, []⟩,
 ⟨2, 0, false, false, ⟨some 77, .mv, [.r 12], none, []⟩, []⟩,
 ⟨3, 4, false, false, ⟨some 78, (.bin .mul), [.c (.int .i64 3), .r 77], none, [77]⟩, []⟩,
 ⟨4, 0, false, false, ⟨some 79, .mv, [.r 11], none, []⟩, []⟩,
 ⟨5, 28, false, false, ⟨some 80, (.bin .add), [.r 78, .r 79], none, [78, 79]⟩, []⟩,
 ⟨6, 0, false, false, ⟨some 81, .mv, [.r 7], none, []⟩, []⟩,
 ⟨7, 0, false, false, ⟨some 82, .mv, [.r 10], none, []⟩, []⟩,
 ⟨8, 192, false, false, ⟨some 83, (.iaddrS 1), [.r 81, .r 82], none, [81, 82]⟩, []⟩,
 ⟨9, 448, false, false, ⟨some 84, .ld1, [.r 83], none, [83]⟩, []⟩,
 ⟨10, 1023, false, false, ⟨some 85, (.iaddrS 1), [.r 76, .r 80], none, [76, 80]⟩, []⟩,
 ⟨11, 2047, false, false, ⟨none, (.st 1), [.r 85, .r 84], none, [84, 85]⟩, []⟩])
 (.reg [⟨some 86, .mv, [.r 10], none, [10]⟩,
 ⟨some 87, (.bin .add), [.r 86, .c (.int .i64 1)], none, [86]⟩,
 ⟨some 10, .mv, [.r 87], none, [87]⟩]))))
 (.reg [⟨some 62, .mv, [.r 12], none, [12]⟩,
 ⟨some 63, (.bin .add), [.r 62, .c (.int .i64 1)], none, [62]⟩,
 ⟨some 12, .mv, [.r 63], none, [63]⟩])))
def c48l2 : SC :=
 (.seq (.seq (.reg [⟨some 55, .mv, [.r 11], none, []⟩,
 ⟨some 56, (.bin .lss), [.r 55, .c (.int .i64 3)], none, [55]⟩])
 (.cond (.r 56)
 (.kl [56] .skip)
 (.kl [7, 10, 11, 56] (.exit 4))))
 (.seq (.block 5 (.seq (.reg [⟨some 59, .mv, [.r 11], none, []⟩,
 ⟨some 12, .mv, [.r 59], none, [59]⟩])
 (.block 6 (.loop c48l1))))
 (.reg [⟨some 57, .mv, [.r 11], none, [11]⟩,
 ⟨some 58, (.bin .add), [.r 57, .c (.int .i64 1)], none, [57]⟩,
 ⟨some 11, .mv, [.r 58], none, [58]⟩])))
def c48l3 : SC :=
 (.seq (.seq (.reg [⟨some 31, .mv, [.r 6], none, []⟩,
 ⟨some 32, (.bin .lss), [.r 31, .c (.int .i64 3)], none, [31]⟩])
 (.cond (.r 32)
 (.kl [32] .skip)
 (.kl [6, 32] (.exit 2))))
 (.seq (.block 3 (.seq (.reg [⟨some 35, .mv, [.r 0], none, []⟩,
 ⟨some 36, .mv, [.r 6], none, []⟩,
 ⟨some 37, (.bin .mul), [.c (.int .i64 9), .r 36], none, [36]⟩,
 ⟨some 38, (.bin .add), [.c (.int .i64 4), .r 37], none, [37]⟩,
 ⟨some 39, .mv, [.r 6], none, []⟩,
 ⟨some 40, (.bin .mul), [.c (.int .i64 9), .r 39], none, [39]⟩,
 ⟨some 41, (.bin .add), [.c (.int .i64 13), .r 40], none, [40]⟩,
 ⟨some 42, (.slice 1 true true false), [.r 35, .r 38, .r 41], none, [35, 38, 41]⟩,
 ⟨some 7, .mv, [.r 42], none, [42]⟩])
 (.seq (.freg [⟨0, 0, false, false, ⟨some 43, .mv, [.r 7], none, []⟩, []⟩,
 ⟨1, 1, false, false, ⟨some 44, (.iaddrS 1), [.r 43, .c (.int .i64 0)], none, [43]⟩, []⟩,
 ⟨2, 3, false, false, ⟨some 45, .ld1, [.r 44], none, [44]⟩, []⟩,
 ⟨3, 0, false, false, ⟨some 46, .mv, [.r 7], none, []⟩, []⟩,
 ⟨4, 8, false, false, ⟨some 47, (.iaddrS 1), [.r 46, .c (.int .i64 1)], none, [46]⟩, []⟩,
 ⟨5, 24, false, false, ⟨some 48, .ld1, [.r 47], none, [47]⟩, []⟩,
 ⟨6, 0, false, false, ⟨some 49, .mv, [.r 7], none, []⟩, []⟩,
 ⟨7, 64, false, false, ⟨some 50, (.iaddrS 1), [.r 49, .c (.int .i64 2)], none, [49]⟩, []⟩,
 ⟨8, 192, false, false, ⟨some 51, .ld1, [.r 50], none, [50]⟩, []⟩,
 ⟨9, 511, true, false, ⟨some 52, (.bslice 1 3 [(.int .i64 0), (.int .i64 0), (.int .i64 0)] [(0, 1), (1, 1), (2, 1)]), [.r 45, .r 48, .r 51], none, [45, 48, 51]⟩, []⟩,
 ⟨10, 1023, false, false, ⟨some 53, (.build [(.int .i64 0), (.int .i64 0), .nils] [(0, 1), (1, 1), (2, 1)]), [.c (.int .i64 3), .c (.int .i64 1), .r 52], none, [52]⟩, []⟩]
 [⟨11, 0, false, true, ⟨some 8, (.alloc [(.int .i64 0), (.int .i64 0), .nils]), [], none, []⟩, []⟩]
 [⟨12, 4095, false, false, ⟨none, (.st 3), [.r 8, .r 53], none, [53]⟩, []⟩])
 (.seq (.reg [⟨some 54, (.call 68), [.c (.int .i64 3), .c (.int .i64 3)], none, []⟩,
 ⟨some 9, (.alloc [(.int .i64 0), (.int .i64 0), .nils]), [], none, []⟩,
 ⟨none, (.st 3), [.r 9, .r 54], none, [54]⟩])
 (.seq (.reg [⟨some 10, .mv, [.c (.int .i64 3)], none, []⟩])
 (.seq (.seq (.reg [⟨some 11, .mv, [.c (.int .i64 0)], none, []⟩])
 (.block 4 (.loop c48l2)))
 (.reg [⟨some 88, .mv, [.r 6], none, []⟩,
 ⟨some 89, (.ldn 3), [.r 8], none, [8]⟩,
 ⟨some 90, (.ldn 3), [.r 9], none, [9]⟩,
 ⟨some 91, (.build [(.int .i64 0), (.int .i64 0), .nils, (.int .i64 0), (.int .i64 0), .nils] [(0, 3), (3, 3)]), [.r 89, .r 90], none, [89, 90]⟩,
 ⟨some 92, (.faddr 4), [.r 4], none, []⟩,
 ⟨some 93, (.iaddrA 6 3), [.r 92, .r 88], none, [88, 92]⟩,
 ⟨none, (.st 6), [.r 93, .r 91], none, [91, 93]⟩])))))))
 (.reg [⟨some 33, .mv, [.r 6], none, [6]⟩,
 ⟨some 34, (.bin .add), [.r 33, .c (.int .i64 1)], none, [33]⟩,
 ⟨some 6, .mv, [.r 34], none, [34]⟩])))
def c48l4 : SC :=
 (.seq (.seq (.reg [⟨some 20, .mv, [.r 5], none, []⟩,
 ⟨some 21, (.bin .lss), [.r 20, .c (.int .i64 4)], none, [20]⟩])
 (.cond (.r 21)
 (.kl [21] .skip)
 (.kl [5, 21] (.exit 0))))
 (.seq (.block 1 (.reg [⟨some 24, .mv, [.r 5], none, []⟩,
 ⟨some 25, .mv, [.r 0], none, []⟩,
 ⟨some 26, .mv, [.r 5], none, []⟩,
 ⟨some 27, (.iaddrS 1), [.r 25, .r 26], none, [25, 26]⟩,
 ⟨some 28, .ld1, [.r 27], none, [27]⟩,
 ⟨some 29, (.faddr 0), [.r 4], none, []⟩,
 ⟨some 30, (.iaddrA 1 4), [.r 29, .r 24], none, [24, 29]⟩,
 ⟨none, (.st 1), [.r 30, .r 28], none, [28, 30]⟩]))
 (.reg [⟨some 22, .mv, [.r 5], none, [5]⟩,
 ⟨some 23, (.bin .add), [.r 22, .c (.int .i64 1)], none, [22]⟩,
 ⟨some 5, .mv, [.r 23], none, [23]⟩])))
def c48 : SC :=
 (.seq (.reg [⟨some 2, (.alloc [(.int .i64 0), (.int .i64 0), (.int .i64 0), (.int .i64 0), (.int .i64 0), (.int .i64 0), .nils, (.int .i64 0), (.int .i64 0), .nils, (.int .i64 0), (.int .i64 0), .nils, (.int .i64 0), (.int .i64 0), .nils, (.int .i64 0), (.int .i64 0), .nils, (.int .i64 0), (.int .i64 0), .nils, (.int .i64 0), (.int .i64 0), (.int .i64 0), (.int .i64 0), (.int .i64 0), (.int .i64 0), (.bool false)]), [], none, []⟩,
 ⟨some 3, .mv, [.c (.int .i64 0)], none, []⟩])
 (.seq (.seq (.reg [⟨some 15, .mv, [.r 0], none, [3]⟩,
 ⟨some 16, .len, [.r 15], none, [15]⟩,
 ⟨some 17, (.bin .neq), [.r 16, .c (.int .i64 38)], none, [16]⟩])
 (.cond (.r 17)
 (.kl [0, 17] (.seq (.reg [⟨some 18, (.build [(.int .i64 0), (.int .i64 0), (.int .i64 0), (.int .i64 0), (.int .i64 0), (.int .i64 0), .nils, (.int .i64 0), (.int .i64 0), .nils, (.int .i64 0), (.int .i64 0), .nils, (.int .i64 0), (.int .i64 0), .nils, (.int .i64 0), (.int .i64 0), .nils, (.int .i64 0), (.int .i64 0), .nils, (.int .i64 0), (.int .i64 0), (.int .i64 0), (.int .i64 0), (.int .i64 0), (.int .i64 0), (.bool false)] []), [], none, []⟩,
 ⟨none, (.st 29), [.r 2, .r 18], none, [18]⟩,
 ⟨some 3, .mv, [.c (.int .i64 2)], none, []⟩])
 .ret))
 (.kl [17] .skip)))
 (.seq (.reg [⟨some 19, (.build [(.int .i64 0), (.int .i64 0), (.int .i64 0), (.int .i64 0), (.int .i64 0), (.int .i64 0), .nils, (.int .i64 0), (.int .i64 0), .nils, (.int .i64 0), (.int .i64 0), .nils, (.int .i64 0), (.int .i64 0), .nils, (.int .i64 0), (.int .i64 0), .nils, (.int .i64 0), (.int .i64 0), .nils, (.int .i64 0), (.int .i64 0), (.int .i64 0), (.int .i64 0), (.int .i64 0), (.int .i64 0), (.bool false)] []), [], none, []⟩,
 ⟨some 4, (.alloc [(.int .i64 0), (.int .i64 0), (.int .i64 0), (.int .i64 0), (.int .i64 0), (.int .i64 0), .nils, (.int .i64 0), (.int .i64 0), .nils, (.int .i64 0), (.int .i64 0), .nils, (.int .i64 0), (.int .i64 0), .nils, (.int .i64 0), (.int .i64 0), .nils, (.int .i64 0), (.int .i64 0), .nils, (.int .i64 0), (.int .i64 0), (.int .i64 0), (.int .i64 0), (.int .i64 0), (.int .i64 0), (.bool false)]), [], none, []⟩,
 ⟨none, (.st 29), [.r 4, .r 19], none, [19]⟩])
 (.seq (.seq (.reg [⟨some 5, .mv, [.c (.int .i64 0)], none, []⟩])
 (.block 0 (.loop c48l4)))
 (.seq (.seq (.reg [⟨some 6, .mv, [.c (.int .i64 0)], none, []⟩])
 (.block 2 (.loop c48l3)))
 (.seq (.reg [⟨some 94, .mv, [.r 0], none, []⟩,
 ⟨some 95, (.iaddrS 1), [.r 94, .c (.int .i64 31)], none, [94]⟩,
 ⟨some 96, .ld1, [.r 95], none, [95]⟩,
 ⟨some 97, (.faddr 22), [.r 4], none, []⟩,
 ⟨none, (.st 1), [.r 97, .r 96], none, [96, 97]⟩])
 (.seq (.reg [⟨some 98, .mv, [.r 0], none, []⟩,
 ⟨some 99, (.iaddrS 1), [.r 98, .c (.int .i64 32)], none, [98]⟩,
 ⟨some 100, .ld1, [.r 99], none, [99]⟩,
 ⟨some 101, (.faddr 23), [.r 4], none, []⟩,
 ⟨none, (.st 1), [.r 101, .r 100], none, [100, 101]⟩])
 (.seq (.seq (.reg [⟨some 13, .mv, [.c (.int .i64 0)], none, []⟩])
 (.block 8 (.loop c48l0)))
 (.seq (.reg [⟨some 114, .mv, [.r 0], none, []⟩,
 ⟨some 115, (.iaddrS 1), [.r 114, .c (.int .i64 37)], none, [114]⟩,
 ⟨some 116, .ld1, [.r 115], none, [115]⟩,
 ⟨some 117, (.bin .eql), [.r 116, .c (.int .i64 1)], none, [116]⟩,
 ⟨some 118, (.faddr 28), [.r 4], none, []⟩,
 ⟨none, (.st 1), [.r 118, .r 117], none, [117, 118]⟩])
 (.seq (.reg [⟨some 119, (.ldn 29), [.r 4], none, []⟩,
 ⟨some 120, (.call 11), [.r 119], none, [119]⟩,
 ⟨some 14, .mv, [.r 120], none, [120]⟩])
 (.seq (.seq (.reg [⟨some 121, .mv, [.r 14], none, [14]⟩,
 ⟨some 122, (.un .not), [.r 121], none, [121]⟩,
 ⟨some 123, .mv, [.r 122], none, [122]⟩,
 ⟨some 124, .mv, [.r 0], (some (123, false)), []⟩,
 ⟨some 125, (.iaddrS 1), [.r 124, .c (.int .i64 37)], (some (123, false)), [124]⟩,
 ⟨some 126, .ld1, [.r 125], (some (123, false)), [125]⟩,
 ⟨some 127, (.bin .neq), [.r 126, .c (.int .i64 0)], (some (123, false)), [126]⟩,
 ⟨some 128, .mv, [.r 127], (some (123, false)), [127]⟩,
 ⟨some 129, .mv, [.r 0], (some (128, true)), [0]⟩,
 ⟨some 130, (.iaddrS 1), [.r 129, .c (.int .i64 37)], (some (128, true)), [129]⟩,
 ⟨some 131, .ld1, [.r 130], (some (128, true)), [130]⟩,
 ⟨some 132, (.bin .neq), [.r 131, .c (.int .i64 1)], (some (128, true)), [131]⟩,
 ⟨some 133, .pick, [.r 128, .r 132, .c (.bool false)], (some (123, false)), [128, 132]⟩,
 ⟨some 134, .pick, [.r 123, .c (.bool true), .r 133], none, [123, 133]⟩])
 (.cond (.r 134)
 (.kl [4, 134] (.seq (.reg [⟨some 135, (.build [(.int .i64 0), (.int .i64 0), (.int .i64 0), (.int .i64 0), (.int .i64 0), (.int .i64 0), .nils, (.int .i64 0), (.int .i64 0), .nils, (.int .i64 0), (.int .i64 0), .nils, (.int .i64 0), (.int .i64 0), .nils, (.int .i64 0), (.int .i64 0), .nils, (.int .i64 0), (.int .i64 0), .nils, (.int .i64 0), (.int .i64 0), (.int .i64 0), (.int .i64 0), (.int .i64 0), (.int .i64 0), (.bool false)] []), [], none, []⟩,
 ⟨none, (.st 29), [.r 2, .r 135], none, [135]⟩,
 ⟨some 3, .mv, [.c (.int .i64 2)], none, []⟩])
 .ret))
 (.kl [134] .skip)))
 (.seq (.reg [⟨some 136, (.ldn 29), [.r 4], none, [4]⟩,
 ⟨none, (.st 29), [.r 2, .r 136], none, [136]⟩,
 ⟨some 3, .mv, [.c (.int .i64 0)], none, []⟩])
 .ret))))))))))))
def rs48 : List SR := [.celln 2 29, .tmp 3]
theorem acallK48 (hn : args.length ≤ 137) (h : ac Try.prog c48 (argEnv 0 args) H (FinK rs48 v H')) : ACall Try.prog 48 args H v H' :=
 acallK Try.func48 (c := Try.f48.body.getD .skip) rfl (by kernel_rfl) (by kernel_rfl) hn h
def c49l0 : SC :=
 (.seq (.seq (.reg [⟨some 34, .mv, [.r 3], none, []⟩,
 ⟨some 35, (.faddr 2), [.r 1], none, []⟩,
 ⟨some 36, .ld1, [.r 35], none, [35]⟩,
 ⟨some 37, .len, [.r 36], none, [36]⟩,
 ⟨some 38, (.bin .lss), [.r 34, .r 37], none, [34, 37]⟩])
 (.cond (.r 38)
 (.kl [38] .skip)
 (.kl [1, 3, 38] (.exit 0))))
 (.seq (.block 1 (.seq (.reg [⟨some 41, (.faddr 2), [.r 1], none, []⟩,
 ⟨some 42, .ld1, [.r 41], none, [41]⟩,
 ⟨some 43, .mv, [.r 3], none, []⟩,
 ⟨some 44, (.iaddrS 1), [.r 42, .r 43], none, [42, 43]⟩,
 ⟨some 45, .ld1, [.r 44], none, [44]⟩,
 ⟨some 46, (.call 50), [.r 45], none, [45]⟩,
 ⟨some 4, .mv, [.r 46], none, [46]⟩])
 (.seq (.reg [⟨some 47, .mv, [.r 4], none, [4]⟩,
 ⟨some 48, (.un .not), [.r 47], none, [47]⟩])
 (.cond (.r 48)
 (.kl [1, 3, 48] (.seq (.reg [⟨some 2, .mv, [.c (.bool false)], none, []⟩])
 .ret))
 (.kl [48] .skip)))))
 (.reg [⟨some 39, .mv, [.r 3], none, [3]⟩,
 ⟨some 40, (.bin .add), [.r 39, .c (.int .i64 1)], none, [39]⟩,
 ⟨some 3, .mv, [.r 40], none, [40]⟩])))
def c49 : SC :=
 (.seq (.reg [⟨some 1, .box, [.r 0], none, [0]⟩,
 ⟨some 2, .mv, [.c (.bool false)], none, []⟩])
 (.seq (.seq (.reg [⟨some 5, (.faddr 0), [.r 1], none, [2]⟩,
 ⟨some 6, .ld1, [.r 5], none, [5]⟩,
 ⟨some 7, (.bin .lss), [.r 6, .c (.int .i64 1)], none, [6]⟩,
 ⟨some 8, .mv, [.r 7], none, [7]⟩,
 ⟨some 9, (.faddr 0), [.r 1], (some (8, false)), []⟩,
 ⟨some 10, .ld1, [.r 9], (some (8, false)), [9]⟩,
 ⟨some 11, (.bin .gtr), [.r 10, .c (.int .i64 8)], (some (8, false)), [10]⟩,
 ⟨some 12, .pick, [.r 8, .c (.bool true), .r 11], none, [8, 11]⟩,
 ⟨some 13, .mv, [.r 12], none, [12]⟩,
 ⟨some 14, (.faddr 1), [.r 1], (some (13, false)), []⟩,
 ⟨some 15, .ld1, [.r 14], (some (13, false)), [14]⟩,
 ⟨some 16, (.bin .lss), [.r 15, .c (.int .i64 1)], (some (13, false)), [15]⟩,
 ⟨some 17, .pick, [.r 13, .c (.bool true), .r 16], none, [13, 16]⟩,
 ⟨some 18, .mv, [.r 17], none, [17]⟩,
 ⟨some 19, (.faddr 1), [.r 1], (some (18, false)), []⟩,
 ⟨some 20, .ld1, [.r 19], (some (18, false)), [19]⟩,
 ⟨some 21, (.bin .gtr), [.r 20, .c (.int .i64 8)], (some (18, false)), [20]⟩,
 ⟨some 22, .pick, [.r 18, .c (.bool true), .r 21], none, [18, 21]⟩,
 ⟨some 23, .mv, [.r 22], none, [22]⟩,
 ⟨some 24, (.faddr 2), [.r 1], (some (23, false)), []⟩,
 ⟨some 25, .ld1, [.r 24], (some (23, false)), [24]⟩,
 ⟨some 26, .len, [.r 25], (some (23, false)), [25]⟩,
 ⟨some 27, (.faddr 0), [.r 1], (some (23, false)), []⟩,
 ⟨some 28, .ld1, [.r 27], (some (23, false)), [27]⟩,
 ⟨some 29, (.faddr 1), [.r 1], (some (23, false)), []⟩,
 ⟨some 30, .ld1, [.r 29], (some (23, false)), [29]⟩,
 ⟨some 31, (.bin .mul), [.r 28, .r 30], (some (23, false)), [28, 30]⟩,
 ⟨some 32, (.bin .neq), [.r 26, .r 31], (some (23, false)), [26, 31]⟩,
 ⟨some 33, .pick, [.r 23, .c (.bool true), .r 32], none, [23, 32]⟩])
 (.cond (.r 33)
 (.kl [1, 33] (.seq (.reg [⟨some 2, .mv, [.c (.bool false)], none, []⟩])
 .ret))
 (.kl [33] .skip)))
 (.seq (.seq (.reg [⟨some 3, .mv, [.c (.int .i64 0)], none, []⟩])
 (.block 0 (.loop c49l0)))
 (.seq (.reg [⟨some 2, .mv, [.c (.bool true)], none, []⟩])
 .ret))))
def rs49 : List SR := [.tmp 2]
theorem acall49 (hn : args.length ≤ 49) (h : ac Try.prog c49 (argEnv 0 args) H (Fin H rs49 v H')) : ACall Try.prog 49 args H v H' :=
 acall Try.func49 (c := Try.f49.body.getD .skip) rfl (by kernel_rfl) (by kernel_rfl) hn h
def c50 : SC :=
 (.seq (.reg [⟨some 2, .mv, [.c (.bool false)], none, []⟩])
 (.seq (.reg [⟨some 3, .mv, [.r 0], none, [2]⟩,
 ⟨some 4, (.bin .geq), [.r 3, .c (.int .i64 (-70368744177664))], none, [3]⟩,
 ⟨some 5, .mv, [.r 4], none, [4]⟩,
 ⟨some 6, .mv, [.r 0], (some (5, true)), [0]⟩,
 ⟨some 7, (.bin .leq), [.r 6, .c (.int .i64 70368744177663)], (some (5, true)), [6]⟩,
 ⟨some 8, .pick, [.r 5, .r 7, .c (.bool false)], none, [5, 7]⟩,
 ⟨some 2, .mv, [.r 8], none, [8]⟩])
 .ret))
def rs50 : List SR := [.tmp 2]
theorem acall50 (hn : args.length ≤ 9) (h : ac Try.prog c50 (argEnv 0 args) H (Fin H rs50 v H')) : ACall Try.prog 50 args H v H' :=
 acall Try.func50 (c := Try.f50.body.getD .skip) rfl (by kernel_rfl) (by kernel_rfl) hn h
def c52l0 : SC :=
 (.seq (.seq (.reg [⟨some 27, .mv, [.r 5], none, []⟩,
 ⟨some 28, (.faddr 2), [.r 2], none, []⟩,
 ⟨some 29, .ld1, [.r 28], none, [28]⟩,
 ⟨some 30, .len, [.r 29], none, [29]⟩,
 ⟨some 31, (.bin .lss), [.r 27, .r 30], none, [27, 30]⟩])
 (.cond (.r 31)
 (.kl [31] .skip)
 (.kl [2, 3, 5, 31] (.exit 0))))
 (.seq (.block 1 (.seq (.dreg [⟨0, 0, false, false, ⟨some 34, (.faddr 2), [.r 2], none, []⟩, []⟩,
 ⟨1, 1, false, false, ⟨some 35, .ld1, [.r 34], none, [34]⟩, []⟩,
 ⟨2, 0, false, false, ⟨some 36, .mv, [.r 5], none, []⟩, []⟩,
 ⟨3, 7, false, false, ⟨some 37, (.iaddrS 1), [.r 35, .r 36], none, [35, 36]⟩, []⟩,
 ⟨4, 15, false, false, ⟨some 38, .ld1, [.r 37], none, [37]⟩, []⟩,
 ⟨5, 0, false, false, ⟨some 39, (.faddr 2), [.r 3], none, []⟩, []⟩,
 ⟨6, 32, false, false, ⟨some 40, .ld1, [.r 39], none, [39]⟩, []⟩,
 ⟨7, 0, false, false, ⟨some 41, .mv, [.r 5], none, []⟩, []⟩,
 ⟨8, 224, false, false, ⟨some 42, (.iaddrS 1), [.r 40, .r 41], none, [40, 41]⟩, []⟩,
 ⟨9, 480, false, false, ⟨some 43, .ld1, [.r 42], none, [42]⟩, []⟩,
 ⟨10, 1023, false, false, ⟨some 44, (.bin .neq), [.r 38, .r 43], none, [38, 43]⟩, []⟩])
 (.cond (.r 44)
 (.kl [2, 3, 5, 44] (.seq (.reg [⟨some 4, .mv, [.c (.bool false)], none, []⟩])
 .ret))
 (.kl [44] .skip))))
 (.reg [⟨some 32, .mv, [.r 5], none, [5]⟩,
 ⟨some 33, (.bin .add), [.r 32, .c (.int .i64 1)], none, [32]⟩,
 ⟨some 5, .mv, [.r 33], none, [33]⟩])))
def c52 : SC :=
 (.seq (.reg [⟨some 2, .box, [.r 0], none, [0]⟩,
 ⟨some 3, .box, [.r 1], none, [1]⟩,
 ⟨some 4, .mv, [.c (.bool false)], none, []⟩])
 (.seq (.seq (.reg [⟨some 6, (.faddr 0), [.r 2], none, [4]⟩,
 ⟨some 7, .ld1, [.r 6], none, [6]⟩,
 ⟨some 8, (.faddr 0), [.r 3], none, []⟩,
 ⟨some 9, .ld1, [.r 8], none, [8]⟩,
 ⟨some 10, (.bin .neq), [.r 7, .r 9], none, [7, 9]⟩,
 ⟨some 11, .mv, [.r 10], none, [10]⟩,
 ⟨some 12, (.faddr 1), [.r 2], (some (11, false)), []⟩,
 ⟨some 13, .ld1, [.r 12], (some (11, false)), [12]⟩,
 ⟨some 14, (.faddr 1), [.r 3], (some (11, false)), []⟩,
 ⟨some 15, .ld1, [.r 14], (some (11, false)), [14]⟩,
 ⟨some 16, (.bin .neq), [.r 13, .r 15], (some (11, false)), [13, 15]⟩,
 ⟨some 17, .pick, [.r 11, .c (.bool true), .r 16], none, [11, 16]⟩,
 ⟨some 18, .mv, [.r 17], none, [17]⟩,
 ⟨some 19, (.faddr 2), [.r 2], (some (18, false)), []⟩,
 ⟨some 20, .ld1, [.r 19], (some (18, false)), [19]⟩,
 ⟨some 21, .len, [.r 20], (some (18, false)), [20]⟩,
 ⟨some 22, (.faddr 2), [.r 3], (some (18, false)), []⟩,
 ⟨some 23, .ld1, [.r 22], (some (18, false)), [22]⟩,
 ⟨some 24, .len, [.r 23], (some (18, false)), [23]⟩,
 ⟨some 25, (.bin .neq), [.r 21, .r 24], (some (18, false)), [21, 24]⟩,
 ⟨some 26, .pick, [.r 18, .c (.bool true), .r 25], none, [18, 25]⟩])
 (.cond (.r 26)
 (.kl [2, 3, 26] (.seq (.reg [⟨some 4, .mv, [.c (.bool false)], none, []⟩])
 .ret))
 (.kl [26] .skip)))
 (.seq (.seq (.reg [⟨some 5, .mv, [.c (.int .i64 0)], none, []⟩])
 (.block 0 (.loop c52l0)))
 (.seq (.reg [⟨some 4, .mv, [.c (.bool true)], none, []⟩])
 .ret))))
def rs52 : List SR := [.tmp 4]
theorem acall52 (hn : args.length ≤ 45) (h : ac Try.prog c52 (argEnv 0 args) H (Fin H rs52 v H')) : ACall Try.prog 52 args H v H' :=
 acall Try.func52 (c := Try.f52.body.getD .skip) rfl (by kernel_rfl) (by kernel_rfl) hn h
def c53l0 : SC :=
 (.seq (.seq (.reg [⟨some 20, .mv, [.r 6], none, []⟩,
 ⟨some 21, .mv, [.r 4], none, []⟩,
 ⟨some 22, (.bin .lss), [.r 20, .r 21], none, [20, 21]⟩])
 (.cond (.r 22)
 (.kl [22] .skip)
 (.kl [0, 4, 6, 22] (.exit 0))))
 (.seq (.block 1 (.seq (.reg [⟨some 25, .mv, [.r 0], none, []⟩,
 ⟨some 26, .mv, [.r 6], none, []⟩,
 ⟨some 27, (.iaddrS 1), [.r 25, .r 26], none, [25, 26]⟩,
 ⟨some 28, .ld1, [.r 27], none, [27]⟩,
 ⟨some 29, (.call 50), [.r 28], none, [28]⟩,
 ⟨some 7, .mv, [.r 29], none, [29]⟩])
 (.seq (.seq (.reg [⟨some 30, .mv, [.r 7], none, [7]⟩,
 ⟨some 31, (.un .not), [.r 30], none, [30]⟩])
 (.cond (.r 31)
 (.kl [0, 4, 5, 6, 31] (.seq (.reg [⟨some 32, (.build [(.int .i64 0), (.int .i64 0), .nils] []), [], none, []⟩,
 ⟨none, (.st 3), [.r 2, .r 32], none, [32]⟩,
 ⟨some 3, .mv, [.c (.int .i64 1)], none, []⟩])
 .ret))
 (.kl [31] .skip)))
 (.dreg [⟨0, 0, false, false, ⟨some 33, (.faddr 2), [.r 5], none, []⟩, []⟩,
 ⟨1, 1, false, false, ⟨some 34, .ld1, [.r 33], none, [33]⟩, []⟩,
 ⟨2, 0, false, false, ⟨some 35, .mv, [.r 6], none, []⟩, []⟩,
 ⟨3, 0, false, false, ⟨some 36, .mv, [.r 4], none, []⟩, []⟩,
 ⟨4, 12, false, false, ⟨some 37, (.bin .mul), [.r 35, .r 36], none, [35, 36]⟩, []⟩,
 ⟨5, 0, false, false, ⟨some 38, .mv, [.r 6], none, []⟩, []⟩,
 ⟨6, 60, false, false, ⟨some 39, (.bin .add), [.r 37, .r 38], none, [37, 38]⟩, []⟩,
 ⟨7, 0, false, false, ⟨some 40, .mv, [.r 0], none, []⟩, []⟩,
 ⟨8, 0, false, false, ⟨some 41, .mv, [.r 6], none, []⟩, []⟩,
 ⟨9, 384, false, false, ⟨some 42, (.iaddrS 1), [.r 40, .r 41], none, [40, 41]⟩, []⟩,
 ⟨10, 896, false, false, ⟨some 43, .ld1, [.r 42], none, [42]⟩, []⟩,
 ⟨11, 2047, false, false, ⟨some 44, (.iaddrS 1), [.r 34, .r 39], none, [34, 39]⟩, []⟩,
 ⟨12, 4095, false, false, ⟨none, (.st 1), [.r 44, .r 43], none, [43, 44]⟩, []⟩]))))
 (.reg [⟨some 23, .mv, [.r 6], none, [6]⟩,
 ⟨some 24, (.bin .add), [.r 23, .c (.int .i64 1)], none, [23]⟩,
 ⟨some 6, .mv, [.r 24], none, [24]⟩])))
def c53 : SC :=
 (.seq (.reg [⟨some 2, (.alloc [(.int .i64 0), (.int .i64 0), .nils]), [], none, []⟩,
 ⟨some 3, .mv, [.c (.int .i64 0)], none, []⟩])
 (.seq (.reg [⟨some 8, .mv, [.r 0], none, [3]⟩,
 ⟨some 9, .len, [.r 8], none, [8]⟩,
 ⟨some 4, .mv, [.r 9], none, [9]⟩])
 (.seq (.seq (.reg [⟨some 10, .mv, [.r 4], none, []⟩,
 ⟨some 11, (.bin .lss), [.r 10, .c (.int .i64 1)], none, [10]⟩,
 ⟨some 12, .mv, [.r 11], none, [11]⟩,
 ⟨some 13, .mv, [.r 4], (some (12, false)), []⟩,
 ⟨some 14, (.bin .gtr), [.r 13, .c (.int .i64 8)], (some (12, false)), [13]⟩,
 ⟨some 15, .pick, [.r 12, .c (.bool true), .r 14], none, [12, 14]⟩])
 (.cond (.r 15)
 (.kl [0, 4, 15] (.seq (.reg [⟨some 16, (.build [(.int .i64 0), (.int .i64 0), .nils] []), [], none, []⟩,
 ⟨none, (.st 3), [.r 2, .r 16], none, [16]⟩,
 ⟨some 3, .mv, [.c (.int .i64 1)], none, []⟩])
 .ret))
 (.kl [15] .skip)))
 (.seq (.reg [⟨some 17, .mv, [.r 4], none, []⟩,
 ⟨some 18, .mv, [.r 4], none, []⟩,
 ⟨some 19, (.call 68), [.r 17, .r 18], none, [17, 18]⟩,
 ⟨some 5, (.alloc [(.int .i64 0), (.int .i64 0), .nils]), [], none, []⟩,
 ⟨none, (.st 3), [.r 5, .r 19], none, [19]⟩])
 (.seq (.seq (.reg [⟨some 6, .mv, [.c (.int .i64 0)], none, []⟩])
 (.block 0 (.loop c53l0)))
 (.seq (.reg [⟨some 45, (.ldn 3), [.r 5], none, [5]⟩,
 ⟨none, (.st 3), [.r 2, .r 45], none, [45]⟩,
 ⟨some 3, .mv, [.c (.int .i64 0)], none, []⟩])
 .ret))))))
def rs53 : List SR := [.celln 2 3, .tmp 3]
theorem acallK53 (hn : args.length ≤ 46) (h : ac Try.prog c53 (argEnv 0 args) H (FinK rs53 v H')) : ACall Try.prog 53 args H v H' :=
 acallK Try.func53 (c := Try.f53.body.getD .skip) rfl (by kernel_rfl) (by kernel_rfl) hn h
def c54l0 : SC :=
 (.seq (.reg [⟨some 13, (.bin .lss), [.r 12, .c (.int .i64 3)], none, []⟩])
 (.seq (.cond (.r 13)
 (.kl [13] .skip)
 (.kl [12, 13] (.exit 0)))
 (.seq (.block 1 (.seq (.reg [⟨some 14, .mv, [.r 12], none, []⟩,
 ⟨some 5, .mv, [.r 14], none, [14]⟩])
 (.reg [⟨some 16, .mv, [.r 5], none, [5]⟩,
 ⟨some 17, (.mksl 1 8 [(.int .i64 0)]), [.c (.int .i64 3), .c (.int .i64 3)], none, []⟩,
 ⟨some 18, (.bslice 1 3 [(.int .i64 0), (.int .i64 0), (.int .i64 0)] [(0, 1), (1, 1), (2, 1)]), [.c (.int .i64 1677721600), .c (.int .i64 167772160), .c (.int .i64 16777216)], none, []⟩,
 ⟨some 19, (.call 70), [.r 17, .r 18], none, [17, 18]⟩,
 ⟨some 15, .mv, [.r 19], none, [19]⟩,
 ⟨some 20, (.ext 0), [.r 15], none, []⟩,
 ⟨some 21, (.ext 1), [.r 15], none, [15]⟩,
 ⟨some 22, (.faddr 4), [.r 4], none, [21]⟩,
 ⟨some 23, (.iaddrA 6 3), [.r 22, .r 16], none, [16, 22]⟩,
 ⟨none, (.st 6), [.r 23, .r 20], none, [20, 23]⟩])))
 (.reg [⟨some 24, (.bin .add), [.r 12, .c (.int .i64 1)], none, [12]⟩,
 ⟨some 12, .mv, [.r 24], none, [24]⟩]))))
def c54 : SC :=
 (.seq (.reg [⟨some 1, .box, [.r 0], none, [0]⟩,
 ⟨some 2, (.alloc [(.int .i64 0), (.int .i64 0), (.int .i64 0), (.int .i64 0), (.int .i64 0), (.int .i64 0), .nils, (.int .i64 0), (.int .i64 0), .nils, (.int .i64 0), (.int .i64 0), .nils, (.int .i64 0), (.int .i64 0), .nils, (.int .i64 0), (.int .i64 0), .nils, (.int .i64 0), (.int .i64 0), .nils, (.int .i64 0), (.int .i64 0), (.int .i64 0), (.int .i64 0), (.int .i64 0), (.int .i64 0), (.bool false)]), [], none, []⟩,
 ⟨some 3, .mv, [.c (.int .i64 0)], none, []⟩])
 (.seq (.seq (.reg [⟨some 6, (.ldn 6), [.r 1], none, [1, 3]⟩,
 ⟨some 7, (.call 69), [.r 6], none, [6]⟩,
 ⟨some 8, (.un .not), [.r 7], none, [7]⟩])
 (.cond (.r 8)
 (.kl [8] (.seq (.reg [⟨some 9, (.build [(.int .i64 0), (.int .i64 0), (.int .i64 0), (.int .i64 0), (.int .i64 0), (.int .i64 0), .nils, (.int .i64 0), (.int .i64 0), .nils, (.int .i64 0), (.int .i64 0), .nils, (.int .i64 0), (.int .i64 0), .nils, (.int .i64 0), (.int .i64 0), .nils, (.int .i64 0), (.int .i64 0), .nils, (.int .i64 0), (.int .i64 0), (.int .i64 0), (.int .i64 0), (.int .i64 0), (.int .i64 0), (.bool false)] []), [], none, []⟩,
 ⟨none, (.st 29), [.r 2, .r 9], none, [9]⟩,
 ⟨some 3, .mv, [.c (.int .i64 1)], none, []⟩])
 .ret))
 (.kl [8] .skip)))
 (.seq (.reg [⟨some 10, (.build [(.int .i64 0), (.int .i64 0), (.int .i64 0), (.int .i64 0)] [(0, 1)]), [.c (.int .i64 16777216)], none, []⟩,
 ⟨some 11, (.build [(.int .i64 0), (.int .i64 0), (.int .i64 0), (.int .i64 0), (.int .i64 0), (.int .i64 0), .nils, (.int .i64 0), (.int .i64 0), .nils, (.int .i64 0), (.int .i64 0), .nils, (.int .i64 0), (.int .i64 0), .nils, (.int .i64 0), (.int .i64 0), .nils, (.int .i64 0), (.int .i64 0), .nils, (.int .i64 0), (.int .i64 0), (.int .i64 0), (.int .i64 0), (.int .i64 0), (.int .i64 0), (.bool false)] [(0, 4)]), [.r 10], none, [10]⟩,
 ⟨some 4, (.alloc [(.int .i64 0), (.int .i64 0), (.int .i64 0), (.int .i64 0), (.int .i64 0), (.int .i64 0), .nils, (.int .i64 0), (.int .i64 0), .nils, (.int .i64 0), (.int .i64 0), .nils, (.int .i64 0), (.int .i64 0), .nils, (.int .i64 0), (.int .i64 0), .nils, (.int .i64 0), (.int .i64 0), .nils, (.int .i64 0), (.int .i64 0), (.int .i64 0), (.int .i64 0), (.int .i64 0), (.int .i64 0), (.bool false)]), [], none, []⟩,
 ⟨none, (.st 29), [.r 4, .r 11], none, [11]⟩])
 (.seq (.seq (.reg [⟨some 12, .mv, [.c (.int .i64 0)], none, []⟩])
 (.block 0 (.loop c54l0)))
 (.seq (.reg [⟨some 25, (.ldn 29), [.r 4], none, [4]⟩,
 ⟨none, (.st 29), [.r 2, .r 25], none, [25]⟩,
 ⟨some 3, .mv, [.c (.int .i64 0)], none, []⟩])
 .ret)))))
def rs54 : List SR := [.celln 2 29, .tmp 3]
theorem acallK54 (hn : args.length ≤ 26) (h : ac Try.prog c54 (argEnv 0 args) H (FinK rs54 v H')) : ACall Try.prog 54 args H v H' :=
 acallK Try.func54 (c := Try.f54.body.getD .skip) rfl (by kernel_rfl) (by kernel_rfl) hn h
def c55l0 : SC :=
 (.seq (.reg [⟨some 49, (.bin .lss), [.r 48, .r 47], none, []⟩])
 (.seq (.cond (.r 49)
 (.kl [49] .skip)
 (.kl [1, 3, 47, 48, 49] (.exit 0)))
 (.seq (.block 1 (.seq (.reg [⟨some 50, .mv, [.r 48], none, []⟩,
 ⟨some 4, .mv, [.r 50], none, [50]⟩])
 (.seq (.reg [⟨some 51, (.faddr 3), [.r 1], none, []⟩,
 ⟨some 52, (.faddr 2), [.r 51], none, [51]⟩,
 ⟨some 53, .ld1, [.r 52], none, [52]⟩,
 ⟨some 54, .mv, [.r 4], none, []⟩,
 ⟨some 55, .mv, [.r 3], none, []⟩,
 ⟨some 56, (.bin .mul), [.r 54, .r 55], none, [54, 55]⟩,
 ⟨some 57, .mv, [.r 4], none, [4]⟩,
 ⟨some 58, (.bin .add), [.r 56, .r 57], none, [56, 57]⟩,
 ⟨some 59, (.iaddrS 1), [.r 53, .r 58], none, [53, 58]⟩,
 ⟨some 60, .ld1, [.r 59], none, [59]⟩,
 ⟨some 61, (.bin .lss), [.r 60, .c (.int .i64 0)], none, [60]⟩])
 (.cond (.r 61)
 (.kl [1, 3, 47, 48, 61] (.seq (.reg [⟨some 2, .mv, [.c (.bool false)], none, []⟩])
 .ret))
 (.kl [61] .skip)))))
 (.reg [⟨some 62, (.bin .add), [.r 48, .c (.int .i64 1)], none, [48]⟩,
 ⟨some 48, .mv, [.r 62], none, [62]⟩]))))
def c55 : SC :=
 (.seq (.reg [⟨some 1, .box, [.r 0], none, [0]⟩,
 ⟨some 2, .mv, [.c (.bool false)], none, []⟩])
 (.seq (.reg [⟨some 5, (.faddr 0), [.r 1], none, [2]⟩,
 ⟨some 6, (.faddr 0), [.r 5], none, [5]⟩,
 ⟨some 7, .ld1, [.r 6], none, [6]⟩,
 ⟨some 3, .mv, [.r 7], none, [7]⟩])
 (.seq (.seq (.dreg [⟨0, 0, false, false, ⟨some 8, (.faddr 0), [.r 1], none, []⟩, []⟩,
 ⟨1, 1, false, false, ⟨some 9, (.ldn 3), [.r 8], none, [8]⟩, []⟩,
 ⟨2, 3, false, false, ⟨some 10, (.call 71), [.r 9], none, [9]⟩, []⟩,
 ⟨3, 7, false, false, ⟨some 11, (.un .not), [.r 10], none, [10]⟩, []⟩,
 ⟨4, 15, false, false, ⟨some 12, .mv, [.r 11], none, [11]⟩, []⟩,
 ⟨5, 31, false, false, ⟨some 13, (.faddr 3), [.r 1], (some (12, false)), []⟩, []⟩,
 ⟨6, 63, false, false, ⟨some 14, (.ldn 3), [.r 13], (some (12, false)), [13]⟩, []⟩,
 ⟨7, 127, false, false, ⟨some 15, (.call 71), [.r 14], (some (12, false)), [14]⟩, []⟩,
 ⟨8, 255, false, false, ⟨some 16, (.un .not), [.r 15], (some (12, false)), [15]⟩, []⟩,
 ⟨9, 511, false, false, ⟨some 17, .pick, [.r 12, .c (.bool true), .r 16], none, [12, 16]⟩, []⟩,
 ⟨10, 1023, false, false, ⟨some 18, .mv, [.r 17], none, [17]⟩, []⟩,
 ⟨11, 2047, false, false, ⟨some 19, (.faddr 0), [.r 1], (some (18, false)), []⟩, []⟩,
 ⟨12, 4095, false, false, ⟨some 20, (.faddr 1), [.r 19], (some (18, false)), [19]⟩, []⟩,
 ⟨13, 8191, false, false, ⟨some 21, .ld1, [.r 20], (some (18, false)), [20]⟩, []⟩,
 ⟨14, 16383, false, false, ⟨some 22, (.bin .neq), [.r 21, .c (.int .i64 1)], (some (18, false)), [21]⟩, []⟩,
 ⟨15, 32767, false, false, ⟨some 23, .pick, [.r 18, .c (.bool true), .r 22], none, [18, 22]⟩, []⟩,
 ⟨16, 65535, false, false, ⟨some 24, .mv, [.r 23], none, [23]⟩, []⟩,
 ⟨17, 131071, false, false, ⟨some 25, (.faddr 3), [.r 1], (some (24, false)), []⟩, []⟩,
 ⟨18, 262143, false, false, ⟨some 26, (.faddr 0), [.r 25], (some (24, false)), [25]⟩, []⟩,
 ⟨19, 524287, false, false, ⟨some 27, .ld1, [.r 26], (some (24, false)), [26]⟩, []⟩,
 ⟨20, 131071, false, false, ⟨some 28, .mv, [.r 3], (some (24, false)), []⟩, []⟩,
 ⟨21, 2097151, false, false, ⟨some 29, (.bin .neq), [.r 27, .r 28], (some (24, false)), [27, 28]⟩, []⟩,
 ⟨22, 4194303, false, false, ⟨some 30, .pick, [.r 24, .c (.bool true), .r 29], none, [24, 29]⟩, []⟩,
 ⟨23, 8388607, false, false, ⟨some 31, .mv, [.r 30], none, [30]⟩, []⟩,
 ⟨24, 16777215, false, false, ⟨some 32, (.faddr 3), [.r 1], (some (31, false)), []⟩, []⟩,
 ⟨25, 33554431, false, false, ⟨some 33, (.faddr 1), [.r 32], (some (31, false)), [32]⟩, []⟩,
 ⟨26, 67108863, false, false, ⟨some 34, .ld1, [.r 33], (some (31, false)), [33]⟩, []⟩,
 ⟨27, 16777215, false, false, ⟨some 35, .mv, [.r 3], (some (31, false)), []⟩, []⟩,
 ⟨28, 268435455, false, false, ⟨some 36, (.bin .neq), [.r 34, .r 35], (some (31, false)), [34, 35]⟩, []⟩,
 ⟨29, 536870911, false, false, ⟨some 37, .pick, [.r 31, .c (.bool true), .r 36], none, [31, 36]⟩, []⟩,
 ⟨30, 1073741823, false, false, ⟨some 38, .mv, [.r 37], none, [37]⟩, []⟩,
 ⟨31, 2147483647, false, false, ⟨some 39, (.faddr 3), [.r 1], (some (38, false)), []⟩, []⟩,
 ⟨32, 4294967295, false, false, ⟨some 40, (.ldn 3), [.r 39], (some (38, false)), [39]⟩, []⟩,
 ⟨33, 2147483647, false, false, ⟨some 41, (.faddr 3), [.r 1], (some (38, false)), []⟩, []⟩,
 ⟨34, 10737418239, false, false, ⟨some 42, (.ldn 3), [.r 41], (some (38, false)), [41]⟩, []⟩,
 ⟨35, 27917287423, true, false, ⟨some 43, (.call 73), [.r 42], (some (38, false)), [42]⟩, []⟩,
 ⟨36, 68719476735, false, false, ⟨some 44, (.call 72), [.r 40, .r 43], (some (38, false)), [40, 43]⟩, []⟩,
 ⟨37, 137438953471, false, false, ⟨some 45, (.un .not), [.r 44], (some (38, false)), [44]⟩, []⟩,
 ⟨38, 274877906943, false, false, ⟨some 46, .pick, [.r 38, .c (.bool true), .r 45], none, [38, 45]⟩, []⟩])
 (.cond (.r 46)
 (.kl [1, 3, 46] (.seq (.reg [⟨some 2, .mv, [.c (.bool false)], none, []⟩])
 .ret))
 (.kl [46] .skip)))
 (.seq (.seq (.reg [⟨some 47, .mv, [.r 3], none, []⟩,
 ⟨some 48, .mv, [.c (.int .i64 0)], none, []⟩])
 (.block 0 (.loop c55l0)))
 (.seq (.reg [⟨some 2, .mv, [.c (.bool true)], none, []⟩])
 .ret)))))
def rs55 : List SR := [.tmp 2]
theorem acall55 (hn : args.length ≤ 63) (h : ac Try.prog c55 (argEnv 0 args) H (Fin H rs55 v H')) : ACall Try.prog 55 args H v H' :=
 acall Try.func55 (c := Try.f55.body.getD .skip) rfl (by kernel_rfl) (by kernel_rfl) hn h
def c56 : SC :=
 (.seq (.reg [⟨some 2, .mv, [.c (.bool false)], none, []⟩])
 (.seq (.reg [⟨some 3, .mv, [.r 0], none, [2]⟩,
 ⟨some 4, (.bin .lss), [.r 3, .c (.int .i64 0)], none, [3]⟩,
 ⟨some 5, .mv, [.r 4], none, [4]⟩,
 ⟨some 6, .mv, [.r 0], (some (5, false)), [0]⟩,
 ⟨some 7, (.bin .gtr), [.r 6, .c (.int .i64 1000)], (some (5, false)), [6]⟩,
 ⟨some 8, .pick, [.r 5, .c (.bool true), .r 7], none, [5, 7]⟩,
 ⟨some 2, .mv, [.r 8], none, [8]⟩])
 .ret))
def rs56 : List SR := [.tmp 2]
theorem acall56 (hn : args.length ≤ 9) (h : ac Try.prog c56 (argEnv 0 args) H (Fin H rs56 v H')) : ACall Try.prog 56 args H v H' :=
 acall Try.func56 (c := Try.f56.body.getD .skip) rfl (by kernel_rfl) (by kernel_rfl) hn h
def c57l0 : SC :=
 (.seq (.reg [⟨some 7, (.bin .lss), [.r 6, .c (.int .i64 4)], none, []⟩])
 (.seq (.cond (.r 7)
 (.kl [7] .skip)
 (.kl [5, 6, 7] (.exit 0)))
 (.seq (.block 1 (.seq (.reg [⟨some 8, (.idxA 1 4 false), [.r 5, .r 6], none, []⟩,
 ⟨some 4, .mv, [.r 8], none, [8]⟩])
 (.seq (.reg [⟨some 9, .mv, [.r 4], none, []⟩,
 ⟨some 10, (.bin .lss), [.r 9, .c (.int .i64 (-70368744177664))], none, [9]⟩,
 ⟨some 11, .mv, [.r 10], none, [10]⟩,
 ⟨some 12, .mv, [.r 4], (some (11, false)), [4]⟩,
 ⟨some 13, (.bin .gtr), [.r 12, .c (.int .i64 70368744177663)], (some (11, false)), [12]⟩,
 ⟨some 14, .pick, [.r 11, .c (.bool true), .r 13], none, [11, 13]⟩])
 (.cond (.r 14)
 (.kl [5, 6, 14] (.seq (.reg [⟨some 2, .mv, [.c (.bool false)], none, []⟩])
 .ret))
 (.kl [14] .skip)))))
 (.reg [⟨some 15, (.bin .add), [.r 6, .c (.int .i64 1)], none, [6]⟩,
 ⟨some 6, .mv, [.r 15], none, [15]⟩]))))
def c57 : SC :=
 (.seq (.reg [⟨some 1, .box, [.r 0], none, [0]⟩,
 ⟨some 2, .mv, [.c (.bool false)], none, []⟩])
 (.seq (.seq (.reg [⟨some 5, (.ldn 4), [.r 1], none, [1, 2]⟩,
 ⟨some 6, .mv, [.c (.int .i64 0)], none, []⟩])
 (.block 0 (.loop c57l0)))
 (.seq (.reg [⟨some 2, .mv, [.c (.bool true)], none, []⟩])
 .ret)))
def rs57 : List SR := [.tmp 2]
theorem acall57 (hn : args.length ≤ 16) (h : ac Try.prog c57 (argEnv 0 args) H (Fin H rs57 v H')) : ACall Try.prog 57 args H v H' :=
 acall Try.func57 (c := Try.f57.body.getD .skip) rfl (by kernel_rfl) (by kernel_rfl) hn h
def c58 : SC :=
 (.seq (.reg [⟨some 4, .mv, [.c (.bool false)], none, []⟩])
 (.seq (.reg [⟨some 5, .mv, [.r 0], none, [0, 4]⟩,
 ⟨some 6, .mv, [.r 1], none, [1]⟩,
 ⟨some 7, (.call 74), [.r 5, .r 6], none, [5, 6]⟩,
 ⟨some 8, (.bin .geq), [.r 7, .c (.int .i64 0)], none, [7]⟩,
 ⟨some 4, .mv, [.r 8], none, [8]⟩])
 .ret))
def rs58 : List SR := [.tmp 4]
theorem acall58 (hn : args.length ≤ 9) (h : ac Try.prog c58 (argEnv 0 args) H (Fin H rs58 v H')) : ACall Try.prog 58 args H v H' :=
 acall Try.func58 (c := Try.f58.body.getD .skip) rfl (by kernel_rfl) (by kernel_rfl) hn h
def c59 : SC :=
 (.seq (.reg [⟨some 2, .mv, [.c (.int .i64 0)], none, []⟩])
 (.seq (.reg [⟨some 3, .mv, [.r 0], none, [0, 2]⟩,
 ⟨some 4, (.bin .add), [.r 3, .c (.int .i64 60)], none, [3]⟩,
 ⟨some 5, (.bin .sub), [.r 4, .c (.int .i64 1)], none, [4]⟩,
 ⟨some 6, (.bin .quo), [.r 5, .c (.int .i64 60)], none, [5]⟩,
 ⟨some 2, .mv, [.r 6], none, [6]⟩])
 .ret))
def rs59 : List SR := [.tmp 2]
theorem acall59 (hn : args.length ≤ 7) (h : ac Try.prog c59 (argEnv 0 args) H (Fin H rs59 v H')) : ACall Try.prog 59 args H v H' :=
 acall Try.func59 (c := Try.f59.body.getD .skip) rfl (by kernel_rfl) (by kernel_rfl) hn h
def c60l0 : SC :=
 (.seq (.reg [⟨some 8, (.bin .lss), [.r 7, .r 6], none, []⟩])
 (.seq (.cond (.r 8)
 (.kl [8] .skip)
 (.kl [1, 5, 6, 7, 8] (.exit 0)))
 (.seq (.block 1 (.seq (.reg [⟨some 9, (.iaddrS 1), [.r 5, .r 7], none, []⟩,
 ⟨some 10, .ld1, [.r 9], none, [9]⟩,
 ⟨some 4, .mv, [.r 10], none, [10]⟩])
 (.reg [⟨some 11, .ld1, [.r 1], none, []⟩,
 ⟨some 12, .mv, [.r 4], none, [4]⟩,
 ⟨some 13, (.bslice 1 1 [(.int .i64 0)] [(0, 1)]), [.r 12], none, [12]⟩,
 ⟨some 14, (.app 1 8), [.r 11, .r 13], none, [11, 13]⟩,
 ⟨none, (.st 1), [.r 1, .r 14], none, [14]⟩])))
 (.reg [⟨some 15, (.bin .add), [.r 7, .c (.int .i64 1)], none, [7]⟩,
 ⟨some 7, .mv, [.r 15], none, [15]⟩]))))
def c60 : SC :=
 (.seq (.reg [⟨some 5, .mv, [.r 0], none, [0]⟩,
 ⟨some 6, .len, [.r 5], none, []⟩,
 ⟨some 7, .mv, [.c (.int .i64 0)], none, []⟩])
 (.block 0 (.loop c60l0)))
def rs60 : List SR := []
theorem acallK60 (hn : args.length ≤ 16) (h : ac Try.prog c60 (argEnv 0 args) H (FinK rs60 v H')) : ACall Try.prog 60 args H v H' :=
 acallK Try.func60 (c := Try.f60.body.getD .skip) rfl (by kernel_rfl) (by kernel_rfl) hn h
def c61 : SC :=
 (.seq (.reg [⟨some 2, .box, [.r 0], none, [0]⟩,
 ⟨some 3, .box, [.r 1], none, [1]⟩,
 ⟨some 4, .mv, [.c .nilf], none, []⟩])
 (.seq (.seq (.reg [⟨some 5, .ld1, [.r 3], none, [4]⟩,
 ⟨some 6, (.bin .lss), [.r 5, .c (.int .i64 1)], none, [5]⟩])
 (.cond (.r 6)
 (.kl [6] (.reg [⟨some 7, .dead, [], none, []⟩,
 ⟨none, .dead, [], none, [7]⟩]))
 (.kl [6] .skip)))
 (.seq (.reg [⟨some 8, (.mkfn (.func 75) 0), [.r 2, .r 3], none, [2, 3]⟩,
 ⟨some 4, .mv, [.r 8], none, [8]⟩])
 .ret)))
def rs61 : List SR := [.tmp 4]
theorem acallK61 (hn : args.length ≤ 9) (h : ac Try.prog c61 (argEnv 0 args) H (FinK rs61 v H')) : ACall Try.prog 61 args H v H' :=
 acallK Try.func61 (c := Try.f61.body.getD .skip) rfl (by kernel_rfl) (by kernel_rfl) hn h
def c62l0 : SC :=
 (.seq (.reg [⟨some 9, (.bin .lss), [.r 8, .r 7], none, []⟩])
 (.seq (.cond (.r 9)
 (.kl [9] .skip)
 (.kl [0, 1, 7, 8, 9] (.exit 0)))
 (.seq (.block 1 (.seq (.reg [⟨some 10, .mv, [.r 8], none, []⟩,
 ⟨some 5, .mv, [.r 10], none, [10]⟩])
 (.seq (.reg [⟨some 11, .mv, [.r 1], none, []⟩,
 ⟨some 12, .mv, [.r 0], none, []⟩,
 ⟨some 13, .mv, [.r 5], none, []⟩,
 ⟨some 14, (.iaddrS 1), [.r 12, .r 13], none, [12, 13]⟩,
 ⟨some 15, .ld1, [.r 14], none, [14]⟩,
 ⟨some 16, .callv, [.r 11, .r 15], none, [11, 15]⟩])
 (.cond (.r 16)
 (.kl [0, 1, 7, 8, 16] (.seq (.reg [⟨some 17, .mv, [.r 5], none, [5]⟩,
 ⟨some 4, .mv, [.r 17], none, [17]⟩])
 .ret))
 (.kl [5, 16] .skip)))))
 (.reg [⟨some 18, (.bin .add), [.r 8, .c (.int .i64 1)], none, [8]⟩,
 ⟨some 8, .mv, [.r 18], none, [18]⟩]))))
def c62 : SC :=
 (.seq (.reg [⟨some 4, .mv, [.c (.int .i64 0)], none, []⟩])
 (.seq (.seq (.reg [⟨some 6, .mv, [.r 0], none, [4]⟩,
 ⟨some 7, .len, [.r 6], none, [6]⟩,
 ⟨some 8, .mv, [.c (.int .i64 0)], none, []⟩])
 (.block 0 (.loop c62l0)))
 (.seq (.reg [⟨some 4, .mv, [.c (.int .i64 (-1))], none, []⟩])
 .ret)))
def rs62 : List SR := [.tmp 4]
theorem acall62 (hn : args.length ≤ 19) (h : ac Try.prog c62 (argEnv 0 args) H (Fin H rs62 v H')) : ACall Try.prog 62 args H v H' :=
 acall Try.func62 (c := Try.f62.body.getD .skip) rfl (by kernel_rfl) (by kernel_rfl) hn h
def c63 : SC :=
 (.seq (.reg [⟨some 2, .mv, [.c (.int .i64 0)], none, []⟩])
 (.seq (.seq (.reg [⟨some 3, .mv, [.r 0], none, [2]⟩,
 ⟨some 4, (.bin .lss), [.r 3, .c (.int .i64 1)], none, [3]⟩])
 (.cond (.r 4)
 (.kl [0, 4] (.seq (.reg [⟨some 2, .mv, [.c (.int .i64 0)], none, []⟩])
 .ret))
 (.kl [4] .skip)))
 (.seq (.reg [⟨some 5, .mv, [.r 0], none, [0]⟩,
 ⟨some 6, (.bin .sub), [.r 5, .c (.int .i64 1)], none, [5]⟩,
 ⟨some 7, (.bin .quo), [.r 6, .c (.int .i64 8)], none, [6]⟩,
 ⟨some 8, (.bin .add), [.r 7, .c (.int .i64 1)], none, [7]⟩,
 ⟨some 2, .mv, [.r 8], none, [8]⟩])
 .ret)))
def rs63 : List SR := [.tmp 2]
theorem acall63 (hn : args.length ≤ 9) (h : ac Try.prog c63 (argEnv 0 args) H (Fin H rs63 v H')) : ACall Try.prog 63 args H v H' :=
 acall Try.func63 (c := Try.f63.body.getD .skip) rfl (by kernel_rfl) (by kernel_rfl) hn h
def c64l0 : SC :=
 (.seq (.reg [⟨some 9, (.bin .lss), [.r 8, .r 7], none, []⟩])
 (.seq (.cond (.r 9)
 (.kl [9] .skip)
 (.kl [0, 1, 7, 8, 9] (.exit 0)))
 (.seq (.block 1 (.seq (.reg [⟨some 10, .mv, [.r 8], none, []⟩,
 ⟨some 5, .mv, [.r 10], none, [10]⟩])
 (.seq (.reg [⟨some 11, .mv, [.r 1], none, []⟩,
 ⟨some 12, .mv, [.r 0], none, []⟩,
 ⟨some 13, .mv, [.r 5], none, []⟩,
 ⟨some 14, (.iaddrS 1), [.r 12, .r 13], none, [12, 13]⟩,
 ⟨some 15, .ld1, [.r 14], none, [14]⟩,
 ⟨some 16, (.eqb false), [.r 11, .r 15], none, [11, 15]⟩])
 (.cond (.r 16)
 (.kl [0, 1, 7, 8, 16] (.seq (.reg [⟨some 17, .mv, [.r 5], none, [5]⟩,
 ⟨some 4, .mv, [.r 17], none, [17]⟩])
 .ret))
 (.kl [5, 16] .skip)))))
 (.reg [⟨some 18, (.bin .add), [.r 8, .c (.int .i64 1)], none, [8]⟩,
 ⟨some 8, .mv, [.r 18], none, [18]⟩]))))
def c64 : SC :=
 (.seq (.reg [⟨some 4, .mv, [.c (.int .i64 0)], none, []⟩])
 (.seq (.seq (.reg [⟨some 6, .mv, [.r 0], none, [4]⟩,
 ⟨some 7, .len, [.r 6], none, [6]⟩,
 ⟨some 8, .mv, [.c (.int .i64 0)], none, []⟩])
 (.block 0 (.loop c64l0)))
 (.seq (.reg [⟨some 4, .mv, [.c (.int .i64 (-1))], none, []⟩])
 .ret)))
def rs64 : List SR := [.tmp 4]
theorem acall64 (hn : args.length ≤ 19) (h : ac Try.prog c64 (argEnv 0 args) H (Fin H rs64 v H')) : ACall Try.prog 64 args H v H' :=
 acall Try.func64 (c := Try.f64.body.getD .skip) rfl (by kernel_rfl) (by kernel_rfl) hn h
def c65l0 : SC :=
 (.seq (.reg [⟨some 9, (.bin .lss), [.r 8, .r 7], none, []⟩])
 (.seq (.cond (.r 9)
 (.kl [9] .skip)
 (.kl [6, 7, 8, 9] (.exit 0)))
 (.seq (.block 1 (.seq (.reg [⟨some 10, (.iaddrS 1), [.r 6, .r 8], none, []⟩,
 ⟨some 11, .ld1, [.r 10], none, [10]⟩,
 ⟨some 5, .mv, [.r 11], none, [11]⟩])
 (.reg [⟨some 12, .mv, [.r 3], none, [3]⟩,
 ⟨some 13, .mv, [.r 5], none, [5]⟩,
 ⟨some 14, (.conv .u64), [.r 13], none, [13]⟩,
 ⟨some 15, (.call 76), [.r 14], none, [14]⟩,
 ⟨some 16, (.bin .add), [.r 12, .r 15], none, [12, 15]⟩,
 ⟨some 3, .mv, [.r 16], none, [16]⟩])))
 (.reg [⟨some 17, (.bin .add), [.r 8, .c (.int .i64 1)], none, [8]⟩,
 ⟨some 8, .mv, [.r 17], none, [17]⟩]))))
def c65 : SC :=
 (.seq (.reg [⟨some 2, .mv, [.c (.int .i64 0)], none, []⟩])
 (.seq (.reg [⟨some 3, .mv, [.c (.int .i64 0)], none, [2]⟩])
 (.seq (.seq (.reg [⟨some 6, .mv, [.r 0], none, [0]⟩,
 ⟨some 7, .len, [.r 6], none, []⟩,
 ⟨some 8, .mv, [.c (.int .i64 0)], none, []⟩])
 (.block 0 (.loop c65l0)))
 (.seq (.reg [⟨some 18, .mv, [.r 3], none, [3]⟩,
 ⟨some 2, .mv, [.r 18], none, [18]⟩])
 .ret))))
def rs65 : List SR := [.tmp 2]
theorem acall65 (hn : args.length ≤ 19) (h : ac Try.prog c65 (argEnv 0 args) H (Fin H rs65 v H')) : ACall Try.prog 65 args H v H' :=
 acall Try.func65 (c := Try.f65.body.getD .skip) rfl (by kernel_rfl) (by kernel_rfl) hn h
def c66 : SC :=
 (.seq (.reg [⟨some 2, .mv, [.c (.int .i64 0)], none, []⟩])
 (.seq (.reg [⟨some 3, .ld1, [.r 0], none, [2]⟩,
 ⟨some 4, (.bin .add), [.r 3, .c (.int .i64 1)], none, [3]⟩,
 ⟨none, (.st 1), [.r 0, .r 4], none, [4]⟩])
 (.seq (.reg [⟨some 5, .ld1, [.r 1], none, [1]⟩,
 ⟨some 6, .ld1, [.r 0], none, [0]⟩,
 ⟨some 7, (.bin .sub), [.r 6, .c (.int .i64 1)], none, [6]⟩,
 ⟨some 8, (.iaddrS 1), [.r 5, .r 7], none, [5, 7]⟩,
 ⟨some 9, .ld1, [.r 8], none, [8]⟩,
 ⟨some 2, .mv, [.r 9], none, [9]⟩])
 .ret)))
def rs66 : List SR := [.tmp 2]
theorem acallK66 (hn : args.length ≤ 10) (h : ac Try.prog c66 (argEnv 0 args) H (FinK rs66 v H')) : ACall Try.prog 66 args H v H' :=
 acallK Try.func66 (c := Try.f66.body.getD .skip) rfl (by kernel_rfl) (by kernel_rfl) hn h
def c67l0 : SC :=
 (.seq (.seq (.reg [⟨some 9, .mv, [.r 6], none, []⟩,
 ⟨some 10, .mv, [.r 1], none, []⟩,
 ⟨some 11, (.bin .lss), [.r 9, .r 10], none, [9, 10]⟩])
 (.cond (.r 11)
 (.kl [11] .skip)
 (.kl [1, 6, 11] (.exit 0))))
 (.seq (.block 1 (.reg [⟨some 14, .mv, [.r 5], none, [5]⟩,
 ⟨some 15, (.bin .quo), [.r 14, .c (.int .u64 2)], none, [14]⟩,
 ⟨some 5, .mv, [.r 15], none, [15]⟩]))
 (.reg [⟨some 12, .mv, [.r 6], none, [6]⟩,
 ⟨some 13, (.bin .add), [.r 12, .c (.int .i64 1)], none, [12]⟩,
 ⟨some 6, .mv, [.r 13], none, [13]⟩])))
def c67 : SC :=
 (.seq (.reg [⟨some 4, .mv, [.c (.bool false)], none, []⟩])
 (.seq (.reg [⟨some 7, .mv, [.r 0], none, [0, 4]⟩,
 ⟨some 8, (.conv .u64), [.r 7], none, [7]⟩,
 ⟨some 5, .mv, [.r 8], none, [8]⟩])
 (.seq (.seq (.reg [⟨some 6, .mv, [.c (.int .i64 0)], none, []⟩])
 (.block 0 (.loop c67l0)))
 (.seq (.reg [⟨some 16, .mv, [.r 5], none, [5]⟩,
 ⟨some 17, (.bin .rem), [.r 16, .c (.int .u64 2)], none, [16]⟩,
 ⟨some 18, (.bin .eql), [.r 17, .c (.int .u64 1)], none, [17]⟩,
 ⟨some 4, .mv, [.r 18], none, [18]⟩])
 .ret))))
def rs67 : List SR := [.tmp 4]
theorem acall67 (hn : args.length ≤ 19) (h : ac Try.prog c67 (argEnv 0 args) H (Fin H rs67 v H')) : ACall Try.prog 67 args H v H' :=
 acall Try.func67 (c := Try.f67.body.getD .skip) rfl (by kernel_rfl) (by kernel_rfl) hn h
def c68l0 : SC :=
 (.seq (.seq (.reg [⟨some 7, .mv, [.r 6], none, []⟩,
 ⟨some 8, .mv, [.r 0], none, []⟩,
 ⟨some 9, .mv, [.r 1], none, []⟩,
 ⟨some 10, (.bin .mul), [.r 8, .r 9], none, [8, 9]⟩,
 ⟨some 11, (.bin .lss), [.r 7, .r 10], none, [7, 10]⟩])
 (.cond (.r 11)
 (.kl [11] .skip)
 (.kl [6, 11] (.exit 0))))
 (.seq (.block 1 (.reg [⟨some 14, .mv, [.r 5], none, [5]⟩,
 ⟨some 15, (.bslice 1 1 [(.int .i64 0)] [(0, 1)]), [.c (.int .i64 0)], none, []⟩,
 ⟨some 16, (.app 1 8), [.r 14, .r 15], none, [14, 15]⟩,
 ⟨some 5, .mv, [.r 16], none, [16]⟩]))
 (.reg [⟨some 12, .mv, [.r 6], none, [6]⟩,
 ⟨some 13, (.bin .add), [.r 12, .c (.int .i64 1)], none, [12]⟩,
 ⟨some 6, .mv, [.r 13], none, [13]⟩])))
def c68 : SC :=
 (.seq (.reg [⟨some 4, (.alloc [(.int .i64 0), (.int .i64 0), .nils]), [], none, []⟩])
 (.seq (.reg [⟨some 5, .mv, [.c .nils], none, []⟩])
 (.seq (.seq (.reg [⟨some 6, .mv, [.c (.int .i64 0)], none, []⟩])
 (.block 0 (.loop c68l0)))
 (.seq (.reg [⟨some 17, .mv, [.r 0], none, [0]⟩,
 ⟨some 18, .mv, [.r 1], none, [1]⟩,
 ⟨some 19, .mv, [.r 5], none, [5]⟩,
 ⟨some 20, (.build [(.int .i64 0), (.int .i64 0), .nils] [(0, 1), (1, 1), (2, 1)]), [.r 17, .r 18, .r 19], none, [17, 18, 19]⟩,
 ⟨none, (.st 3), [.r 4, .r 20], none, [20]⟩])
 .ret))))
def rs68 : List SR := [.celln 4 3]
theorem acallK68 (hn : args.length ≤ 21) (h : ac Try.prog c68 (argEnv 0 args) H (FinK rs68 v H')) : ACall Try.prog 68 args H v H' :=
 acallK Try.func68 (c := Try.f68.body.getD .skip) rfl (by kernel_rfl) (by kernel_rfl) hn h
def c69 : SC :=
 (.seq (.reg [⟨some 1, .box, [.r 0], none, [0]⟩,
 ⟨some 2, .mv, [.c (.bool false)], none, []⟩])
 (.seq (.reg [⟨some 3, (.faddr 0), [.r 1], none, [2]⟩,
 ⟨some 4, .ld1, [.r 3], none, [3]⟩,
 ⟨some 5, (.faddr 1), [.r 1], none, []⟩,
 ⟨some 6, .ld1, [.r 5], none, [5]⟩,
 ⟨some 7, (.faddr 2), [.r 1], none, []⟩,
 ⟨some 8, .ld1, [.r 7], none, [7]⟩,
 ⟨some 9, (.faddr 3), [.r 1], none, []⟩,
 ⟨some 10, .ld1, [.r 9], none, [9]⟩,
 ⟨some 11, (.faddr 4), [.r 1], none, []⟩,
 ⟨some 12, .ld1, [.r 11], none, [11]⟩,
 ⟨some 13, (.faddr 5), [.r 1], none, [1]⟩,
 ⟨some 14, .ld1, [.r 13], none, [13]⟩,
 ⟨some 15, (.bslice 1 6 [(.int .i64 0), (.int .i64 0), (.int .i64 0), (.int .i64 0), (.int .i64 0), (.int .i64 0)] [(0, 1), (1, 1), (2, 1), (3, 1), (4, 1), (5, 1)]), [.r 4, .r 6, .r 8, .r 10, .r 12, .r 14], none, [4, 6, 8, 10, 12, 14]⟩,
 ⟨some 16, (.call 77), [.r 15, .c (.fn (.func 78) [] [])], none, [15]⟩,
 ⟨some 17, (.un .not), [.r 16], none, [16]⟩,
 ⟨some 2, .mv, [.r 17], none, [17]⟩])
 .ret))
def rs69 : List SR := [.tmp 2]
theorem acall69 (hn : args.length ≤ 18) (h : ac Try.prog c69 (argEnv 0 args) H (Fin H rs69 v H')) : ACall Try.prog 69 args H v H' :=
 acall Try.func69 (c := Try.f69.body.getD .skip) rfl (by kernel_rfl) (by kernel_rfl) hn h
def c70 : SC :=
 (.seq (.reg [⟨some 4, (.alloc [(.int .i64 0), (.int .i64 0), .nils, (.int .i64 0), (.int .i64 0), .nils]), [], none, []⟩,
 ⟨some 5, .mv, [.c (.int .i64 0)], none, []⟩])
 (.seq (.reg [⟨some 10, .mv, [.r 1], none, [1, 5]⟩,
 ⟨some 11, (.call 79), [.r 10], none, [10]⟩,
 ⟨some 9, .mv, [.r 11], none, [11]⟩,
 ⟨some 12, (.ext 0), [.r 9], none, []⟩,
 ⟨some 13, (.ext 1), [.r 9], none, [9]⟩,
 ⟨some 6, (.alloc [(.int .i64 0), (.int .i64 0), .nils]), [], none, []⟩,
 ⟨none, (.st 3), [.r 6, .r 12], none, [12]⟩,
 ⟨some 7, .mv, [.r 13], none, [13]⟩])
 (.seq (.freg [⟨0, 0, false, false, ⟨some 14, .mv, [.r 0], none, []⟩, []⟩,
 ⟨1, 1, false, false, ⟨some 15, .len, [.r 14], none, [14]⟩, []⟩,
 ⟨2, 0, false, false, ⟨some 16, .mv, [.r 0], none, [0]⟩, []⟩,
 ⟨3, 4, true, false, ⟨some 17, (.call 80), [.r 16], none, [16]⟩, []⟩,
 ⟨4, 15, false, false, ⟨some 18, (.build [(.int .i64 0), (.int .i64 0), .nils] [(0, 1), (1, 1), (2, 1)]), [.r 15, .c (.int .i64 1), .r 17], none, [15, 17]⟩, []⟩,
 ⟨5, 0, false, false, ⟨some 19, (.ldn 3), [.r 6], none, [6]⟩, []⟩,
 ⟨6, 63, false, false, ⟨some 20, (.build [(.int .i64 0), (.int .i64 0), .nils, (.int .i64 0), (.int .i64 0), .nils] [(0, 3), (3, 3)]), [.r 18, .r 19], none, [18, 19]⟩, []⟩]
 [⟨7, 0, false, true, ⟨some 8, (.alloc [(.int .i64 0), (.int .i64 0), .nils, (.int .i64 0), (.int .i64 0), .nils]), [], none, []⟩, []⟩]
 [⟨8, 255, false, false, ⟨none, (.st 6), [.r 8, .r 20], none, [20]⟩, []⟩])
 (.seq (.seq (.reg [⟨some 21, .mv, [.r 7], none, [7]⟩,
 ⟨some 22, (.bin .neq), [.r 21, .c (.int .i64 0)], none, [21]⟩,
 ⟨some 23, .mv, [.r 22], none, [22]⟩,
 ⟨some 24, (.ldn 6), [.r 8], (some (23, false)), []⟩,
 ⟨some 25, (.call 55), [.r 24], (some (23, false)), [24]⟩,
 ⟨some 26, (.un .not), [.r 25], (some (23, false)), [25]⟩,
 ⟨some 27, .pick, [.r 23, .c (.bool true), .r 26], none, [23, 26]⟩])
 (.cond (.r 27)
 (.kl [8, 27] (.seq (.reg [⟨some 28, (.build [(.int .i64 0), (.int .i64 0), .nils, (.int .i64 0), (.int .i64 0), .nils] []), [], none, []⟩,
 ⟨none, (.st 6), [.r 4, .r 28], none, [28]⟩,
 ⟨some 5, .mv, [.c (.int .i64 1)], none, []⟩])
 .ret))
 (.kl [27] .skip)))
 (.seq (.reg [⟨some 29, (.ldn 6), [.r 8], none, [8]⟩,
 ⟨none, (.st 6), [.r 4, .r 29], none, [29]⟩,
 ⟨some 5, .mv, [.c (.int .i64 0)], none, []⟩])
 .ret)))))
def rs70 : List SR := [.celln 4 6, .tmp 5]
theorem acallK70 (hn : args.length ≤ 30) (h : ac Try.prog c70 (argEnv 0 args) H (FinK rs70 v H')) : ACall Try.prog 70 args H v H' :=
 acallK Try.func70 (c := Try.f70.body.getD .skip) rfl (by kernel_rfl) (by kernel_rfl) hn h
def c71 : SC :=
 (.seq (.reg [⟨some 1, .box, [.r 0], none, [0]⟩,
 ⟨some 2, .mv, [.c (.bool false)], none, []⟩])
 (.seq (.reg [⟨some 3, .mv, [.c (.fn (.func 81) [] [])], none, [2]⟩])
 (.seq (.reg [⟨some 4, (.faddr 0), [.r 1], none, []⟩,
 ⟨some 5, .ld1, [.r 4], none, [4]⟩,
 ⟨some 6, (.bin .geq), [.r 5, .c (.int .i64 1)], none, [5]⟩,
 ⟨some 7, .mv, [.r 6], none, [6]⟩,
 ⟨some 8, (.faddr 0), [.r 1], (some (7, true)), []⟩,
 ⟨some 9, .ld1, [.r 8], (some (7, true)), [8]⟩,
 ⟨some 10, (.bin .leq), [.r 9, .c (.int .i64 8)], (some (7, true)), [9]⟩,
 ⟨some 11, .pick, [.r 7, .r 10, .c (.bool false)], none, [7, 10]⟩,
 ⟨some 12, .mv, [.r 11], none, [11]⟩,
 ⟨some 13, (.faddr 1), [.r 1], (some (12, true)), []⟩,
 ⟨some 14, .ld1, [.r 13], (some (12, true)), [13]⟩,
 ⟨some 15, (.bin .geq), [.r 14, .c (.int .i64 1)], (some (12, true)), [14]⟩,
 ⟨some 16, .pick, [.r 12, .r 15, .c (.bool false)], none, [12, 15]⟩,
 ⟨some 17, .mv, [.r 16], none, [16]⟩,
 ⟨some 18, (.faddr 1), [.r 1], (some (17, true)), []⟩,
 ⟨some 19, .ld1, [.r 18], (some (17, true)), [18]⟩,
 ⟨some 20, (.bin .leq), [.r 19, .c (.int .i64 8)], (some (17, true)), [19]⟩,
 ⟨some 21, .pick, [.r 17, .r 20, .c (.bool false)], none, [17, 20]⟩,
 ⟨some 22, .mv, [.r 21], none, [21]⟩,
 ⟨some 23, (.faddr 2), [.r 1], (some (22, true)), []⟩,
 ⟨some 24, .ld1, [.r 23], (some (22, true)), [23]⟩,
 ⟨some 25, .len, [.r 24], (some (22, true)), [24]⟩,
 ⟨some 26, (.faddr 0), [.r 1], (some (22, true)), []⟩,
 ⟨some 27, .ld1, [.r 26], (some (22, true)), [26]⟩,
 ⟨some 28, (.faddr 1), [.r 1], (some (22, true)), []⟩,
 ⟨some 29, .ld1, [.r 28], (some (22, true)), [28]⟩,
 ⟨some 30, (.bin .mul), [.r 27, .r 29], (some (22, true)), [27, 29]⟩,
 ⟨some 31, (.bin .eql), [.r 25, .r 30], (some (22, true)), [25, 30]⟩,
 ⟨some 32, .pick, [.r 22, .r 31, .c (.bool false)], none, [22, 31]⟩,
 ⟨some 33, .mv, [.r 32], none, [32]⟩,
 ⟨some 34, (.faddr 2), [.r 1], (some (33, true)), [1]⟩,
 ⟨some 35, .ld1, [.r 34], (some (33, true)), [34]⟩,
 ⟨some 36, .mv, [.r 3], (some (33, true)), [3]⟩,
 ⟨some 37, (.call 77), [.r 35, .r 36], (some (33, true)), [35, 36]⟩,
 ⟨some 38, (.un .not), [.r 37], (some (33, true)), [37]⟩,
 ⟨some 39, .pick, [.r 33, .r 38, .c (.bool false)], none, [33, 38]⟩,
 ⟨some 2, .mv, [.r 39], none, [39]⟩])
 .ret)))
def rs71 : List SR := [.tmp 2]
theorem acall71 (hn : args.length ≤ 40) (h : ac Try.prog c71 (argEnv 0 args) H (Fin H rs71 v H')) : ACall Try.prog 71 args H v H' :=
 acall Try.func71 (c := Try.f71.body.getD .skip) rfl (by kernel_rfl) (by kernel_rfl) hn h
def c72 : SC :=
 (.seq (.reg [⟨some 2, .box, [.r 0], none, [0]⟩,
 ⟨some 3, .box, [.r 1], none, [1]⟩,
 ⟨some 4, .mv, [.c (.bool false)], none, []⟩])
 (.seq (.dreg [⟨0, 0, false, false, ⟨some 5, (.ldn 3), [.r 2], none, [4]⟩, []⟩,
 ⟨1, 1, false, true, ⟨some 6, (.call 82), [.r 5], none, [5]⟩, []⟩,
 ⟨2, 0, false, false, ⟨some 7, (.ldn 3), [.r 3], none, []⟩, []⟩,
 ⟨3, 7, false, false, ⟨some 8, (.call 82), [.r 7], none, [7]⟩, []⟩,
 ⟨4, 15, false, false, ⟨some 9, (.eqv false [.int, .int]), [.r 6, .r 8], none, [6, 8]⟩, []⟩,
 ⟨5, 31, false, false, ⟨some 10, .mv, [.r 9], none, [9]⟩, []⟩,
 ⟨6, 63, false, false, ⟨some 11, (.faddr 2), [.r 2], (some (10, true)), [2]⟩, []⟩,
 ⟨7, 127, false, false, ⟨some 12, .ld1, [.r 11], (some (10, true)), [11]⟩, []⟩,
 ⟨8, 63, false, false, ⟨some 13, (.faddr 2), [.r 3], (some (10, true)), [3]⟩, []⟩,
 ⟨9, 319, false, false, ⟨some 14, .ld1, [.r 13], (some (10, true)), [13]⟩, []⟩,
 ⟨10, 1023, false, false, ⟨some 15, (.call 83), [.r 12, .r 14], (some (10, true)), [12, 14]⟩, []⟩,
 ⟨11, 2047, false, false, ⟨some 16, .pick, [.r 10, .r 15, .c (.bool false)], none, [10, 15]⟩, []⟩,
 ⟨12, 4095, false, false, ⟨some 4, .mv, [.r 16], none, [16]⟩, []⟩])
 .ret))
def rs72 : List SR := [.tmp 4]
theorem acall72 (hn : args.length ≤ 17) (h : ac Try.prog c72 (argEnv 0 args) H (Fin H rs72 v H')) : ACall Try.prog 72 args H v H' :=
 acall Try.func72 (c := Try.f72.body.getD .skip) rfl (by kernel_rfl) (by kernel_rfl) hn h
def c73 : SC :=
 (.seq (.reg [⟨some 1, .box, [.r 0], none, [0]⟩,
 ⟨some 2, (.alloc [(.int .i64 0), (.int .i64 0), .nils]), [], none, []⟩])
 (.seq (.reg [⟨some 6, (.faddr 1), [.r 1], none, []⟩,
 ⟨some 7, .ld1, [.r 6], none, [6]⟩,
 ⟨some 8, (.faddr 0), [.r 1], none, []⟩,
 ⟨some 9, .ld1, [.r 8], none, [8]⟩,
 ⟨some 10, (.build [(.int .i64 0), (.int .i64 0)] [(0, 1), (1, 1)]), [.r 7, .r 9], none, [7, 9]⟩,
 ⟨some 11, (.mkfn (.func 85) 0), [.r 1], none, [1]⟩,
 ⟨some 12, (.call 84), [.r 10, .r 11], none, [10, 11]⟩,
 ⟨some 5, .mv, [.r 12], none, [12]⟩,
 ⟨some 13, (.ext 0), [.r 5], none, []⟩,
 ⟨some 14, (.ext 1), [.r 5], none, [5]⟩,
 ⟨some 3, (.alloc [(.int .i64 0), (.int .i64 0), .nils]), [], none, []⟩,
 ⟨none, (.st 3), [.r 3, .r 13], none, [13]⟩,
 ⟨some 4, .mv, [.r 14], none, [14]⟩])
 (.seq (.reg [⟨some 15, (.ldn 3), [.r 3], none, [3, 4]⟩,
 ⟨none, (.st 3), [.r 2, .r 15], none, [15]⟩])
 .ret)))
def rs73 : List SR := [.celln 2 3]
theorem acallK73 (hn : args.length ≤ 16) (h : ac Try.prog c73 (argEnv 0 args) H (FinK rs73 v H')) : ACall Try.prog 73 args H v H' :=
 acallK Try.func73 (c := Try.f73.body.getD .skip) rfl (by kernel_rfl) (by kernel_rfl) hn h
def c74l0 : SC :=
 (.seq (.reg [⟨some 9, (.bin .lss), [.r 8, .r 7], none, []⟩])
 (.seq (.cond (.r 9)
 (.kl [9] .skip)
 (.kl [0, 1, 7, 8, 9] (.exit 0)))
 (.seq (.block 1 (.seq (.reg [⟨some 10, .mv, [.r 8], none, []⟩,
 ⟨some 5, .mv, [.r 10], none, [10]⟩])
 (.seq (.reg [⟨some 11, .mv, [.r 1], none, []⟩,
 ⟨some 12, .mv, [.r 0], none, []⟩,
 ⟨some 13, .mv, [.r 5], none, []⟩,
 ⟨some 14, (.iaddrS 1), [.r 12, .r 13], none, [12, 13]⟩,
 ⟨some 15, .ld1, [.r 14], none, [14]⟩,
 ⟨some 16, .callv, [.r 11, .r 15], none, [11, 15]⟩])
 (.cond (.r 16)
 (.kl [0, 1, 7, 8, 16] (.seq (.reg [⟨some 17, .mv, [.r 5], none, [5]⟩,
 ⟨some 4, .mv, [.r 17], none, [17]⟩])
 .ret))
 (.kl [5, 16] .skip)))))
 (.reg [⟨some 18, (.bin .add), [.r 8, .c (.int .i64 1)], none, [8]⟩,
 ⟨some 8, .mv, [.r 18], none, [18]⟩]))))
def c74 : SC :=
 (.seq (.reg [⟨some 4, .mv, [.c (.int .i64 0)], none, []⟩])
 (.seq (.seq (.reg [⟨some 6, .mv, [.r 0], none, [4]⟩,
 ⟨some 7, .len, [.r 6], none, [6]⟩,
 ⟨some 8, .mv, [.c (.int .i64 0)], none, []⟩])
 (.block 0 (.loop c74l0)))
 (.seq (.reg [⟨some 4, .mv, [.c (.int .i64 (-1))], none, []⟩])
 .ret)))
def rs74 : List SR := [.tmp 4]
theorem acall74 (hn : args.length ≤ 19) (h : ac Try.prog c74 (argEnv 0 args) H (Fin H rs74 v H')) : ACall Try.prog 74 args H v H' :=
 acall Try.func74 (c := Try.f74.body.getD .skip) rfl (by kernel_rfl) (by kernel_rfl) hn h
def c75l0 : SC :=
 (.seq (.seq (.reg [⟨some 6, .mv, [.r 4], none, []⟩,
 ⟨some 7, .ld1, [.r 1], none, []⟩,
 ⟨some 8, .len, [.r 7], none, [7]⟩,
 ⟨some 9, (.bin .lss), [.r 6, .r 8], none, [6, 8]⟩])
 (.cond (.r 9)
 (.kl [9] .skip)
 (.kl [0, 1, 2, 4, 9] (.exit 0))))
 (.seq (.block 1 (.seq (.dreg [⟨0, 0, false, false, ⟨some 13, .ld1, [.r 2], none, []⟩, []⟩,
 ⟨1, 0, false, false, ⟨some 14, .ld1, [.r 1], none, []⟩, []⟩,
 ⟨2, 0, false, false, ⟨some 15, .mv, [.r 4], none, []⟩, []⟩,
 ⟨3, 6, false, false, ⟨some 16, (.slice 1 true false false), [.r 14, .r 15], none, [14, 15]⟩, []⟩,
 ⟨4, 14, false, false, ⟨some 17, .len, [.r 16], none, [16]⟩, []⟩,
 ⟨5, 31, false, false, ⟨some 18, .mn, [.r 13, .r 17], none, [13, 17]⟩, []⟩,
 ⟨6, 63, false, false, ⟨some 5, .mv, [.r 18], none, [18]⟩, []⟩])
 (.seq (.reg [⟨some 19, .mv, [.r 0], none, []⟩,
 ⟨some 20, .ld1, [.r 1], none, []⟩,
 ⟨some 21, .mv, [.r 4], none, []⟩,
 ⟨some 22, .mv, [.r 4], none, []⟩,
 ⟨some 23, .mv, [.r 5], none, []⟩,
 ⟨some 24, (.bin .add), [.r 22, .r 23], none, [22, 23]⟩,
 ⟨some 25, .mv, [.r 4], none, []⟩,
 ⟨some 26, .mv, [.r 5], none, [5]⟩,
 ⟨some 27, (.bin .add), [.r 25, .r 26], none, [25, 26]⟩,
 ⟨some 28, (.slice 1 true true true), [.r 20, .r 21, .r 24, .r 27], none, [20, 21, 24, 27]⟩,
 ⟨some 29, .callv, [.r 19, .r 28], none, [19, 28]⟩,
 ⟨some 30, (.un .not), [.r 29], none, [29]⟩])
 (.cond (.r 30)
 (.kl [0, 1, 2, 4, 30] .ret)
 (.kl [30] .skip)))))
 (.reg [⟨some 10, .mv, [.r 4], none, [4]⟩,
 ⟨some 11, .ld1, [.r 2], none, []⟩,
 ⟨some 12, (.bin .add), [.r 10, .r 11], none, [10, 11]⟩,
 ⟨some 4, .mv, [.r 12], none, [12]⟩])))
def c75 : SC :=
 (.seq (.reg [⟨some 4, .mv, [.c (.int .i64 0)], none, []⟩])
 (.block 0 (.loop c75l0)))
def rs75 : List SR := []
theorem acallK75 (hn : args.length ≤ 31) (h : ac Try.prog c75 (argEnv 0 args) H (FinK rs75 v H')) : ACall Try.prog 75 args H v H' :=
 acallK Try.func75 (c := Try.f75.body.getD .skip) rfl (by kernel_rfl) (by kernel_rfl) hn h
def c76 : SC :=
 (.seq (.reg [⟨some 2, .mv, [.c (.int .i64 0)], none, []⟩])
 (.seq (.reg [⟨some 3, .mv, [.r 0], none, [2]⟩,
 ⟨some 4, (.bin .shr), [.r 3, .c (.int .u64 1)], none, [3]⟩,
 ⟨some 5, (.bin .and), [.r 4, .c (.int .u64 6148914691236517205)], none, [4]⟩,
 ⟨some 6, .mv, [.r 0], none, [0]⟩,
 ⟨some 7, (.bin .and), [.r 6, .c (.int .u64 6148914691236517205)], none, [6]⟩,
 ⟨some 8, (.bin .add), [.r 5, .r 7], none, [5, 7]⟩,
 ⟨some 0, .mv, [.r 8], none, [8]⟩])
 (.seq (.reg [⟨some 9, .mv, [.r 0], none, []⟩,
 ⟨some 10, (.bin .shr), [.r 9, .c (.int .u64 2)], none, [9]⟩,
 ⟨some 11, (.bin .and), [.r 10, .c (.int .u64 3689348814741910323)], none, [10]⟩,
 ⟨some 12, .mv, [.r 0], none, [0]⟩,
 ⟨some 13, (.bin .and), [.r 12, .c (.int .u64 3689348814741910323)], none, [12]⟩,
 ⟨some 14, (.bin .add), [.r 11, .r 13], none, [11, 13]⟩,
 ⟨some 0, .mv, [.r 14], none, [14]⟩])
 (.seq (.reg [⟨some 15, .mv, [.r 0], none, []⟩,
 ⟨some 16, (.bin .shr), [.r 15, .c (.int .u64 4)], none, [15]⟩,
 ⟨some 17, .mv, [.r 0], none, [0]⟩,
 ⟨some 18, (.bin .add), [.r 16, .r 17], none, [16, 17]⟩,
 ⟨some 19, (.bin .and), [.r 18, .c (.int .u64 1085102592571150095)], none, [18]⟩,
 ⟨some 0, .mv, [.r 19], none, [19]⟩])
 (.seq (.reg [⟨some 20, .mv, [.r 0], none, []⟩,
 ⟨some 21, .mv, [.r 0], none, [0]⟩,
 ⟨some 22, (.bin .shr), [.r 21, .c (.int .u64 8)], none, [21]⟩,
 ⟨some 23, (.bin .add), [.r 20, .r 22], none, [20, 22]⟩,
 ⟨some 0, .mv, [.r 23], none, [23]⟩])
 (.seq (.reg [⟨some 24, .mv, [.r 0], none, []⟩,
 ⟨some 25, .mv, [.r 0], none, [0]⟩,
 ⟨some 26, (.bin .shr), [.r 25, .c (.int .u64 16)], none, [25]⟩,
 ⟨some 27, (.bin .add), [.r 24, .r 26], none, [24, 26]⟩,
 ⟨some 0, .mv, [.r 27], none, [27]⟩])
 (.seq (.reg [⟨some 28, .mv, [.r 0], none, []⟩,
 ⟨some 29, .mv, [.r 0], none, [0]⟩,
 ⟨some 30, (.bin .shr), [.r 29, .c (.int .u64 32)], none, [29]⟩,
 ⟨some 31, (.bin .add), [.r 28, .r 30], none, [28, 30]⟩,
 ⟨some 0, .mv, [.r 31], none, [31]⟩])
 (.seq (.reg [⟨some 32, .mv, [.r 0], none, [0]⟩,
 ⟨some 33, (.conv .i64), [.r 32], none, [32]⟩,
 ⟨some 34, (.bin .and), [.r 33, .c (.int .i64 127)], none, [33]⟩,
 ⟨some 2, .mv, [.r 34], none, [34]⟩])
 .ret))))))))
def rs76 : List SR := [.tmp 2]
theorem acall76 (hn : args.length ≤ 35) (h : ac Try.prog c76 (argEnv 0 args) H (Fin H rs76 v H')) : ACall Try.prog 76 args H v H' :=
 acall Try.func76 (c := Try.f76.body.getD .skip) rfl (by kernel_rfl) (by kernel_rfl) hn h
def c77 : SC :=
 (.seq (.reg [⟨some 4, .mv, [.c (.bool false)], none, []⟩])
 (.seq (.reg [⟨some 5, .mv, [.r 0], none, [0, 4]⟩,
 ⟨some 6, .mv, [.r 1], none, [1]⟩,
 ⟨some 7, (.call 87), [.r 5, .r 6], none, [5, 6]⟩,
 ⟨some 8, (.bin .geq), [.r 7, .c (.int .i64 0)], none, [7]⟩,
 ⟨some 4, .mv, [.r 8], none, [8]⟩])
 .ret))
def rs77 : List SR := [.tmp 4]
theorem acall77 (hn : args.length ≤ 9) (h : ac Try.prog c77 (argEnv 0 args) H (Fin H rs77 v H')) : ACall Try.prog 77 args H v H' :=
 acall Try.func77 (c := Try.f77.body.getD .skip) rfl (by kernel_rfl) (by kernel_rfl) hn h
def c78 : SC :=
 (.seq (.reg [⟨some 2, .mv, [.c (.bool false)], none, []⟩])
 (.seq (.reg [⟨some 3, .mv, [.r 0], none, [2]⟩,
 ⟨some 4, (.bin .leq), [.r 3, .c (.int .i64 0)], none, [3]⟩,
 ⟨some 5, .mv, [.r 4], none, [4]⟩,
 ⟨some 6, .mv, [.r 0], (some (5, false)), [0]⟩,
 ⟨some 7, (.bin .gtr), [.r 6, .c (.int .i64 17179869184)], (some (5, false)), [6]⟩,
 ⟨some 8, .pick, [.r 5, .c (.bool true), .r 7], none, [5, 7]⟩,
 ⟨some 2, .mv, [.r 8], none, [8]⟩])
 .ret))
def rs78 : List SR := [.tmp 2]
theorem acall78 (hn : args.length ≤ 9) (h : ac Try.prog c78 (argEnv 0 args) H (Fin H rs78 v H')) : ACall Try.prog 78 args H v H' :=
 acall Try.func78 (c := Try.f78.body.getD .skip) rfl (by kernel_rfl) (by kernel_rfl) hn h
def c79 : SC :=
 (.seq (.reg [⟨some 1, .box, [.r 0], none, [0]⟩,
 ⟨some 2, (.alloc [(.int .i64 0), (.int .i64 0), .nils]), [], none, []⟩,
 ⟨some 3, .mv, [.c (.int .i64 0)], none, []⟩])
 (.seq (.reg [⟨some 7, .ld1, [.r 1], none, [3]⟩,
 ⟨some 8, .len, [.r 7], none, [7]⟩,
 ⟨some 4, .mv, [.r 8], none, [8]⟩])
 (.seq (.seq (.reg [⟨some 9, .mv, [.r 4], none, []⟩,
 ⟨some 10, (.bin .lss), [.r 9, .c (.int .i64 1)], none, [9]⟩,
 ⟨some 11, .mv, [.r 10], none, [10]⟩,
 ⟨some 12, .mv, [.r 4], (some (11, false)), []⟩,
 ⟨some 13, (.bin .gtr), [.r 12, .c (.int .i64 8)], (some (11, false)), [12]⟩,
 ⟨some 14, .pick, [.r 11, .c (.bool true), .r 13], none, [11, 13]⟩,
 ⟨some 15, .mv, [.r 14], none, [14]⟩,
 ⟨some 16, .mv, [.r 4], (some (15, false)), []⟩,
 ⟨some 17, .ld1, [.r 1], (some (15, false)), []⟩,
 ⟨some 18, (.build [(.int .i64 0), (.int .i64 0), .nils] [(0, 1), (1, 1), (2, 1)]), [.c (.int .i64 1), .r 16, .r 17], (some (15, false)), [16, 17]⟩,
 ⟨some 19, (.call 71), [.r 18], (some (15, false)), [18]⟩,
 ⟨some 20, (.un .not), [.r 19], (some (15, false)), [19]⟩,
 ⟨some 21, .pick, [.r 15, .c (.bool true), .r 20], none, [15, 20]⟩])
 (.cond (.r 21)
 (.kl [1, 4, 21] (.seq (.reg [⟨some 22, (.build [(.int .i64 0), (.int .i64 0), .nils] []), [], none, []⟩,
 ⟨none, (.st 3), [.r 2, .r 22], none, [22]⟩,
 ⟨some 3, .mv, [.c (.int .i64 1)], none, []⟩])
 .ret))
 (.kl [21] .skip)))
 (.seq (.reg [⟨some 24, .mv, [.r 4], none, []⟩,
 ⟨some 25, .mv, [.r 4], none, [4]⟩,
 ⟨some 26, (.build [(.int .i64 0), (.int .i64 0)] [(0, 1), (1, 1)]), [.r 24, .r 25], none, [24, 25]⟩,
 ⟨some 27, (.mkfn (.func 88) 0), [.r 1], none, [1]⟩,
 ⟨some 28, (.call 84), [.r 26, .r 27], none, [26, 27]⟩,
 ⟨some 23, .mv, [.r 28], none, [28]⟩,
 ⟨some 29, (.ext 0), [.r 23], none, []⟩,
 ⟨some 30, (.ext 1), [.r 23], none, [23]⟩,
 ⟨some 5, (.alloc [(.int .i64 0), (.int .i64 0), .nils]), [], none, []⟩,
 ⟨none, (.st 3), [.r 5, .r 29], none, [29]⟩,
 ⟨some 6, .mv, [.r 30], none, [30]⟩])
 (.seq (.reg [⟨some 31, (.ldn 3), [.r 5], none, [5, 6]⟩,
 ⟨none, (.st 3), [.r 2, .r 31], none, [31]⟩,
 ⟨some 3, .mv, [.c (.int .i64 0)], none, []⟩])
 .ret)))))
def rs79 : List SR := [.celln 2 3, .tmp 3]
theorem acallK79 (hn : args.length ≤ 32) (h : ac Try.prog c79 (argEnv 0 args) H (FinK rs79 v H')) : ACall Try.prog 79 args H v H' :=
 acallK Try.func79 (c := Try.f79.body.getD .skip) rfl (by kernel_rfl) (by kernel_rfl) hn h
def c80 : SC :=
 (.seq (.reg [⟨some 2, .mv, [.c .nils], none, []⟩])
 (.seq (.seq (.reg [⟨some 3, .mv, [.r 0], none, [2]⟩,
 ⟨some 4, (.eqnil false), [.r 3], none, [3]⟩])
 (.cond (.r 4)
 (.kl [0, 4] (.seq (.reg [⟨some 2, .mv, [.c .nils], none, []⟩])
 .ret))
 (.kl [4] .skip)))
 (.seq (.reg [⟨some 5, (.bslice 1 0 [] []), [], none, []⟩,
 ⟨some 6, .mv, [.r 0], none, [0]⟩,
 ⟨some 7, (.app 1 8), [.r 5, .r 6], none, [5, 6]⟩,
 ⟨some 2, .mv, [.r 7], none, [7]⟩])
 .ret)))
def rs80 : List SR := [.tmp 2]
theorem acallK80 (hn : args.length ≤ 8) (h : ac Try.prog c80 (argEnv 0 args) H (FinK rs80 v H')) : ACall Try.prog 80 args H v H' :=
 acallK Try.func80 (c := Try.f80.body.getD .skip) rfl (by kernel_rfl) (by kernel_rfl) hn h
def c81 : SC :=
 (.seq (.reg [⟨some 2, .mv, [.c (.bool false)], none, []⟩])
 (.seq (.reg [⟨some 3, .mv, [.r 0], none, [2]⟩,
 ⟨some 4, (.bin .lss), [.r 3, .c (.int .i64 (-70368744177664))], none, [3]⟩,
 ⟨some 5, .mv, [.r 4], none, [4]⟩,
 ⟨some 6, .mv, [.r 0], (some (5, false)), [0]⟩,
 ⟨some 7, (.bin .gtr), [.r 6, .c (.int .i64 70368744177663)], (some (5, false)), [6]⟩,
 ⟨some 8, .pick, [.r 5, .c (.bool true), .r 7], none, [5, 7]⟩,
 ⟨some 2, .mv, [.r 8], none, [8]⟩])
 .ret))
def rs81 : List SR := [.tmp 2]
theorem acall81 (hn : args.length ≤ 9) (h : ac Try.prog c81 (argEnv 0 args) H (Fin H rs81 v H')) : ACall Try.prog 81 args H v H' :=
 acall Try.func81 (c := Try.f81.body.getD .skip) rfl (by kernel_rfl) (by kernel_rfl) hn h
def c82 : SC :=
 (.seq (.reg [⟨some 1, .box, [.r 0], none, [0]⟩,
 ⟨some 2, (.alloc [(.int .i64 0), (.int .i64 0)]), [], none, []⟩])
 (.seq (.reg [⟨some 3, (.faddr 0), [.r 1], none, []⟩,
 ⟨some 4, .ld1, [.r 3], none, [3]⟩,
 ⟨some 5, (.faddr 1), [.r 1], none, [1]⟩,
 ⟨some 6, .ld1, [.r 5], none, [5]⟩,
 ⟨some 7, (.build [(.int .i64 0), (.int .i64 0)] [(0, 1), (1, 1)]), [.r 4, .r 6], none, [4, 6]⟩,
 ⟨none, (.st 2), [.r 2, .r 7], none, [7]⟩])
 .ret))
def rs82 : List SR := [.celln 2 2]
theorem acall82 (hn : args.length ≤ 8) (h : ac Try.prog c82 (argEnv 0 args) H (Fin H rs82 v H')) : ACall Try.prog 82 args H v H' :=
 acall Try.func82 (c := Try.f82.body.getD .skip) rfl (by kernel_rfl) (by kernel_rfl) hn h
def c83l0 : SC :=
 (.seq (.reg [⟨some 14, (.bin .lss), [.r 13, .r 12], none, []⟩])
 (.seq (.cond (.r 14)
 (.kl [14] .skip)
 (.kl [0, 1, 12, 13, 14] (.exit 0)))
 (.seq (.block 1 (.seq (.reg [⟨some 15, .mv, [.r 13], none, []⟩,
 ⟨some 5, .mv, [.r 15], none, [15]⟩])
 (.seq (.dreg [⟨0, 0, false, false, ⟨some 16, .mv, [.r 0], none, []⟩, []⟩,
 ⟨1, 0, false, false, ⟨some 17, .mv, [.r 5], none, []⟩, []⟩,
 ⟨2, 3, false, false, ⟨some 18, (.iaddrS 1), [.r 16, .r 17], none, [16, 17]⟩, []⟩,
 ⟨3, 7, false, false, ⟨some 19, .ld1, [.r 18], none, [18]⟩, []⟩,
 ⟨4, 0, false, false, ⟨some 20, .mv, [.r 1], none, []⟩, []⟩,
 ⟨5, 0, false, false, ⟨some 21, .mv, [.r 5], none, [5]⟩, []⟩,
 ⟨6, 48, false, false, ⟨some 22, (.iaddrS 1), [.r 20, .r 21], none, [20, 21]⟩, []⟩,
 ⟨7, 112, false, false, ⟨some 23, .ld1, [.r 22], none, [22]⟩, []⟩,
 ⟨8, 255, false, false, ⟨some 24, (.bin .neq), [.r 19, .r 23], none, [19, 23]⟩, []⟩])
 (.cond (.r 24)
 (.kl [0, 1, 12, 13, 24] (.seq (.reg [⟨some 4, .mv, [.c (.bool false)], none, []⟩])
 .ret))
 (.kl [24] .skip)))))
 (.reg [⟨some 25, (.bin .add), [.r 13, .c (.int .i64 1)], none, [13]⟩,
 ⟨some 13, .mv, [.r 25], none, [25]⟩]))))
def c83 : SC :=
 (.seq (.reg [⟨some 4, .mv, [.c (.bool false)], none, []⟩])
 (.seq (.seq (.reg [⟨some 6, .mv, [.r 0], none, [4]⟩,
 ⟨some 7, .len, [.r 6], none, [6]⟩,
 ⟨some 8, .mv, [.r 1], none, []⟩,
 ⟨some 9, .len, [.r 8], none, [8]⟩,
 ⟨some 10, (.bin .neq), [.r 7, .r 9], none, [7, 9]⟩])
 (.cond (.r 10)
 (.kl [0, 1, 10] (.seq (.reg [⟨some 4, .mv, [.c (.bool false)], none, []⟩])
 .ret))
 (.kl [10] .skip)))
 (.seq (.seq (.reg [⟨some 11, .mv, [.r 0], none, []⟩,
 ⟨some 12, .len, [.r 11], none, [11]⟩,
 ⟨some 13, .mv, [.c (.int .i64 0)], none, []⟩])
 (.block 0 (.loop c83l0)))
 (.seq (.reg [⟨some 4, .mv, [.c (.bool true)], none, []⟩])
 .ret))))
def rs83 : List SR := [.tmp 4]
theorem acall83 (hn : args.length ≤ 26) (h : ac Try.prog c83 (argEnv 0 args) H (Fin H rs83 v H')) : ACall Try.prog 83 args H v H' :=
 acall Try.func83 (c := Try.f83.body.getD .skip) rfl (by kernel_rfl) (by kernel_rfl) hn h
def c84l0 : SC :=
 (.seq (.reg [⟨some 25, (.bin .lss), [.r 24, .r 23], none, []⟩])
 (.seq (.cond (.r 25)
 (.kl [25] .skip)
 (.kl [8, 23, 24, 25] (.exit 2)))
 (.seq (.block 3 (.seq (.reg [⟨some 26, .mv, [.r 24], none, []⟩,
 ⟨some 9, .mv, [.r 26], none, [26]⟩])
 (.seq (.reg [⟨some 28, .mv, [.r 1], none, []⟩,
 ⟨some 29, .mv, [.r 8], none, []⟩,
 ⟨some 30, .mv, [.r 9], none, [9]⟩,
 ⟨some 31, .callv, [.r 28, .r 29, .r 30], none, [28, 29, 30]⟩,
 ⟨some 27, .mv, [.r 31], none, [31]⟩,
 ⟨some 32, (.ext 0), [.r 27], none, []⟩,
 ⟨some 33, (.ext 1), [.r 27], none, [27]⟩,
 ⟨some 10, .mv, [.r 32], none, [32]⟩,
 ⟨some 11, .mv, [.r 33], none, [33]⟩])
 (.seq (.reg [⟨some 34, (.faddr 2), [.r 6], none, []⟩,
 ⟨some 35, .ld1, [.r 34], none, [34]⟩,
 ⟨some 36, .mv, [.r 10], none, [10]⟩,
 ⟨some 37, (.bslice 1 1 [(.int .i64 0)] [(0, 1)]), [.r 36], none, [36]⟩,
 ⟨some 38, (.app 1 8), [.r 35, .r 37], none, [35, 37]⟩,
 ⟨some 39, (.faddr 2), [.r 6], none, []⟩,
 ⟨none, (.st 1), [.r 39, .r 38], none, [38, 39]⟩])
 (.reg [⟨some 40, .mv, [.r 7], none, [7]⟩,
 ⟨some 41, .mv, [.r 40], none, [40]⟩,
 ⟨some 42, .mv, [.r 11], (some (41, false)), [11]⟩,
 ⟨some 43, .pick, [.r 41, .c (.bool true), .r 42], none, [41, 42]⟩,
 ⟨some 7, .mv, [.r 43], none, [43]⟩])))))
 (.reg [⟨some 44, (.bin .add), [.r 24, .c (.int .i64 1)], none, [24]⟩,
 ⟨some 24, .mv, [.r 44], none, [44]⟩]))))
def c84l1 : SC :=
 (.seq (.reg [⟨some 20, (.bin .lss), [.r 19, .r 18], none, []⟩])
 (.seq (.cond (.r 20)
 (.kl [20] .skip)
 (.kl [1, 2, 18, 19, 20] (.exit 0)))
 (.seq (.block 1 (.seq (.reg [⟨some 21, .mv, [.r 19], none, []⟩,
 ⟨some 8, .mv, [.r 21], none, [21]⟩])
 (.seq (.reg [⟨some 22, (.faddr 1), [.r 2], none, []⟩,
 ⟨some 23, .ld1, [.r 22], none, [22]⟩,
 ⟨some 24, .mv, [.c (.int .i64 0)], none, []⟩])
 (.block 2 (.loop c84l0)))))
 (.reg [⟨some 45, (.bin .add), [.r 19, .c (.int .i64 1)], none, [19]⟩,
 ⟨some 19, .mv, [.r 45], none, [45]⟩]))))
def c84 : SC :=
 (.seq (.reg [⟨some 2, .box, [.r 0], none, [0]⟩,
 ⟨some 4, (.alloc [(.int .i64 0), (.int .i64 0), .nils]), [], none, []⟩,
 ⟨some 5, .mv, [.c (.bool false)], none, []⟩])
 (.seq (.reg [⟨some 12, (.faddr 0), [.r 2], none, [5]⟩,
 ⟨some 13, .ld1, [.r 12], none, [12]⟩,
 ⟨some 14, (.faddr 1), [.r 2], none, []⟩,
 ⟨some 15, .ld1, [.r 14], none, [14]⟩,
 ⟨some 16, (.build [(.int .i64 0), (.int .i64 0), .nils] [(0, 1), (1, 1)]), [.r 13, .r 15], none, [13, 15]⟩,
 ⟨some 6, (.alloc [(.int .i64 0), (.int .i64 0), .nils]), [], none, []⟩,
 ⟨none, (.st 3), [.r 6, .r 16], none, [16]⟩])
 (.seq (.reg [⟨some 7, .mv, [.c (.bool false)], none, []⟩])
 (.seq (.seq (.reg [⟨some 17, (.faddr 0), [.r 2], none, []⟩,
 ⟨some 18, .ld1, [.r 17], none, [17]⟩,
 ⟨some 19, .mv, [.c (.int .i64 0)], none, []⟩])
 (.block 0 (.loop c84l1)))
 (.seq (.reg [⟨some 46, (.ldn 3), [.r 6], none, [6]⟩,
 ⟨some 47, .mv, [.r 7], none, [7]⟩,
 ⟨none, (.st 3), [.r 4, .r 46], none, [46]⟩,
 ⟨some 5, .mv, [.r 47], none, [47]⟩])
 .ret)))))
def rs84 : List SR := [.celln 4 3, .tmp 5]
theorem acallK84 (hn : args.length ≤ 48) (h : ac Try.prog c84 (argEnv 0 args) H (FinK rs84 v H')) : ACall Try.prog 84 args H v H' :=
 acallK Try.func84 (c := Try.f84.body.getD .skip) rfl (by kernel_rfl) (by kernel_rfl) hn h
def c85 : SC :=
 (.seq (.reg [⟨some 5, .mv, [.c (.int .i64 0)], none, []⟩,
 ⟨some 6, .mv, [.c (.bool false)], none, [5]⟩])
 (.seq (.reg [⟨some 7, (.ldn 3), [.r 2], none, [2, 6]⟩,
 ⟨some 8, .mv, [.r 1], none, [1]⟩,
 ⟨some 9, .mv, [.r 0], none, [0]⟩,
 ⟨some 10, (.call 86), [.r 7, .r 8, .r 9], none, [7, 8, 9]⟩,
 ⟨some 5, .mv, [.r 10], none, [10]⟩,
 ⟨some 6, .mv, [.c (.bool false)], none, []⟩])
 .ret))
def rs85 : List SR := [.tmp 5, .tmp 6]
theorem acall85 (hn : args.length ≤ 11) (h : ac Try.prog c85 (argEnv 0 args) H (Fin H rs85 v H')) : ACall Try.prog 85 args H v H' :=
 acall Try.func85 (c := Try.f85.body.getD .skip) rfl (by kernel_rfl) (by kernel_rfl) hn h
def c86 : SC :=
 (.seq (.reg [⟨some 3, .box, [.r 0], none, [0]⟩,
 ⟨some 6, .mv, [.c (.int .i64 0)], none, []⟩])
 (.seq (.reg [⟨some 7, (.faddr 2), [.r 3], none, [6]⟩,
 ⟨some 8, .ld1, [.r 7], none, [7]⟩,
 ⟨some 9, .mv, [.r 1], none, [1]⟩,
 ⟨some 10, (.faddr 1), [.r 3], none, [3]⟩,
 ⟨some 11, .ld1, [.r 10], none, [10]⟩,
 ⟨some 12, (.bin .mul), [.r 9, .r 11], none, [9, 11]⟩,
 ⟨some 13, .mv, [.r 2], none, [2]⟩,
 ⟨some 14, (.bin .add), [.r 12, .r 13], none, [12, 13]⟩,
 ⟨some 15, (.iaddrS 1), [.r 8, .r 14], none, [8, 14]⟩,
 ⟨some 16, .ld1, [.r 15], none, [15]⟩,
 ⟨some 6, .mv, [.r 16], none, [16]⟩])
 .ret))
def rs86 : List SR := [.tmp 6]
theorem acall86 (hn : args.length ≤ 17) (h : ac Try.prog c86 (argEnv 0 args) H (Fin H rs86 v H')) : ACall Try.prog 86 args H v H' :=
 acall Try.func86 (c := Try.f86.body.getD .skip) rfl (by kernel_rfl) (by kernel_rfl) hn h
def c87l0 : SC :=
 (.seq (.reg [⟨some 9, (.bin .lss), [.r 8, .r 7], none, []⟩])
 (.seq (.cond (.r 9)
 (.kl [9] .skip)
 (.kl [0, 1, 7, 8, 9] (.exit 0)))
 (.seq (.block 1 (.seq (.reg [⟨some 10, .mv, [.r 8], none, []⟩,
 ⟨some 5, .mv, [.r 10], none, [10]⟩])
 (.seq (.reg [⟨some 11, .mv, [.r 1], none, []⟩,
 ⟨some 12, .mv, [.r 0], none, []⟩,
 ⟨some 13, .mv, [.r 5], none, []⟩,
 ⟨some 14, (.iaddrS 1), [.r 12, .r 13], none, [12, 13]⟩,
 ⟨some 15, .ld1, [.r 14], none, [14]⟩,
 ⟨some 16, .callv, [.r 11, .r 15], none, [11, 15]⟩])
 (.cond (.r 16)
 (.kl [0, 1, 7, 8, 16] (.seq (.reg [⟨some 17, .mv, [.r 5], none, [5]⟩,
 ⟨some 4, .mv, [.r 17], none, [17]⟩])
 .ret))
 (.kl [5, 16] .skip)))))
 (.reg [⟨some 18, (.bin .add), [.r 8, .c (.int .i64 1)], none, [8]⟩,
 ⟨some 8, .mv, [.r 18], none, [18]⟩]))))
def c87 : SC :=
 (.seq (.reg [⟨some 4, .mv, [.c (.int .i64 0)], none, []⟩])
 (.seq (.seq (.reg [⟨some 6, .mv, [.r 0], none, [4]⟩,
 ⟨some 7, .len, [.r 6], none, [6]⟩,
 ⟨some 8, .mv, [.c (.int .i64 0)], none, []⟩])
 (.block 0 (.loop c87l0)))
 (.seq (.reg [⟨some 4, .mv, [.c (.int .i64 (-1))], none, []⟩])
 .ret)))
def rs87 : List SR := [.tmp 4]
theorem acall87 (hn : args.length ≤ 19) (h : ac Try.prog c87 (argEnv 0 args) H (Fin H rs87 v H')) : ACall Try.prog 87 args H v H' :=
 acall Try.func87 (c := Try.f87.body.getD .skip) rfl (by kernel_rfl) (by kernel_rfl) hn h
def c88 : SC :=
 (.seq (.reg [⟨some 5, .mv, [.c (.int .i64 0)], none, []⟩,
 ⟨some 6, .mv, [.c (.bool false)], none, [5]⟩])
 (.seq (.seq (.reg [⟨some 7, .mv, [.r 0], none, [6]⟩,
 ⟨some 8, .mv, [.r 1], none, [1]⟩,
 ⟨some 9, (.bin .eql), [.r 7, .r 8], none, [7, 8]⟩])
 (.cond (.r 9)
 (.kl [9] (.seq (.reg [⟨some 10, .ld1, [.r 2], none, [2]⟩,
 ⟨some 11, .mv, [.r 0], none, [0]⟩,
 ⟨some 12, (.iaddrS 1), [.r 10, .r 11], none, [10, 11]⟩,
 ⟨some 13, .ld1, [.r 12], none, [12]⟩,
 ⟨some 5, .mv, [.r 13], none, [13]⟩,
 ⟨some 6, .mv, [.c (.bool false)], none, []⟩])
 .ret))
 (.kl [0, 2, 9] .skip)))
 (.seq (.reg [⟨some 5, .mv, [.c (.int .i64 0)], none, []⟩,
 ⟨some 6, .mv, [.c (.bool false)], none, []⟩])
 .ret)))
def rs88 : List SR := [.tmp 5, .tmp 6]
theorem acall88 (hn : args.length ≤ 14) (h : ac Try.prog c88 (argEnv 0 args) H (Fin H rs88 v H')) : ACall Try.prog 88 args H v H' :=
 acall Try.func88 (c := Try.f88.body.getD .skip) rfl (by kernel_rfl) (by kernel_rfl) hn h
end Go.Proofs.Ytbjlbcihhleclaa.Ah
