/- G18: a part of the proof: contracts of functions, or plain laws. Conditions: none. -/
import Derived.Test.YtaiboicipbhmhaaEc
import Derived.Test.YtaiboicipbhmhaaProg
import Derived.KernelRfl
namespace Go.Proofs.Ytaiboicipbhmhaa.Ah
open Go
variable {args : List AV} {H : Heap} {v : AV} {H' : Heap}
def c7l0 : SC :=
 (.seq (.seq (.reg [⟨some 35, .mv, [.r 10], none, []⟩,
 ⟨some 36, .mv, [.r 1], none, []⟩,
 ⟨some 37, .len, [.r 36], none, [36]⟩,
 ⟨some 38, (.bin .lss), [.r 35, .r 37], none, [35, 37]⟩])
 (.cond (.r 38)
 (.kl [38] .skip)
 (.kl [1, 2, 6, 8, 9, 10, 38] (.exit 0))))
 (.seq (.block 1 (.seq (.seq (.reg [⟨some 41, .mv, [.r 1], none, []⟩,
 ⟨some 42, .mv, [.r 10], none, []⟩,
 ⟨some 43, (.iaddrS 5), [.r 41, .r 42], none, [41, 42]⟩,
 ⟨some 44, (.faddr 1), [.r 43], none, [43]⟩,
 ⟨some 45, (.faddr 1), [.r 44], none, [44]⟩,
 ⟨some 46, .ld1, [.r 45], none, [45]⟩,
 ⟨some 47, .len, [.r 46], none, [46]⟩,
 ⟨some 48, (.bin .gtr), [.r 47, .c (.int .i64 100)], none, [47]⟩])
 (.cond (.r 48)
 (.kl [1, 2, 6, 8, 9, 10, 48] (.seq (.reg [⟨some 49, .mv, [.r 5], none, [5]⟩,
 ⟨some 4, .mv, [.r 49], none, [49]⟩])
 .ret))
 (.kl [48] .skip)))
 (.seq (.dreg [⟨0, 0, false, false, ⟨some 50, (.ldn 27), [.r 6], none, []⟩, []⟩,
 ⟨1, 0, false, false, ⟨some 51, .mv, [.r 1], none, []⟩, []⟩,
 ⟨2, 0, false, false, ⟨some 52, .mv, [.r 10], none, []⟩, []⟩,
 ⟨3, 6, false, false, ⟨some 53, (.iaddrS 5), [.r 51, .r 52], none, [51, 52]⟩, []⟩,
 ⟨4, 14, false, false, ⟨some 54, (.faddr 0), [.r 53], none, [53]⟩, []⟩,
 ⟨5, 30, false, false, ⟨some 55, .ld1, [.r 54], none, [54]⟩, []⟩,
 ⟨6, 62, false, false, ⟨some 56, .mx, [.r 55, .c (.int .i64 0)], none, [55]⟩, []⟩,
 ⟨7, 126, false, false, ⟨some 57, .mn, [.r 56, .c (.int .i64 1000000)], none, [56]⟩, []⟩,
 ⟨8, 255, false, false, ⟨some 58, (.call 20), [.r 50, .r 57], none, [50, 57]⟩, []⟩,
 ⟨9, 511, false, false, ⟨none, (.st 27), [.r 6, .r 58], none, [58]⟩, []⟩])
 (.seq (.reg [⟨some 59, (.ldn 27), [.r 6], none, []⟩,
 ⟨some 11, (.alloc [(.int .i64 0), (.int .i64 0), (.int .i64 0), (.int .i64 0), (.int .i64 0), .nils, (.int .i64 0), .nils, (.int .i64 0), (.int .i64 0), (.int .i64 0), (.int .i64 0), (.int .i64 0), (.int .i64 0), (.int .i64 0), (.int .i64 0), (.int .i64 0), (.int .i64 0), (.int .i64 0), (.int .i64 0), (.int .i64 0), (.int .i64 0), (.int .i64 0), (.int .i64 0), (.int .i64 0), (.int .i64 0), (.bool false)]), [], none, []⟩,
 ⟨none, (.st 27), [.r 11, .r 59], none, [59]⟩])
 (.seq (.reg [⟨some 12, .mv, [.c (.bool false)], none, []⟩])
 (.seq (.seq (.reg [⟨some 60, .mv, [.r 1], none, []⟩,
 ⟨some 61, .mv, [.r 10], none, []⟩,
 ⟨some 62, (.iaddrS 5), [.r 60, .r 61], none, [60, 61]⟩,
 ⟨some 63, (.faddr 3), [.r 62], none, [62]⟩,
 ⟨some 64, .ld1, [.r 63], none, [63]⟩])
 (.block 2 (.seq (.reg [⟨some 79, (.bin .eql), [.r 64, .c (.int .i64 1)], none, []⟩,
 ⟨some 78, .mv, [.r 79], none, [79]⟩])
 (.cond (.r 78)
 (.kl [64, 78] (.dreg [⟨0, 0, false, false, ⟨some 80, (.ldn 27), [.r 6], none, []⟩, []⟩,
 ⟨1, 0, false, false, ⟨some 81, .mv, [.r 1], none, []⟩, []⟩,
 ⟨2, 0, false, false, ⟨some 82, .mv, [.r 10], none, []⟩, []⟩,
 ⟨3, 6, false, false, ⟨some 83, (.iaddrS 5), [.r 81, .r 82], none, [81, 82]⟩, []⟩,
 ⟨4, 14, false, false, ⟨some 84, (.faddr 1), [.r 83], none, [83]⟩, []⟩,
 ⟨5, 30, false, false, ⟨some 85, (.ldn 2), [.r 84], none, [84]⟩, []⟩,
 ⟨6, 0, false, false, ⟨some 86, .mv, [.r 1], none, []⟩, []⟩,
 ⟨7, 0, false, false, ⟨some 87, .mv, [.r 10], none, []⟩, []⟩,
 ⟨8, 192, false, false, ⟨some 88, (.iaddrS 5), [.r 86, .r 87], none, [86, 87]⟩, []⟩,
 ⟨9, 448, false, false, ⟨some 89, (.faddr 4), [.r 88], none, [88]⟩, []⟩,
 ⟨10, 960, false, false, ⟨some 90, .ld1, [.r 89], none, [89]⟩, []⟩,
 ⟨11, 2047, false, false, ⟨some 91, (.call 16), [.r 80, .r 85, .r 90], none, [80, 85, 90]⟩, []⟩,
 ⟨12, 4095, false, false, ⟨none, (.st 27), [.r 6, .r 91], none, [91]⟩, []⟩]))
 (.kl [78] (.seq (.reg [⟨some 93, (.bin .eql), [.r 64, .c (.int .i64 2)], none, [64]⟩,
 ⟨some 92, .mv, [.r 93], none, [93]⟩])
 (.cond (.r 92)
 (.kl [92] (.reg [⟨some 94, (.ldn 27), [.r 6], none, []⟩,
 ⟨some 95, (.call 21), [.r 94], none, [94]⟩,
 ⟨none, (.st 27), [.r 6, .r 95], none, [95]⟩]))
 (.kl [12, 92] (.seq (.freg [⟨0, 0, false, false, ⟨some 66, (.ldn 27), [.r 6], none, []⟩, []⟩,
 ⟨1, 0, false, false, ⟨some 67, .mv, [.r 1], none, []⟩, []⟩,
 ⟨2, 0, false, false, ⟨some 68, .mv, [.r 10], none, []⟩, []⟩,
 ⟨3, 6, false, false, ⟨some 69, (.iaddrS 5), [.r 67, .r 68], none, [67, 68]⟩, []⟩,
 ⟨4, 14, false, false, ⟨some 70, (.faddr 1), [.r 69], none, [69]⟩, []⟩,
 ⟨5, 30, false, false, ⟨some 71, (.ldn 2), [.r 70], none, [70]⟩, []⟩,
 ⟨6, 63, true, false, ⟨some 72, (.call 12), [.r 66, .r 71], none, [66, 71]⟩, []⟩,
 ⟨7, 127, false, false, ⟨some 65, .mv, [.r 72], none, [72]⟩, []⟩,
 ⟨8, 255, false, false, ⟨some 73, (.ext 0), [.r 65], none, []⟩, []⟩,
 ⟨9, 255, false, false, ⟨some 74, (.ext 1), [.r 65], none, []⟩, []⟩,
 ⟨10, 255, false, false, ⟨some 75, (.ext 2), [.r 65], none, [65]⟩, []⟩]
 [⟨11, 0, false, true, ⟨some 13, (.alloc [(.int .i64 0), (.int .i64 0), (.int .i64 0), (.int .i64 0), (.int .i64 0), .nils, (.int .i64 0), .nils, (.int .i64 0), (.int .i64 0), (.int .i64 0), (.int .i64 0), (.int .i64 0), (.int .i64 0), (.int .i64 0), (.int .i64 0), (.int .i64 0), (.int .i64 0), (.int .i64 0), (.int .i64 0), (.int .i64 0), (.int .i64 0), (.int .i64 0), (.int .i64 0), (.int .i64 0), (.int .i64 0), (.bool false)]), [], none, []⟩, []⟩]
 [⟨12, 2559, false, false, ⟨none, (.st 27), [.r 13, .r 73], none, [73]⟩, []⟩,
 ⟨13, 7167, false, false, ⟨some 14, .mv, [.r 74], none, [74]⟩, []⟩,
 ⟨14, 16383, false, false, ⟨some 15, .mv, [.r 75], none, [14, 75]⟩, []⟩])
 (.seq (.reg [⟨some 76, (.ldn 27), [.r 13], none, [13]⟩,
 ⟨none, (.st 27), [.r 6, .r 76], none, [76]⟩])
 (.reg [⟨some 77, .mv, [.r 15], none, [15]⟩,
 ⟨some 12, .mv, [.r 77], none, [77]⟩])))))))))))
 (.seq (.seq (.reg [⟨some 96, (.ldn 27), [.r 6], none, []⟩,
 ⟨some 97, (.call 22), [.r 96], none, [96]⟩,
 ⟨some 98, (.un .not), [.r 97], none, [97]⟩,
 ⟨some 99, .mv, [.r 98], none, [98]⟩,
 ⟨some 100, (.faddr 9), [.r 6], (some (99, false)), []⟩,
 ⟨some 101, (.faddr 1), [.r 100], (some (99, false)), [100]⟩,
 ⟨some 102, .ld1, [.r 101], (some (99, false)), [101]⟩,
 ⟨some 103, (.faddr 9), [.r 11], (some (99, false)), []⟩,
 ⟨some 104, (.faddr 1), [.r 103], (some (99, false)), [103]⟩,
 ⟨some 105, .ld1, [.r 104], (some (99, false)), [104]⟩,
 ⟨some 106, (.bin .lss), [.r 102, .r 105], (some (99, false)), [102, 105]⟩,
 ⟨some 107, .pick, [.r 99, .c (.bool true), .r 106], none, [99, 106]⟩,
 ⟨some 108, .mv, [.r 107], none, [107]⟩,
 ⟨some 109, (.faddr 9), [.r 6], (some (108, false)), []⟩,
 ⟨some 110, (.faddr 1), [.r 109], (some (108, false)), [109]⟩,
 ⟨some 111, .ld1, [.r 110], (some (108, false)), [110]⟩,
 ⟨some 112, (.faddr 9), [.r 11], (some (108, false)), []⟩,
 ⟨some 113, (.faddr 1), [.r 112], (some (108, false)), [112]⟩,
 ⟨some 114, .ld1, [.r 113], (some (108, false)), [113]⟩,
 ⟨some 115, (.bin .eql), [.r 111, .r 114], (some (108, false)), [111, 114]⟩,
 ⟨some 116, .mv, [.r 115], (some (108, false)), [115]⟩,
 ⟨some 117, (.faddr 9), [.r 6], (some (116, true)), []⟩,
 ⟨some 118, (.faddr 2), [.r 117], (some (116, true)), [117]⟩,
 ⟨some 119, .ld1, [.r 118], (some (116, true)), [118]⟩,
 ⟨some 120, (.faddr 9), [.r 11], (some (116, true)), []⟩,
 ⟨some 121, (.faddr 2), [.r 120], (some (116, true)), [120]⟩,
 ⟨some 122, .ld1, [.r 121], (some (116, true)), [121]⟩,
 ⟨some 123, (.bin .neq), [.r 119, .r 122], (some (116, true)), [119, 122]⟩,
 ⟨some 124, .mv, [.r 123], (some (116, true)), [123]⟩,
 ⟨some 125, (.faddr 9), [.r 6], (some (124, false)), []⟩,
 ⟨some 126, (.faddr 3), [.r 125], (some (124, false)), [125]⟩,
 ⟨some 127, .ld1, [.r 126], (some (124, false)), [126]⟩,
 ⟨some 128, (.faddr 9), [.r 11], (some (124, false)), []⟩,
 ⟨some 129, (.faddr 3), [.r 128], (some (124, false)), [128]⟩,
 ⟨some 130, .ld1, [.r 129], (some (124, false)), [129]⟩,
 ⟨some 131, (.bin .neq), [.r 127, .r 130], (some (124, false)), [127, 130]⟩,
 ⟨some 132, .pick, [.r 124, .c (.bool true), .r 131], (some (116, true)), [124, 131]⟩,
 ⟨some 133, .mv, [.r 132], (some (116, true)), [132]⟩,
 ⟨some 134, (.faddr 9), [.r 6], (some (133, false)), []⟩,
 ⟨some 135, (.faddr 0), [.r 134], (some (133, false)), [134]⟩,
 ⟨some 136, .ld1, [.r 135], (some (133, false)), [135]⟩,
 ⟨some 137, (.faddr 9), [.r 11], (some (133, false)), []⟩,
 ⟨some 138, (.faddr 0), [.r 137], (some (133, false)), [137]⟩,
 ⟨some 139, .ld1, [.r 138], (some (133, false)), [138]⟩,
 ⟨some 140, (.bin .neq), [.r 136, .r 139], (some (133, false)), [136, 139]⟩,
 ⟨some 141, .pick, [.r 133, .c (.bool true), .r 140], (some (116, true)), [133, 140]⟩,
 ⟨some 142, .pick, [.r 116, .r 141, .c (.bool false)], (some (108, false)), [116, 141]⟩,
 ⟨some 143, .pick, [.r 108, .c (.bool true), .r 142], none, [108, 142]⟩])
 (.cond (.r 143)
 (.kl [1, 2, 5, 6, 8, 9, 10, 11, 12, 143] (.seq (.reg [⟨some 4, .mv, [.c (.bool false)], none, []⟩])
 .ret))
 (.kl [143] .skip)))
 (.seq (.seq (.reg [⟨some 144, (.faddr 22), [.r 11], none, []⟩,
 ⟨some 145, (.faddr 0), [.r 144], none, [144]⟩,
 ⟨some 146, (.ldn 3), [.r 145], none, [145]⟩,
 ⟨some 147, (.faddr 22), [.r 6], none, []⟩,
 ⟨some 148, (.faddr 0), [.r 147], none, [147]⟩,
 ⟨some 149, (.ldn 3), [.r 148], none, [148]⟩,
 ⟨some 150, (.faddr 4), [.r 2], none, []⟩,
 ⟨some 151, .ld1, [.r 150], none, [150]⟩,
 ⟨some 152, (.call 23), [.r 146, .r 149, .r 151], none, [146, 149, 151]⟩,
 ⟨some 153, (.un .not), [.r 152], none, [152]⟩,
 ⟨some 154, .mv, [.r 153], none, [153]⟩,
 ⟨some 155, (.faddr 9), [.r 6], (some (154, false)), []⟩,
 ⟨some 156, (.faddr 0), [.r 155], (some (154, false)), [155]⟩,
 ⟨some 157, .ld1, [.r 156], (some (154, false)), [156]⟩,
 ⟨some 158, (.faddr 9), [.r 11], (some (154, false)), []⟩,
 ⟨some 159, (.faddr 0), [.r 158], (some (154, false)), [158]⟩,
 ⟨some 160, .ld1, [.r 159], (some (154, false)), [159]⟩,
 ⟨some 161, (.bin .lss), [.r 157, .r 160], (some (154, false)), [157, 160]⟩,
 ⟨some 162, .pick, [.r 154, .c (.bool true), .r 161], none, [154, 161]⟩,
 ⟨some 163, .mv, [.r 162], none, [162]⟩,
 ⟨some 164, (.faddr 9), [.r 6], (some (163, false)), []⟩,
 ⟨some 165, (.faddr 0), [.r 164], (some (163, false)), [164]⟩,
 ⟨some 166, .ld1, [.r 165], (some (163, false)), [165]⟩,
 ⟨some 167, (.faddr 9), [.r 11], (some (163, false)), []⟩,
 ⟨some 168, (.faddr 0), [.r 167], (some (163, false)), [167]⟩,
 ⟨some 169, .ld1, [.r 168], (some (163, false)), [168]⟩,
 ⟨some 170, (.bin .eql), [.r 166, .r 169], (some (163, false)), [166, 169]⟩,
 ⟨some 171, .mv, [.r 170], (some (163, false)), [170]⟩,
 ⟨some 172, (.faddr 9), [.r 6], (some (171, true)), []⟩,
 ⟨some 173, (.faddr 6), [.r 172], (some (171, true)), [172]⟩,
 ⟨some 174, .ld1, [.r 173], (some (171, true)), [173]⟩,
 ⟨some 175, (.faddr 9), [.r 11], (some (171, true)), []⟩,
 ⟨some 176, (.faddr 6), [.r 175], (some (171, true)), [175]⟩,
 ⟨some 177, .ld1, [.r 176], (some (171, true)), [176]⟩,
 ⟨some 178, (.bin .lss), [.r 174, .r 177], (some (171, true)), [174, 177]⟩,
 ⟨some 179, .pick, [.r 171, .r 178, .c (.bool false)], (some (163, false)), [171, 178]⟩,
 ⟨some 180, .pick, [.r 163, .c (.bool true), .r 179], none, [163, 179]⟩])
 (.cond (.r 180)
 (.kl [1, 2, 5, 6, 8, 9, 10, 11, 12, 180] (.seq (.reg [⟨some 4, .mv, [.c (.bool false)], none, []⟩])
 .ret))
 (.kl [180] .skip)))
 (.seq (.seq (.reg [⟨some 181, .mv, [.r 12], none, [12]⟩,
 ⟨some 182, (.un .not), [.r 181], none, [181]⟩])
 (.cond (.r 182)
 (.kl [11, 182] (.exit 1))
 (.kl [182] .skip)))
 (.seq (.reg [⟨some 183, .mv, [.r 1], none, []⟩,
 ⟨some 184, .mv, [.r 10], none, []⟩,
 ⟨some 185, (.iaddrS 5), [.r 183, .r 184], none, [183, 184]⟩,
 ⟨some 186, (.faddr 1), [.r 185], none, [185]⟩,
 ⟨some 187, (.faddr 1), [.r 186], none, [186]⟩,
 ⟨some 188, .ld1, [.r 187], none, [187]⟩,
 ⟨some 16, .mv, [.r 188], none, [188]⟩])
 (.seq (.freg [⟨0, 0, false, false, ⟨some 189, .mv, [.r 16], none, []⟩, []⟩,
 ⟨1, 1, false, false, ⟨some 190, (.iaddrS 1), [.r 189, .c (.int .i64 5)], none, [189]⟩, []⟩,
 ⟨2, 3, false, false, ⟨some 191, .ld1, [.r 190], none, [190]⟩, []⟩,
 ⟨3, 0, false, false, ⟨some 192, .mv, [.r 16], none, []⟩, []⟩,
 ⟨4, 8, false, false, ⟨some 193, (.iaddrS 1), [.r 192, .c (.int .i64 6)], none, [192]⟩, []⟩,
 ⟨5, 24, false, false, ⟨some 194, .ld1, [.r 193], none, [193]⟩, []⟩,
 ⟨6, 0, false, false, ⟨some 195, .mv, [.r 16], none, []⟩, []⟩,
 ⟨7, 64, false, false, ⟨some 196, (.iaddrS 1), [.r 195, .c (.int .i64 7)], none, [195]⟩, []⟩,
 ⟨8, 192, false, false, ⟨some 197, .ld1, [.r 196], none, [196]⟩, []⟩,
 ⟨9, 511, false, false, ⟨some 198, (.build [(.int .i64 0), (.int .i64 0), (.int .i64 0)] [(0, 1), (1, 1), (2, 1)]), [.r 191, .r 194, .r 197], none, [191, 194, 197]⟩, []⟩]
 [⟨10, 0, false, true, ⟨some 17, (.alloc [(.int .i64 0), (.int .i64 0), (.int .i64 0)]), [], none, []⟩, []⟩]
 [⟨11, 2047, false, false, ⟨none, (.st 3), [.r 17, .r 198], none, [198]⟩, []⟩])
 (.seq (.seq (.dreg [⟨0, 0, false, false, ⟨some 199, (.faddr 9), [.r 6], none, []⟩, []⟩,
 ⟨1, 1, false, false, ⟨some 200, (.faddr 0), [.r 199], none, [199]⟩, []⟩,
 ⟨2, 3, false, false, ⟨some 201, .ld1, [.r 200], none, [200]⟩, []⟩,
 ⟨3, 0, false, false, ⟨some 202, .mv, [.r 8], none, []⟩, []⟩,
 ⟨4, 15, false, false, ⟨some 203, (.bin .lss), [.r 201, .r 202], none, [201, 202]⟩, []⟩,
 ⟨5, 31, false, false, ⟨some 204, .mv, [.r 203], none, [203]⟩, []⟩,
 ⟨6, 63, false, false, ⟨some 205, (.faddr 9), [.r 6], (some (204, false)), []⟩, []⟩,
 ⟨7, 127, false, false, ⟨some 206, (.faddr 0), [.r 205], (some (204, false)), [205]⟩, []⟩,
 ⟨8, 255, false, false, ⟨some 207, .ld1, [.r 206], (some (204, false)), [206]⟩, []⟩,
 ⟨9, 63, false, false, ⟨some 208, .mv, [.r 8], (some (204, false)), [8]⟩, []⟩,
 ⟨10, 1023, false, false, ⟨some 209, (.bin .eql), [.r 207, .r 208], (some (204, false)), [207, 208]⟩, []⟩,
 ⟨11, 2047, false, false, ⟨some 210, .mv, [.r 209], (some (204, false)), [209]⟩, []⟩,
 ⟨12, 4095, false, false, ⟨some 211, (.faddr 9), [.r 6], (some (210, true)), []⟩, []⟩,
 ⟨13, 8191, false, false, ⟨some 212, (.faddr 6), [.r 211], (some (210, true)), [211]⟩, []⟩,
 ⟨14, 16383, false, false, ⟨some 213, .ld1, [.r 212], (some (210, true)), [212]⟩, []⟩,
 ⟨15, 4095, false, false, ⟨some 214, .mv, [.r 9], (some (210, true)), [9]⟩, []⟩,
 ⟨16, 65535, false, false, ⟨some 215, (.bin .leq), [.r 213, .r 214], (some (210, true)), [213, 214]⟩, []⟩,
 ⟨17, 131071, false, false, ⟨some 216, .pick, [.r 210, .r 215, .c (.bool false)], (some (204, false)), [210, 215]⟩, []⟩,
 ⟨18, 262143, false, false, ⟨some 217, .pick, [.r 204, .c (.bool true), .r 216], none, [204, 216]⟩, []⟩,
 ⟨19, 524287, false, false, ⟨some 218, .mv, [.r 217], none, [217]⟩, []⟩,
 ⟨20, 1048575, false, false, ⟨some 219, (.faddr 9), [.r 6], (some (218, false)), []⟩, []⟩,
 ⟨21, 2097151, false, false, ⟨some 220, (.faddr 6), [.r 219], (some (218, false)), [219]⟩, []⟩,
 ⟨22, 4194303, false, false, ⟨some 221, .ld1, [.r 220], (some (218, false)), [220]⟩, []⟩,
 ⟨23, 1048575, false, false, ⟨some 222, .mv, [.r 16], (some (218, false)), [16]⟩, []⟩,
 ⟨24, 9437183, false, false, ⟨some 223, (.iaddrS 1), [.r 222, .c (.int .i64 4)], (some (218, false)), [222]⟩, []⟩,
 ⟨25, 26214399, false, false, ⟨some 224, .ld1, [.r 223], (some (218, false)), [223]⟩, []⟩,
 ⟨26, 67108863, false, false, ⟨some 225, (.bin .neq), [.r 221, .r 224], (some (218, false)), [221, 224]⟩, []⟩,
 ⟨27, 134217727, false, false, ⟨some 226, .pick, [.r 218, .c (.bool true), .r 225], none, [218, 225]⟩, []⟩,
 ⟨28, 268435455, false, false, ⟨some 227, .mv, [.r 226], none, [226]⟩, []⟩,
 ⟨29, 536870911, false, false, ⟨some 228, (.faddr 22), [.r 6], (some (227, false)), []⟩, []⟩,
 ⟨30, 1073741823, false, false, ⟨some 229, (.faddr 0), [.r 228], (some (227, false)), [228]⟩, []⟩,
 ⟨31, 2147483647, false, false, ⟨some 230, (.ldn 3), [.r 229], (some (227, false)), [229]⟩, []⟩,
 ⟨32, 536870911, false, false, ⟨some 231, (.faddr 22), [.r 11], (some (227, false)), [11]⟩, []⟩,
 ⟨33, 4831838207, false, false, ⟨some 232, (.faddr 0), [.r 231], (some (227, false)), [231]⟩, []⟩,
 ⟨34, 13421772799, false, false, ⟨some 233, (.ldn 3), [.r 232], (some (227, false)), [232]⟩, []⟩,
 ⟨35, 536870911, false, false, ⟨some 234, (.ldn 3), [.r 17], (some (227, false)), [17]⟩, []⟩,
 ⟨36, 536870911, false, false, ⟨some 235, (.faddr 4), [.r 2], (some (227, false)), []⟩, []⟩,
 ⟨37, 69256347647, false, false, ⟨some 236, .ld1, [.r 235], (some (227, false)), [235]⟩, []⟩,
 ⟨38, 271119810559, false, true, ⟨some 237, (.call 24), [.r 233, .r 234, .r 236], (some (227, false)), [233, 234, 236]⟩, []⟩,
 ⟨39, 549755813887, false, false, ⟨some 238, (.eqv true [.int, .int, .int]), [.r 230, .r 237], (some (227, false)), [230, 237]⟩, []⟩,
 ⟨40, 1099511627775, false, false, ⟨some 239, .pick, [.r 227, .c (.bool true), .r 238], none, [227, 238]⟩, []⟩,
 ⟨41, 2199023255551, false, false, ⟨some 240, .mv, [.r 239], none, [239]⟩, []⟩,
 ⟨42, 4398046511103, false, false, ⟨some 241, (.faddr 22), [.r 6], (some (240, false)), []⟩, []⟩,
 ⟨43, 8796093022207, false, false, ⟨some 242, (.faddr 4), [.r 241], (some (240, false)), [241]⟩, []⟩,
 ⟨44, 17592186044415, false, false, ⟨some 243, .ld1, [.r 242], (some (240, false)), [242]⟩, []⟩,
 ⟨45, 35184372088831, false, false, ⟨some 244, .pick, [.r 240, .c (.bool true), .r 243], none, [240, 243]⟩, []⟩])
 (.cond (.r 244)
 (.kl [1, 2, 5, 6, 10, 244] (.seq (.reg [⟨some 4, .mv, [.c (.bool false)], none, []⟩])
 .ret))
 (.kl [244] .skip)))
 (.seq (.reg [⟨some 245, (.faddr 9), [.r 6], none, []⟩,
 ⟨some 246, (.faddr 0), [.r 245], none, [245]⟩,
 ⟨some 247, .ld1, [.r 246], none, [246]⟩,
 ⟨some 8, .mv, [.r 247], none, [247]⟩])
 (.reg [⟨some 248, (.faddr 9), [.r 6], none, []⟩,
 ⟨some 249, (.faddr 6), [.r 248], none, [248]⟩,
 ⟨some 250, .ld1, [.r 249], none, [249]⟩,
 ⟨some 9, .mv, [.r 250], none, [250]⟩]))))))))))))))
 (.reg [⟨some 39, .mv, [.r 10], none, [10]⟩,
 ⟨some 40, (.bin .add), [.r 39, .c (.int .i64 1)], none, [39]⟩,
 ⟨some 10, .mv, [.r 40], none, [40]⟩])))
def c7 : SC :=
 (.seq (.reg [⟨some 2, .box, [.r 0], none, [0]⟩,
 ⟨some 4, .mv, [.c (.bool false)], none, []⟩])
 (.seq (.reg [⟨some 18, (.call 8), [], none, [4]⟩,
 ⟨some 5, .mv, [.r 18], none, [18]⟩])
 (.seq (.seq (.reg [⟨some 19, (.ldn 5), [.r 2], none, []⟩,
 ⟨some 20, (.call 18), [.r 19], none, [19]⟩,
 ⟨some 21, (.un .not), [.r 20], none, [20]⟩,
 ⟨some 22, .mv, [.r 21], none, [21]⟩,
 ⟨some 23, .mv, [.r 1], (some (22, false)), []⟩,
 ⟨some 24, .len, [.r 23], (some (22, false)), [23]⟩,
 ⟨some 25, (.bin .gtr), [.r 24, .c (.int .i64 40)], (some (22, false)), [24]⟩,
 ⟨some 26, .pick, [.r 22, .c (.bool true), .r 25], none, [22, 25]⟩])
 (.cond (.r 26)
 (.kl [1, 2, 26] (.seq (.reg [⟨some 27, .mv, [.r 5], none, [5]⟩,
 ⟨some 4, .mv, [.r 27], none, [27]⟩])
 .ret))
 (.kl [26] .skip)))
 (.seq (.reg [⟨some 29, (.ldn 5), [.r 2], none, []⟩,
 ⟨some 30, (.call 19), [.r 29], none, [29]⟩,
 ⟨some 28, .mv, [.r 30], none, [30]⟩,
 ⟨some 31, (.ext 0), [.r 28], none, []⟩,
 ⟨some 32, (.ext 1), [.r 28], none, [28]⟩,
 ⟨some 6, (.alloc [(.int .i64 0), (.int .i64 0), (.int .i64 0), (.int .i64 0), (.int .i64 0), .nils, (.int .i64 0), .nils, (.int .i64 0), (.int .i64 0), (.int .i64 0), (.int .i64 0), (.int .i64 0), (.int .i64 0), (.int .i64 0), (.int .i64 0), (.int .i64 0), (.int .i64 0), (.int .i64 0), (.int .i64 0), (.int .i64 0), (.int .i64 0), (.int .i64 0), (.int .i64 0), (.int .i64 0), (.int .i64 0), (.bool false)]), [], none, []⟩,
 ⟨none, (.st 27), [.r 6, .r 31], none, [31]⟩,
 ⟨some 7, .mv, [.r 32], none, [32]⟩])
 (.seq (.seq (.reg [⟨some 33, .mv, [.r 7], none, [7]⟩,
 ⟨some 34, (.bin .neq), [.r 33, .c (.int .i64 0)], none, [33]⟩])
 (.cond (.r 34)
 (.kl [1, 2, 5, 6, 34] (.seq (.reg [⟨some 4, .mv, [.c (.bool false)], none, []⟩])
 .ret))
 (.kl [34] .skip)))
 (.seq (.reg [⟨some 8, .mv, [.c (.int .i64 0)], none, []⟩])
 (.seq (.reg [⟨some 9, .mv, [.c (.int .i64 0)], none, []⟩])
 (.seq (.seq (.reg [⟨some 10, .mv, [.c (.int .i64 0)], none, []⟩])
 (.block 0 (.loop c7l0)))
 (.seq (.reg [⟨some 251, .mv, [.r 5], none, [5]⟩,
 ⟨some 4, .mv, [.r 251], none, [251]⟩])
 .ret)))))))))
def rs7 : List SR := [.tmp 4]
theorem acall7 (hn : args.length ≤ 252) (h : ac Try.prog c7 (argEnv 0 args) H (Fin H rs7 v H')) : ACall Try.prog 7 args H v H' :=
 acall Try.func7 (c := Try.f7.body.getD .skip) rfl (by kernel_rfl) (by kernel_rfl) hn h
def c8 : SC :=
 (.seq (.reg [⟨some 0, .mv, [.c (.bool false)], none, []⟩])
 (.seq (.reg [⟨some 6, (.call 25), [], none, [0]⟩,
 ⟨some 7, (.call 19), [.r 6], none, [6]⟩,
 ⟨some 5, .mv, [.r 7], none, [7]⟩,
 ⟨some 8, (.ext 0), [.r 5], none, []⟩,
 ⟨some 9, (.ext 1), [.r 5], none, [5]⟩,
 ⟨some 1, (.alloc [(.int .i64 0), (.int .i64 0), (.int .i64 0), (.int .i64 0), (.int .i64 0), .nils, (.int .i64 0), .nils, (.int .i64 0), (.int .i64 0), (.int .i64 0), (.int .i64 0), (.int .i64 0), (.int .i64 0), (.int .i64 0), (.int .i64 0), (.int .i64 0), (.int .i64 0), (.int .i64 0), (.int .i64 0), (.int .i64 0), (.int .i64 0), (.int .i64 0), (.int .i64 0), (.int .i64 0), (.int .i64 0), (.bool false)]), [], none, []⟩,
 ⟨none, (.st 27), [.r 1, .r 8], none, [8]⟩,
 ⟨some 2, .mv, [.r 9], none, [9]⟩])
 (.seq (.reg [⟨some 11, (.ldn 27), [.r 1], none, []⟩,
 ⟨some 12, (.call 20), [.r 11, .c (.int .i64 28)], none, [11]⟩,
 ⟨some 13, (.bslice 1 3 [(.int .i64 0), (.int .i64 0), (.int .i64 0)] [(0, 1), (1, 1), (2, 1)]), [.c (.int .i64 0), .c (.int .i64 5), .c (.int .i64 1)], none, []⟩,
 ⟨some 14, (.build [(.int .i64 0), .nils] [(0, 1), (1, 1)]), [.c (.int .i64 1), .r 13], none, [13]⟩,
 ⟨some 15, (.call 12), [.r 12, .r 14], none, [12, 14]⟩,
 ⟨some 10, .mv, [.r 15], none, [15]⟩,
 ⟨some 16, (.ext 0), [.r 10], none, []⟩,
 ⟨some 17, (.ext 1), [.r 10], none, []⟩,
 ⟨some 18, (.ext 2), [.r 10], none, [10]⟩,
 ⟨none, (.st 27), [.r 1, .r 16], none, [16]⟩,
 ⟨some 3, .mv, [.r 17], none, [17]⟩,
 ⟨some 4, .mv, [.r 18], none, [18]⟩])
 (.seq (.reg [⟨some 19, .mv, [.r 2], none, [2]⟩,
 ⟨some 20, (.bin .eql), [.r 19, .c (.int .i64 0)], none, [19]⟩,
 ⟨some 21, .mv, [.r 20], none, [20]⟩,
 ⟨some 22, .mv, [.r 4], (some (21, true)), [4]⟩,
 ⟨some 23, (.un .not), [.r 22], (some (21, true)), [22]⟩,
 ⟨some 24, .pick, [.r 21, .r 23, .c (.bool false)], none, [21, 23]⟩,
 ⟨some 25, .mv, [.r 24], none, [24]⟩,
 ⟨some 26, .mv, [.r 3], (some (25, true)), []⟩,
 ⟨some 27, .len, [.r 26], (some (25, true)), [26]⟩,
 ⟨some 28, (.bin .eql), [.r 27, .c (.int .i64 1)], (some (25, true)), [27]⟩,
 ⟨some 29, .pick, [.r 25, .r 28, .c (.bool false)], none, [25, 28]⟩,
 ⟨some 30, .mv, [.r 29], none, [29]⟩,
 ⟨some 31, .mv, [.r 3], (some (30, true)), [3]⟩,
 ⟨some 32, (.iaddrS 2), [.r 31, .c (.int .i64 0)], (some (30, true)), [31]⟩,
 ⟨some 33, (.faddr 0), [.r 32], (some (30, true)), [32]⟩,
 ⟨some 34, .ld1, [.r 33], (some (30, true)), [33]⟩,
 ⟨some 35, (.bin .eql), [.r 34, .c (.int .i64 2)], (some (30, true)), [34]⟩,
 ⟨some 36, .pick, [.r 30, .r 35, .c (.bool false)], none, [30, 35]⟩,
 ⟨some 37, .mv, [.r 36], none, [36]⟩,
 ⟨some 38, (.faddr 9), [.r 1], (some (37, true)), []⟩,
 ⟨some 39, (.faddr 0), [.r 38], (some (37, true)), [38]⟩,
 ⟨some 40, .ld1, [.r 39], (some (37, true)), [39]⟩,
 ⟨some 41, (.bin .eql), [.r 40, .c (.int .i64 1)], (some (37, true)), [40]⟩,
 ⟨some 42, .pick, [.r 37, .r 41, .c (.bool false)], none, [37, 41]⟩,
 ⟨some 43, .mv, [.r 42], none, [42]⟩,
 ⟨some 44, (.faddr 9), [.r 1], (some (43, true)), []⟩,
 ⟨some 45, (.faddr 1), [.r 44], (some (43, true)), [44]⟩,
 ⟨some 46, .ld1, [.r 45], (some (43, true)), [45]⟩,
 ⟨some 47, (.bin .eql), [.r 46, .c (.int .i64 1)], (some (43, true)), [46]⟩,
 ⟨some 48, .pick, [.r 43, .r 47, .c (.bool false)], none, [43, 47]⟩,
 ⟨some 49, .mv, [.r 48], none, [48]⟩,
 ⟨some 50, (.faddr 9), [.r 1], (some (49, true)), []⟩,
 ⟨some 51, (.faddr 2), [.r 50], (some (49, true)), [50]⟩,
 ⟨some 52, .ld1, [.r 51], (some (49, true)), [51]⟩,
 ⟨some 53, (.bin .eql), [.r 52, .c (.int .i64 0)], (some (49, true)), [52]⟩,
 ⟨some 54, .pick, [.r 49, .r 53, .c (.bool false)], none, [49, 53]⟩,
 ⟨some 55, .mv, [.r 54], none, [54]⟩,
 ⟨some 56, (.faddr 9), [.r 1], (some (55, true)), []⟩,
 ⟨some 57, (.faddr 3), [.r 56], (some (55, true)), [56]⟩,
 ⟨some 58, .ld1, [.r 57], (some (55, true)), [57]⟩,
 ⟨some 59, (.bin .eql), [.r 58, .c (.int .i64 5)], (some (55, true)), [58]⟩,
 ⟨some 60, .pick, [.r 55, .r 59, .c (.bool false)], none, [55, 59]⟩,
 ⟨some 61, .mv, [.r 60], none, [60]⟩,
 ⟨some 62, (.ldn 27), [.r 1], (some (61, true)), [1]⟩,
 ⟨some 63, (.call 22), [.r 62], (some (61, true)), [62]⟩,
 ⟨some 64, .pick, [.r 61, .r 63, .c (.bool false)], none, [61, 63]⟩,
 ⟨some 0, .mv, [.r 64], none, [64]⟩])
 .ret))))
def rs8 : List SR := [.tmp 0]
theorem acallK8 (hn : args.length ≤ 65) (h : ac Try.prog c8 (argEnv 0 args) H (FinK rs8 v H')) : ACall Try.prog 8 args H v H' :=
 acallK Try.func8 (c := Try.f8.body.getD .skip) rfl (by kernel_rfl) (by kernel_rfl) hn h
def c12 : SC :=
 (.seq (.reg [⟨some 2, .box, [.r 0], none, [0]⟩,
 ⟨some 3, .box, [.r 1], none, [1]⟩,
 ⟨some 4, (.alloc [(.int .i64 0), (.int .i64 0), (.int .i64 0), (.int .i64 0), (.int .i64 0), .nils, (.int .i64 0), .nils, (.int .i64 0), (.int .i64 0), (.int .i64 0), (.int .i64 0), (.int .i64 0), (.int .i64 0), (.int .i64 0), (.int .i64 0), (.int .i64 0), (.int .i64 0), (.int .i64 0), (.int .i64 0), (.int .i64 0), (.int .i64 0), (.int .i64 0), (.int .i64 0), (.int .i64 0), (.int .i64 0), (.bool false)]), [], none, []⟩,
 ⟨some 5, .mv, [.c .nils], none, []⟩,
 ⟨some 6, .mv, [.c (.bool false)], none, [5]⟩])
 (.seq (.reg [⟨some 10, (.ldn 27), [.r 2], none, [6]⟩,
 ⟨some 11, (.ldn 2), [.r 3], none, [3]⟩,
 ⟨some 12, (.call 34), [.r 10, .r 11], none, [10, 11]⟩,
 ⟨some 9, .mv, [.r 12], none, [12]⟩,
 ⟨some 13, (.ext 0), [.r 9], none, []⟩,
 ⟨some 14, (.ext 1), [.r 9], none, [9]⟩,
 ⟨some 7, .mv, [.r 13], none, [13]⟩,
 ⟨some 8, .mv, [.r 14], none, [14]⟩])
 (.seq (.seq (.reg [⟨some 15, .mv, [.r 8], none, [8]⟩,
 ⟨some 16, (.un .not), [.r 15], none, [15]⟩])
 (.cond (.r 16)
 (.kl [7, 16] (.seq (.reg [⟨some 17, (.ldn 27), [.r 2], none, [2]⟩,
 ⟨none, (.st 27), [.r 4, .r 17], none, [17]⟩,
 ⟨some 5, .mv, [.c .nils], none, []⟩,
 ⟨some 6, .mv, [.c (.bool false)], none, []⟩])
 .ret))
 (.kl [2, 16] .skip)))
 (.seq (.dreg [⟨0, 0, false, false, ⟨some 18, .mv, [.r 7], none, []⟩, []⟩,
 ⟨1, 1, false, false, ⟨some 19, .nilchk, [.r 18], none, [18]⟩, []⟩,
 ⟨2, 3, false, false, ⟨some 20, (.faddr 0), [.r 19], none, [19]⟩, []⟩,
 ⟨3, 7, false, false, ⟨some 21, (.ldn 27), [.r 20], none, [20]⟩, []⟩,
 ⟨4, 0, false, false, ⟨some 22, .mv, [.r 7], none, []⟩, []⟩,
 ⟨5, 16, false, false, ⟨some 23, .nilchk, [.r 22], none, [22]⟩, []⟩,
 ⟨6, 48, false, false, ⟨some 24, (.faddr 28), [.r 23], none, [23]⟩, []⟩,
 ⟨7, 112, false, false, ⟨some 25, .ld1, [.r 24], none, []⟩, []⟩,
 ⟨8, 0, false, false, ⟨some 26, .mv, [.r 7], none, [7]⟩, []⟩,
 ⟨9, 256, false, false, ⟨some 27, .nilchk, [.r 26], none, [26]⟩, []⟩,
 ⟨10, 768, false, false, ⟨some 28, (.faddr 29), [.r 27], none, [27]⟩, []⟩,
 ⟨11, 1792, false, false, ⟨some 29, .ld1, [.r 28], none, []⟩, []⟩,
 ⟨12, 15, false, false, ⟨none, (.st 27), [.r 4, .r 21], none, [21, 24, 28]⟩, [24, 28]⟩,
 ⟨13, 4351, false, false, ⟨some 5, .mv, [.r 25], none, [25]⟩, []⟩,
 ⟨14, 16383, false, false, ⟨some 6, .mv, [.r 29], none, [29]⟩, []⟩])
 .ret))))
def rs12 : List SR := [.celln 4 27, .tmp 5, .tmp 6]
theorem acallK12 (hn : args.length ≤ 30) (h : ac Try.prog c12 (argEnv 0 args) H (FinK rs12 v H')) : ACall Try.prog 12 args H v H' :=
 acallK Try.func12 (c := Try.f12.body.getD .skip) rfl (by kernel_rfl) (by kernel_rfl) hn h
def c16 : SC :=
 (.seq (.reg [⟨some 3, .box, [.r 0], none, [0]⟩,
 ⟨some 4, .box, [.r 1], none, [1]⟩,
 ⟨some 6, (.alloc [(.int .i64 0), (.int .i64 0), (.int .i64 0), (.int .i64 0), (.int .i64 0), .nils, (.int .i64 0), .nils, (.int .i64 0), (.int .i64 0), (.int .i64 0), (.int .i64 0), (.int .i64 0), (.int .i64 0), (.int .i64 0), (.int .i64 0), (.int .i64 0), (.int .i64 0), (.int .i64 0), (.int .i64 0), (.int .i64 0), (.int .i64 0), (.int .i64 0), (.int .i64 0), (.int .i64 0), (.int .i64 0), (.bool false)]), [], none, []⟩])
 (.seq (.seq (.reg [⟨some 10, (.ldn 27), [.r 3], none, []⟩,
 ⟨some 11, (.ldn 2), [.r 4], none, [4]⟩,
 ⟨some 12, (.call 34), [.r 10, .r 11], none, [10, 11]⟩,
 ⟨some 9, .mv, [.r 12], none, [12]⟩,
 ⟨some 13, (.ext 0), [.r 9], none, []⟩,
 ⟨some 14, (.ext 1), [.r 9], none, [9]⟩,
 ⟨some 7, .mv, [.r 13], none, [13]⟩,
 ⟨some 8, .mv, [.r 14], none, [14]⟩])
 (.seq (.reg [⟨some 15, .mv, [.r 8], none, [8]⟩,
 ⟨some 16, .mv, [.r 15], none, [15]⟩,
 ⟨some 17, .mv, [.r 7], (some (16, true)), []⟩,
 ⟨some 18, .nilchk, [.r 17], (some (16, true)), [17]⟩,
 ⟨some 19, (.faddr 30), [.r 18], (some (16, true)), [18]⟩,
 ⟨some 20, .ld1, [.r 19], (some (16, true)), [19]⟩,
 ⟨some 21, .pick, [.r 16, .r 20, .c (.bool false)], none, [16, 20]⟩])
 (.cond (.r 21)
 (.kl [21] (.dreg [⟨0, 0, false, false, ⟨some 23, (.faddr 5), [.r 3], none, []⟩, []⟩,
 ⟨1, 1, false, false, ⟨some 24, (.ldn 4), [.r 23], none, [23]⟩, []⟩,
 ⟨2, 0, false, false, ⟨some 25, .mv, [.r 7], none, [7]⟩, []⟩,
 ⟨3, 4, false, false, ⟨some 26, .nilchk, [.r 25], none, [25]⟩, []⟩,
 ⟨4, 12, false, false, ⟨some 27, (.faddr 0), [.r 26], none, [26]⟩, []⟩,
 ⟨5, 28, false, false, ⟨some 28, (.faddr 9), [.r 27], none, [27]⟩, []⟩,
 ⟨6, 60, false, false, ⟨some 29, (.ldn 10), [.r 28], none, [28]⟩, []⟩,
 ⟨7, 124, true, false, ⟨some 30, (.call 40), [.r 29], none, [29]⟩, []⟩,
 ⟨8, 0, false, false, ⟨some 31, .mv, [.r 2], none, [2]⟩, []⟩,
 ⟨9, 511, false, false, ⟨some 32, (.call 39), [.r 24, .r 30, .r 31], none, [24, 30, 31]⟩, []⟩,
 ⟨10, 1023, false, false, ⟨some 22, .mv, [.r 32], none, [32]⟩, []⟩,
 ⟨11, 2047, false, false, ⟨some 33, (.ext 0), [.r 22], none, []⟩, []⟩,
 ⟨12, 2047, false, false, ⟨some 34, (.ext 1), [.r 22], none, [22]⟩, []⟩,
 ⟨13, 4095, false, false, ⟨some 35, (.faddr 5), [.r 3], none, [34]⟩, []⟩,
 ⟨14, 12287, false, false, ⟨none, (.st 4), [.r 35, .r 33], none, [33, 35]⟩, []⟩]))
 (.kl [2, 7, 21] .skip))))
 (.seq (.reg [⟨some 36, (.ldn 27), [.r 3], none, [3]⟩,
 ⟨some 37, (.call 21), [.r 36], none, [36]⟩,
 ⟨none, (.st 27), [.r 6, .r 37], none, [37]⟩])
 .ret)))
def rs16 : List SR := [.celln 6 27]
theorem acallK16 (hn : args.length ≤ 38) (h : ac Try.prog c16 (argEnv 0 args) H (FinK rs16 v H')) : ACall Try.prog 16 args H v H' :=
 acallK Try.func16 (c := Try.f16.body.getD .skip) rfl (by kernel_rfl) (by kernel_rfl) hn h
def c18 : SC :=
 (.seq (.reg [⟨some 1, .box, [.r 0], none, [0]⟩,
 ⟨some 2, .mv, [.c (.bool false)], none, []⟩])
 (.seq (.seq (.reg [⟨some 3, (.faddr 4), [.r 1], none, [2]⟩,
 ⟨some 4, .ld1, [.r 3], none, [3]⟩,
 ⟨some 5, (.bin .lss), [.r 4, .c (.int .i64 1)], none, [4]⟩,
 ⟨some 6, .mv, [.r 5], none, [5]⟩,
 ⟨some 7, (.faddr 4), [.r 1], (some (6, false)), []⟩,
 ⟨some 8, .ld1, [.r 7], (some (6, false)), [7]⟩,
 ⟨some 9, (.bin .gtr), [.r 8, .c (.int .i64 70368744177663)], (some (6, false)), [8]⟩,
 ⟨some 10, .pick, [.r 6, .c (.bool true), .r 9], none, [6, 9]⟩,
 ⟨some 11, .mv, [.r 10], none, [10]⟩,
 ⟨some 12, (.faddr 1), [.r 1], (some (11, false)), []⟩,
 ⟨some 13, .ld1, [.r 12], (some (11, false)), [12]⟩,
 ⟨some 14, (.faddr 0), [.r 1], (some (11, false)), []⟩,
 ⟨some 15, .ld1, [.r 14], (some (11, false)), [14]⟩,
 ⟨some 16, (.bin .lss), [.r 13, .r 15], (some (11, false)), [13, 15]⟩,
 ⟨some 17, .pick, [.r 11, .c (.bool true), .r 16], none, [11, 16]⟩])
 (.cond (.r 17)
 (.kl [1, 17] (.seq (.reg [⟨some 2, .mv, [.c (.bool false)], none, []⟩])
 .ret))
 (.kl [17] .skip)))
 (.seq (.reg [⟨some 18, (.faddr 0), [.r 1], none, []⟩,
 ⟨some 19, .ld1, [.r 18], none, [18]⟩,
 ⟨some 20, (.call 43), [.r 19], none, [19]⟩,
 ⟨some 21, .mv, [.r 20], none, [20]⟩,
 ⟨some 22, (.faddr 1), [.r 1], (some (21, true)), []⟩,
 ⟨some 23, .ld1, [.r 22], (some (21, true)), [22]⟩,
 ⟨some 24, (.call 43), [.r 23], (some (21, true)), [23]⟩,
 ⟨some 25, .pick, [.r 21, .r 24, .c (.bool false)], none, [21, 24]⟩,
 ⟨some 26, .mv, [.r 25], none, [25]⟩,
 ⟨some 27, (.faddr 2), [.r 1], (some (26, true)), []⟩,
 ⟨some 28, .ld1, [.r 27], (some (26, true)), [27]⟩,
 ⟨some 29, (.call 43), [.r 28], (some (26, true)), [28]⟩,
 ⟨some 30, .pick, [.r 26, .r 29, .c (.bool false)], none, [26, 29]⟩,
 ⟨some 31, .mv, [.r 30], none, [30]⟩,
 ⟨some 32, (.faddr 3), [.r 1], (some (31, true)), [1]⟩,
 ⟨some 33, .ld1, [.r 32], (some (31, true)), [32]⟩,
 ⟨some 34, (.call 43), [.r 33], (some (31, true)), [33]⟩,
 ⟨some 35, .pick, [.r 31, .r 34, .c (.bool false)], none, [31, 34]⟩,
 ⟨some 2, .mv, [.r 35], none, [35]⟩])
 .ret)))
def rs18 : List SR := [.tmp 2]
theorem acall18 (hn : args.length ≤ 36) (h : ac Try.prog c18 (argEnv 0 args) H (Fin H rs18 v H')) : ACall Try.prog 18 args H v H' :=
 acall Try.func18 (c := Try.f18.body.getD .skip) rfl (by kernel_rfl) (by kernel_rfl) hn h
def c19 : SC :=
 (.seq (.reg [⟨some 1, .box, [.r 0], none, [0]⟩,
 ⟨some 2, (.alloc [(.int .i64 0), (.int .i64 0), (.int .i64 0), (.int .i64 0), (.int .i64 0), .nils, (.int .i64 0), .nils, (.int .i64 0), (.int .i64 0), (.int .i64 0), (.int .i64 0), (.int .i64 0), (.int .i64 0), (.int .i64 0), (.int .i64 0), (.int .i64 0), (.int .i64 0), (.int .i64 0), (.int .i64 0), (.int .i64 0), (.int .i64 0), (.int .i64 0), (.int .i64 0), (.int .i64 0), (.int .i64 0), (.bool false)]), [], none, []⟩,
 ⟨some 3, .mv, [.c (.int .i64 0)], none, []⟩])
 (.seq (.seq (.reg [⟨some 6, (.ldn 5), [.r 1], none, [3]⟩,
 ⟨some 7, (.call 44), [.r 6], none, [6]⟩,
 ⟨some 8, (.un .not), [.r 7], none, [7]⟩])
 (.cond (.r 8)
 (.kl [1, 8] (.seq (.reg [⟨some 9, (.build [(.int .i64 0), (.int .i64 0), (.int .i64 0), (.int .i64 0), (.int .i64 0), .nils, (.int .i64 0), .nils, (.int .i64 0), (.int .i64 0), (.int .i64 0), (.int .i64 0), (.int .i64 0), (.int .i64 0), (.int .i64 0), (.int .i64 0), (.int .i64 0), (.int .i64 0), (.int .i64 0), (.int .i64 0), (.int .i64 0), (.int .i64 0), (.int .i64 0), (.int .i64 0), (.int .i64 0), (.int .i64 0), (.bool false)] []), [], none, []⟩,
 ⟨none, (.st 27), [.r 2, .r 9], none, [9]⟩,
 ⟨some 3, .mv, [.c (.int .i64 1)], none, []⟩])
 .ret))
 (.kl [8] .skip)))
 (.seq (.reg [⟨some 11, (.build [.nils, (.int .i64 0), .nils, (.int .i64 0)] []), [], none, []⟩,
 ⟨some 12, (.call 46), [], none, []⟩,
 ⟨some 13, (.call 40), [.r 12], none, [12]⟩,
 ⟨some 14, (.call 45), [.r 11, .r 13], none, [11, 13]⟩,
 ⟨some 10, .mv, [.r 14], none, [14]⟩,
 ⟨some 15, (.ext 0), [.r 10], none, []⟩,
 ⟨some 16, (.ext 1), [.r 10], none, [10]⟩,
 ⟨some 4, (.alloc [.nils, (.int .i64 0), .nils, (.int .i64 0)]), [], none, []⟩,
 ⟨none, (.st 4), [.r 4, .r 15], none, [15]⟩,
 ⟨some 5, .mv, [.r 16], none, [16]⟩])
 (.seq (.reg [⟨some 17, (.ldn 5), [.r 1], none, [1, 5]⟩,
 ⟨some 18, (.ldn 4), [.r 4], none, [4]⟩,
 ⟨some 19, (.build [(.int .i64 0), (.int .i64 0), (.int .i64 0), (.int .i64 0), (.int .i64 0), .nils, (.int .i64 0), .nils, (.int .i64 0), (.int .i64 0), (.int .i64 0), (.int .i64 0), (.int .i64 0), (.int .i64 0), (.int .i64 0), (.int .i64 0), (.int .i64 0), (.int .i64 0), (.int .i64 0), (.int .i64 0), (.int .i64 0), (.int .i64 0), (.int .i64 0), (.int .i64 0), (.int .i64 0), (.int .i64 0), (.bool false)] [(0, 5), (5, 4)]), [.r 17, .r 18], none, [17, 18]⟩,
 ⟨some 20, (.call 21), [.r 19], none, [19]⟩,
 ⟨none, (.st 27), [.r 2, .r 20], none, [20]⟩,
 ⟨some 3, .mv, [.c (.int .i64 0)], none, []⟩])
 .ret))))
def rs19 : List SR := [.celln 2 27, .tmp 3]
theorem acallK19 (hn : args.length ≤ 21) (h : ac Try.prog c19 (argEnv 0 args) H (FinK rs19 v H')) : ACall Try.prog 19 args H v H' :=
 acallK Try.func19 (c := Try.f19.body.getD .skip) rfl (by kernel_rfl) (by kernel_rfl) hn h
def c20 : SC :=
 (.seq (.reg [⟨some 2, .box, [.r 0], none, [0]⟩,
 ⟨some 4, (.alloc [(.int .i64 0), (.int .i64 0), (.int .i64 0), (.int .i64 0), (.int .i64 0), .nils, (.int .i64 0), .nils, (.int .i64 0), (.int .i64 0), (.int .i64 0), (.int .i64 0), (.int .i64 0), (.int .i64 0), (.int .i64 0), (.int .i64 0), (.int .i64 0), (.int .i64 0), (.int .i64 0), (.int .i64 0), (.int .i64 0), (.int .i64 0), (.int .i64 0), (.int .i64 0), (.int .i64 0), (.int .i64 0), (.bool false)]), [], none, []⟩])
 (.seq (.reg [⟨some 5, (.faddr 19), [.r 2], none, []⟩,
 ⟨some 6, (.ldn 3), [.r 5], none, [5]⟩,
 ⟨some 7, .mv, [.r 1], none, [1]⟩,
 ⟨some 8, (.call 47), [.r 6, .r 7], none, [6, 7]⟩,
 ⟨some 9, (.faddr 19), [.r 2], none, []⟩,
 ⟨none, (.st 3), [.r 9, .r 8], none, [8, 9]⟩])
 (.seq (.reg [⟨some 10, (.faddr 22), [.r 2], none, []⟩,
 ⟨some 11, (.ldn 5), [.r 10], none, [10]⟩,
 ⟨some 12, (.faddr 19), [.r 2], none, []⟩,
 ⟨some 13, (.faddr 0), [.r 12], none, [12]⟩,
 ⟨some 14, .ld1, [.r 13], none, [13]⟩,
 ⟨some 15, (.faddr 0), [.r 2], none, []⟩,
 ⟨some 16, (.faddr 3), [.r 15], none, [15]⟩,
 ⟨some 17, .ld1, [.r 16], none, [16]⟩,
 ⟨some 18, (.call 48), [.r 11, .r 14, .r 17], none, [11, 14, 17]⟩,
 ⟨some 19, (.faddr 22), [.r 2], none, []⟩,
 ⟨none, (.st 5), [.r 19, .r 18], none, [18, 19]⟩])
 (.seq (.reg [⟨some 20, (.ldn 27), [.r 2], none, [2]⟩,
 ⟨none, (.st 27), [.r 4, .r 20], none, [20]⟩])
 .ret))))
def rs20 : List SR := [.celln 4 27]
theorem acall20 (hn : args.length ≤ 21) (h : ac Try.prog c20 (argEnv 0 args) H (Fin H rs20 v H')) : ACall Try.prog 20 args H v H' :=
 acall Try.func20 (c := Try.f20.body.getD .skip) rfl (by kernel_rfl) (by kernel_rfl) hn h
def c21 : SC :=
 (.seq (.reg [⟨some 1, .box, [.r 0], none, [0]⟩,
 ⟨some 2, (.alloc [(.int .i64 0), (.int .i64 0), (.int .i64 0), (.int .i64 0), (.int .i64 0), .nils, (.int .i64 0), .nils, (.int .i64 0), (.int .i64 0), (.int .i64 0), (.int .i64 0), (.int .i64 0), (.int .i64 0), (.int .i64 0), (.int .i64 0), (.int .i64 0), (.int .i64 0), (.int .i64 0), (.int .i64 0), (.int .i64 0), (.int .i64 0), (.int .i64 0), (.int .i64 0), (.int .i64 0), (.int .i64 0), (.bool false)]), [], none, []⟩])
 (.seq (.reg [⟨some 8, (.faddr 5), [.r 1], none, []⟩,
 ⟨some 9, (.ldn 4), [.r 8], none, [8]⟩,
 ⟨some 10, (.call 49), [.r 9], none, [9]⟩,
 ⟨some 7, .mv, [.r 10], none, [10]⟩,
 ⟨some 11, (.ext 0), [.r 7], none, []⟩,
 ⟨some 12, (.ext 1), [.r 7], none, []⟩,
 ⟨some 13, (.ext 2), [.r 7], none, [7]⟩,
 ⟨some 3, .mv, [.r 11], none, [11]⟩,
 ⟨some 4, .mv, [.r 12], none, [12]⟩,
 ⟨some 5, .mv, [.r 13], none, [4, 13]⟩])
 (.seq (.reg [⟨some 14, .mv, [.r 3], none, [3, 5]⟩,
 ⟨some 15, (.call 50), [.r 14], none, [14]⟩,
 ⟨some 6, (.alloc [(.int .i64 0), (.int .i64 0), (.int .i64 0), (.int .i64 0), (.int .i64 0), (.int .i64 0), (.int .i64 0), (.int .i64 0), (.int .i64 0), (.int .i64 0)]), [], none, []⟩,
 ⟨none, (.st 10), [.r 6, .r 15], none, [15]⟩])
 (.seq (.dreg [⟨0, 0, false, false, ⟨some 16, (.faddr 0), [.r 1], none, []⟩, []⟩,
 ⟨1, 1, false, false, ⟨some 17, (.ldn 5), [.r 16], none, [16]⟩, []⟩,
 ⟨2, 0, false, false, ⟨some 18, (.faddr 5), [.r 1], none, []⟩, []⟩,
 ⟨3, 4, false, false, ⟨some 19, (.ldn 4), [.r 18], none, [18]⟩, []⟩,
 ⟨4, 0, false, false, ⟨some 20, (.ldn 10), [.r 6], none, []⟩, []⟩,
 ⟨5, 0, false, false, ⟨some 21, (.faddr 0), [.r 1], none, [1]⟩, []⟩,
 ⟨6, 32, false, false, ⟨some 22, (.ldn 5), [.r 21], none, [21]⟩, []⟩,
 ⟨7, 96, false, true, ⟨some 23, (.call 51), [.r 22], none, [22]⟩, []⟩,
 ⟨8, 0, false, false, ⟨some 24, (.faddr 7), [.r 6], none, [6]⟩, []⟩,
 ⟨9, 256, false, false, ⟨some 25, (.ldn 3), [.r 24], none, [24]⟩, []⟩,
 ⟨10, 768, false, false, ⟨some 26, (.build [(.int .i64 0), (.int .i64 0), (.int .i64 0), (.int .i64 0), (.bool false)] [(0, 3)]), [.r 25], none, [25]⟩, []⟩,
 ⟨11, 2047, false, false, ⟨some 27, (.build [(.int .i64 0), (.int .i64 0), (.int .i64 0), (.int .i64 0), (.int .i64 0), .nils, (.int .i64 0), .nils, (.int .i64 0), (.int .i64 0), (.int .i64 0), (.int .i64 0), (.int .i64 0), (.int .i64 0), (.int .i64 0), (.int .i64 0), (.int .i64 0), (.int .i64 0), (.int .i64 0), (.int .i64 0), (.int .i64 0), (.int .i64 0), (.int .i64 0), (.int .i64 0), (.int .i64 0), (.int .i64 0), (.bool false)] [(0, 5), (5, 4), (9, 10), (19, 3), (22, 5)]), [.r 17, .r 19, .r 20, .r 23, .r 26], none, [17, 19, 20, 23, 26]⟩, []⟩,
 ⟨12, 4095, false, false, ⟨none, (.st 27), [.r 2, .r 27], none, [27]⟩, []⟩])
 .ret))))
def rs21 : List SR := [.celln 2 27]
theorem acallK21 (hn : args.length ≤ 28) (h : ac Try.prog c21 (argEnv 0 args) H (FinK rs21 v H')) : ACall Try.prog 21 args H v H' :=
 acallK Try.func21 (c := Try.f21.body.getD .skip) rfl (by kernel_rfl) (by kernel_rfl) hn h
def c22 : SC :=
 (.seq (.reg [⟨some 1, .box, [.r 0], none, [0]⟩,
 ⟨some 2, .mv, [.c (.bool false)], none, []⟩])
 (.seq (.reg [⟨some 8, (.faddr 5), [.r 1], none, [2]⟩,
 ⟨some 9, (.ldn 4), [.r 8], none, [8]⟩,
 ⟨some 10, (.call 49), [.r 9], none, [9]⟩,
 ⟨some 7, .mv, [.r 10], none, [10]⟩,
 ⟨some 11, (.ext 0), [.r 7], none, []⟩,
 ⟨some 12, (.ext 1), [.r 7], none, []⟩,
 ⟨some 13, (.ext 2), [.r 7], none, [7]⟩,
 ⟨some 3, .mv, [.r 11], none, [11]⟩,
 ⟨some 4, .mv, [.r 12], none, [12]⟩,
 ⟨some 5, .mv, [.r 13], none, [13]⟩])
 (.seq (.reg [⟨some 14, .mv, [.r 5], none, [5]⟩,
 ⟨some 15, .mv, [.r 14], none, [14]⟩,
 ⟨some 16, .mv, [.r 4], (some (15, true)), [4]⟩,
 ⟨some 17, (.bin .lss), [.r 16, .c (.int .i64 2305843009213693952)], (some (15, true)), [16]⟩,
 ⟨some 18, .pick, [.r 15, .r 17, .c (.bool false)], none, [15, 17]⟩,
 ⟨some 19, .mv, [.r 18], none, [18]⟩,
 ⟨some 20, .mv, [.r 3], (some (19, true)), [3]⟩,
 ⟨some 21, (.faddr 9), [.r 1], (some (19, true)), []⟩,
 ⟨some 22, (.ldn 10), [.r 21], (some (19, true)), [21]⟩,
 ⟨some 23, (.call 40), [.r 22], (some (19, true)), [22]⟩,
 ⟨some 24, (.call 52), [.r 20, .r 23], (some (19, true)), [20, 23]⟩,
 ⟨some 25, .pick, [.r 19, .r 24, .c (.bool false)], none, [19, 24]⟩,
 ⟨some 6, .mv, [.r 25], none, [25]⟩])
 (.seq (.reg [⟨some 26, (.faddr 0), [.r 1], none, []⟩,
 ⟨some 27, (.ldn 5), [.r 26], none, [26]⟩,
 ⟨some 28, (.call 44), [.r 27], none, [27]⟩,
 ⟨some 29, .mv, [.r 28], none, [28]⟩,
 ⟨some 30, (.faddr 19), [.r 1], (some (29, true)), []⟩,
 ⟨some 31, (.ldn 3), [.r 30], (some (29, true)), [30]⟩,
 ⟨some 32, (.call 53), [.r 31], (some (29, true)), [31]⟩,
 ⟨some 33, .pick, [.r 29, .r 32, .c (.bool false)], none, [29, 32]⟩,
 ⟨some 34, .mv, [.r 33], none, [33]⟩,
 ⟨some 35, (.faddr 9), [.r 1], (some (34, true)), []⟩,
 ⟨some 36, (.ldn 10), [.r 35], (some (34, true)), [35]⟩,
 ⟨some 37, (.call 54), [.r 36], (some (34, true)), [36]⟩,
 ⟨some 38, .pick, [.r 34, .r 37, .c (.bool false)], none, [34, 37]⟩,
 ⟨some 39, .mv, [.r 38], none, [38]⟩,
 ⟨some 40, (.faddr 22), [.r 1], (some (39, true)), []⟩,
 ⟨some 41, (.faddr 0), [.r 40], (some (39, true)), [40]⟩,
 ⟨some 42, (.ldn 3), [.r 41], (some (39, true)), [41]⟩,
 ⟨some 43, (.faddr 9), [.r 1], (some (39, true)), []⟩,
 ⟨some 44, (.faddr 7), [.r 43], (some (39, true)), [43]⟩,
 ⟨some 45, (.ldn 3), [.r 44], (some (39, true)), [44]⟩,
 ⟨some 46, (.eqv false [.int, .int, .int]), [.r 42, .r 45], (some (39, true)), [42, 45]⟩,
 ⟨some 47, .pick, [.r 39, .r 46, .c (.bool false)], none, [39, 46]⟩,
 ⟨some 48, .mv, [.r 47], none, [47]⟩,
 ⟨some 49, (.faddr 22), [.r 1], (some (48, true)), [1]⟩,
 ⟨some 50, (.faddr 3), [.r 49], (some (48, true)), [49]⟩,
 ⟨some 51, .ld1, [.r 50], (some (48, true)), [50]⟩,
 ⟨some 52, (.call 55), [.r 51, .c (.int .i64 0), .c (.int .i64 4611686018427387904)], (some (48, true)), [51]⟩,
 ⟨some 53, .pick, [.r 48, .r 52, .c (.bool false)], none, [48, 52]⟩,
 ⟨some 54, .mv, [.r 53], none, [53]⟩,
 ⟨some 55, .mv, [.r 6], (some (54, true)), [6]⟩,
 ⟨some 56, .pick, [.r 54, .r 55, .c (.bool false)], none, [54, 55]⟩,
 ⟨some 2, .mv, [.r 56], none, [56]⟩])
 .ret))))
def rs22 : List SR := [.tmp 2]
theorem acallK22 (hn : args.length ≤ 57) (h : ac Try.prog c22 (argEnv 0 args) H (FinK rs22 v H')) : ACall Try.prog 22 args H v H' :=
 acallK Try.func22 (c := Try.f22.body.getD .skip) rfl (by kernel_rfl) (by kernel_rfl) hn h
def c23l0 : SC :=
 (.seq (.seq (.reg [⟨some 8, .mv, [.r 7], none, []⟩,
 ⟨some 9, (.bin .lss), [.r 8, .c (.int .i64 3)], none, [8]⟩])
 (.cond (.r 9)
 (.kl [9] .skip)
 (.kl [2, 3, 4, 7, 9] (.exit 0))))
 (.seq (.block 1 (.seq (.dreg [⟨0, 0, false, false, ⟨some 12, .mv, [.r 7], none, []⟩, []⟩,
 ⟨1, 1, false, false, ⟨some 13, (.iaddrA 1 3), [.r 3, .r 12], none, [12]⟩, []⟩,
 ⟨2, 3, false, false, ⟨some 14, .ld1, [.r 13], none, [13]⟩, []⟩,
 ⟨3, 0, false, false, ⟨some 15, .mv, [.r 7], none, []⟩, []⟩,
 ⟨4, 8, false, false, ⟨some 16, (.iaddrA 1 3), [.r 4, .r 15], none, [15]⟩, []⟩,
 ⟨5, 24, false, false, ⟨some 17, .ld1, [.r 16], none, [16]⟩, []⟩,
 ⟨6, 0, false, false, ⟨some 18, .mv, [.r 2], none, []⟩, []⟩,
 ⟨7, 120, false, false, ⟨some 19, (.bin .add), [.r 17, .r 18], none, [17, 18]⟩, []⟩,
 ⟨8, 255, false, false, ⟨some 20, (.bin .gtr), [.r 14, .r 19], none, [14, 19]⟩, []⟩,
 ⟨9, 511, false, false, ⟨some 21, .mv, [.r 20], none, [20]⟩, []⟩,
 ⟨10, 1023, false, false, ⟨some 22, .mv, [.r 7], (some (21, false)), []⟩, []⟩,
 ⟨11, 2047, false, false, ⟨some 23, (.iaddrA 1 3), [.r 4, .r 22], (some (21, false)), [22]⟩, []⟩,
 ⟨12, 4095, false, false, ⟨some 24, .ld1, [.r 23], (some (21, false)), [23]⟩, []⟩,
 ⟨13, 1023, false, false, ⟨some 25, .mv, [.r 7], (some (21, false)), []⟩, []⟩,
 ⟨14, 9215, false, false, ⟨some 26, (.iaddrA 1 3), [.r 3, .r 25], (some (21, false)), [25]⟩, []⟩,
 ⟨15, 25599, false, false, ⟨some 27, .ld1, [.r 26], (some (21, false)), [26]⟩, []⟩,
 ⟨16, 1023, false, false, ⟨some 28, .mv, [.r 2], (some (21, false)), []⟩, []⟩,
 ⟨17, 123903, false, false, ⟨some 29, (.bin .add), [.r 27, .r 28], (some (21, false)), [27, 28]⟩, []⟩,
 ⟨18, 262143, false, false, ⟨some 30, (.bin .gtr), [.r 24, .r 29], (some (21, false)), [24, 29]⟩, []⟩,
 ⟨19, 524287, false, false, ⟨some 31, .pick, [.r 21, .c (.bool true), .r 30], none, [21, 30]⟩, []⟩])
 (.cond (.r 31)
 (.kl [2, 3, 4, 7, 31] (.seq (.reg [⟨some 6, .mv, [.c (.bool false)], none, []⟩])
 .ret))
 (.kl [31] .skip))))
 (.reg [⟨some 10, .mv, [.r 7], none, [7]⟩,
 ⟨some 11, (.bin .add), [.r 10, .c (.int .i64 1)], none, [10]⟩,
 ⟨some 7, .mv, [.r 11], none, [11]⟩])))
def c23 : SC :=
 (.seq (.reg [⟨some 3, .box, [.r 0], none, [0]⟩,
 ⟨some 4, .box, [.r 1], none, [1]⟩,
 ⟨some 6, .mv, [.c (.bool false)], none, []⟩])
 (.seq (.seq (.reg [⟨some 7, .mv, [.c (.int .i64 0)], none, [6]⟩])
 (.block 0 (.loop c23l0)))
 (.seq (.reg [⟨some 6, .mv, [.c (.bool true)], none, []⟩])
 .ret)))
def rs23 : List SR := [.tmp 6]
theorem acall23 (hn : args.length ≤ 32) (h : ac Try.prog c23 (argEnv 0 args) H (Fin H rs23 v H')) : ACall Try.prog 23 args H v H' :=
 acall Try.func23 (c := Try.f23.body.getD .skip) rfl (by kernel_rfl) (by kernel_rfl) hn h
def c24l0 : SC :=
 (.seq (.seq (.reg [⟨some 10, .mv, [.r 8], none, []⟩,
 ⟨some 11, (.bin .lss), [.r 10, .c (.int .i64 3)], none, [10]⟩])
 (.cond (.r 11)
 (.kl [11] .skip)
 (.kl [2, 3, 4, 8, 11] (.exit 0))))
 (.seq (.block 1 (.seq (.reg [⟨some 14, .mv, [.r 8], none, []⟩,
 ⟨some 15, .mv, [.r 8], none, []⟩,
 ⟨some 16, (.iaddrA 1 3), [.r 4, .r 15], none, [15]⟩,
 ⟨some 17, .ld1, [.r 16], none, [16]⟩,
 ⟨some 18, (.iaddrA 1 3), [.r 7, .r 14], none, [14]⟩,
 ⟨none, (.st 1), [.r 18, .r 17], none, [17, 18]⟩])
 (.seq (.seq (.dreg [⟨0, 0, false, false, ⟨some 19, .mv, [.r 8], none, []⟩, []⟩,
 ⟨1, 1, false, false, ⟨some 20, (.iaddrA 1 3), [.r 4, .r 19], none, [19]⟩, []⟩,
 ⟨2, 3, false, false, ⟨some 21, .ld1, [.r 20], none, [20]⟩, []⟩,
 ⟨3, 0, false, false, ⟨some 22, .mv, [.r 8], none, []⟩, []⟩,
 ⟨4, 8, false, false, ⟨some 23, (.iaddrA 1 3), [.r 3, .r 22], none, [22]⟩, []⟩,
 ⟨5, 24, false, false, ⟨some 24, .ld1, [.r 23], none, [23]⟩, []⟩,
 ⟨6, 0, false, false, ⟨some 25, .mv, [.r 2], none, []⟩, []⟩,
 ⟨7, 120, false, false, ⟨some 26, (.bin .add), [.r 24, .r 25], none, [24, 25]⟩, []⟩,
 ⟨8, 255, false, false, ⟨some 27, (.bin .gtr), [.r 21, .r 26], none, [21, 26]⟩, []⟩])
 (.cond (.r 27)
 (.kl [27] (.reg [⟨some 28, .mv, [.r 8], none, []⟩,
 ⟨some 29, .mv, [.r 8], none, []⟩,
 ⟨some 30, (.iaddrA 1 3), [.r 3, .r 29], none, [29]⟩,
 ⟨some 31, .ld1, [.r 30], none, [30]⟩,
 ⟨some 32, .mv, [.r 2], none, []⟩,
 ⟨some 33, (.bin .add), [.r 31, .r 32], none, [31, 32]⟩,
 ⟨some 34, (.iaddrA 1 3), [.r 7, .r 28], none, [28]⟩,
 ⟨none, (.st 1), [.r 34, .r 33], none, [33, 34]⟩]))
 (.kl [27] .skip)))
 (.seq (.dreg [⟨0, 0, false, false, ⟨some 35, .mv, [.r 8], none, []⟩, []⟩,
 ⟨1, 1, false, false, ⟨some 36, (.iaddrA 1 3), [.r 4, .r 35], none, [35]⟩, []⟩,
 ⟨2, 3, false, false, ⟨some 37, .ld1, [.r 36], none, [36]⟩, []⟩,
 ⟨3, 0, false, false, ⟨some 38, .mv, [.r 8], none, []⟩, []⟩,
 ⟨4, 8, false, false, ⟨some 39, (.iaddrA 1 3), [.r 3, .r 38], none, [38]⟩, []⟩,
 ⟨5, 24, false, false, ⟨some 40, .ld1, [.r 39], none, [39]⟩, []⟩,
 ⟨6, 0, false, false, ⟨some 41, .mv, [.r 2], none, []⟩, []⟩,
 ⟨7, 120, false, false, ⟨some 42, (.bin .sub), [.r 40, .r 41], none, [40, 41]⟩, []⟩,
 ⟨8, 255, false, false, ⟨some 43, (.bin .lss), [.r 37, .r 42], none, [37, 42]⟩, []⟩])
 (.cond (.r 43)
 (.kl [43] (.reg [⟨some 44, .mv, [.r 8], none, []⟩,
 ⟨some 45, .mv, [.r 8], none, []⟩,
 ⟨some 46, (.iaddrA 1 3), [.r 3, .r 45], none, [45]⟩,
 ⟨some 47, .ld1, [.r 46], none, [46]⟩,
 ⟨some 48, .mv, [.r 2], none, []⟩,
 ⟨some 49, (.bin .sub), [.r 47, .r 48], none, [47, 48]⟩,
 ⟨some 50, (.iaddrA 1 3), [.r 7, .r 44], none, [44]⟩,
 ⟨none, (.st 1), [.r 50, .r 49], none, [49, 50]⟩]))
 (.kl [43] .skip))))))
 (.reg [⟨some 12, .mv, [.r 8], none, [8]⟩,
 ⟨some 13, (.bin .add), [.r 12, .c (.int .i64 1)], none, [12]⟩,
 ⟨some 8, .mv, [.r 13], none, [13]⟩])))
def c24 : SC :=
 (.seq (.reg [⟨some 3, .box, [.r 0], none, [0]⟩,
 ⟨some 4, .box, [.r 1], none, [1]⟩,
 ⟨some 6, (.alloc [(.int .i64 0), (.int .i64 0), (.int .i64 0)]), [], none, []⟩])
 (.seq (.reg [⟨some 9, (.build [(.int .i64 0), (.int .i64 0), (.int .i64 0)] []), [], none, []⟩,
 ⟨some 7, (.alloc [(.int .i64 0), (.int .i64 0), (.int .i64 0)]), [], none, []⟩,
 ⟨none, (.st 3), [.r 7, .r 9], none, [9]⟩])
 (.seq (.seq (.reg [⟨some 8, .mv, [.c (.int .i64 0)], none, []⟩])
 (.block 0 (.loop c24l0)))
 (.seq (.reg [⟨some 51, (.ldn 3), [.r 7], none, [7]⟩,
 ⟨none, (.st 3), [.r 6, .r 51], none, [51]⟩])
 .ret))))
def rs24 : List SR := [.celln 6 3]
theorem acall24 (hn : args.length ≤ 52) (h : ac Try.prog c24 (argEnv 0 args) H (Fin H rs24 v H')) : ACall Try.prog 24 args H v H' :=
 acall Try.func24 (c := Try.f24.body.getD .skip) rfl (by kernel_rfl) (by kernel_rfl) hn h
def c25 : SC :=
 (.seq (.reg [⟨some 0, (.alloc [(.int .i64 0), (.int .i64 0), (.int .i64 0), (.int .i64 0), (.int .i64 0)]), [], none, []⟩])
 (.seq (.reg [⟨some 1, (.build [(.int .i64 0), (.int .i64 0), (.int .i64 0), (.int .i64 0), (.int .i64 0)] [(0, 1), (1, 1), (2, 1), (3, 1), (4, 1)]), [.c (.int .i64 5), .c (.int .i64 8), .c (.int .i64 20), .c (.int .i64 10), .c (.int .i64 16777216)], none, []⟩,
 ⟨none, (.st 5), [.r 0, .r 1], none, [1]⟩])
 .ret))
def rs25 : List SR := [.celln 0 5]
theorem acall25 (hn : args.length ≤ 2) (h : ac Try.prog c25 (argEnv 0 args) H (Fin H rs25 v H')) : ACall Try.prog 25 args H v H' :=
 acall Try.func25 (c := Try.f25.body.getD .skip) rfl (by kernel_rfl) (by kernel_rfl) hn h
def c34 : SC :=
 (.seq (.reg [⟨some 2, .box, [.r 0], none, [0]⟩,
 ⟨some 3, .box, [.r 1], none, [1]⟩,
 ⟨some 4, .mv, [.c .nilp], none, []⟩,
 ⟨some 5, .mv, [.c (.bool false)], none, [4]⟩])
 (.seq (.reg [⟨some 10, (.ldn 27), [.r 2], none, [2, 5]⟩,
 ⟨some 11, (.faddr 1), [.r 3], none, []⟩,
 ⟨some 12, .ld1, [.r 11], none, [11]⟩,
 ⟨some 13, (.build [(.int .i64 0), (.int .i64 0), (.int .i64 0), (.int .i64 0), (.int .i64 0), .nils, (.int .i64 0), .nils, (.int .i64 0), (.int .i64 0), (.int .i64 0), (.int .i64 0), (.int .i64 0), (.int .i64 0), (.int .i64 0), (.int .i64 0), (.int .i64 0), (.int .i64 0), (.int .i64 0), (.int .i64 0), (.int .i64 0), (.int .i64 0), (.int .i64 0), (.int .i64 0), (.int .i64 0), (.int .i64 0), (.bool false), .nils, .nils, (.bool false), (.bool false)] [(0, 27), (27, 1)]), [.r 10, .r 12], none, [10, 12]⟩,
 ⟨some 14, .box, [.r 13], none, [13]⟩,
 ⟨some 6, .mv, [.r 14], none, [14]⟩])
 (.seq (.reg [⟨some 15, (.mp .mk), [], none, []⟩,
 ⟨some 16, .mv, [.r 6], none, []⟩,
 ⟨some 17, (.mkfn (.func 58) 1), [.r 16], none, [16]⟩,
 ⟨none, (.mp (.upd [.int] false)), [.r 15, .c (.int .i64 1), .r 17], none, [17]⟩,
 ⟨some 18, .mv, [.r 6], none, []⟩,
 ⟨some 19, (.mkfn (.func 59) 1), [.r 18], none, [18]⟩,
 ⟨none, (.mp (.upd [.int] false)), [.r 15, .c (.int .i64 4), .r 19], none, [19]⟩,
 ⟨some 20, .mv, [.r 6], none, []⟩,
 ⟨some 21, (.mkfn (.func 60) 1), [.r 20], none, [20]⟩,
 ⟨none, (.mp (.upd [.int] false)), [.r 15, .c (.int .i64 3), .r 21], none, [21]⟩,
 ⟨some 22, .mv, [.r 15], none, [15]⟩,
 ⟨some 7, .mv, [.r 22], none, [22]⟩])
 (.seq (.reg [⟨some 24, .mv, [.r 7], none, [7]⟩,
 ⟨some 25, (.faddr 0), [.r 3], none, []⟩,
 ⟨some 26, .ld1, [.r 25], none, [25]⟩,
 ⟨some 27, (.mp (.lkp [.int] false [.nilf] false true)), [.r 24, .r 26], none, [24, 26]⟩,
 ⟨some 23, .mv, [.r 27], none, [27]⟩,
 ⟨some 28, (.ext 0), [.r 23], none, []⟩,
 ⟨some 29, (.ext 1), [.r 23], none, [23]⟩,
 ⟨some 8, .mv, [.r 28], none, [28]⟩,
 ⟨some 9, .mv, [.r 29], none, [29]⟩])
 (.seq (.reg [⟨some 30, .mv, [.r 6], none, [6]⟩,
 ⟨some 31, (.ldn 2), [.r 3], none, [3]⟩,
 ⟨some 32, (.call 61), [.r 31], none, [31]⟩,
 ⟨some 33, .mv, [.r 32], none, [32]⟩,
 ⟨some 34, .mv, [.r 9], (some (33, true)), [9]⟩,
 ⟨some 35, .pick, [.r 33, .r 34, .c (.bool false)], none, [33, 34]⟩,
 ⟨some 36, .mv, [.r 35], none, [35]⟩,
 ⟨some 37, .mv, [.r 8], (some (36, true)), [8]⟩,
 ⟨some 38, .callv, [.r 37], (some (36, true)), [37]⟩,
 ⟨some 39, .pick, [.r 36, .r 38, .c (.bool false)], none, [36, 38]⟩,
 ⟨some 4, .mv, [.r 30], none, [30]⟩,
 ⟨some 5, .mv, [.r 39], none, [39]⟩])
 .ret)))))
def rs34 : List SR := [.tmp 4, .tmp 5]
theorem acallK34 (hn : args.length ≤ 40) (h : ac Try.prog c34 (argEnv 0 args) H (FinK rs34 v H')) : ACall Try.prog 34 args H v H' :=
 acallK Try.func34 (c := Try.f34.body.getD .skip) rfl (by kernel_rfl) (by kernel_rfl) hn h
def c39 : SC :=
 (.seq (.reg [⟨some 3, .box, [.r 0], none, [0]⟩,
 ⟨some 6, (.alloc [.nils, (.int .i64 0), .nils, (.int .i64 0)]), [], none, []⟩,
 ⟨some 7, .mv, [.c (.int .i64 0)], none, []⟩])
 (.seq (.reg [⟨some 15, (.ldn 4), [.r 3], none, [7]⟩,
 ⟨some 16, (.call 49), [.r 15], none, [15]⟩,
 ⟨some 14, .mv, [.r 16], none, [16]⟩,
 ⟨some 17, (.ext 0), [.r 14], none, []⟩,
 ⟨some 18, (.ext 1), [.r 14], none, []⟩,
 ⟨some 19, (.ext 2), [.r 14], none, [14]⟩,
 ⟨some 8, .mv, [.r 17], none, [17]⟩,
 ⟨some 9, .mv, [.r 18], none, [8, 18]⟩,
 ⟨some 10, .mv, [.r 19], none, [19]⟩])
 (.seq (.seq (.reg [⟨some 20, .mv, [.r 1], none, [10]⟩,
 ⟨some 21, .len, [.r 20], none, [20]⟩,
 ⟨some 22, (.bin .gtr), [.r 21, .c (.int .i64 600)], none, [21]⟩,
 ⟨some 23, .mv, [.r 22], none, [22]⟩,
 ⟨some 24, .mv, [.r 9], (some (23, false)), []⟩,
 ⟨some 25, (.bin .eql), [.r 24, .c (.int .i64 4611686018427387904)], (some (23, false)), [24]⟩,
 ⟨some 26, .pick, [.r 23, .c (.bool true), .r 25], none, [23, 25]⟩])
 (.cond (.r 26)
 (.kl [1, 2, 9, 26] (.seq (.reg [⟨some 27, (.ldn 4), [.r 3], none, [3]⟩,
 ⟨none, (.st 4), [.r 6, .r 27], none, [27]⟩,
 ⟨some 7, .mv, [.c (.int .i64 5)], none, []⟩])
 .ret))
 (.kl [26] .skip)))
 (.seq (.reg [⟨some 28, (.ldn 4), [.r 3], none, []⟩,
 ⟨some 29, (.call 66), [.r 28], none, [28]⟩,
 ⟨some 30, .mx, [.r 29, .c (.int .i64 (-1))], none, [29]⟩,
 ⟨some 31, (.bin .add), [.r 30, .c (.int .i64 1)], none, [30]⟩,
 ⟨some 11, .mv, [.r 31], none, [31]⟩])
 (.seq (.seq (.reg [⟨some 32, .mv, [.r 11], none, []⟩,
 ⟨some 33, (.bin .gtr), [.r 32, .c (.int .i64 1)], none, [32]⟩])
 (.cond (.r 33)
 (.kl [11, 33] (.reg [⟨some 11, .mv, [.c (.int .i64 0)], none, []⟩]))
 (.kl [33] .skip)))
 (.seq (.reg [⟨some 34, .mv, [.r 9], none, [9]⟩,
 ⟨some 35, (.bin .add), [.r 34, .c (.int .i64 1)], none, [34]⟩,
 ⟨some 36, (.bslice 1 1 [(.int .i64 0)] [(0, 1)]), [.r 35], none, [35]⟩,
 ⟨some 37, .mv, [.r 1], none, []⟩,
 ⟨some 38, (.bslice 1 2 [.nils, .nils] [(0, 1), (1, 1)]), [.r 36, .r 37], none, [36, 37]⟩,
 ⟨some 39, (.call 67), [.r 38], none, [38]⟩,
 ⟨some 12, .mv, [.r 39], none, [39]⟩])
 (.seq (.reg [⟨some 40, .mv, [.r 11], none, [11]⟩,
 ⟨some 41, (.faddr 0), [.r 3], none, []⟩,
 ⟨some 42, (.iaddrA 2 2), [.r 41, .r 40], none, [40, 41]⟩,
 ⟨some 13, .mv, [.r 42], none, [42]⟩])
 (.seq (.block 0 (.seq (.reg [⟨some 44, .mv, [.r 2], none, []⟩,
 ⟨some 45, .mv, [.r 1], none, [1]⟩,
 ⟨some 46, (.call 68), [.r 45], none, [45]⟩,
 ⟨some 47, (.bin .geq), [.r 44, .r 46], none, [44, 46]⟩,
 ⟨some 43, .mv, [.r 47], none, [47]⟩])
 (.cond (.r 43)
 (.kl [2, 43] (.reg [⟨some 48, .mv, [.r 13], none, []⟩,
 ⟨some 49, .mv, [.r 13], none, [13]⟩,
 ⟨some 50, .mv, [.r 12], none, []⟩,
 ⟨some 51, .mv, [.r 12], none, [12]⟩,
 ⟨some 52, (.call 69), [.r 51], none, [51]⟩,
 ⟨some 53, .nilchk, [.r 48], none, [48]⟩,
 ⟨some 54, (.faddr 0), [.r 53], none, [53]⟩,
 ⟨none, (.st 1), [.r 54, .r 50], none, [50, 54]⟩,
 ⟨some 55, .nilchk, [.r 49], none, [49]⟩,
 ⟨some 56, (.faddr 1), [.r 55], none, [55]⟩,
 ⟨none, (.st 1), [.r 56, .r 52], none, [52, 56]⟩]))
 (.kl [43] (.seq (.reg [⟨some 58, .mv, [.r 2], none, []⟩,
 ⟨some 59, (.bin .gtr), [.r 58, .c (.int .i64 1)], none, [58]⟩,
 ⟨some 57, .mv, [.r 59], none, [59]⟩])
 (.cond (.r 57)
 (.kl [57] (.reg [⟨some 60, .mv, [.r 13], none, []⟩,
 ⟨some 61, .mv, [.r 13], none, [13]⟩,
 ⟨some 62, .mv, [.r 12], none, [12]⟩,
 ⟨some 63, .mv, [.r 2], none, []⟩,
 ⟨some 64, (.bin .sub), [.r 63, .c (.int .i64 1)], none, [63]⟩,
 ⟨some 65, .mv, [.r 2], none, [2]⟩,
 ⟨some 66, (.bin .sub), [.r 65, .c (.int .i64 1)], none, [65]⟩,
 ⟨some 67, (.slice 1 false true true), [.r 62, .r 64, .r 66], none, [62, 64, 66]⟩,
 ⟨some 68, .nilchk, [.r 60], none, [60]⟩,
 ⟨some 69, (.faddr 0), [.r 68], none, [68]⟩,
 ⟨none, (.st 1), [.r 69, .r 67], none, [67, 69]⟩,
 ⟨some 70, .nilchk, [.r 61], none, [61]⟩,
 ⟨some 71, (.faddr 1), [.r 70], none, [70]⟩,
 ⟨none, (.st 1), [.r 71, .c (.int .i64 0)], none, [71]⟩]))
 (.kl [12, 57] (.seq (.reg [⟨some 73, .mv, [.r 2], none, [2]⟩,
 ⟨some 74, (.bin .eql), [.r 73, .c (.int .i64 1)], none, [73]⟩,
 ⟨some 72, .mv, [.r 74], none, [74]⟩])
 (.cond (.r 72)
 (.kl [72] (.reg [⟨some 75, .mv, [.r 13], none, [13]⟩,
 ⟨some 76, .nilchk, [.r 75], none, [75]⟩,
 ⟨some 77, (.faddr 1), [.r 76], none, [76]⟩,
 ⟨none, (.st 1), [.r 77, .c (.int .i64 0)], none, [77]⟩]))
 (.kl [13, 72] .skip))))))))))
 (.seq (.reg [⟨some 78, (.ldn 4), [.r 3], none, [3]⟩,
 ⟨none, (.st 4), [.r 6, .r 78], none, [78]⟩,
 ⟨some 7, .mv, [.c (.int .i64 0)], none, []⟩])
 .ret)))))))))
def rs39 : List SR := [.celln 6 4, .tmp 7]
theorem acall39 (hn : args.length ≤ 79) (h : ac Try.prog c39 (argEnv 0 args) H (Fin H rs39 v H')) : ACall Try.prog 39 args H v H' :=
 acall Try.func39 (c := Try.f39.body.getD .skip) rfl (by kernel_rfl) (by kernel_rfl) hn h
def c40 : SC :=
 (.seq (.reg [⟨some 1, .box, [.r 0], none, [0]⟩,
 ⟨some 2, .mv, [.c .nils], none, []⟩])
 (.seq (.reg [⟨some 3, (.faddr 0), [.r 1], none, [2]⟩,
 ⟨some 4, .ld1, [.r 3], none, [3]⟩,
 ⟨some 5, (.faddr 1), [.r 1], none, []⟩,
 ⟨some 6, .ld1, [.r 5], none, [5]⟩,
 ⟨some 7, (.faddr 2), [.r 1], none, []⟩,
 ⟨some 8, .ld1, [.r 7], none, [7]⟩,
 ⟨some 9, (.faddr 3), [.r 1], none, []⟩,
 ⟨some 10, .ld1, [.r 9], none, [9]⟩,
 ⟨some 11, (.faddr 4), [.r 1], none, []⟩,
 ⟨some 12, .ld1, [.r 11], none, [11]⟩,
 ⟨some 13, (.faddr 5), [.r 1], none, []⟩,
 ⟨some 14, .ld1, [.r 13], none, [13]⟩,
 ⟨some 15, (.faddr 6), [.r 1], none, []⟩,
 ⟨some 16, .ld1, [.r 15], none, [15]⟩,
 ⟨some 17, (.faddr 7), [.r 1], none, []⟩,
 ⟨some 18, (.iaddrA 1 3), [.r 17, .c (.int .i64 0)], none, [17]⟩,
 ⟨some 19, .ld1, [.r 18], none, [18]⟩,
 ⟨some 20, (.faddr 7), [.r 1], none, []⟩,
 ⟨some 21, (.iaddrA 1 3), [.r 20, .c (.int .i64 1)], none, [20]⟩,
 ⟨some 22, .ld1, [.r 21], none, [21]⟩,
 ⟨some 23, (.faddr 7), [.r 1], none, [1]⟩,
 ⟨some 24, (.iaddrA 1 3), [.r 23, .c (.int .i64 2)], none, [23]⟩,
 ⟨some 25, .ld1, [.r 24], none, [24]⟩,
 ⟨some 26, (.bslice 1 10 [(.int .i64 0), (.int .i64 0), (.int .i64 0), (.int .i64 0), (.int .i64 0), (.int .i64 0), (.int .i64 0), (.int .i64 0), (.int .i64 0), (.int .i64 0)] [(0, 1), (1, 1), (2, 1), (3, 1), (4, 1), (5, 1), (6, 1), (7, 1), (8, 1), (9, 1)]), [.r 4, .r 6, .r 8, .r 10, .r 12, .r 14, .r 16, .r 19, .r 22, .r 25], none, [4, 6, 8, 10, 12, 14, 16, 19, 22, 25]⟩,
 ⟨some 2, .mv, [.r 26], none, [26]⟩])
 .ret))
def rs40 : List SR := [.tmp 2]
theorem acallK40 (hn : args.length ≤ 27) (h : ac Try.prog c40 (argEnv 0 args) H (FinK rs40 v H')) : ACall Try.prog 40 args H v H' :=
 acallK Try.func40 (c := Try.f40.body.getD .skip) rfl (by kernel_rfl) (by kernel_rfl) hn h
def c43 : SC :=
 (.seq (.reg [⟨some 2, .mv, [.c (.bool false)], none, []⟩])
 (.seq (.reg [⟨some 3, .mv, [.r 0], none, [2]⟩,
 ⟨some 4, (.bin .gtr), [.r 3, .c (.int .i64 0)], none, [3]⟩,
 ⟨some 5, .mv, [.r 4], none, [4]⟩,
 ⟨some 6, .mv, [.r 0], (some (5, true)), [0]⟩,
 ⟨some 7, (.bin .leq), [.r 6, .c (.int .i64 1000000000)], (some (5, true)), [6]⟩,
 ⟨some 8, .pick, [.r 5, .r 7, .c (.bool false)], none, [5, 7]⟩,
 ⟨some 2, .mv, [.r 8], none, [8]⟩])
 .ret))
def rs43 : List SR := [.tmp 2]
theorem acall43 (hn : args.length ≤ 9) (h : ac Try.prog c43 (argEnv 0 args) H (Fin H rs43 v H')) : ACall Try.prog 43 args H v H' :=
 acall Try.func43 (c := Try.f43.body.getD .skip) rfl (by kernel_rfl) (by kernel_rfl) hn h
def c44 : SC :=
 (.seq (.reg [⟨some 1, .box, [.r 0], none, [0]⟩,
 ⟨some 2, .mv, [.c (.bool false)], none, []⟩])
 (.seq (.reg [⟨some 3, .mv, [.c (.fn (.func 72) [] [])], none, [2]⟩])
 (.seq (.reg [⟨some 4, (.faddr 0), [.r 1], none, []⟩,
 ⟨some 5, .ld1, [.r 4], none, [4]⟩,
 ⟨some 6, (.faddr 1), [.r 1], none, []⟩,
 ⟨some 7, .ld1, [.r 6], none, [6]⟩,
 ⟨some 8, (.faddr 2), [.r 1], none, []⟩,
 ⟨some 9, .ld1, [.r 8], none, [8]⟩,
 ⟨some 10, (.faddr 3), [.r 1], none, []⟩,
 ⟨some 11, .ld1, [.r 10], none, [10]⟩,
 ⟨some 12, (.bslice 1 4 [(.int .i64 0), (.int .i64 0), (.int .i64 0), (.int .i64 0)] [(0, 1), (1, 1), (2, 1), (3, 1)]), [.r 5, .r 7, .r 9, .r 11], none, [5, 7, 9, 11]⟩,
 ⟨some 13, .mv, [.r 3], none, [3]⟩,
 ⟨some 14, (.call 73), [.r 12, .r 13], none, [12, 13]⟩,
 ⟨some 15, (.un .not), [.r 14], none, [14]⟩,
 ⟨some 16, .mv, [.r 15], none, [15]⟩,
 ⟨some 17, (.faddr 4), [.r 1], (some (16, true)), []⟩,
 ⟨some 18, .ld1, [.r 17], (some (16, true)), [17]⟩,
 ⟨some 19, (.bin .geq), [.r 18, .c (.int .i64 1)], (some (16, true)), [18]⟩,
 ⟨some 20, .pick, [.r 16, .r 19, .c (.bool false)], none, [16, 19]⟩,
 ⟨some 21, .mv, [.r 20], none, [20]⟩,
 ⟨some 22, (.faddr 4), [.r 1], (some (21, true)), []⟩,
 ⟨some 23, .ld1, [.r 22], (some (21, true)), [22]⟩,
 ⟨some 24, (.bin .leq), [.r 23, .c (.int .i64 70368744177663)], (some (21, true)), [23]⟩,
 ⟨some 25, .pick, [.r 21, .r 24, .c (.bool false)], none, [21, 24]⟩,
 ⟨some 26, .mv, [.r 25], none, [25]⟩,
 ⟨some 27, (.faddr 1), [.r 1], (some (26, true)), []⟩,
 ⟨some 28, .ld1, [.r 27], (some (26, true)), [27]⟩,
 ⟨some 29, (.faddr 0), [.r 1], (some (26, true)), [1]⟩,
 ⟨some 30, .ld1, [.r 29], (some (26, true)), [29]⟩,
 ⟨some 31, (.bin .geq), [.r 28, .r 30], (some (26, true)), [28, 30]⟩,
 ⟨some 32, .pick, [.r 26, .r 31, .c (.bool false)], none, [26, 31]⟩,
 ⟨some 2, .mv, [.r 32], none, [32]⟩])
 .ret)))
def rs44 : List SR := [.tmp 2]
theorem acall44 (hn : args.length ≤ 33) (h : ac Try.prog c44 (argEnv 0 args) H (Fin H rs44 v H')) : ACall Try.prog 44 args H v H' :=
 acall Try.func44 (c := Try.f44.body.getD .skip) rfl (by kernel_rfl) (by kernel_rfl) hn h
def c45 : SC :=
 (.seq (.reg [⟨some 2, .box, [.r 0], none, [0]⟩,
 ⟨some 4, (.alloc [.nils, (.int .i64 0), .nils, (.int .i64 0)]), [], none, []⟩,
 ⟨some 5, .mv, [.c (.int .i64 0)], none, []⟩])
 (.seq (.dreg [⟨0, 0, false, false, ⟨some 6, (.ldn 4), [.r 2], none, [2, 5]⟩, []⟩,
 ⟨1, 0, false, false, ⟨some 7, .mv, [.r 1], none, []⟩, []⟩,
 ⟨2, 0, false, false, ⟨some 8, .mv, [.r 1], none, [1]⟩, []⟩,
 ⟨3, 4, false, true, ⟨some 9, (.call 68), [.r 8], none, [8]⟩, []⟩,
 ⟨4, 15, false, false, ⟨some 10, (.call 39), [.r 6, .r 7, .r 9], none, [6, 7, 9]⟩, []⟩,
 ⟨5, 31, false, false, ⟨some 11, (.ext 0), [.r 10], none, []⟩, []⟩,
 ⟨6, 31, false, false, ⟨some 12, (.ext 1), [.r 10], none, [10]⟩, []⟩,
 ⟨7, 127, false, false, ⟨none, (.st 4), [.r 4, .r 11], none, [11]⟩, []⟩,
 ⟨8, 255, false, false, ⟨some 5, .mv, [.r 12], none, [12]⟩, []⟩])
 .ret))
def rs45 : List SR := [.celln 4 4, .tmp 5]
theorem acallK45 (hn : args.length ≤ 13) (h : ac Try.prog c45 (argEnv 0 args) H (FinK rs45 v H')) : ACall Try.prog 45 args H v H' :=
 acallK Try.func45 (c := Try.f45.body.getD .skip) rfl (by kernel_rfl) (by kernel_rfl) hn h
def c46 : SC :=
 (.seq (.reg [⟨some 0, (.alloc [(.int .i64 0), (.int .i64 0), (.int .i64 0), (.int .i64 0), (.int .i64 0), (.int .i64 0), (.int .i64 0), (.int .i64 0), (.int .i64 0), (.int .i64 0)]), [], none, []⟩])
 (.seq (.reg [⟨some 1, (.build [(.int .i64 0), (.int .i64 0), (.int .i64 0), (.int .i64 0), (.int .i64 0), (.int .i64 0), (.int .i64 0), (.int .i64 0), (.int .i64 0), (.int .i64 0)] [(2, 1), (4, 1)]), [.c (.int .i64 (-1)), .c (.int .i64 (-1))], none, []⟩,
 ⟨none, (.st 10), [.r 0, .r 1], none, [1]⟩])
 .ret))
def rs46 : List SR := [.celln 0 10]
theorem acall46 (hn : args.length ≤ 2) (h : ac Try.prog c46 (argEnv 0 args) H (Fin H rs46 v H')) : ACall Try.prog 46 args H v H' :=
 acall Try.func46 (c := Try.f46.body.getD .skip) rfl (by kernel_rfl) (by kernel_rfl) hn h
def c47 : SC :=
 (.seq (.reg [⟨some 2, .box, [.r 0], none, [0]⟩,
 ⟨some 4, (.alloc [(.int .i64 0), (.int .i64 0), (.int .i64 0)]), [], none, []⟩])
 (.seq (.reg [⟨some 5, .mv, [.r 1], none, [1]⟩,
 ⟨some 6, .mx, [.r 5, .c (.int .i64 0)], none, [5]⟩,
 ⟨some 7, .mn, [.r 6, .c (.int .i64 2305843009213693952)], none, [6]⟩,
 ⟨some 1, .mv, [.r 7], none, [7]⟩])
 (.seq (.reg [⟨some 8, (.faddr 0), [.r 2], none, []⟩,
 ⟨some 9, .ld1, [.r 8], none, [8]⟩,
 ⟨some 10, (.faddr 0), [.r 2], none, []⟩,
 ⟨some 11, .ld1, [.r 10], none, [10]⟩,
 ⟨some 12, .mv, [.r 1], none, [1]⟩,
 ⟨some 13, (.bin .add), [.r 11, .r 12], none, [11, 12]⟩,
 ⟨some 14, .mn, [.r 13, .c (.int .i64 2305843009213693952)], none, [13]⟩,
 ⟨some 15, .mx, [.r 9, .r 14], none, [9, 14]⟩,
 ⟨some 16, (.faddr 0), [.r 2], none, []⟩,
 ⟨none, (.st 1), [.r 16, .r 15], none, [15, 16]⟩])
 (.seq (.reg [⟨some 17, (.ldn 3), [.r 2], none, [2]⟩,
 ⟨none, (.st 3), [.r 4, .r 17], none, [17]⟩])
 .ret))))
def rs47 : List SR := [.celln 4 3]
theorem acall47 (hn : args.length ≤ 18) (h : ac Try.prog c47 (argEnv 0 args) H (Fin H rs47 v H')) : ACall Try.prog 47 args H v H' :=
 acall Try.func47 (c := Try.f47.body.getD .skip) rfl (by kernel_rfl) (by kernel_rfl) hn h
def c48 : SC :=
 (.seq (.reg [⟨some 3, .box, [.r 0], none, [0]⟩,
 ⟨some 6, (.alloc [(.int .i64 0), (.int .i64 0), (.int .i64 0), (.int .i64 0), (.bool false)]), [], none, []⟩])
 (.seq (.reg [⟨some 7, (.faddr 4), [.r 3], none, []⟩,
 ⟨some 8, .ld1, [.r 7], none, [7]⟩,
 ⟨some 9, .mv, [.r 8], none, [8]⟩,
 ⟨some 10, .mv, [.r 1], (some (9, false)), [1]⟩,
 ⟨some 11, (.faddr 3), [.r 3], (some (9, false)), []⟩,
 ⟨some 12, .ld1, [.r 11], (some (9, false)), [11]⟩,
 ⟨some 13, (.bin .sub), [.r 10, .r 12], (some (9, false)), [10, 12]⟩,
 ⟨some 14, .mv, [.r 2], (some (9, false)), [2]⟩,
 ⟨some 15, (.bin .geq), [.r 13, .r 14], (some (9, false)), [13, 14]⟩,
 ⟨some 16, .pick, [.r 9, .c (.bool true), .r 15], none, [9, 15]⟩,
 ⟨some 17, (.faddr 4), [.r 3], none, []⟩,
 ⟨none, (.st 1), [.r 17, .r 16], none, [16, 17]⟩])
 (.seq (.reg [⟨some 18, (.ldn 5), [.r 3], none, [3]⟩,
 ⟨none, (.st 5), [.r 6, .r 18], none, [18]⟩])
 .ret)))
def rs48 : List SR := [.celln 6 5]
theorem acall48 (hn : args.length ≤ 19) (h : ac Try.prog c48 (argEnv 0 args) H (Fin H rs48 v H')) : ACall Try.prog 48 args H v H' :=
 acall Try.func48 (c := Try.f48.body.getD .skip) rfl (by kernel_rfl) (by kernel_rfl) hn h
def c49 : SC :=
 (.seq (.reg [⟨some 1, .box, [.r 0], none, [0]⟩,
 ⟨some 2, .mv, [.c .nils], none, []⟩,
 ⟨some 3, .mv, [.c (.int .i64 0)], none, [2]⟩,
 ⟨some 4, .mv, [.c (.bool false)], none, [3]⟩])
 (.seq (.reg [⟨some 7, (.ldn 4), [.r 1], none, [4]⟩,
 ⟨some 8, (.call 66), [.r 7], none, [7]⟩,
 ⟨some 5, .mv, [.r 8], none, [8]⟩])
 (.seq (.seq (.reg [⟨some 9, .mv, [.r 5], none, []⟩,
 ⟨some 10, (.bin .lss), [.r 9, .c (.int .i64 0)], none, [9]⟩])
 (.cond (.r 10)
 (.kl [1, 5, 10] (.seq (.reg [⟨some 2, .mv, [.c .nils], none, []⟩,
 ⟨some 3, .mv, [.c (.int .i64 0)], none, []⟩,
 ⟨some 4, .mv, [.c (.bool false)], none, []⟩])
 .ret))
 (.kl [10] .skip)))
 (.seq (.reg [⟨some 11, .mv, [.r 5], none, [5]⟩,
 ⟨some 12, (.faddr 0), [.r 1], none, [1]⟩,
 ⟨some 13, (.iaddrA 2 2), [.r 12, .r 11], none, [11, 12]⟩,
 ⟨some 14, (.faddr 0), [.r 13], none, [13]⟩,
 ⟨some 15, .ld1, [.r 14], none, [14]⟩,
 ⟨some 6, .mv, [.r 15], none, [15]⟩])
 (.seq (.dreg [⟨0, 0, false, false, ⟨some 16, .mv, [.r 6], none, []⟩, []⟩,
 ⟨1, 1, false, false, ⟨some 17, (.slice 1 true false false), [.r 16, .c (.int .i64 1)], none, [16]⟩, []⟩,
 ⟨2, 3, true, false, ⟨some 18, (.call 74), [.r 17], none, [17]⟩, []⟩,
 ⟨3, 0, false, false, ⟨some 19, .mv, [.r 6], none, [6]⟩, []⟩,
 ⟨4, 8, false, false, ⟨some 20, (.iaddrS 1), [.r 19, .c (.int .i64 0)], none, [19]⟩, []⟩,
 ⟨5, 24, false, false, ⟨some 21, .ld1, [.r 20], none, [20]⟩, []⟩,
 ⟨6, 7, false, false, ⟨some 2, .mv, [.r 18], none, [18]⟩, []⟩,
 ⟨7, 127, false, false, ⟨some 3, .mv, [.r 21], none, [21]⟩, []⟩,
 ⟨8, 255, false, false, ⟨some 4, .mv, [.c (.bool true)], none, []⟩, []⟩])
 .ret)))))
def rs49 : List SR := [.tmp 2, .tmp 3, .tmp 4]
theorem acall49 (hn : args.length ≤ 22) (h : ac Try.prog c49 (argEnv 0 args) H (Fin H rs49 v H')) : ACall Try.prog 49 args H v H' :=
 acall Try.func49 (c := Try.f49.body.getD .skip) rfl (by kernel_rfl) (by kernel_rfl) hn h
def c50 : SC :=
 (.seq (.reg [⟨some 2, (.alloc [(.int .i64 0), (.int .i64 0), (.int .i64 0), (.int .i64 0), (.int .i64 0), (.int .i64 0), (.int .i64 0), (.int .i64 0), (.int .i64 0), (.int .i64 0)]), [], none, []⟩])
 (.seq (.seq (.reg [⟨some 4, .mv, [.r 0], none, []⟩,
 ⟨some 5, .len, [.r 4], none, [4]⟩,
 ⟨some 6, (.bin .neq), [.r 5, .c (.int .i64 10)], none, [5]⟩])
 (.cond (.r 6)
 (.kl [0, 6] (.seq (.reg [⟨some 7, (.call 46), [], none, []⟩,
 ⟨none, (.st 10), [.r 2, .r 7], none, [7]⟩])
 .ret))
 (.kl [6] .skip)))
 (.seq (.freg [⟨0, 0, false, false, ⟨some 8, .mv, [.r 0], none, []⟩, []⟩,
 ⟨1, 1, false, false, ⟨some 9, (.iaddrS 1), [.r 8, .c (.int .i64 0)], none, [8]⟩, []⟩,
 ⟨2, 3, false, false, ⟨some 10, .ld1, [.r 9], none, [9]⟩, []⟩,
 ⟨3, 0, false, false, ⟨some 11, .mv, [.r 0], none, []⟩, []⟩,
 ⟨4, 8, false, false, ⟨some 12, (.iaddrS 1), [.r 11, .c (.int .i64 1)], none, [11]⟩, []⟩,
 ⟨5, 24, false, false, ⟨some 13, .ld1, [.r 12], none, [12]⟩, []⟩,
 ⟨6, 0, false, false, ⟨some 14, .mv, [.r 0], none, []⟩, []⟩,
 ⟨7, 64, false, false, ⟨some 15, (.iaddrS 1), [.r 14, .c (.int .i64 2)], none, [14]⟩, []⟩,
 ⟨8, 192, false, false, ⟨some 16, .ld1, [.r 15], none, [15]⟩, []⟩,
 ⟨9, 0, false, false, ⟨some 17, .mv, [.r 0], none, []⟩, []⟩,
 ⟨10, 512, false, false, ⟨some 18, (.iaddrS 1), [.r 17, .c (.int .i64 3)], none, [17]⟩, []⟩,
 ⟨11, 1536, false, false, ⟨some 19, .ld1, [.r 18], none, [18]⟩, []⟩,
 ⟨12, 0, false, false, ⟨some 20, .mv, [.r 0], none, []⟩, []⟩,
 ⟨13, 4096, false, false, ⟨some 21, (.iaddrS 1), [.r 20, .c (.int .i64 4)], none, [20]⟩, []⟩,
 ⟨14, 12288, false, false, ⟨some 22, .ld1, [.r 21], none, [21]⟩, []⟩,
 ⟨15, 0, false, false, ⟨some 23, .mv, [.r 0], none, []⟩, []⟩,
 ⟨16, 32768, false, false, ⟨some 24, (.iaddrS 1), [.r 23, .c (.int .i64 5)], none, [23]⟩, []⟩,
 ⟨17, 98304, false, false, ⟨some 25, .ld1, [.r 24], none, [24]⟩, []⟩,
 ⟨18, 0, false, false, ⟨some 26, .mv, [.r 0], none, []⟩, []⟩,
 ⟨19, 262144, false, false, ⟨some 27, (.iaddrS 1), [.r 26, .c (.int .i64 6)], none, [26]⟩, []⟩,
 ⟨20, 786432, false, false, ⟨some 28, .ld1, [.r 27], none, [27]⟩, []⟩,
 ⟨21, 0, false, false, ⟨some 29, .mv, [.r 0], none, []⟩, []⟩,
 ⟨22, 2097152, false, false, ⟨some 30, (.iaddrS 1), [.r 29, .c (.int .i64 7)], none, [29]⟩, []⟩,
 ⟨23, 6291456, false, false, ⟨some 31, .ld1, [.r 30], none, [30]⟩, []⟩,
 ⟨24, 0, false, false, ⟨some 32, .mv, [.r 0], none, []⟩, []⟩,
 ⟨25, 16777216, false, false, ⟨some 33, (.iaddrS 1), [.r 32, .c (.int .i64 8)], none, [32]⟩, []⟩,
 ⟨26, 50331648, false, false, ⟨some 34, .ld1, [.r 33], none, [33]⟩, []⟩,
 ⟨27, 0, false, false, ⟨some 35, .mv, [.r 0], none, [0]⟩, []⟩,
 ⟨28, 134217728, false, false, ⟨some 36, (.iaddrS 1), [.r 35, .c (.int .i64 9)], none, [35]⟩, []⟩,
 ⟨29, 402653184, false, false, ⟨some 37, .ld1, [.r 36], none, [36]⟩, []⟩,
 ⟨30, 1071644672, false, false, ⟨some 38, (.build [(.int .i64 0), (.int .i64 0), (.int .i64 0)] [(0, 1), (1, 1), (2, 1)]), [.r 31, .r 34, .r 37], none, [31, 34, 37]⟩, []⟩,
 ⟨31, 2147483647, false, false, ⟨some 39, (.build [(.int .i64 0), (.int .i64 0), (.int .i64 0), (.int .i64 0), (.int .i64 0), (.int .i64 0), (.int .i64 0), (.int .i64 0), (.int .i64 0), (.int .i64 0)] [(0, 1), (1, 1), (2, 1), (3, 1), (4, 1), (5, 1), (6, 1), (7, 3)]), [.r 10, .r 13, .r 16, .r 19, .r 22, .r 25, .r 28, .r 38], none, [10, 13, 16, 19, 22, 25, 28, 38]⟩, []⟩]
 [⟨32, 0, false, true, ⟨some 3, (.alloc [(.int .i64 0), (.int .i64 0), (.int .i64 0), (.int .i64 0), (.int .i64 0), (.int .i64 0), (.int .i64 0), (.int .i64 0), (.int .i64 0), (.int .i64 0)]), [], none, []⟩, []⟩]
 [⟨33, 8589934591, false, false, ⟨none, (.st 10), [.r 3, .r 39], none, [39]⟩, []⟩])
 (.seq (.seq (.reg [⟨some 40, (.ldn 10), [.r 3], none, []⟩,
 ⟨some 41, (.call 54), [.r 40], none, [40]⟩,
 ⟨some 42, (.un .not), [.r 41], none, [41]⟩])
 (.cond (.r 42)
 (.kl [3, 42] (.seq (.reg [⟨some 43, (.call 46), [], none, []⟩,
 ⟨none, (.st 10), [.r 2, .r 43], none, [43]⟩])
 .ret))
 (.kl [42] .skip)))
 (.seq (.reg [⟨some 44, (.ldn 10), [.r 3], none, [3]⟩,
 ⟨none, (.st 10), [.r 2, .r 44], none, [44]⟩])
 .ret)))))
def rs50 : List SR := [.celln 2 10]
theorem acall50 (hn : args.length ≤ 45) (h : ac Try.prog c50 (argEnv 0 args) H (Fin H rs50 v H')) : ACall Try.prog 50 args H v H' :=
 acall Try.func50 (c := Try.f50.body.getD .skip) rfl (by kernel_rfl) (by kernel_rfl) hn h
def c51 : SC :=
 (.seq (.reg [⟨some 1, .box, [.r 0], none, [0]⟩,
 ⟨some 2, (.alloc [(.int .i64 0), (.int .i64 0), (.int .i64 0)]), [], none, []⟩])
 (.seq (.reg [⟨some 3, (.faddr 1), [.r 1], none, [1]⟩,
 ⟨some 4, .ld1, [.r 3], none, [3]⟩,
 ⟨some 5, (.build [(.int .i64 0), (.int .i64 0), (.int .i64 0)] [(2, 1)]), [.r 4], none, [4]⟩,
 ⟨none, (.st 3), [.r 2, .r 5], none, [5]⟩])
 .ret))
def rs51 : List SR := [.celln 2 3]
theorem acall51 (hn : args.length ≤ 6) (h : ac Try.prog c51 (argEnv 0 args) H (Fin H rs51 v H')) : ACall Try.prog 51 args H v H' :=
 acall Try.func51 (c := Try.f51.body.getD .skip) rfl (by kernel_rfl) (by kernel_rfl) hn h
def c52l0 : SC :=
 (.seq (.reg [⟨some 14, (.bin .lss), [.r 13, .r 12], none, []⟩])
 (.seq (.cond (.r 14)
 (.kl [14] .skip)
 (.kl [0, 1, 12, 13, 14] (.exit 0)))
 (.seq (.block 1 (.seq (.reg [⟨some 15, .mv, [.r 13], none, []⟩,
 ⟨some 5, .mv, [.r 15], none, [15]⟩])
 (.seq (.dreg [⟨0, 0, false, false, ⟨some 16, .mv, [.r 0], none, []⟩, []⟩,
 ⟨1, 0, false, false, ⟨some 17, .mv, [.r 5], none, []⟩, []⟩,
 ⟨2, 3, false, false, ⟨some 18, (.iaddrS 1), [.r 16, .r 17], none, [16, 17]⟩, []⟩,
 ⟨3, 7, false, false, ⟨some 19, .ld1, [.r 18], none, [18]⟩, []⟩,
 ⟨4, 0, false, false, ⟨some 20, .mv, [.r 1], none, []⟩, []⟩,
 ⟨5, 0, false, false, ⟨some 21, .mv, [.r 5], none, [5]⟩, []⟩,
 ⟨6, 48, false, false, ⟨some 22, (.iaddrS 1), [.r 20, .r 21], none, [20, 21]⟩, []⟩,
 ⟨7, 112, false, false, ⟨some 23, .ld1, [.r 22], none, [22]⟩, []⟩,
 ⟨8, 255, false, false, ⟨some 24, (.bin .neq), [.r 19, .r 23], none, [19, 23]⟩, []⟩])
 (.cond (.r 24)
 (.kl [0, 1, 12, 13, 24] (.seq (.reg [⟨some 4, .mv, [.c (.bool false)], none, []⟩])
 .ret))
 (.kl [24] .skip)))))
 (.reg [⟨some 25, (.bin .add), [.r 13, .c (.int .i64 1)], none, [13]⟩,
 ⟨some 13, .mv, [.r 25], none, [25]⟩]))))
def c52 : SC :=
 (.seq (.reg [⟨some 4, .mv, [.c (.bool false)], none, []⟩])
 (.seq (.seq (.reg [⟨some 6, .mv, [.r 0], none, [4]⟩,
 ⟨some 7, .len, [.r 6], none, [6]⟩,
 ⟨some 8, .mv, [.r 1], none, []⟩,
 ⟨some 9, .len, [.r 8], none, [8]⟩,
 ⟨some 10, (.bin .neq), [.r 7, .r 9], none, [7, 9]⟩])
 (.cond (.r 10)
 (.kl [0, 1, 10] (.seq (.reg [⟨some 4, .mv, [.c (.bool false)], none, []⟩])
 .ret))
 (.kl [10] .skip)))
 (.seq (.seq (.reg [⟨some 11, .mv, [.r 0], none, []⟩,
 ⟨some 12, .len, [.r 11], none, [11]⟩,
 ⟨some 13, .mv, [.c (.int .i64 0)], none, []⟩])
 (.block 0 (.loop c52l0)))
 (.seq (.reg [⟨some 4, .mv, [.c (.bool true)], none, []⟩])
 .ret))))
def rs52 : List SR := [.tmp 4]
theorem acall52 (hn : args.length ≤ 26) (h : ac Try.prog c52 (argEnv 0 args) H (Fin H rs52 v H')) : ACall Try.prog 52 args H v H' :=
 acall Try.func52 (c := Try.f52.body.getD .skip) rfl (by kernel_rfl) (by kernel_rfl) hn h
def c53 : SC :=
 (.seq (.reg [⟨some 1, .box, [.r 0], none, [0]⟩,
 ⟨some 2, .mv, [.c (.bool false)], none, []⟩])
 (.seq (.reg [⟨some 3, .mv, [.c (.fn (.func 75) [] [])], none, [2]⟩])
 (.seq (.reg [⟨some 4, (.faddr 0), [.r 1], none, []⟩,
 ⟨some 5, .ld1, [.r 4], none, [4]⟩,
 ⟨some 6, (.faddr 1), [.r 1], none, []⟩,
 ⟨some 7, .ld1, [.r 6], none, [6]⟩,
 ⟨some 8, (.faddr 2), [.r 1], none, [1]⟩,
 ⟨some 9, .ld1, [.r 8], none, [8]⟩,
 ⟨some 10, (.bslice 1 3 [(.int .i64 0), (.int .i64 0), (.int .i64 0)] [(0, 1), (1, 1), (2, 1)]), [.r 5, .r 7, .r 9], none, [5, 7, 9]⟩,
 ⟨some 11, .mv, [.r 3], none, [3]⟩,
 ⟨some 12, (.call 73), [.r 10, .r 11], none, [10, 11]⟩,
 ⟨some 13, (.un .not), [.r 12], none, [12]⟩,
 ⟨some 2, .mv, [.r 13], none, [13]⟩])
 .ret)))
def rs53 : List SR := [.tmp 2]
theorem acall53 (hn : args.length ≤ 14) (h : ac Try.prog c53 (argEnv 0 args) H (Fin H rs53 v H')) : ACall Try.prog 53 args H v H' :=
 acall Try.func53 (c := Try.f53.body.getD .skip) rfl (by kernel_rfl) (by kernel_rfl) hn h
def c54 : SC :=
 (.seq (.reg [⟨some 1, .box, [.r 0], none, [0]⟩,
 ⟨some 2, .mv, [.c (.bool false)], none, []⟩])
 (.seq (.reg [⟨some 3, .mv, [.c (.fn (.func 76) [] [])], none, [2]⟩])
 (.seq (.reg [⟨some 4, (.faddr 0), [.r 1], none, []⟩,
 ⟨some 5, .ld1, [.r 4], none, [4]⟩,
 ⟨some 6, (.faddr 1), [.r 1], none, []⟩,
 ⟨some 7, .ld1, [.r 6], none, [6]⟩,
 ⟨some 8, (.faddr 3), [.r 1], none, []⟩,
 ⟨some 9, .ld1, [.r 8], none, [8]⟩,
 ⟨some 10, (.faddr 5), [.r 1], none, []⟩,
 ⟨some 11, .ld1, [.r 10], none, [10]⟩,
 ⟨some 12, (.faddr 6), [.r 1], none, []⟩,
 ⟨some 13, .ld1, [.r 12], none, [12]⟩,
 ⟨some 14, (.bslice 1 5 [(.int .i64 0), (.int .i64 0), (.int .i64 0), (.int .i64 0), (.int .i64 0)] [(0, 1), (1, 1), (2, 1), (3, 1), (4, 1)]), [.r 5, .r 7, .r 9, .r 11, .r 13], none, [5, 7, 9, 11, 13]⟩,
 ⟨some 15, .mv, [.r 3], none, [3]⟩,
 ⟨some 16, (.call 73), [.r 14, .r 15], none, [14, 15]⟩,
 ⟨some 17, (.un .not), [.r 16], none, [16]⟩,
 ⟨some 18, .mv, [.r 17], none, [17]⟩,
 ⟨some 19, (.faddr 2), [.r 1], (some (18, true)), []⟩,
 ⟨some 20, .ld1, [.r 19], (some (18, true)), [19]⟩,
 ⟨some 21, (.call 55), [.r 20, .c (.int .i64 (-1)), .c (.int .i64 1)], (some (18, true)), [20]⟩,
 ⟨some 22, .pick, [.r 18, .r 21, .c (.bool false)], none, [18, 21]⟩,
 ⟨some 23, .mv, [.r 22], none, [22]⟩,
 ⟨some 24, (.faddr 4), [.r 1], (some (23, true)), []⟩,
 ⟨some 25, .ld1, [.r 24], (some (23, true)), [24]⟩,
 ⟨some 26, (.call 55), [.r 25, .c (.int .i64 (-1)), .c (.int .i64 4611686018427387904)], (some (23, true)), [25]⟩,
 ⟨some 27, .pick, [.r 23, .r 26, .c (.bool false)], none, [23, 26]⟩,
 ⟨some 28, .mv, [.r 27], none, [27]⟩,
 ⟨some 29, (.faddr 7), [.r 1], (some (28, true)), [1]⟩,
 ⟨some 30, (.ldn 3), [.r 29], (some (28, true)), [29]⟩,
 ⟨some 31, (.call 77), [.r 30], (some (28, true)), [30]⟩,
 ⟨some 32, .pick, [.r 28, .r 31, .c (.bool false)], none, [28, 31]⟩,
 ⟨some 2, .mv, [.r 32], none, [32]⟩])
 .ret)))
def rs54 : List SR := [.tmp 2]
theorem acall54 (hn : args.length ≤ 33) (h : ac Try.prog c54 (argEnv 0 args) H (Fin H rs54 v H')) : ACall Try.prog 54 args H v H' :=
 acall Try.func54 (c := Try.f54.body.getD .skip) rfl (by kernel_rfl) (by kernel_rfl) hn h
def c55 : SC :=
 (.seq (.reg [⟨some 6, .mv, [.c (.bool false)], none, []⟩])
 (.seq (.reg [⟨some 7, .mv, [.r 0], none, [6]⟩,
 ⟨some 8, .mv, [.r 1], none, [1]⟩,
 ⟨some 9, (.bin .geq), [.r 7, .r 8], none, [7, 8]⟩,
 ⟨some 10, .mv, [.r 9], none, [9]⟩,
 ⟨some 11, .mv, [.r 0], (some (10, true)), [0]⟩,
 ⟨some 12, .mv, [.r 2], (some (10, true)), [2]⟩,
 ⟨some 13, (.bin .leq), [.r 11, .r 12], (some (10, true)), [11, 12]⟩,
 ⟨some 14, .pick, [.r 10, .r 13, .c (.bool false)], none, [10, 13]⟩,
 ⟨some 6, .mv, [.r 14], none, [14]⟩])
 .ret))
def rs55 : List SR := [.tmp 6]
theorem acall55 (hn : args.length ≤ 15) (h : ac Try.prog c55 (argEnv 0 args) H (Fin H rs55 v H')) : ACall Try.prog 55 args H v H' :=
 acall Try.func55 (c := Try.f55.body.getD .skip) rfl (by kernel_rfl) (by kernel_rfl) hn h
def c58 : SC :=
 (.seq (.reg [⟨some 2, .mv, [.c (.bool false)], none, []⟩])
 (.seq (.dreg [⟨0, 0, false, false, ⟨some 8, .mv, [.r 0], none, [2]⟩, []⟩,
 ⟨1, 1, false, false, ⟨some 9, .nilchk, [.r 8], none, [8]⟩, []⟩,
 ⟨2, 3, false, false, ⟨some 10, (.faddr 27), [.r 9], none, [9]⟩, []⟩,
 ⟨3, 7, false, false, ⟨some 11, .ld1, [.r 10], none, [10]⟩, []⟩,
 ⟨4, 15, false, false, ⟨some 12, (.iaddrS 1), [.r 11, .c (.int .i64 0)], none, [11]⟩, []⟩,
 ⟨5, 31, false, false, ⟨some 13, .ld1, [.r 12], none, [12]⟩, []⟩,
 ⟨6, 0, false, false, ⟨some 14, .mv, [.r 0], none, []⟩, []⟩,
 ⟨7, 64, false, false, ⟨some 15, .nilchk, [.r 14], none, [14]⟩, []⟩,
 ⟨8, 192, false, false, ⟨some 16, (.faddr 27), [.r 15], none, [15]⟩, []⟩,
 ⟨9, 448, false, false, ⟨some 17, .ld1, [.r 16], none, [16]⟩, []⟩,
 ⟨10, 960, false, false, ⟨some 18, (.iaddrS 1), [.r 17, .c (.int .i64 1)], none, [17]⟩, []⟩,
 ⟨11, 1984, false, false, ⟨some 19, .ld1, [.r 18], none, [18]⟩, []⟩,
 ⟨12, 0, false, false, ⟨some 20, .mv, [.r 0], none, []⟩, []⟩,
 ⟨13, 4096, false, false, ⟨some 21, .nilchk, [.r 20], none, [20]⟩, []⟩,
 ⟨14, 12288, false, false, ⟨some 22, (.faddr 27), [.r 21], none, [21]⟩, []⟩,
 ⟨15, 28672, false, false, ⟨some 23, .ld1, [.r 22], none, [22]⟩, []⟩,
 ⟨16, 61440, false, false, ⟨some 24, (.iaddrS 1), [.r 23, .c (.int .i64 2)], none, [23]⟩, []⟩,
 ⟨17, 126976, false, false, ⟨some 25, .ld1, [.r 24], none, [24]⟩, []⟩,
 ⟨18, 63, false, false, ⟨some 3, .mv, [.r 13], none, [13]⟩, []⟩,
 ⟨19, 266239, false, false, ⟨some 4, .mv, [.r 19], none, [19]⟩, []⟩,
 ⟨20, 1048575, false, false, ⟨some 5, .mv, [.r 25], none, [25]⟩, []⟩])
 (.seq (.seq (.reg [⟨some 26, .mv, [.r 3], none, []⟩,
 ⟨some 27, (.call 55), [.r 26, .c (.int .i64 0), .c (.int .i64 1)], none, [26]⟩,
 ⟨some 28, (.un .not), [.r 27], none, [27]⟩,
 ⟨some 29, .mv, [.r 28], none, [28]⟩,
 ⟨some 30, .mv, [.r 4], (some (29, false)), []⟩,
 ⟨some 31, (.call 55), [.r 30, .c (.int .i64 0), .c (.int .i64 4611686018427387904)], (some (29, false)), [30]⟩,
 ⟨some 32, (.un .not), [.r 31], (some (29, false)), [31]⟩,
 ⟨some 33, .pick, [.r 29, .c (.bool true), .r 32], none, [29, 32]⟩,
 ⟨some 34, .mv, [.r 33], none, [33]⟩,
 ⟨some 35, .mv, [.r 5], (some (34, false)), []⟩,
 ⟨some 36, (.call 55), [.r 35, .c (.int .i64 0), .c (.int .i64 4611686018427387904)], (some (34, false)), [35]⟩,
 ⟨some 37, (.un .not), [.r 36], (some (34, false)), [36]⟩,
 ⟨some 38, .pick, [.r 34, .c (.bool true), .r 37], none, [34, 37]⟩])
 (.cond (.r 38)
 (.kl [0, 3, 4, 5, 38] (.seq (.reg [⟨some 2, .mv, [.c (.bool false)], none, []⟩])
 .ret))
 (.kl [38] .skip)))
 (.seq (.freg [⟨0, 0, false, false, ⟨some 40, .mv, [.r 0], none, []⟩, []⟩,
 ⟨1, 1, false, false, ⟨some 41, .nilchk, [.r 40], none, [40]⟩, []⟩,
 ⟨2, 3, false, false, ⟨some 42, (.faddr 0), [.r 41], none, [41]⟩, []⟩,
 ⟨3, 7, false, false, ⟨some 43, (.faddr 0), [.r 42], none, [42]⟩, []⟩,
 ⟨4, 15, false, false, ⟨some 44, (.ldn 5), [.r 43], none, [43]⟩, []⟩,
 ⟨5, 0, false, false, ⟨some 45, .mv, [.r 0], none, []⟩, []⟩,
 ⟨6, 32, false, false, ⟨some 46, .nilchk, [.r 45], none, [45]⟩, []⟩,
 ⟨7, 96, false, false, ⟨some 47, (.faddr 0), [.r 46], none, [46]⟩, []⟩,
 ⟨8, 224, false, false, ⟨some 48, (.faddr 19), [.r 47], none, [47]⟩, []⟩,
 ⟨9, 480, false, false, ⟨some 49, (.ldn 3), [.r 48], none, [48]⟩, []⟩,
 ⟨10, 0, false, false, ⟨some 50, .mv, [.r 0], none, []⟩, []⟩,
 ⟨11, 1024, false, true, ⟨some 51, (.call 80), [.r 50], none, [50]⟩, []⟩,
 ⟨12, 0, false, false, ⟨some 52, .mv, [.r 0], none, []⟩, []⟩,
 ⟨13, 7168, false, true, ⟨some 53, (.call 81), [.r 52], none, [52]⟩, []⟩,
 ⟨14, 16383, false, true, ⟨some 54, (.call 79), [.r 44, .r 49, .r 51, .r 53], none, [44, 49, 51, 53]⟩, []⟩,
 ⟨15, 32767, false, false, ⟨some 39, .mv, [.r 54], none, [54]⟩, []⟩,
 ⟨16, 65535, false, false, ⟨some 55, (.ext 0), [.r 39], none, []⟩, []⟩,
 ⟨17, 65535, false, false, ⟨some 56, (.ext 1), [.r 39], none, [39]⟩, []⟩]
 [⟨18, 0, false, true, ⟨some 6, (.alloc [(.int .i64 0), (.int .i64 0), (.int .i64 0)]), [], none, []⟩, []⟩]
 [⟨19, 393215, false, false, ⟨none, (.st 3), [.r 6, .r 55], none, [55]⟩, []⟩,
 ⟨20, 1048575, false, false, ⟨some 7, .mv, [.r 56], none, [56]⟩, []⟩])
 (.seq (.seq (.reg [⟨some 57, .mv, [.r 7], none, []⟩,
 ⟨some 58, (.bin .eql), [.r 57, .c (.int .i64 0)], none, [57]⟩,
 ⟨some 59, .mv, [.r 58], none, [58]⟩,
 ⟨some 60, .mv, [.r 7], (some (59, false)), []⟩,
 ⟨some 61, (.bin .gtr), [.r 60, .c (.int .i64 1)], (some (59, false)), [60]⟩,
 ⟨some 62, .mv, [.r 61], (some (59, false)), [61]⟩,
 ⟨some 63, .mv, [.r 0], (some (62, true)), []⟩,
 ⟨some 64, .nilchk, [.r 63], (some (62, true)), [63]⟩,
 ⟨some 65, (.faddr 0), [.r 64], (some (62, true)), [64]⟩,
 ⟨some 66, (.faddr 9), [.r 65], (some (62, true)), [65]⟩,
 ⟨some 67, (.faddr 1), [.r 66], (some (62, true)), [66]⟩,
 ⟨some 68, .ld1, [.r 67], (some (62, true)), [67]⟩,
 ⟨some 69, (.bin .eql), [.r 68, .c (.int .i64 4611686018427387904)], (some (62, true)), [68]⟩,
 ⟨some 70, .pick, [.r 62, .r 69, .c (.bool false)], (some (59, false)), [62, 69]⟩,
 ⟨some 71, .pick, [.r 59, .c (.bool true), .r 70], none, [59, 70]⟩,
 ⟨some 72, .mv, [.r 71], none, [71]⟩,
 ⟨some 73, .mv, [.r 7], (some (72, false)), []⟩,
 ⟨some 74, (.bin .eql), [.r 73, .c (.int .i64 4)], (some (72, false)), [73]⟩,
 ⟨some 75, .mv, [.r 74], (some (72, false)), [74]⟩,
 ⟨some 76, .mv, [.r 0], (some (75, true)), []⟩,
 ⟨some 77, .nilchk, [.r 76], (some (75, true)), [76]⟩,
 ⟨some 78, (.faddr 0), [.r 77], (some (75, true)), [77]⟩,
 ⟨some 79, (.faddr 9), [.r 78], (some (75, true)), [78]⟩,
 ⟨some 80, (.faddr 0), [.r 79], (some (75, true)), [79]⟩,
 ⟨some 81, .ld1, [.r 80], (some (75, true)), [80]⟩,
 ⟨some 82, (.bin .eql), [.r 81, .c (.int .i64 4611686018427387904)], (some (75, true)), [81]⟩,
 ⟨some 83, .pick, [.r 75, .r 82, .c (.bool false)], (some (72, false)), [75, 82]⟩,
 ⟨some 84, .pick, [.r 72, .c (.bool true), .r 83], none, [72, 83]⟩])
 (.cond (.r 84)
 (.kl [0, 3, 4, 5, 6, 7, 84] (.seq (.reg [⟨some 2, .mv, [.c (.bool false)], none, []⟩])
 .ret))
 (.kl [84] .skip)))
 (.seq (.reg [⟨some 85, .mv, [.r 0], none, []⟩,
 ⟨some 86, (.ldn 3), [.r 6], none, [6]⟩,
 ⟨some 87, .nilchk, [.r 85], none, [85]⟩,
 ⟨some 88, (.faddr 0), [.r 87], none, [87]⟩,
 ⟨some 89, (.faddr 19), [.r 88], none, [88]⟩,
 ⟨none, (.st 3), [.r 89, .r 86], none, [86, 89]⟩])
 (.seq (.seq (.reg [⟨some 90, .mv, [.r 7], none, [7]⟩])
 (.block 0 (.seq (.block 3 (.seq (.block 2 (.seq (.block 1 (.seq (.seq (.seq (.reg [⟨some 92, (.bin .eql), [.r 90, .c (.int .i64 4)], none, []⟩,
 ⟨some 91, .mv, [.r 92], none, [92]⟩])
 (.cond (.r 91)
 (.kl [90, 91] (.exit 1))
 (.kl [91] .skip)))
 (.seq (.seq (.reg [⟨some 94, (.bin .eql), [.r 90, .c (.int .i64 3)], none, []⟩,
 ⟨some 93, .mv, [.r 94], none, [94]⟩])
 (.cond (.r 93)
 (.kl [90, 93] (.exit 2))
 (.kl [3, 4, 93] .skip)))
 (.seq (.reg [⟨some 96, (.bin .eql), [.r 90, .c (.int .i64 2)], none, [90]⟩,
 ⟨some 95, .mv, [.r 96], none, [96]⟩])
 (.cond (.r 95)
 (.kl [95] (.exit 3))
 (.kl [95] .skip)))))
 (.exit 0)))
 (.seq (.reg [⟨some 97, .mv, [.r 0], none, []⟩,
 ⟨some 98, .nilchk, [.r 97], none, []⟩,
 ⟨some 99, (.faddr 0), [.r 98], none, [98]⟩,
 ⟨some 100, (.faddr 9), [.r 99], none, [99]⟩,
 ⟨some 101, (.faddr 0), [.r 100], none, [100]⟩,
 ⟨some 102, .ld1, [.r 101], none, [101]⟩,
 ⟨some 103, (.bin .add), [.r 102, .c (.int .i64 1)], none, [102]⟩,
 ⟨some 104, .nilchk, [.r 97], none, [97]⟩,
 ⟨some 105, (.faddr 0), [.r 104], none, [104]⟩,
 ⟨some 106, (.faddr 9), [.r 105], none, [105]⟩,
 ⟨some 107, (.faddr 0), [.r 106], none, [106]⟩,
 ⟨none, (.st 1), [.r 107, .r 103], none, [103, 107]⟩])
 (.reg [⟨some 108, .mv, [.r 0], none, []⟩,
 ⟨some 109, .nilchk, [.r 108], none, [108]⟩,
 ⟨some 110, (.faddr 0), [.r 109], none, [109]⟩,
 ⟨some 111, (.faddr 9), [.r 110], none, [110]⟩,
 ⟨some 112, (.faddr 6), [.r 111], none, [111]⟩,
 ⟨none, (.st 1), [.r 112, .c (.int .i64 0)], none, [112]⟩]))))
 (.reg [⟨some 113, .mv, [.r 0], none, []⟩,
 ⟨some 114, .mv, [.r 0], none, []⟩,
 ⟨some 115, .mv, [.r 0], none, []⟩,
 ⟨some 116, .mv, [.r 3], none, [3]⟩,
 ⟨some 117, .mv, [.r 4], none, [4]⟩,
 ⟨some 118, .nilchk, [.r 113], none, [113]⟩,
 ⟨some 119, (.faddr 0), [.r 118], none, [118]⟩,
 ⟨some 120, (.faddr 9), [.r 119], none, [119]⟩,
 ⟨some 121, (.faddr 2), [.r 120], none, [120]⟩,
 ⟨none, (.st 1), [.r 121, .r 116], none, [116, 121]⟩,
 ⟨some 122, .nilchk, [.r 114], none, [114]⟩,
 ⟨some 123, (.faddr 0), [.r 122], none, [122]⟩,
 ⟨some 124, (.faddr 9), [.r 123], none, [123]⟩,
 ⟨some 125, (.faddr 3), [.r 124], none, [124]⟩,
 ⟨none, (.st 1), [.r 125, .r 117], none, [117, 125]⟩,
 ⟨some 126, .nilchk, [.r 115], none, [115]⟩,
 ⟨some 127, (.faddr 0), [.r 126], none, [126]⟩,
 ⟨some 128, (.faddr 9), [.r 127], none, [127]⟩,
 ⟨some 129, (.faddr 4), [.r 128], none, [128]⟩,
 ⟨none, (.st 1), [.r 129, .c (.int .i64 (-1))], none, [129]⟩])))
 (.seq (.seq (.reg [⟨some 130, .mv, [.r 0], none, []⟩,
 ⟨some 131, .nilchk, [.r 130], none, []⟩,
 ⟨some 132, (.faddr 0), [.r 131], none, [131]⟩,
 ⟨some 133, (.faddr 9), [.r 132], none, [132]⟩,
 ⟨some 134, (.faddr 1), [.r 133], none, [133]⟩,
 ⟨some 135, .ld1, [.r 134], none, [134]⟩,
 ⟨some 136, (.bin .add), [.r 135, .c (.int .i64 1)], none, [135]⟩,
 ⟨some 137, .nilchk, [.r 130], none, [130]⟩,
 ⟨some 138, (.faddr 0), [.r 137], none, [137]⟩,
 ⟨some 139, (.faddr 9), [.r 138], none, [138]⟩,
 ⟨some 140, (.faddr 1), [.r 139], none, [139]⟩,
 ⟨none, (.st 1), [.r 140, .r 136], none, [136, 140]⟩])
 (.seq (.reg [⟨some 141, .mv, [.r 0], none, []⟩,
 ⟨some 142, .nilchk, [.r 141], none, [141]⟩,
 ⟨some 143, (.faddr 0), [.r 142], none, [142]⟩,
 ⟨some 144, (.faddr 9), [.r 143], none, [143]⟩,
 ⟨some 145, (.faddr 5), [.r 144], none, [144]⟩,
 ⟨none, (.st 1), [.r 145, .c (.int .i64 0)], none, [145]⟩])
 (.seq (.reg [⟨some 146, .mv, [.r 0], none, []⟩,
 ⟨some 147, (.call 82), [.r 146], none, [146]⟩,
 ⟨some 148, (.un .not), [.r 147], none, [147]⟩])
 (.cond (.r 148)
 (.kl [0, 5, 148] (.seq (.reg [⟨some 2, .mv, [.c (.bool false)], none, []⟩])
 .ret))
 (.kl [148] .skip)))))
 (.exit 0)))))
 (.seq (.reg [⟨some 149, .mv, [.r 0], none, []⟩,
 ⟨some 150, .mv, [.r 0], none, [0]⟩,
 ⟨some 151, .nilchk, [.r 150], none, [150]⟩,
 ⟨some 152, (.faddr 0), [.r 151], none, [151]⟩,
 ⟨some 153, (.faddr 0), [.r 152], none, [152]⟩,
 ⟨some 154, (.faddr 0), [.r 153], none, [153]⟩,
 ⟨some 155, .ld1, [.r 154], none, [154]⟩,
 ⟨some 156, .mv, [.r 5], none, [5]⟩,
 ⟨some 157, (.call 83), [.r 149, .r 155, .r 156], none, [149, 155, 156]⟩])
 (.seq (.reg [⟨some 2, .mv, [.c (.bool true)], none, [157]⟩])
 .ret)))))))))
def rs58 : List SR := [.tmp 2]
theorem acallK58 (hn : args.length ≤ 158) (h : ac Try.prog c58 (argEnv 0 args) H (FinK rs58 v H')) : ACall Try.prog 58 args H v H' :=
 acallK Try.func58 (c := Try.f58.body.getD .skip) rfl (by kernel_rfl) (by kernel_rfl) hn h
def c59 : SC :=
 (.seq (.reg [⟨some 2, .mv, [.c (.bool false)], none, []⟩])
 (.seq (.dreg [⟨0, 0, false, false, ⟨some 6, .mv, [.r 0], none, [2]⟩, []⟩,
 ⟨1, 1, false, false, ⟨some 7, .nilchk, [.r 6], none, [6]⟩, []⟩,
 ⟨2, 3, false, false, ⟨some 8, (.faddr 27), [.r 7], none, [7]⟩, []⟩,
 ⟨3, 7, false, false, ⟨some 9, .ld1, [.r 8], none, [8]⟩, []⟩,
 ⟨4, 15, false, false, ⟨some 10, (.iaddrS 1), [.r 9, .c (.int .i64 2)], none, [9]⟩, []⟩,
 ⟨5, 31, false, false, ⟨some 11, .ld1, [.r 10], none, [10]⟩, []⟩,
 ⟨6, 0, false, false, ⟨some 12, .mv, [.r 0], none, []⟩, []⟩,
 ⟨7, 64, false, false, ⟨some 13, .nilchk, [.r 12], none, [12]⟩, []⟩,
 ⟨8, 192, false, false, ⟨some 14, (.faddr 27), [.r 13], none, [13]⟩, []⟩,
 ⟨9, 448, false, false, ⟨some 15, .ld1, [.r 14], none, [14]⟩, []⟩,
 ⟨10, 960, false, false, ⟨some 16, (.iaddrS 1), [.r 15, .c (.int .i64 3)], none, [15]⟩, []⟩,
 ⟨11, 1984, false, false, ⟨some 17, .ld1, [.r 16], none, [16]⟩, []⟩,
 ⟨12, 0, false, false, ⟨some 18, .mv, [.r 0], none, []⟩, []⟩,
 ⟨13, 4096, false, false, ⟨some 19, .nilchk, [.r 18], none, [18]⟩, []⟩,
 ⟨14, 12288, false, false, ⟨some 20, (.faddr 27), [.r 19], none, [19]⟩, []⟩,
 ⟨15, 28672, false, false, ⟨some 21, .ld1, [.r 20], none, [20]⟩, []⟩,
 ⟨16, 61440, false, false, ⟨some 22, (.iaddrS 1), [.r 21, .c (.int .i64 4)], none, [21]⟩, []⟩,
 ⟨17, 126976, false, false, ⟨some 23, .ld1, [.r 22], none, [22]⟩, []⟩,
 ⟨18, 63, false, false, ⟨some 3, .mv, [.r 11], none, [11]⟩, []⟩,
 ⟨19, 266239, false, false, ⟨some 4, .mv, [.r 17], none, [17]⟩, []⟩,
 ⟨20, 1048575, false, false, ⟨some 5, .mv, [.r 23], none, [23]⟩, []⟩])
 (.seq (.seq (.reg [⟨some 24, .mv, [.r 0], none, []⟩,
 ⟨some 25, (.call 80), [.r 24], none, [24]⟩,
 ⟨some 26, (.un .not), [.r 25], none, [25]⟩,
 ⟨some 27, .mv, [.r 26], none, [26]⟩,
 ⟨some 28, .mv, [.r 3], (some (27, false)), [3]⟩,
 ⟨some 29, .mv, [.r 0], (some (27, false)), []⟩,
 ⟨some 30, .nilchk, [.r 29], (some (27, false)), [29]⟩,
 ⟨some 31, (.faddr 0), [.r 30], (some (27, false)), [30]⟩,
 ⟨some 32, (.faddr 9), [.r 31], (some (27, false)), [31]⟩,
 ⟨some 33, (.faddr 1), [.r 32], (some (27, false)), [32]⟩,
 ⟨some 34, .ld1, [.r 33], (some (27, false)), [33]⟩,
 ⟨some 35, (.bin .neq), [.r 28, .r 34], (some (27, false)), [28, 34]⟩,
 ⟨some 36, .pick, [.r 27, .c (.bool true), .r 35], none, [27, 35]⟩,
 ⟨some 37, .mv, [.r 36], none, [36]⟩,
 ⟨some 38, .mv, [.r 5], (some (37, false)), []⟩,
 ⟨some 39, (.call 55), [.r 38, .c (.int .i64 (-1)), .c (.int .i64 4611686018427387904)], (some (37, false)), [38]⟩,
 ⟨some 40, (.un .not), [.r 39], (some (37, false)), [39]⟩,
 ⟨some 41, .pick, [.r 37, .c (.bool true), .r 40], none, [37, 40]⟩])
 (.cond (.r 41)
 (.kl [0, 4, 5, 41] (.seq (.reg [⟨some 2, .mv, [.c (.bool false)], none, []⟩])
 .ret))
 (.kl [41] .skip)))
 (.seq (.seq (.reg [⟨some 42, .mv, [.r 4], none, []⟩,
 ⟨some 43, .mv, [.r 0], none, []⟩,
 ⟨some 44, .nilchk, [.r 43], none, [43]⟩,
 ⟨some 45, (.faddr 0), [.r 44], none, [44]⟩,
 ⟨some 46, (.faddr 9), [.r 45], none, [45]⟩,
 ⟨some 47, (.faddr 5), [.r 46], none, [46]⟩,
 ⟨some 48, .ld1, [.r 47], none, [47]⟩,
 ⟨some 49, (.bin .gtr), [.r 42, .r 48], none, [42, 48]⟩,
 ⟨some 50, .mv, [.r 49], none, [49]⟩,
 ⟨some 51, .mv, [.r 4], (some (50, true)), []⟩,
 ⟨some 52, (.bin .leq), [.r 51, .c (.int .i64 4611686018427387904)], (some (50, true)), [51]⟩,
 ⟨some 53, .pick, [.r 50, .r 52, .c (.bool false)], none, [50, 52]⟩])
 (.cond (.r 53)
 (.kl [53] (.seq (.reg [⟨some 54, .mv, [.r 0], none, []⟩,
 ⟨some 55, .mv, [.r 0], none, []⟩,
 ⟨some 56, .mv, [.r 4], none, [4]⟩,
 ⟨some 57, .mv, [.r 5], none, [5]⟩,
 ⟨some 58, .nilchk, [.r 54], none, [54]⟩,
 ⟨some 59, (.faddr 0), [.r 58], none, [58]⟩,
 ⟨some 60, (.faddr 9), [.r 59], none, [59]⟩,
 ⟨some 61, (.faddr 5), [.r 60], none, [60]⟩,
 ⟨none, (.st 1), [.r 61, .r 56], none, [56, 61]⟩,
 ⟨some 62, .nilchk, [.r 55], none, [55]⟩,
 ⟨some 63, (.faddr 0), [.r 62], none, [62]⟩,
 ⟨some 64, (.faddr 9), [.r 63], none, [63]⟩,
 ⟨some 65, (.faddr 4), [.r 64], none, [64]⟩,
 ⟨none, (.st 1), [.r 65, .r 57], none, [57, 65]⟩])
 (.seq (.reg [⟨some 66, .mv, [.r 0], none, []⟩,
 ⟨some 67, (.call 82), [.r 66], none, [66]⟩,
 ⟨some 68, (.un .not), [.r 67], none, [67]⟩])
 (.cond (.r 68)
 (.kl [0, 68] (.seq (.reg [⟨some 2, .mv, [.c (.bool false)], none, []⟩])
 .ret))
 (.kl [68] .skip)))))
 (.kl [4, 5, 53] .skip)))
 (.seq (.reg [⟨some 69, .mv, [.r 0], none, []⟩,
 ⟨some 70, .mv, [.r 0], none, [0]⟩,
 ⟨some 71, .nilchk, [.r 70], none, [70]⟩,
 ⟨some 72, (.faddr 0), [.r 71], none, [71]⟩,
 ⟨some 73, (.faddr 19), [.r 72], none, [72]⟩,
 ⟨some 74, (.ldn 3), [.r 73], none, [73]⟩,
 ⟨some 75, (.call 84), [.r 74], none, [74]⟩,
 ⟨some 76, (.call 83), [.r 69, .r 75, .c (.int .i64 0)], none, [69, 75]⟩])
 (.seq (.reg [⟨some 2, .mv, [.c (.bool true)], none, [76]⟩])
 .ret))))))
def rs59 : List SR := [.tmp 2]
theorem acallK59 (hn : args.length ≤ 77) (h : ac Try.prog c59 (argEnv 0 args) H (FinK rs59 v H')) : ACall Try.prog 59 args H v H' :=
 acallK Try.func59 (c := Try.f59.body.getD .skip) rfl (by kernel_rfl) (by kernel_rfl) hn h
def c60 : SC :=
 (.seq (.reg [⟨some 2, .mv, [.c (.bool false)], none, []⟩])
 (.seq (.freg [⟨0, 0, false, false, ⟨some 4, .mv, [.r 0], none, [2]⟩, []⟩,
 ⟨1, 1, false, false, ⟨some 5, .nilchk, [.r 4], none, [4]⟩, []⟩,
 ⟨2, 3, false, false, ⟨some 6, (.faddr 27), [.r 5], none, [5]⟩, []⟩,
 ⟨3, 7, false, false, ⟨some 7, .ld1, [.r 6], none, [6]⟩, []⟩,
 ⟨4, 15, false, false, ⟨some 8, (.iaddrS 1), [.r 7, .c (.int .i64 5)], none, [7]⟩, []⟩,
 ⟨5, 31, false, false, ⟨some 9, .ld1, [.r 8], none, [8]⟩, []⟩,
 ⟨6, 0, false, false, ⟨some 10, .mv, [.r 0], none, []⟩, []⟩,
 ⟨7, 64, false, false, ⟨some 11, .nilchk, [.r 10], none, [10]⟩, []⟩,
 ⟨8, 192, false, false, ⟨some 12, (.faddr 27), [.r 11], none, [11]⟩, []⟩,
 ⟨9, 448, false, false, ⟨some 13, .ld1, [.r 12], none, [12]⟩, []⟩,
 ⟨10, 960, false, false, ⟨some 14, (.iaddrS 1), [.r 13, .c (.int .i64 6)], none, [13]⟩, []⟩,
 ⟨11, 1984, false, false, ⟨some 15, .ld1, [.r 14], none, [14]⟩, []⟩,
 ⟨12, 0, false, false, ⟨some 16, .mv, [.r 0], none, []⟩, []⟩,
 ⟨13, 4096, false, false, ⟨some 17, .nilchk, [.r 16], none, [16]⟩, []⟩,
 ⟨14, 12288, false, false, ⟨some 18, (.faddr 27), [.r 17], none, [17]⟩, []⟩,
 ⟨15, 28672, false, false, ⟨some 19, .ld1, [.r 18], none, [18]⟩, []⟩,
 ⟨16, 61440, false, false, ⟨some 20, (.iaddrS 1), [.r 19, .c (.int .i64 7)], none, [19]⟩, []⟩,
 ⟨17, 126976, false, false, ⟨some 21, .ld1, [.r 20], none, [20]⟩, []⟩,
 ⟨18, 262143, false, false, ⟨some 22, (.build [(.int .i64 0), (.int .i64 0), (.int .i64 0)] [(0, 1), (1, 1), (2, 1)]), [.r 9, .r 15, .r 21], none, [9, 15, 21]⟩, []⟩]
 [⟨19, 0, false, true, ⟨some 3, (.alloc [(.int .i64 0), (.int .i64 0), (.int .i64 0)]), [], none, []⟩, []⟩]
 [⟨20, 1048575, false, false, ⟨none, (.st 3), [.r 3, .r 22], none, [22]⟩, []⟩])
 (.seq (.seq (.dreg [⟨0, 0, false, false, ⟨some 23, .mv, [.r 0], none, []⟩, []⟩,
 ⟨1, 1, false, false, ⟨some 24, (.call 80), [.r 23], none, [23]⟩, []⟩,
 ⟨2, 3, false, false, ⟨some 25, (.un .not), [.r 24], none, [24]⟩, []⟩,
 ⟨3, 7, false, false, ⟨some 26, .mv, [.r 25], none, [25]⟩, []⟩,
 ⟨4, 15, false, false, ⟨some 27, .mv, [.r 0], (some (26, false)), []⟩, []⟩,
 ⟨5, 31, false, false, ⟨some 28, .nilchk, [.r 27], (some (26, false)), [27]⟩, []⟩,
 ⟨6, 63, false, false, ⟨some 29, (.faddr 27), [.r 28], (some (26, false)), [28]⟩, []⟩,
 ⟨7, 127, false, false, ⟨some 30, .ld1, [.r 29], (some (26, false)), [29]⟩, []⟩,
 ⟨8, 255, false, false, ⟨some 31, (.iaddrS 1), [.r 30, .c (.int .i64 2)], (some (26, false)), [30]⟩, []⟩,
 ⟨9, 511, false, false, ⟨some 32, .ld1, [.r 31], (some (26, false)), [31]⟩, []⟩,
 ⟨10, 15, false, false, ⟨some 33, .mv, [.r 0], (some (26, false)), []⟩, []⟩,
 ⟨11, 1039, false, false, ⟨some 34, .nilchk, [.r 33], (some (26, false)), [33]⟩, []⟩,
 ⟨12, 3087, false, false, ⟨some 35, (.faddr 0), [.r 34], (some (26, false)), [34]⟩, []⟩,
 ⟨13, 7183, false, false, ⟨some 36, (.faddr 9), [.r 35], (some (26, false)), [35]⟩, []⟩,
 ⟨14, 15375, false, false, ⟨some 37, (.faddr 0), [.r 36], (some (26, false)), [36]⟩, []⟩,
 ⟨15, 31759, false, false, ⟨some 38, .ld1, [.r 37], (some (26, false)), [37]⟩, []⟩,
 ⟨16, 65535, false, false, ⟨some 39, (.bin .neq), [.r 32, .r 38], (some (26, false)), [32, 38]⟩, []⟩,
 ⟨17, 131071, false, false, ⟨some 40, .pick, [.r 26, .c (.bool true), .r 39], none, [26, 39]⟩, []⟩,
 ⟨18, 262143, false, false, ⟨some 41, .mv, [.r 40], none, [40]⟩, []⟩,
 ⟨19, 524287, false, false, ⟨some 42, .mv, [.r 0], (some (41, false)), []⟩, []⟩,
 ⟨20, 1048575, false, false, ⟨some 43, .nilchk, [.r 42], (some (41, false)), [42]⟩, []⟩,
 ⟨21, 2097151, false, false, ⟨some 44, (.faddr 27), [.r 43], (some (41, false)), [43]⟩, []⟩,
 ⟨22, 4194303, false, false, ⟨some 45, .ld1, [.r 44], (some (41, false)), [44]⟩, []⟩,
 ⟨23, 8388607, false, false, ⟨some 46, (.iaddrS 1), [.r 45, .c (.int .i64 3)], (some (41, false)), [45]⟩, []⟩,
 ⟨24, 16777215, false, false, ⟨some 47, .ld1, [.r 46], (some (41, false)), [46]⟩, []⟩,
 ⟨25, 524287, false, false, ⟨some 48, .mv, [.r 0], (some (41, false)), []⟩, []⟩,
 ⟨26, 34078719, false, false, ⟨some 49, .nilchk, [.r 48], (some (41, false)), [48]⟩, []⟩,
 ⟨27, 101187583, false, false, ⟨some 50, (.faddr 0), [.r 49], (some (41, false)), [49]⟩, []⟩,
 ⟨28, 235405311, false, false, ⟨some 51, (.faddr 9), [.r 50], (some (41, false)), [50]⟩, []⟩,
 ⟨29, 503840767, false, false, ⟨some 52, (.faddr 1), [.r 51], (some (41, false)), [51]⟩, []⟩,
 ⟨30, 1040711679, false, false, ⟨some 53, .ld1, [.r 52], (some (41, false)), [52]⟩, []⟩,
 ⟨31, 2147483647, false, false, ⟨some 54, (.bin .neq), [.r 47, .r 53], (some (41, false)), [47, 53]⟩, []⟩,
 ⟨32, 4294967295, false, false, ⟨some 55, .pick, [.r 41, .c (.bool true), .r 54], none, [41, 54]⟩, []⟩,
 ⟨33, 8589934591, false, false, ⟨some 56, .mv, [.r 55], none, [55]⟩, []⟩,
 ⟨34, 17179869183, false, false, ⟨some 57, .mv, [.r 0], (some (56, false)), []⟩, []⟩,
 ⟨35, 34359738367, false, false, ⟨some 58, .nilchk, [.r 57], (some (56, false)), [57]⟩, []⟩,
 ⟨36, 68719476735, false, false, ⟨some 59, (.faddr 27), [.r 58], (some (56, false)), [58]⟩, []⟩,
 ⟨37, 137438953471, false, false, ⟨some 60, .ld1, [.r 59], (some (56, false)), [59]⟩, []⟩,
 ⟨38, 274877906943, false, false, ⟨some 61, (.iaddrS 1), [.r 60, .c (.int .i64 4)], (some (56, false)), [60]⟩, []⟩,
 ⟨39, 549755813887, false, false, ⟨some 62, .ld1, [.r 61], (some (56, false)), [61]⟩, []⟩,
 ⟨40, 17179869183, false, false, ⟨some 63, .mv, [.r 0], (some (56, false)), []⟩, []⟩,
 ⟨41, 1116691496959, false, false, ⟨some 64, .nilchk, [.r 63], (some (56, false)), [63]⟩, []⟩,
 ⟨42, 3315714752511, false, false, ⟨some 65, (.faddr 0), [.r 64], (some (56, false)), [64]⟩, []⟩,
 ⟨43, 7713761263615, false, false, ⟨some 66, (.faddr 9), [.r 65], (some (56, false)), [65]⟩, []⟩,
 ⟨44, 16509854285823, false, false, ⟨some 67, (.faddr 6), [.r 66], (some (56, false)), [66]⟩, []⟩,
 ⟨45, 34102040330239, false, false, ⟨some 68, .ld1, [.r 67], (some (56, false)), [67]⟩, []⟩,
 ⟨46, 69286412419071, false, false, ⟨some 69, (.bin .add), [.r 68, .c (.int .i64 1)], (some (56, false)), [68]⟩, []⟩,
 ⟨47, 140737488355327, false, false, ⟨some 70, (.call 55), [.r 62, .r 69, .c (.int .i64 4611686018427387904)], (some (56, false)), [62, 69]⟩, []⟩,
 ⟨48, 281474976710655, false, false, ⟨some 71, (.un .not), [.r 70], (some (56, false)), [70]⟩, []⟩,
 ⟨49, 562949953421311, false, false, ⟨some 72, .pick, [.r 56, .c (.bool true), .r 71], none, [56, 71]⟩, []⟩,
 ⟨50, 1125899906842623, false, false, ⟨some 73, .mv, [.r 72], none, [72]⟩, []⟩,
 ⟨51, 2251799813685247, false, false, ⟨some 74, (.ldn 3), [.r 3], (some (73, false)), []⟩, []⟩,
 ⟨52, 4503599627370495, false, false, ⟨some 75, (.call 77), [.r 74], (some (73, false)), [74]⟩, []⟩,
 ⟨53, 9007199254740991, false, false, ⟨some 76, (.un .not), [.r 75], (some (73, false)), [75]⟩, []⟩,
 ⟨54, 18014398509481983, false, false, ⟨some 77, .pick, [.r 73, .c (.bool true), .r 76], none, [73, 76]⟩, []⟩])
 (.cond (.r 77)
 (.kl [0, 3, 77] (.seq (.reg [⟨some 2, .mv, [.c (.bool false)], none, []⟩])
 .ret))
 (.kl [77] .skip)))
 (.seq (.reg [⟨some 78, .mv, [.r 0], none, []⟩,
 ⟨some 79, .mv, [.r 0], none, []⟩,
 ⟨some 80, .nilchk, [.r 79], none, [79]⟩,
 ⟨some 81, (.faddr 27), [.r 80], none, [80]⟩,
 ⟨some 82, .ld1, [.r 81], none, [81]⟩,
 ⟨some 83, (.iaddrS 1), [.r 82, .c (.int .i64 4)], none, [82]⟩,
 ⟨some 84, .ld1, [.r 83], none, [83]⟩,
 ⟨some 85, .nilchk, [.r 78], none, [78]⟩,
 ⟨some 86, (.faddr 0), [.r 85], none, [85]⟩,
 ⟨some 87, (.faddr 9), [.r 86], none, [86]⟩,
 ⟨some 88, (.faddr 6), [.r 87], none, [87]⟩,
 ⟨none, (.st 1), [.r 88, .r 84], none, [84, 88]⟩])
 (.seq (.dreg [⟨0, 0, false, false, ⟨some 89, .mv, [.r 0], none, []⟩, []⟩,
 ⟨1, 0, false, false, ⟨some 90, .mv, [.r 0], none, []⟩, []⟩,
 ⟨2, 2, false, false, ⟨some 91, .nilchk, [.r 90], none, [90]⟩, []⟩,
 ⟨3, 6, false, false, ⟨some 92, (.faddr 0), [.r 91], none, [91]⟩, []⟩,
 ⟨4, 14, false, false, ⟨some 93, (.faddr 22), [.r 92], none, [92]⟩, []⟩,
 ⟨5, 30, false, false, ⟨some 94, (.ldn 5), [.r 93], none, [93]⟩, []⟩,
 ⟨6, 0, false, false, ⟨some 95, (.ldn 3), [.r 3], none, [3]⟩, []⟩,
 ⟨7, 0, false, false, ⟨some 96, .mv, [.r 0], none, []⟩, []⟩,
 ⟨8, 128, false, false, ⟨some 97, .nilchk, [.r 96], none, [96]⟩, []⟩,
 ⟨9, 384, false, false, ⟨some 98, (.faddr 0), [.r 97], none, [97]⟩, []⟩,
 ⟨10, 896, false, false, ⟨some 99, (.faddr 19), [.r 98], none, [98]⟩, []⟩,
 ⟨11, 1920, false, false, ⟨some 100, (.faddr 0), [.r 99], none, [99]⟩, []⟩,
 ⟨12, 3968, false, false, ⟨some 101, .ld1, [.r 100], none, [100]⟩, []⟩,
 ⟨13, 0, false, false, ⟨some 102, .mv, [.r 0], none, []⟩, []⟩,
 ⟨14, 8192, false, false, ⟨some 103, .nilchk, [.r 102], none, [102]⟩, []⟩,
 ⟨15, 24576, false, false, ⟨some 104, (.faddr 0), [.r 103], none, [103]⟩, []⟩,
 ⟨16, 57344, false, false, ⟨some 105, (.faddr 0), [.r 104], none, [104]⟩, []⟩,
 ⟨17, 122880, false, false, ⟨some 106, (.faddr 4), [.r 105], none, [105]⟩, []⟩,
 ⟨18, 253952, false, false, ⟨some 107, .ld1, [.r 106], none, [106]⟩, []⟩,
 ⟨19, 524286, false, false, ⟨some 108, (.call 85), [.r 94, .r 95, .r 101, .r 107], none, [94, 95, 101, 107]⟩, []⟩,
 ⟨20, 1048575, false, false, ⟨some 109, .nilchk, [.r 89], none, [89]⟩, []⟩,
 ⟨21, 2097151, false, false, ⟨some 110, (.faddr 0), [.r 109], none, [109]⟩, []⟩,
 ⟨22, 4194303, false, false, ⟨some 111, (.faddr 22), [.r 110], none, [110]⟩, []⟩,
 ⟨23, 8388607, false, false, ⟨none, (.st 5), [.r 111, .r 108], none, [108, 111]⟩, []⟩])
 (.seq (.reg [⟨some 112, .mv, [.r 0], none, []⟩,
 ⟨some 113, .mv, [.r 0], none, []⟩,
 ⟨some 114, .nilchk, [.r 113], none, [113]⟩,
 ⟨some 115, (.faddr 0), [.r 114], none, [114]⟩,
 ⟨some 116, (.faddr 22), [.r 115], none, [115]⟩,
 ⟨some 117, (.faddr 0), [.r 116], none, [116]⟩,
 ⟨some 118, (.ldn 3), [.r 117], none, [117]⟩,
 ⟨some 119, .nilchk, [.r 112], none, [112]⟩,
 ⟨some 120, (.faddr 0), [.r 119], none, [119]⟩,
 ⟨some 121, (.faddr 9), [.r 120], none, [120]⟩,
 ⟨some 122, (.faddr 7), [.r 121], none, [121]⟩,
 ⟨none, (.st 3), [.r 122, .r 118], none, [118, 122]⟩])
 (.seq (.reg [⟨some 123, .mv, [.r 0], none, []⟩,
 ⟨some 124, .nilchk, [.r 123], none, [123]⟩,
 ⟨some 125, (.faddr 29), [.r 124], none, [124]⟩,
 ⟨none, (.st 1), [.r 125, .c (.bool true)], none, [125]⟩])
 (.seq (.reg [⟨some 126, .mv, [.r 0], none, [0]⟩,
 ⟨some 127, (.call 82), [.r 126], none, [126]⟩,
 ⟨some 2, .mv, [.r 127], none, [127]⟩])
 .ret))))))))
def rs60 : List SR := [.tmp 2]
theorem acallK60 (hn : args.length ≤ 128) (h : ac Try.prog c60 (argEnv 0 args) H (FinK rs60 v H')) : ACall Try.prog 60 args H v H' :=
 acallK Try.func60 (c := Try.f60.body.getD .skip) rfl (by kernel_rfl) (by kernel_rfl) hn h
def c61 : SC :=
 (.seq (.reg [⟨some 1, .box, [.r 0], none, [0]⟩,
 ⟨some 2, .mv, [.c (.bool false)], none, []⟩])
 (.seq (.reg [⟨some 4, (.faddr 0), [.r 1], none, [2]⟩,
 ⟨some 5, .ld1, [.r 4], none, [4]⟩,
 ⟨some 6, (.call 86), [.r 5], none, [5]⟩,
 ⟨some 3, .mv, [.r 6], none, [6]⟩])
 (.seq (.reg [⟨some 7, .mv, [.r 3], none, []⟩,
 ⟨some 8, (.bin .gtr), [.r 7, .c (.int .i64 0)], none, [7]⟩,
 ⟨some 9, .mv, [.r 8], none, [8]⟩,
 ⟨some 10, (.faddr 1), [.r 1], (some (9, true)), [1]⟩,
 ⟨some 11, .ld1, [.r 10], (some (9, true)), [10]⟩,
 ⟨some 12, .len, [.r 11], (some (9, true)), [11]⟩,
 ⟨some 13, .mv, [.r 3], (some (9, true)), [3]⟩,
 ⟨some 14, (.bin .eql), [.r 12, .r 13], (some (9, true)), [12, 13]⟩,
 ⟨some 15, .pick, [.r 9, .r 14, .c (.bool false)], none, [9, 14]⟩,
 ⟨some 2, .mv, [.r 15], none, [15]⟩])
 .ret)))
def rs61 : List SR := [.tmp 2]
theorem acall61 (hn : args.length ≤ 16) (h : ac Try.prog c61 (argEnv 0 args) H (Fin H rs61 v H')) : ACall Try.prog 61 args H v H' :=
 acall Try.func61 (c := Try.f61.body.getD .skip) rfl (by kernel_rfl) (by kernel_rfl) hn h
def c66 : SC :=
 (.seq (.reg [⟨some 1, .box, [.r 0], none, [0]⟩,
 ⟨some 2, .mv, [.c (.int .i64 0)], none, []⟩])
 (.seq (.reg [⟨some 4, (.mkfn (.func 88) 0), [.r 1], none, [2]⟩,
 ⟨some 3, .mv, [.r 4], none, [4]⟩])
 (.seq (.block 0 (.seq (.dreg [⟨0, 0, false, false, ⟨some 6, .mv, [.r 3], none, []⟩, []⟩,
 ⟨1, 1, false, false, ⟨some 7, .callv, [.r 6, .c (.int .i64 0)], none, [6]⟩, []⟩,
 ⟨2, 3, false, false, ⟨some 8, .mv, [.r 7], none, [7]⟩, []⟩,
 ⟨3, 7, false, false, ⟨some 9, .mv, [.r 3], (some (8, true)), []⟩, []⟩,
 ⟨4, 15, false, false, ⟨some 10, .callv, [.r 9, .c (.int .i64 1)], (some (8, true)), [9]⟩, []⟩,
 ⟨5, 31, false, false, ⟨some 11, (.un .not), [.r 10], (some (8, true)), [10]⟩, []⟩,
 ⟨6, 63, false, false, ⟨some 12, .mv, [.r 11], (some (8, true)), [11]⟩, []⟩,
 ⟨7, 127, false, false, ⟨some 13, (.faddr 0), [.r 1], (some (12, false)), []⟩, []⟩,
 ⟨8, 255, false, false, ⟨some 14, (.iaddrA 2 2), [.r 13, .c (.int .i64 0)], (some (12, false)), [13]⟩, []⟩,
 ⟨9, 511, false, false, ⟨some 15, (.faddr 0), [.r 14], (some (12, false)), [14]⟩, []⟩,
 ⟨10, 1023, false, false, ⟨some 16, .ld1, [.r 15], (some (12, false)), [15]⟩, []⟩,
 ⟨11, 2047, false, false, ⟨some 17, (.iaddrS 1), [.r 16, .c (.int .i64 0)], (some (12, false)), [16]⟩, []⟩,
 ⟨12, 4095, false, false, ⟨some 18, .ld1, [.r 17], (some (12, false)), [17]⟩, []⟩,
 ⟨13, 127, false, false, ⟨some 19, (.faddr 0), [.r 1], (some (12, false)), [1]⟩, []⟩,
 ⟨14, 8319, false, false, ⟨some 20, (.iaddrA 2 2), [.r 19, .c (.int .i64 1)], (some (12, false)), [19]⟩, []⟩,
 ⟨15, 24703, false, false, ⟨some 21, (.faddr 0), [.r 20], (some (12, false)), [20]⟩, []⟩,
 ⟨16, 57471, false, false, ⟨some 22, .ld1, [.r 21], (some (12, false)), [21]⟩, []⟩,
 ⟨17, 123007, false, false, ⟨some 23, (.iaddrS 1), [.r 22, .c (.int .i64 0)], (some (12, false)), [22]⟩, []⟩,
 ⟨18, 254079, false, false, ⟨some 24, .ld1, [.r 23], (some (12, false)), [23]⟩, []⟩,
 ⟨19, 524287, false, false, ⟨some 25, (.bin .geq), [.r 18, .r 24], (some (12, false)), [18, 24]⟩, []⟩,
 ⟨20, 1048575, false, false, ⟨some 26, .pick, [.r 12, .c (.bool true), .r 25], (some (8, true)), [12, 25]⟩, []⟩,
 ⟨21, 2097151, false, false, ⟨some 27, .pick, [.r 8, .r 26, .c (.bool false)], none, [8, 26]⟩, []⟩,
 ⟨22, 4194303, false, false, ⟨some 5, .mv, [.r 27], none, [27]⟩, []⟩])
 (.cond (.r 5)
 (.kl [3, 5] (.seq (.reg [⟨some 2, .mv, [.c (.int .i64 0)], none, []⟩])
 .ret))
 (.kl [5] (.seq (.reg [⟨some 29, .mv, [.r 3], none, [3]⟩,
 ⟨some 30, .callv, [.r 29, .c (.int .i64 1)], none, [29]⟩,
 ⟨some 28, .mv, [.r 30], none, [30]⟩])
 (.cond (.r 28)
 (.kl [28] (.seq (.reg [⟨some 2, .mv, [.c (.int .i64 1)], none, []⟩])
 .ret))
 (.kl [28] .skip)))))))
 (.seq (.reg [⟨some 2, .mv, [.c (.int .i64 (-1))], none, []⟩])
 .ret))))
def rs66 : List SR := [.tmp 2]
theorem acall66 (hn : args.length ≤ 31) (h : ac Try.prog c66 (argEnv 0 args) H (Fin H rs66 v H')) : ACall Try.prog 66 args H v H' :=
 acall Try.func66 (c := Try.f66.body.getD .skip) rfl (by kernel_rfl) (by kernel_rfl) hn h
def c67l0 : SC :=
 (.seq (.reg [⟨some 28, (.bin .lss), [.r 27, .r 26], none, []⟩])
 (.seq (.cond (.r 28)
 (.kl [28] .skip)
 (.kl [25, 26, 27, 28] (.exit 2)))
 (.seq (.block 3 (.seq (.reg [⟨some 29, (.iaddrS 1), [.r 25, .r 27], none, []⟩,
 ⟨some 30, .ld1, [.r 29], none, [29]⟩,
 ⟨some 8, .mv, [.r 30], none, [30]⟩])
 (.reg [⟨some 31, .mv, [.r 6], none, [6]⟩,
 ⟨some 32, .mv, [.r 8], none, [8]⟩,
 ⟨some 33, (.app 1 8), [.r 31, .r 32], none, [31, 32]⟩,
 ⟨some 6, .mv, [.r 33], none, [33]⟩])))
 (.reg [⟨some 34, (.bin .add), [.r 27, .c (.int .i64 1)], none, [27]⟩,
 ⟨some 27, .mv, [.r 34], none, [34]⟩]))))
def c67l1 : SC :=
 (.seq (.reg [⟨some 12, (.bin .lss), [.r 11, .r 10], none, []⟩])
 (.seq (.cond (.r 12)
 (.kl [12] .skip)
 (.kl [9, 10, 11, 12] (.exit 0)))
 (.seq (.block 1 (.seq (.reg [⟨some 13, (.iaddrS 1), [.r 9, .r 11], none, []⟩,
 ⟨some 14, .ld1, [.r 13], none, [13]⟩,
 ⟨some 5, .mv, [.r 14], none, [14]⟩])
 (.seq (.reg [⟨some 15, .mv, [.r 3], none, [3]⟩,
 ⟨some 16, .mv, [.r 5], none, [5]⟩,
 ⟨some 17, .len, [.r 16], none, [16]⟩,
 ⟨some 18, (.bin .add), [.r 15, .r 17], none, [15, 17]⟩,
 ⟨some 3, .mv, [.r 18], none, [18]⟩])
 (.seq (.reg [⟨some 19, .mv, [.r 3], none, []⟩,
 ⟨some 20, (.bin .lss), [.r 19, .c (.int .i64 0)], none, [19]⟩])
 (.cond (.r 20)
 (.kl [20] (.reg [⟨some 21, .dead, [], none, []⟩,
 ⟨none, .dead, [], none, [21]⟩]))
 (.kl [20] .skip))))))
 (.reg [⟨some 22, (.bin .add), [.r 11, .c (.int .i64 1)], none, [11]⟩,
 ⟨some 11, .mv, [.r 22], none, [22]⟩]))))
def c67 : SC :=
 (.seq (.reg [⟨some 2, .mv, [.c .nils], none, []⟩])
 (.seq (.reg [⟨some 3, .mv, [.c (.int .i64 0)], none, [2]⟩])
 (.seq (.seq (.reg [⟨some 9, .mv, [.r 0], none, []⟩,
 ⟨some 10, .len, [.r 9], none, []⟩,
 ⟨some 11, .mv, [.c (.int .i64 0)], none, []⟩])
 (.block 0 (.loop c67l1)))
 (.seq (.reg [⟨some 23, .mv, [.r 3], none, [3]⟩,
 ⟨some 24, (.call 90), [.c .nils, .r 23], none, [23]⟩,
 ⟨some 6, .mv, [.r 24], none, [24]⟩])
 (.seq (.seq (.reg [⟨some 25, .mv, [.r 0], none, [0]⟩,
 ⟨some 26, .len, [.r 25], none, []⟩,
 ⟨some 27, .mv, [.c (.int .i64 0)], none, []⟩])
 (.block 2 (.loop c67l0)))
 (.seq (.reg [⟨some 35, .mv, [.r 6], none, [6]⟩,
 ⟨some 2, .mv, [.r 35], none, [35]⟩])
 .ret))))))
def rs67 : List SR := [.tmp 2]
theorem acall67 (hn : args.length ≤ 36) (h : ac Try.prog c67 (argEnv 0 args) H (Fin H rs67 v H')) : ACall Try.prog 67 args H v H' :=
 acall Try.func67 (c := Try.f67.body.getD .skip) rfl (by kernel_rfl) (by kernel_rfl) hn h
def c68 : SC :=
 (.seq (.reg [⟨some 2, .mv, [.c (.int .i64 0)], none, []⟩])
 (.seq (.reg [⟨some 3, .mv, [.r 0], none, [0, 2]⟩,
 ⟨some 4, .len, [.r 3], none, [3]⟩,
 ⟨some 5, (.bin .add), [.r 4, .c (.int .i64 3)], none, [4]⟩,
 ⟨some 2, .mv, [.r 5], none, [5]⟩])
 .ret))
def rs68 : List SR := [.tmp 2]
theorem acall68 (hn : args.length ≤ 6) (h : ac Try.prog c68 (argEnv 0 args) H (Fin H rs68 v H')) : ACall Try.prog 68 args H v H' :=
 acall Try.func68 (c := Try.f68.body.getD .skip) rfl (by kernel_rfl) (by kernel_rfl) hn h
def c69l0 : SC :=
 (.seq (.reg [⟨some 14, (.bin .lss), [.r 13, .c (.int .i64 8)], none, []⟩])
 (.seq (.cond (.r 14)
 (.kl [14] .skip)
 (.kl [5, 13, 14] (.exit 2)))
 (.seq (.block 3 (.seq (.reg [⟨some 15, .mv, [.r 13], none, []⟩,
 ⟨some 6, .mv, [.r 15], none, [15]⟩])
 (.reg [⟨some 16, .mv, [.r 3], none, [3]⟩,
 ⟨some 17, .mv, [.r 5], none, []⟩,
 ⟨some 18, (.conv .u64), [.r 17], none, [17]⟩,
 ⟨some 19, .mv, [.r 6], none, [6]⟩,
 ⟨some 20, (.bin .mul), [.c (.int .i64 8), .r 19], none, [19]⟩,
 ⟨some 21, (.bin .sub), [.c (.int .i64 56), .r 20], none, [20]⟩,
 ⟨some 22, (.bin .shr), [.r 18, .r 21], none, [18, 21]⟩,
 ⟨some 23, (.conv .u8), [.r 22], none, [22]⟩,
 ⟨some 24, (.bslice 1 1 [(.int .u8 0)] [(0, 1)]), [.r 23], none, [23]⟩,
 ⟨some 25, (.app 1 1), [.r 16, .r 24], none, [16, 24]⟩,
 ⟨some 3, .mv, [.r 25], none, [25]⟩])))
 (.reg [⟨some 26, (.bin .add), [.r 13, .c (.int .i64 1)], none, [13]⟩,
 ⟨some 13, .mv, [.r 26], none, [26]⟩]))))
def c69l1 : SC :=
 (.seq (.reg [⟨some 10, (.bin .lss), [.r 9, .r 8], none, []⟩])
 (.seq (.cond (.r 10)
 (.kl [10] .skip)
 (.kl [7, 8, 9, 10] (.exit 0)))
 (.seq (.block 1 (.seq (.reg [⟨some 11, (.iaddrS 1), [.r 7, .r 9], none, []⟩,
 ⟨some 12, .ld1, [.r 11], none, [11]⟩,
 ⟨some 5, .mv, [.r 12], none, [12]⟩])
 (.seq (.reg [⟨some 13, .mv, [.c (.int .i64 0)], none, []⟩])
 (.block 2 (.loop c69l0)))))
 (.reg [⟨some 27, (.bin .add), [.r 9, .c (.int .i64 1)], none, [9]⟩,
 ⟨some 9, .mv, [.r 27], none, [27]⟩]))))
def c69 : SC :=
 (.seq (.reg [⟨some 2, .mv, [.c (.int .i64 0)], none, []⟩])
 (.seq (.reg [⟨some 3, .mv, [.c .nils], none, [2]⟩])
 (.seq (.seq (.reg [⟨some 7, .mv, [.r 0], none, [0]⟩,
 ⟨some 8, .len, [.r 7], none, []⟩,
 ⟨some 9, .mv, [.c (.int .i64 0)], none, []⟩])
 (.block 0 (.loop c69l1)))
 (.seq (.reg [⟨some 28, .mv, [.r 3], none, [3]⟩,
 ⟨some 29, (.call 91), [.r 28], none, [28]⟩,
 ⟨some 30, (.conv .i64), [.r 29], none, [29]⟩,
 ⟨some 31, (.bin .add), [.r 30, .c (.int .i64 4294967296)], none, [30]⟩,
 ⟨some 2, .mv, [.r 31], none, [31]⟩])
 .ret))))
def rs69 : List SR := [.tmp 2]
theorem acall69 (hn : args.length ≤ 32) (h : ac Try.prog c69 (argEnv 0 args) H (Fin H rs69 v H')) : ACall Try.prog 69 args H v H' :=
 acall Try.func69 (c := Try.f69.body.getD .skip) rfl (by kernel_rfl) (by kernel_rfl) hn h
def c72 : SC :=
 (.seq (.reg [⟨some 2, .mv, [.c (.bool false)], none, []⟩])
 (.seq (.reg [⟨some 3, .mv, [.r 0], none, [2]⟩,
 ⟨some 4, (.bin .lss), [.r 3, .c (.int .i64 1)], none, [3]⟩,
 ⟨some 5, .mv, [.r 4], none, [4]⟩,
 ⟨some 6, .mv, [.r 0], (some (5, false)), [0]⟩,
 ⟨some 7, (.bin .gtr), [.r 6, .c (.int .i64 1000000000)], (some (5, false)), [6]⟩,
 ⟨some 8, .pick, [.r 5, .c (.bool true), .r 7], none, [5, 7]⟩,
 ⟨some 2, .mv, [.r 8], none, [8]⟩])
 .ret))
def rs72 : List SR := [.tmp 2]
theorem acall72 (hn : args.length ≤ 9) (h : ac Try.prog c72 (argEnv 0 args) H (Fin H rs72 v H')) : ACall Try.prog 72 args H v H' :=
 acall Try.func72 (c := Try.f72.body.getD .skip) rfl (by kernel_rfl) (by kernel_rfl) hn h
def c73 : SC :=
 (.seq (.reg [⟨some 4, .mv, [.c (.bool false)], none, []⟩])
 (.seq (.reg [⟨some 5, .mv, [.r 0], none, [0, 4]⟩,
 ⟨some 6, .mv, [.r 1], none, [1]⟩,
 ⟨some 7, (.call 93), [.r 5, .r 6], none, [5, 6]⟩,
 ⟨some 8, (.bin .geq), [.r 7, .c (.int .i64 0)], none, [7]⟩,
 ⟨some 4, .mv, [.r 8], none, [8]⟩])
 .ret))
def rs73 : List SR := [.tmp 4]
theorem acall73 (hn : args.length ≤ 9) (h : ac Try.prog c73 (argEnv 0 args) H (Fin H rs73 v H')) : ACall Try.prog 73 args H v H' :=
 acall Try.func73 (c := Try.f73.body.getD .skip) rfl (by kernel_rfl) (by kernel_rfl) hn h
def c74 : SC :=
 (.seq (.reg [⟨some 2, .mv, [.c .nils], none, []⟩])
 (.seq (.seq (.reg [⟨some 3, .mv, [.r 0], none, [2]⟩,
 ⟨some 4, (.eqnil false), [.r 3], none, [3]⟩])
 (.cond (.r 4)
 (.kl [0, 4] (.seq (.reg [⟨some 2, .mv, [.c .nils], none, []⟩])
 .ret))
 (.kl [4] .skip)))
 (.seq (.reg [⟨some 5, (.bslice 1 0 [] []), [], none, []⟩,
 ⟨some 6, .mv, [.r 0], none, [0]⟩,
 ⟨some 7, (.app 1 8), [.r 5, .r 6], none, [5, 6]⟩,
 ⟨some 2, .mv, [.r 7], none, [7]⟩])
 .ret)))
def rs74 : List SR := [.tmp 2]
theorem acall74 (hn : args.length ≤ 8) (h : ac Try.prog c74 (argEnv 0 args) H (Fin H rs74 v H')) : ACall Try.prog 74 args H v H' :=
 acall Try.func74 (c := Try.f74.body.getD .skip) rfl (by kernel_rfl) (by kernel_rfl) hn h
def c75 : SC :=
 (.seq (.reg [⟨some 2, .mv, [.c (.bool false)], none, []⟩])
 (.seq (.reg [⟨some 3, .mv, [.r 0], none, [2]⟩,
 ⟨some 4, (.bin .lss), [.r 3, .c (.int .i64 0)], none, [3]⟩,
 ⟨some 5, .mv, [.r 4], none, [4]⟩,
 ⟨some 6, .mv, [.r 0], (some (5, false)), [0]⟩,
 ⟨some 7, (.bin .gtr), [.r 6, .c (.int .i64 4611686018427387904)], (some (5, false)), [6]⟩,
 ⟨some 8, .pick, [.r 5, .c (.bool true), .r 7], none, [5, 7]⟩,
 ⟨some 2, .mv, [.r 8], none, [8]⟩])
 .ret))
def rs75 : List SR := [.tmp 2]
theorem acall75 (hn : args.length ≤ 9) (h : ac Try.prog c75 (argEnv 0 args) H (Fin H rs75 v H')) : ACall Try.prog 75 args H v H' :=
 acall Try.func75 (c := Try.f75.body.getD .skip) rfl (by kernel_rfl) (by kernel_rfl) hn h
def c76 : SC :=
 (.seq (.reg [⟨some 2, .mv, [.c (.bool false)], none, []⟩])
 (.seq (.reg [⟨some 3, .mv, [.r 0], none, [0, 2]⟩,
 ⟨some 4, (.call 55), [.r 3, .c (.int .i64 0), .c (.int .i64 4611686018427387904)], none, [3]⟩,
 ⟨some 5, (.un .not), [.r 4], none, [4]⟩,
 ⟨some 2, .mv, [.r 5], none, [5]⟩])
 .ret))
def rs76 : List SR := [.tmp 2]
theorem acall76 (hn : args.length ≤ 6) (h : ac Try.prog c76 (argEnv 0 args) H (Fin H rs76 v H')) : ACall Try.prog 76 args H v H' :=
 acall Try.func76 (c := Try.f76.body.getD .skip) rfl (by kernel_rfl) (by kernel_rfl) hn h
def c77 : SC :=
 (.seq (.reg [⟨some 1, .box, [.r 0], none, [0]⟩,
 ⟨some 2, .mv, [.c (.bool false)], none, []⟩])
 (.seq (.reg [⟨some 3, (.aslice 1 3 false false false), [.r 1], none, [1, 2]⟩,
 ⟨some 4, (.call 94), [.r 3, .c (.fn (.func 95) [] [])], none, [3]⟩,
 ⟨some 5, (.un .not), [.r 4], none, [4]⟩,
 ⟨some 2, .mv, [.r 5], none, [5]⟩])
 .ret))
def rs77 : List SR := [.tmp 2]
theorem acall77 (hn : args.length ≤ 6) (h : ac Try.prog c77 (argEnv 0 args) H (Fin H rs77 v H')) : ACall Try.prog 77 args H v H' :=
 acall Try.func77 (c := Try.f77.body.getD .skip) rfl (by kernel_rfl) (by kernel_rfl) hn h
def c79 : SC :=
 (.seq (.reg [⟨some 4, .box, [.r 0], none, [0]⟩,
 ⟨some 5, .box, [.r 1], none, [1]⟩,
 ⟨some 8, (.alloc [(.int .i64 0), (.int .i64 0), (.int .i64 0)]), [], none, []⟩,
 ⟨some 9, .mv, [.c (.int .i64 0)], none, []⟩])
 (.seq (.reg [⟨some 11, (.ldn 5), [.r 4], none, [9]⟩,
 ⟨some 12, (.ldn 3), [.r 5], none, []⟩,
 ⟨some 13, .mv, [.r 2], none, [2]⟩,
 ⟨some 14, .mv, [.r 3], none, [3]⟩,
 ⟨some 15, (.call 96), [.r 11, .r 12, .r 13, .r 14], none, [11, 12, 13, 14]⟩,
 ⟨some 10, .mv, [.r 15], none, [15]⟩])
 (.seq (.seq (.reg [⟨some 16, .mv, [.r 10], none, []⟩,
 ⟨some 17, (.bin .gtr), [.r 16, .c (.int .i64 0)], none, [16]⟩])
 (.cond (.r 17)
 (.kl [17] (.reg [⟨some 18, (.faddr 0), [.r 5], none, []⟩,
 ⟨some 19, .ld1, [.r 18], none, [18]⟩,
 ⟨some 20, (.faddr 0), [.r 4], none, [4]⟩,
 ⟨some 21, .ld1, [.r 20], none, [20]⟩,
 ⟨some 22, (.bin .add), [.r 19, .r 21], none, [19, 21]⟩,
 ⟨some 23, (.faddr 1), [.r 5], none, []⟩,
 ⟨none, (.st 1), [.r 23, .r 22], none, [22, 23]⟩]))
 (.kl [4, 17] .skip)))
 (.seq (.reg [⟨some 24, (.ldn 3), [.r 5], none, [5]⟩,
 ⟨some 25, .mv, [.r 10], none, [10]⟩,
 ⟨none, (.st 3), [.r 8, .r 24], none, [24]⟩,
 ⟨some 9, .mv, [.r 25], none, [25]⟩])
 .ret))))
def rs79 : List SR := [.celln 8 3, .tmp 9]
theorem acall79 (hn : args.length ≤ 26) (h : ac Try.prog c79 (argEnv 0 args) H (Fin H rs79 v H')) : ACall Try.prog 79 args H v H' :=
 acall Try.func79 (c := Try.f79.body.getD .skip) rfl (by kernel_rfl) (by kernel_rfl) hn h
def c80 : SC :=
 (.seq (.reg [⟨some 2, .mv, [.c (.bool false)], none, []⟩])
 (.seq (.dreg [⟨0, 0, false, false, ⟨some 3, .mv, [.r 0], none, [2]⟩, []⟩,
 ⟨1, 1, false, false, ⟨some 4, .nilchk, [.r 3], none, [3]⟩, []⟩,
 ⟨2, 3, false, false, ⟨some 5, (.faddr 0), [.r 4], none, [4]⟩, []⟩,
 ⟨3, 7, false, false, ⟨some 6, (.faddr 9), [.r 5], none, [5]⟩, []⟩,
 ⟨4, 15, false, false, ⟨some 7, (.faddr 2), [.r 6], none, [6]⟩, []⟩,
 ⟨5, 31, false, false, ⟨some 8, .ld1, [.r 7], none, [7]⟩, []⟩,
 ⟨6, 63, false, false, ⟨some 9, (.bin .neq), [.r 8, .c (.int .i64 (-1))], none, [8]⟩, []⟩,
 ⟨7, 127, false, false, ⟨some 10, .mv, [.r 9], none, [9]⟩, []⟩,
 ⟨8, 255, false, false, ⟨some 11, .mv, [.r 0], (some (10, true)), []⟩, []⟩,
 ⟨9, 511, false, false, ⟨some 12, .nilchk, [.r 11], (some (10, true)), [11]⟩, []⟩,
 ⟨10, 1023, false, false, ⟨some 13, (.faddr 27), [.r 12], (some (10, true)), [12]⟩, []⟩,
 ⟨11, 2047, false, false, ⟨some 14, .ld1, [.r 13], (some (10, true)), [13]⟩, []⟩,
 ⟨12, 4095, false, false, ⟨some 15, (.iaddrS 1), [.r 14, .c (.int .i64 0)], (some (10, true)), [14]⟩, []⟩,
 ⟨13, 8191, false, false, ⟨some 16, .ld1, [.r 15], (some (10, true)), [15]⟩, []⟩,
 ⟨14, 255, false, false, ⟨some 17, .mv, [.r 0], (some (10, true)), []⟩, []⟩,
 ⟨15, 16639, false, false, ⟨some 18, .nilchk, [.r 17], (some (10, true)), [17]⟩, []⟩,
 ⟨16, 49407, false, false, ⟨some 19, (.faddr 0), [.r 18], (some (10, true)), [18]⟩, []⟩,
 ⟨17, 114943, false, false, ⟨some 20, (.faddr 9), [.r 19], (some (10, true)), [19]⟩, []⟩,
 ⟨18, 246015, false, false, ⟨some 21, (.faddr 2), [.r 20], (some (10, true)), [20]⟩, []⟩,
 ⟨19, 508159, false, false, ⟨some 22, .ld1, [.r 21], (some (10, true)), [21]⟩, []⟩,
 ⟨20, 1048575, false, false, ⟨some 23, (.bin .eql), [.r 16, .r 22], (some (10, true)), [16, 22]⟩, []⟩,
 ⟨21, 2097151, false, false, ⟨some 24, .pick, [.r 10, .r 23, .c (.bool false)], none, [10, 23]⟩, []⟩,
 ⟨22, 4194303, false, false, ⟨some 25, .mv, [.r 24], none, [24]⟩, []⟩,
 ⟨23, 8388607, false, false, ⟨some 26, .mv, [.r 0], (some (25, true)), []⟩, []⟩,
 ⟨24, 16777215, false, false, ⟨some 27, .nilchk, [.r 26], (some (25, true)), [26]⟩, []⟩,
 ⟨25, 33554431, false, false, ⟨some 28, (.faddr 27), [.r 27], (some (25, true)), [27]⟩, []⟩,
 ⟨26, 67108863, false, false, ⟨some 29, .ld1, [.r 28], (some (25, true)), [28]⟩, []⟩,
 ⟨27, 134217727, false, false, ⟨some 30, (.iaddrS 1), [.r 29, .c (.int .i64 1)], (some (25, true)), [29]⟩, []⟩,
 ⟨28, 268435455, false, false, ⟨some 31, .ld1, [.r 30], (some (25, true)), [30]⟩, []⟩,
 ⟨29, 8388607, false, false, ⟨some 32, .mv, [.r 0], (some (25, true)), [0]⟩, []⟩,
 ⟨30, 545259519, false, false, ⟨some 33, .nilchk, [.r 32], (some (25, true)), [32]⟩, []⟩,
 ⟨31, 1619001343, false, false, ⟨some 34, (.faddr 0), [.r 33], (some (25, true)), [33]⟩, []⟩,
 ⟨32, 3766484991, false, false, ⟨some 35, (.faddr 9), [.r 34], (some (25, true)), [34]⟩, []⟩,
 ⟨33, 8061452287, false, false, ⟨some 36, (.faddr 3), [.r 35], (some (25, true)), [35]⟩, []⟩,
 ⟨34, 16651386879, false, false, ⟨some 37, .ld1, [.r 36], (some (25, true)), [36]⟩, []⟩,
 ⟨35, 34359738367, false, false, ⟨some 38, (.bin .eql), [.r 31, .r 37], (some (25, true)), [31, 37]⟩, []⟩,
 ⟨36, 68719476735, false, false, ⟨some 39, .pick, [.r 25, .r 38, .c (.bool false)], none, [25, 38]⟩, []⟩,
 ⟨37, 137438953471, false, false, ⟨some 2, .mv, [.r 39], none, [39]⟩, []⟩])
 .ret))
def rs80 : List SR := [.tmp 2]
theorem acall80 (hn : args.length ≤ 40) (h : ac Try.prog c80 (argEnv 0 args) H (Fin H rs80 v H')) : ACall Try.prog 80 args H v H' :=
 acall Try.func80 (c := Try.f80.body.getD .skip) rfl (by kernel_rfl) (by kernel_rfl) hn h
def c81 : SC :=
 (.seq (.reg [⟨some 2, .mv, [.c (.bool false)], none, []⟩])
 (.seq (.dreg [⟨0, 0, false, false, ⟨some 3, .mv, [.r 0], none, [2]⟩, []⟩,
 ⟨1, 1, false, false, ⟨some 4, .nilchk, [.r 3], none, [3]⟩, []⟩,
 ⟨2, 3, false, false, ⟨some 5, (.faddr 0), [.r 4], none, [4]⟩, []⟩,
 ⟨3, 7, false, false, ⟨some 6, (.faddr 9), [.r 5], none, [5]⟩, []⟩,
 ⟨4, 15, false, false, ⟨some 7, (.faddr 2), [.r 6], none, [6]⟩, []⟩,
 ⟨5, 31, false, false, ⟨some 8, .ld1, [.r 7], none, [7]⟩, []⟩,
 ⟨6, 63, false, false, ⟨some 9, (.bin .neq), [.r 8, .c (.int .i64 (-1))], none, [8]⟩, []⟩,
 ⟨7, 127, false, false, ⟨some 10, .mv, [.r 9], none, [9]⟩, []⟩,
 ⟨8, 255, false, false, ⟨some 11, .mv, [.r 0], (some (10, true)), []⟩, []⟩,
 ⟨9, 511, false, false, ⟨some 12, .nilchk, [.r 11], (some (10, true)), [11]⟩, []⟩,
 ⟨10, 1023, false, false, ⟨some 13, (.faddr 0), [.r 12], (some (10, true)), [12]⟩, []⟩,
 ⟨11, 2047, false, false, ⟨some 14, (.faddr 9), [.r 13], (some (10, true)), [13]⟩, []⟩,
 ⟨12, 4095, false, false, ⟨some 15, (.faddr 4), [.r 14], (some (10, true)), [14]⟩, []⟩,
 ⟨13, 8191, false, false, ⟨some 16, .ld1, [.r 15], (some (10, true)), [15]⟩, []⟩,
 ⟨14, 16383, false, false, ⟨some 17, (.bin .neq), [.r 16, .c (.int .i64 (-1))], (some (10, true)), [16]⟩, []⟩,
 ⟨15, 32767, false, false, ⟨some 18, .pick, [.r 10, .r 17, .c (.bool false)], none, [10, 17]⟩, []⟩,
 ⟨16, 65535, false, false, ⟨some 19, .mv, [.r 18], none, [18]⟩, []⟩,
 ⟨17, 131071, false, false, ⟨some 20, .mv, [.r 0], (some (19, true)), []⟩, []⟩,
 ⟨18, 262143, false, false, ⟨some 21, .nilchk, [.r 20], (some (19, true)), [20]⟩, []⟩,
 ⟨19, 524287, false, false, ⟨some 22, (.faddr 27), [.r 21], (some (19, true)), [21]⟩, []⟩,
 ⟨20, 1048575, false, false, ⟨some 23, .ld1, [.r 22], (some (19, true)), [22]⟩, []⟩,
 ⟨21, 2097151, false, false, ⟨some 24, (.iaddrS 1), [.r 23, .c (.int .i64 0)], (some (19, true)), [23]⟩, []⟩,
 ⟨22, 4194303, false, false, ⟨some 25, .ld1, [.r 24], (some (19, true)), [24]⟩, []⟩,
 ⟨23, 131071, false, false, ⟨some 26, .mv, [.r 0], (some (19, true)), []⟩, []⟩,
 ⟨24, 8519679, false, false, ⟨some 27, .nilchk, [.r 26], (some (19, true)), [26]⟩, []⟩,
 ⟨25, 25296895, false, false, ⟨some 28, (.faddr 0), [.r 27], (some (19, true)), [27]⟩, []⟩,
 ⟨26, 58851327, false, false, ⟨some 29, (.faddr 9), [.r 28], (some (19, true)), [28]⟩, []⟩,
 ⟨27, 125960191, false, false, ⟨some 30, (.faddr 2), [.r 29], (some (19, true)), [29]⟩, []⟩,
 ⟨28, 260177919, false, false, ⟨some 31, .ld1, [.r 30], (some (19, true)), [30]⟩, []⟩,
 ⟨29, 528613375, false, false, ⟨some 32, (.bin .sub), [.c (.int .i64 1), .r 31], (some (19, true)), [31]⟩, []⟩,
 ⟨30, 1073741823, false, false, ⟨some 33, (.bin .eql), [.r 25, .r 32], (some (19, true)), [25, 32]⟩, []⟩,
 ⟨31, 2147483647, false, false, ⟨some 34, .pick, [.r 19, .r 33, .c (.bool false)], none, [19, 33]⟩, []⟩,
 ⟨32, 4294967295, false, false, ⟨some 35, .mv, [.r 34], none, [34]⟩, []⟩,
 ⟨33, 8589934591, false, false, ⟨some 36, .mv, [.r 0], (some (35, true)), []⟩, []⟩,
 ⟨34, 17179869183, false, false, ⟨some 37, .nilchk, [.r 36], (some (35, true)), [36]⟩, []⟩,
 ⟨35, 34359738367, false, false, ⟨some 38, (.faddr 27), [.r 37], (some (35, true)), [37]⟩, []⟩,
 ⟨36, 68719476735, false, false, ⟨some 39, .ld1, [.r 38], (some (35, true)), [38]⟩, []⟩,
 ⟨37, 137438953471, false, false, ⟨some 40, (.iaddrS 1), [.r 39, .c (.int .i64 1)], (some (35, true)), [39]⟩, []⟩,
 ⟨38, 274877906943, false, false, ⟨some 41, .ld1, [.r 40], (some (35, true)), [40]⟩, []⟩,
 ⟨39, 8589934591, false, false, ⟨some 42, .mv, [.r 0], (some (35, true)), [0]⟩, []⟩,
 ⟨40, 558345748479, false, false, ⟨some 43, .nilchk, [.r 42], (some (35, true)), [42]⟩, []⟩,
 ⟨41, 1657857376255, false, false, ⟨some 44, (.faddr 0), [.r 43], (some (35, true)), [43]⟩, []⟩,
 ⟨42, 3856880631807, false, false, ⟨some 45, (.faddr 9), [.r 44], (some (35, true)), [44]⟩, []⟩,
 ⟨43, 8254927142911, false, false, ⟨some 46, (.faddr 4), [.r 45], (some (35, true)), [45]⟩, []⟩,
 ⟨44, 17051020165119, false, false, ⟨some 47, .ld1, [.r 46], (some (35, true)), [46]⟩, []⟩,
 ⟨45, 35184372088831, false, false, ⟨some 48, (.bin .eql), [.r 41, .r 47], (some (35, true)), [41, 47]⟩, []⟩,
 ⟨46, 70368744177663, false, false, ⟨some 49, .pick, [.r 35, .r 48, .c (.bool false)], none, [35, 48]⟩, []⟩,
 ⟨47, 140737488355327, false, false, ⟨some 2, .mv, [.r 49], none, [49]⟩, []⟩])
 .ret))
def rs81 : List SR := [.tmp 2]
theorem acall81 (hn : args.length ≤ 50) (h : ac Try.prog c81 (argEnv 0 args) H (Fin H rs81 v H')) : ACall Try.prog 81 args H v H' :=
 acall Try.func81 (c := Try.f81.body.getD .skip) rfl (by kernel_rfl) (by kernel_rfl) hn h
def c82 : SC :=
 (.seq (.reg [⟨some 2, .mv, [.c (.bool false)], none, []⟩])
 (.seq (.freg [⟨0, 0, false, false, ⟨some 6, .mv, [.r 0], none, [2]⟩, []⟩,
 ⟨1, 1, false, false, ⟨some 7, .nilchk, [.r 6], none, [6]⟩, []⟩,
 ⟨2, 3, false, false, ⟨some 8, (.faddr 0), [.r 7], none, [7]⟩, []⟩,
 ⟨3, 7, false, false, ⟨some 9, (.faddr 5), [.r 8], none, [8]⟩, []⟩,
 ⟨4, 15, false, false, ⟨some 10, (.ldn 4), [.r 9], none, [9]⟩, []⟩,
 ⟨5, 0, false, false, ⟨some 11, .mv, [.r 0], none, []⟩, []⟩,
 ⟨6, 32, false, false, ⟨some 12, .nilchk, [.r 11], none, [11]⟩, []⟩,
 ⟨7, 96, false, false, ⟨some 13, (.faddr 0), [.r 12], none, [12]⟩, []⟩,
 ⟨8, 224, false, false, ⟨some 14, (.faddr 9), [.r 13], none, [13]⟩, []⟩,
 ⟨9, 480, false, false, ⟨some 15, (.ldn 10), [.r 14], none, [14]⟩, []⟩,
 ⟨10, 992, true, false, ⟨some 16, (.call 40), [.r 15], none, [15]⟩, []⟩,
 ⟨11, 2047, true, false, ⟨some 17, (.call 45), [.r 10, .r 16], none, [10, 16]⟩, []⟩,
 ⟨12, 4095, false, false, ⟨some 5, .mv, [.r 17], none, [17]⟩, []⟩,
 ⟨13, 8191, false, false, ⟨some 18, (.ext 0), [.r 5], none, []⟩, []⟩,
 ⟨14, 8191, false, false, ⟨some 19, (.ext 1), [.r 5], none, [5]⟩, []⟩]
 [⟨15, 0, false, true, ⟨some 3, (.alloc [.nils, (.int .i64 0), .nils, (.int .i64 0)]), [], none, []⟩, []⟩]
 [⟨16, 49151, false, false, ⟨none, (.st 4), [.r 3, .r 18], none, [18]⟩, []⟩,
 ⟨17, 131071, false, false, ⟨some 4, .mv, [.r 19], none, [19]⟩, []⟩])
 (.seq (.seq (.reg [⟨some 20, .mv, [.r 4], none, [4]⟩,
 ⟨some 21, (.bin .neq), [.r 20, .c (.int .i64 0)], none, [20]⟩])
 (.cond (.r 21)
 (.kl [0, 3, 21] (.seq (.reg [⟨some 2, .mv, [.c (.bool false)], none, []⟩])
 .ret))
 (.kl [21] .skip)))
 (.seq (.reg [⟨some 22, .mv, [.r 0], none, []⟩,
 ⟨some 23, .mv, [.r 0], none, [0]⟩,
 ⟨some 24, (.ldn 4), [.r 3], none, [3]⟩,
 ⟨some 25, .nilchk, [.r 22], none, [22]⟩,
 ⟨some 26, (.faddr 0), [.r 25], none, [25]⟩,
 ⟨some 27, (.faddr 5), [.r 26], none, [26]⟩,
 ⟨none, (.st 4), [.r 27, .r 24], none, [24, 27]⟩,
 ⟨some 28, .nilchk, [.r 23], none, [23]⟩,
 ⟨some 29, (.faddr 30), [.r 28], none, [28]⟩,
 ⟨none, (.st 1), [.r 29, .c (.bool true)], none, [29]⟩])
 (.seq (.reg [⟨some 2, .mv, [.c (.bool true)], none, []⟩])
 .ret)))))
def rs82 : List SR := [.tmp 2]
theorem acallK82 (hn : args.length ≤ 30) (h : ac Try.prog c82 (argEnv 0 args) H (FinK rs82 v H')) : ACall Try.prog 82 args H v H' :=
 acallK Try.func82 (c := Try.f82.body.getD .skip) rfl (by kernel_rfl) (by kernel_rfl) hn h
def c83 : SC :=
 (.dreg [⟨0, 0, false, false, ⟨some 6, .mv, [.r 0], none, []⟩, []⟩,
 ⟨1, 0, false, false, ⟨some 7, .mv, [.r 0], none, []⟩, []⟩,
 ⟨2, 2, false, false, ⟨some 8, .nilchk, [.r 7], none, [7]⟩, []⟩,
 ⟨3, 6, false, false, ⟨some 9, (.faddr 27), [.r 8], none, [8]⟩, []⟩,
 ⟨4, 14, false, false, ⟨some 10, .ld1, [.r 9], none, [9]⟩, []⟩,
 ⟨5, 30, false, false, ⟨some 11, (.iaddrS 1), [.r 10, .c (.int .i64 0)], none, [10]⟩, []⟩,
 ⟨6, 62, false, false, ⟨some 12, .ld1, [.r 11], none, [11]⟩, []⟩,
 ⟨7, 0, false, false, ⟨some 13, .mv, [.r 0], none, []⟩, []⟩,
 ⟨8, 128, false, false, ⟨some 14, .nilchk, [.r 13], none, [13]⟩, []⟩,
 ⟨9, 384, false, false, ⟨some 15, (.faddr 27), [.r 14], none, [14]⟩, []⟩,
 ⟨10, 896, false, false, ⟨some 16, .ld1, [.r 15], none, [15]⟩, []⟩,
 ⟨11, 1920, false, false, ⟨some 17, (.iaddrS 1), [.r 16, .c (.int .i64 1)], none, [16]⟩, []⟩,
 ⟨12, 3968, false, false, ⟨some 18, .ld1, [.r 17], none, [17]⟩, []⟩,
 ⟨13, 0, false, false, ⟨some 19, .mv, [.r 0], none, []⟩, []⟩,
 ⟨14, 8192, false, false, ⟨some 20, .nilchk, [.r 19], none, [19]⟩, []⟩,
 ⟨15, 24576, false, false, ⟨some 21, (.faddr 0), [.r 20], none, [20]⟩, []⟩,
 ⟨16, 57344, false, false, ⟨some 22, (.faddr 9), [.r 21], none, [21]⟩, []⟩,
 ⟨17, 122880, false, false, ⟨some 23, (.faddr 0), [.r 22], none, [22]⟩, []⟩,
 ⟨18, 253952, false, false, ⟨some 24, .ld1, [.r 23], none, [23]⟩, []⟩,
 ⟨19, 0, false, false, ⟨some 25, .mv, [.r 0], none, []⟩, []⟩,
 ⟨20, 524288, false, false, ⟨some 26, .nilchk, [.r 25], none, [25]⟩, []⟩,
 ⟨21, 1572864, false, false, ⟨some 27, (.faddr 0), [.r 26], none, [26]⟩, []⟩,
 ⟨22, 3670016, false, false, ⟨some 28, (.faddr 9), [.r 27], none, [27]⟩, []⟩,
 ⟨23, 7864320, false, false, ⟨some 29, (.faddr 1), [.r 28], none, [28]⟩, []⟩,
 ⟨24, 16252928, false, false, ⟨some 30, .ld1, [.r 29], none, [29]⟩, []⟩,
 ⟨25, 0, false, false, ⟨some 31, .mv, [.r 1], none, [1]⟩, []⟩,
 ⟨26, 0, false, false, ⟨some 32, .mv, [.r 0], none, []⟩, []⟩,
 ⟨27, 67108864, false, false, ⟨some 33, .nilchk, [.r 32], none, [32]⟩, []⟩,
 ⟨28, 201326592, false, false, ⟨some 34, (.faddr 0), [.r 33], none, [33]⟩, []⟩,
 ⟨29, 469762048, false, false, ⟨some 35, (.faddr 9), [.r 34], none, [34]⟩, []⟩,
 ⟨30, 1006632960, false, false, ⟨some 36, (.faddr 5), [.r 35], none, [35]⟩, []⟩,
 ⟨31, 2080374784, false, false, ⟨some 37, .ld1, [.r 36], none, [36]⟩, []⟩,
 ⟨32, 0, false, false, ⟨some 38, .mv, [.r 0], none, [0]⟩, []⟩,
 ⟨33, 4294967296, false, false, ⟨some 39, .nilchk, [.r 38], none, [38]⟩, []⟩,
 ⟨34, 12884901888, false, false, ⟨some 40, (.faddr 0), [.r 39], none, [39]⟩, []⟩,
 ⟨35, 30064771072, false, false, ⟨some 41, (.faddr 9), [.r 40], none, [40]⟩, []⟩,
 ⟨36, 64424509440, false, false, ⟨some 42, (.faddr 4), [.r 41], none, [41]⟩, []⟩,
 ⟨37, 133143986176, false, false, ⟨some 43, .ld1, [.r 42], none, [42]⟩, []⟩,
 ⟨38, 0, false, false, ⟨some 44, .mv, [.r 2], none, [2]⟩, []⟩,
 ⟨39, 549755813886, false, false, ⟨some 45, (.bslice 1 8 [(.int .i64 0), (.int .i64 0), (.int .i64 0), (.int .i64 0), (.int .i64 0), (.int .i64 0), (.int .i64 0), (.int .i64 0)] [(0, 1), (1, 1), (2, 1), (3, 1), (4, 1), (5, 1), (6, 1), (7, 1)]), [.r 12, .r 18, .r 24, .r 30, .r 31, .r 37, .r 43, .r 44], none, [12, 18, 24, 30, 31, 37, 43, 44]⟩, []⟩,
 ⟨40, 1099511627774, false, false, ⟨some 46, (.build [(.int .i64 0), .nils] [(0, 1), (1, 1)]), [.c (.int .i64 2), .r 45], none, [45]⟩, []⟩,
 ⟨41, 2199023255550, false, false, ⟨some 47, (.bslice 2 1 [(.int .i64 0), .nils] [(0, 2)]), [.r 46], none, [46]⟩, []⟩,
 ⟨42, 4398046511103, false, false, ⟨some 48, .nilchk, [.r 6], none, [6]⟩, []⟩,
 ⟨43, 8796093022207, false, false, ⟨some 49, (.faddr 28), [.r 48], none, [48]⟩, []⟩,
 ⟨44, 17592186044415, false, false, ⟨none, (.st 1), [.r 49, .r 47], none, [47, 49]⟩, []⟩])
def rs83 : List SR := []
theorem acallK83 (hn : args.length ≤ 50) (h : ac Try.prog c83 (argEnv 0 args) H (FinK rs83 v H')) : ACall Try.prog 83 args H v H' :=
 acallK Try.func83 (c := Try.f83.body.getD .skip) rfl (by kernel_rfl) (by kernel_rfl) hn h
def c84 : SC :=
 (.seq (.reg [⟨some 1, .box, [.r 0], none, [0]⟩,
 ⟨some 2, .mv, [.c (.int .i64 0)], none, []⟩])
 (.seq (.reg [⟨some 3, (.faddr 1), [.r 1], none, [2]⟩,
 ⟨some 4, .ld1, [.r 3], none, [3]⟩,
 ⟨some 5, (.faddr 0), [.r 1], none, [1]⟩,
 ⟨some 6, .ld1, [.r 5], none, [5]⟩,
 ⟨some 7, (.bin .sub), [.r 4, .r 6], none, [4, 6]⟩,
 ⟨some 8, .mx, [.r 7, .c (.int .i64 0)], none, [7]⟩,
 ⟨some 2, .mv, [.r 8], none, [8]⟩])
 .ret))
def rs84 : List SR := [.tmp 2]
theorem acall84 (hn : args.length ≤ 9) (h : ac Try.prog c84 (argEnv 0 args) H (Fin H rs84 v H')) : ACall Try.prog 84 args H v H' :=
 acall Try.func84 (c := Try.f84.body.getD .skip) rfl (by kernel_rfl) (by kernel_rfl) hn h
def c85 : SC :=
 (.seq (.reg [⟨some 4, .box, [.r 0], none, [0]⟩,
 ⟨some 5, .box, [.r 1], none, [1]⟩,
 ⟨some 8, (.alloc [(.int .i64 0), (.int .i64 0), (.int .i64 0), (.int .i64 0), (.bool false)]), [], none, []⟩])
 (.seq (.reg [⟨some 9, (.faddr 0), [.r 4], none, [4]⟩,
 ⟨some 10, (.ldn 3), [.r 9], none, [9]⟩,
 ⟨some 11, (.ldn 3), [.r 5], none, [5]⟩,
 ⟨some 12, .mv, [.r 3], none, [3]⟩,
 ⟨some 13, (.call 97), [.r 10, .r 11, .r 12], none, [10, 11, 12]⟩,
 ⟨some 14, .mv, [.r 2], none, [2]⟩,
 ⟨some 15, (.build [(.int .i64 0), (.int .i64 0), (.int .i64 0), (.int .i64 0), (.bool false)] [(0, 3), (3, 1)]), [.r 13, .r 14], none, [13, 14]⟩,
 ⟨none, (.st 5), [.r 8, .r 15], none, [15]⟩])
 .ret))
def rs85 : List SR := [.celln 8 5]
theorem acall85 (hn : args.length ≤ 16) (h : ac Try.prog c85 (argEnv 0 args) H (Fin H rs85 v H')) : ACall Try.prog 85 args H v H' :=
 acall Try.func85 (c := Try.f85.body.getD .skip) rfl (by kernel_rfl) (by kernel_rfl) hn h
def c86 : SC :=
 (.seq (.reg [⟨some 2, .mv, [.c (.int .i64 0)], none, []⟩])
 (.seq (.seq (.reg [⟨some 3, .mv, [.r 0], none, [2]⟩,
 ⟨some 4, (.bin .lss), [.r 3, .c (.int .i64 1)], none, [3]⟩,
 ⟨some 5, .mv, [.r 4], none, [4]⟩,
 ⟨some 6, .mv, [.r 0], (some (5, false)), []⟩,
 ⟨some 7, (.bin .gtr), [.r 6, .c (.int .i64 8)], (some (5, false)), [6]⟩,
 ⟨some 8, .pick, [.r 5, .c (.bool true), .r 7], none, [5, 7]⟩])
 (.cond (.r 8)
 (.kl [0, 8] (.seq (.reg [⟨some 2, .mv, [.c (.int .i64 0)], none, []⟩])
 .ret))
 (.kl [8] .skip)))
 (.seq (.reg [⟨some 9, (.build [(.int .i64 0), (.int .i64 0), (.int .i64 0), (.int .i64 0), (.int .i64 0), (.int .i64 0), (.int .i64 0), (.int .i64 0)] [(0, 1), (1, 1), (2, 1), (3, 1), (4, 1), (5, 1), (6, 1), (7, 1)]), [.c (.int .i64 3), .c (.int .i64 8), .c (.int .i64 8), .c (.int .i64 5), .c (.int .i64 18), .c (.int .i64 4), .c (.int .i64 1), .c (.int .i64 15)], none, []⟩,
 ⟨some 10, .mv, [.r 0], none, [0]⟩,
 ⟨some 11, (.bin .sub), [.r 10, .c (.int .i64 1)], none, [10]⟩,
 ⟨some 12, (.idxA 1 8 false), [.r 9, .r 11], none, [9, 11]⟩,
 ⟨some 2, .mv, [.r 12], none, [12]⟩])
 .ret)))
def rs86 : List SR := [.tmp 2]
theorem acall86 (hn : args.length ≤ 13) (h : ac Try.prog c86 (argEnv 0 args) H (Fin H rs86 v H')) : ACall Try.prog 86 args H v H' :=
 acall Try.func86 (c := Try.f86.body.getD .skip) rfl (by kernel_rfl) (by kernel_rfl) hn h
def c88 : SC :=
 (.seq (.reg [⟨some 3, .mv, [.c (.bool false)], none, []⟩])
 (.seq (.reg [⟨some 4, .mv, [.r 0], none, [0, 3]⟩,
 ⟨some 5, (.faddr 0), [.r 1], none, [1]⟩,
 ⟨some 6, (.iaddrA 2 2), [.r 5, .r 4], none, [4, 5]⟩,
 ⟨some 7, (.ldn 2), [.r 6], none, [6]⟩,
 ⟨some 8, (.call 89), [.r 7], none, [7]⟩,
 ⟨some 3, .mv, [.r 8], none, [8]⟩])
 .ret))
def rs88 : List SR := [.tmp 3]
theorem acall88 (hn : args.length ≤ 9) (h : ac Try.prog c88 (argEnv 0 args) H (Fin H rs88 v H')) : ACall Try.prog 88 args H v H' :=
 acall Try.func88 (c := Try.f88.body.getD .skip) rfl (by kernel_rfl) (by kernel_rfl) hn h
def c89 : SC :=
 (.seq (.reg [⟨some 1, .box, [.r 0], none, [0]⟩,
 ⟨some 2, .mv, [.c (.bool false)], none, []⟩])
 (.seq (.dreg [⟨0, 0, false, false, ⟨some 3, (.faddr 0), [.r 1], none, [2]⟩, []⟩,
 ⟨1, 1, false, false, ⟨some 4, .ld1, [.r 3], none, [3]⟩, []⟩,
 ⟨2, 3, false, false, ⟨some 5, .len, [.r 4], none, [4]⟩, []⟩,
 ⟨3, 7, false, false, ⟨some 6, (.bin .gtr), [.r 5, .c (.int .i64 0)], none, [5]⟩, []⟩,
 ⟨4, 15, false, false, ⟨some 7, .mv, [.r 6], none, [6]⟩, []⟩,
 ⟨5, 31, false, false, ⟨some 8, (.faddr 0), [.r 1], (some (7, true)), []⟩, []⟩,
 ⟨6, 63, false, false, ⟨some 9, .ld1, [.r 8], (some (7, true)), [8]⟩, []⟩,
 ⟨7, 127, false, false, ⟨some 10, (.iaddrS 1), [.r 9, .c (.int .i64 0)], (some (7, true)), [9]⟩, []⟩,
 ⟨8, 255, false, false, ⟨some 11, .ld1, [.r 10], (some (7, true)), [10]⟩, []⟩,
 ⟨9, 511, false, false, ⟨some 12, (.bin .geq), [.r 11, .c (.int .i64 0)], (some (7, true)), [11]⟩, []⟩,
 ⟨10, 1023, false, false, ⟨some 13, .pick, [.r 7, .r 12, .c (.bool false)], none, [7, 12]⟩, []⟩,
 ⟨11, 2047, false, false, ⟨some 14, .mv, [.r 13], none, [13]⟩, []⟩,
 ⟨12, 4095, false, false, ⟨some 15, (.faddr 0), [.r 1], (some (14, true)), []⟩, []⟩,
 ⟨13, 8191, false, false, ⟨some 16, .ld1, [.r 15], (some (14, true)), [15]⟩, []⟩,
 ⟨14, 16383, false, false, ⟨some 17, (.iaddrS 1), [.r 16, .c (.int .i64 0)], (some (14, true)), [16]⟩, []⟩,
 ⟨15, 32767, false, false, ⟨some 18, .ld1, [.r 17], (some (14, true)), [17]⟩, []⟩,
 ⟨16, 65535, false, false, ⟨some 19, (.bin .leq), [.r 18, .c (.int .i64 4611686018427387904)], (some (14, true)), [18]⟩, []⟩,
 ⟨17, 131071, false, false, ⟨some 20, .pick, [.r 14, .r 19, .c (.bool false)], none, [14, 19]⟩, []⟩,
 ⟨18, 262143, false, false, ⟨some 21, .mv, [.r 20], none, [20]⟩, []⟩,
 ⟨19, 524287, false, false, ⟨some 22, (.faddr 1), [.r 1], (some (21, true)), []⟩, []⟩,
 ⟨20, 1048575, false, false, ⟨some 23, .ld1, [.r 22], (some (21, true)), [22]⟩, []⟩,
 ⟨21, 524287, false, false, ⟨some 24, (.faddr 0), [.r 1], (some (21, true)), [1]⟩, []⟩,
 ⟨22, 2621439, false, false, ⟨some 25, .ld1, [.r 24], (some (21, true)), [24]⟩, []⟩,
 ⟨23, 6815743, false, true, ⟨some 26, (.call 69), [.r 25], (some (21, true)), [25]⟩, []⟩,
 ⟨24, 16777215, false, false, ⟨some 27, (.bin .eql), [.r 23, .r 26], (some (21, true)), [23, 26]⟩, []⟩,
 ⟨25, 33554431, false, false, ⟨some 28, .pick, [.r 21, .r 27, .c (.bool false)], none, [21, 27]⟩, []⟩,
 ⟨26, 67108863, false, false, ⟨some 2, .mv, [.r 28], none, [28]⟩, []⟩])
 .ret))
def rs89 : List SR := [.tmp 2]
theorem acall89 (hn : args.length ≤ 29) (h : ac Try.prog c89 (argEnv 0 args) H (Fin H rs89 v H')) : ACall Try.prog 89 args H v H' :=
 acall Try.func89 (c := Try.f89.body.getD .skip) rfl (by kernel_rfl) (by kernel_rfl) hn h
def c90 : SC :=
 (.seq (.reg [⟨some 4, .mv, [.c .nils], none, []⟩])
 (.seq (.seq (.reg [⟨some 5, .mv, [.r 1], none, [4]⟩,
 ⟨some 6, (.bin .lss), [.r 5, .c (.int .i64 0)], none, [5]⟩])
 (.cond (.r 6)
 (.kl [6] (.reg [⟨some 7, .dead, [], none, []⟩,
 ⟨none, .dead, [], none, [7]⟩]))
 (.kl [6] .skip)))
 (.seq (.seq (.reg [⟨some 8, .mv, [.r 1], none, [1]⟩,
 ⟨some 9, .mv, [.r 0], none, []⟩,
 ⟨some 10, .cap, [.r 9], none, [9]⟩,
 ⟨some 11, .mv, [.r 0], none, []⟩,
 ⟨some 12, .len, [.r 11], none, [11]⟩,
 ⟨some 13, (.bin .sub), [.r 10, .r 12], none, [10, 12]⟩,
 ⟨some 14, (.bin .sub), [.r 8, .r 13], none, [8, 13]⟩,
 ⟨some 1, .mv, [.r 14], none, [14]⟩])
 (.seq (.reg [⟨some 15, .mv, [.r 1], none, []⟩,
 ⟨some 16, (.bin .gtr), [.r 15, .c (.int .i64 0)], none, [15]⟩])
 (.cond (.r 16)
 (.kl [16] (.reg [⟨some 17, .mv, [.r 0], none, []⟩,
 ⟨some 18, .mv, [.r 0], none, []⟩,
 ⟨some 19, .cap, [.r 18], none, [18]⟩,
 ⟨some 20, (.slice 1 false true false), [.r 17, .r 19], none, [17, 19]⟩,
 ⟨some 21, .mv, [.r 1], none, [1]⟩,
 ⟨some 22, (.appZ 1 8 [(.int .i64 0)]), [.r 20, .r 21], none, [20, 21]⟩,
 ⟨some 23, .mv, [.r 0], none, [0]⟩,
 ⟨some 24, .len, [.r 23], none, [23]⟩,
 ⟨some 25, (.slice 1 false true false), [.r 22, .r 24], none, [22, 24]⟩,
 ⟨some 0, .mv, [.r 25], none, [25]⟩]))
 (.kl [1, 16] .skip))))
 (.seq (.reg [⟨some 26, .mv, [.r 0], none, [0]⟩,
 ⟨some 4, .mv, [.r 26], none, [26]⟩])
 .ret))))
def rs90 : List SR := [.tmp 4]
theorem acall90 (hn : args.length ≤ 27) (h : ac Try.prog c90 (argEnv 0 args) H (Fin H rs90 v H')) : ACall Try.prog 90 args H v H' :=
 acall Try.func90 (c := Try.f90.body.getD .skip) rfl (by kernel_rfl) (by kernel_rfl) hn h
def c91 : SC :=
 (.seq (.reg [⟨some 2, .mv, [.c (.int .u32 0)], none, []⟩])
 (.seq (.reg [⟨some 3, .mv, [.r 0], none, [0, 2]⟩,
 ⟨some 4, (.call 98), [.c (.int .u32 4294967295), .r 3], none, [3]⟩,
 ⟨some 5, (.un .xor), [.r 4], none, [4]⟩,
 ⟨some 2, .mv, [.r 5], none, [5]⟩])
 .ret))
def rs91 : List SR := [.tmp 2]
theorem acall91 (hn : args.length ≤ 6) (h : ac Try.prog c91 (argEnv 0 args) H (Fin H rs91 v H')) : ACall Try.prog 91 args H v H' :=
 acall Try.func91 (c := Try.f91.body.getD .skip) rfl (by kernel_rfl) (by kernel_rfl) hn h
def c93l0 : SC :=
 (.seq (.reg [⟨some 9, (.bin .lss), [.r 8, .r 7], none, []⟩])
 (.seq (.cond (.r 9)
 (.kl [9] .skip)
 (.kl [0, 1, 7, 8, 9] (.exit 0)))
 (.seq (.block 1 (.seq (.reg [⟨some 10, .mv, [.r 8], none, []⟩,
 ⟨some 5, .mv, [.r 10], none, [10]⟩])
 (.seq (.reg [⟨some 11, .mv, [.r 1], none, []⟩,
 ⟨some 12, .mv, [.r 0], none, []⟩,
 ⟨some 13, .mv, [.r 5], none, []⟩,
 ⟨some 14, (.iaddrS 1), [.r 12, .r 13], none, [12, 13]⟩,
 ⟨some 15, .ld1, [.r 14], none, [14]⟩,
 ⟨some 16, .callv, [.r 11, .r 15], none, [11, 15]⟩])
 (.cond (.r 16)
 (.kl [0, 1, 7, 8, 16] (.seq (.reg [⟨some 17, .mv, [.r 5], none, [5]⟩,
 ⟨some 4, .mv, [.r 17], none, [17]⟩])
 .ret))
 (.kl [5, 16] .skip)))))
 (.reg [⟨some 18, (.bin .add), [.r 8, .c (.int .i64 1)], none, [8]⟩,
 ⟨some 8, .mv, [.r 18], none, [18]⟩]))))
def c93 : SC :=
 (.seq (.reg [⟨some 4, .mv, [.c (.int .i64 0)], none, []⟩])
 (.seq (.seq (.reg [⟨some 6, .mv, [.r 0], none, [4]⟩,
 ⟨some 7, .len, [.r 6], none, [6]⟩,
 ⟨some 8, .mv, [.c (.int .i64 0)], none, []⟩])
 (.block 0 (.loop c93l0)))
 (.seq (.reg [⟨some 4, .mv, [.c (.int .i64 (-1))], none, []⟩])
 .ret)))
def rs93 : List SR := [.tmp 4]
theorem acall93 (hn : args.length ≤ 19) (h : ac Try.prog c93 (argEnv 0 args) H (Fin H rs93 v H')) : ACall Try.prog 93 args H v H' :=
 acall Try.func93 (c := Try.f93.body.getD .skip) rfl (by kernel_rfl) (by kernel_rfl) hn h
def c94 : SC :=
 (.seq (.reg [⟨some 4, .mv, [.c (.bool false)], none, []⟩])
 (.seq (.reg [⟨some 5, .mv, [.r 0], none, [0, 4]⟩,
 ⟨some 6, .mv, [.r 1], none, [1]⟩,
 ⟨some 7, (.call 100), [.r 5, .r 6], none, [5, 6]⟩,
 ⟨some 8, (.bin .geq), [.r 7, .c (.int .i64 0)], none, [7]⟩,
 ⟨some 4, .mv, [.r 8], none, [8]⟩])
 .ret))
def rs94 : List SR := [.tmp 4]
theorem acall94 (hn : args.length ≤ 9) (h : ac Try.prog c94 (argEnv 0 args) H (Fin H rs94 v H')) : ACall Try.prog 94 args H v H' :=
 acall Try.func94 (c := Try.f94.body.getD .skip) rfl (by kernel_rfl) (by kernel_rfl) hn h
def c95 : SC :=
 (.seq (.reg [⟨some 2, .mv, [.c (.bool false)], none, []⟩])
 (.seq (.reg [⟨some 3, .mv, [.r 0], none, [2]⟩,
 ⟨some 4, (.bin .lss), [.r 3, .c (.int .i64 (-70368744177664))], none, [3]⟩,
 ⟨some 5, .mv, [.r 4], none, [4]⟩,
 ⟨some 6, .mv, [.r 0], (some (5, false)), [0]⟩,
 ⟨some 7, (.bin .gtr), [.r 6, .c (.int .i64 70368744177663)], (some (5, false)), [6]⟩,
 ⟨some 8, .pick, [.r 5, .c (.bool true), .r 7], none, [5, 7]⟩,
 ⟨some 2, .mv, [.r 8], none, [8]⟩])
 .ret))
def rs95 : List SR := [.tmp 2]
theorem acall95 (hn : args.length ≤ 9) (h : ac Try.prog c95 (argEnv 0 args) H (Fin H rs95 v H')) : ACall Try.prog 95 args H v H' :=
 acall Try.func95 (c := Try.f95.body.getD .skip) rfl (by kernel_rfl) (by kernel_rfl) hn h
def c96 : SC :=
 (.seq (.reg [⟨some 4, .box, [.r 0], none, [0]⟩,
 ⟨some 5, .box, [.r 1], none, [1]⟩,
 ⟨some 8, .mv, [.c (.int .i64 0)], none, []⟩])
 (.seq (.reg [⟨some 10, (.faddr 0), [.r 5], none, [8]⟩,
 ⟨some 11, .ld1, [.r 10], none, [10]⟩,
 ⟨some 12, (.faddr 1), [.r 5], none, []⟩,
 ⟨some 13, .ld1, [.r 12], none, [12]⟩,
 ⟨some 14, (.bin .lss), [.r 11, .r 13], none, [11, 13]⟩,
 ⟨some 9, .mv, [.r 14], none, [14]⟩])
 (.seq (.block 0 (.seq (.reg [⟨some 16, (.faddr 0), [.r 5], none, []⟩,
 ⟨some 17, .ld1, [.r 16], none, [16]⟩,
 ⟨some 18, (.faddr 2), [.r 5], none, []⟩,
 ⟨some 19, .ld1, [.r 18], none, [18]⟩,
 ⟨some 20, (.bin .lss), [.r 17, .r 19], none, [17, 19]⟩,
 ⟨some 21, .mv, [.r 20], none, [20]⟩,
 ⟨some 22, .mv, [.r 9], (some (21, false)), []⟩,
 ⟨some 23, .mv, [.r 22], (some (21, false)), [22]⟩,
 ⟨some 24, .mv, [.r 2], (some (23, true)), []⟩,
 ⟨some 25, (.un .not), [.r 24], (some (23, true)), [24]⟩,
 ⟨some 26, .pick, [.r 23, .r 25, .c (.bool false)], (some (21, false)), [23, 25]⟩,
 ⟨some 27, .pick, [.r 21, .c (.bool true), .r 26], none, [21, 26]⟩,
 ⟨some 15, .mv, [.r 27], none, [27]⟩])
 (.cond (.r 15)
 (.kl [2, 3, 4, 5, 9, 15] (.seq (.reg [⟨some 8, .mv, [.c (.int .i64 0)], none, []⟩])
 .ret))
 (.kl [15] (.seq (.reg [⟨some 29, .mv, [.r 9], none, [9]⟩,
 ⟨some 28, .mv, [.r 29], none, [29]⟩])
 (.cond (.r 28)
 (.kl [2, 3, 4, 5, 28] (.seq (.reg [⟨some 8, .mv, [.c (.int .i64 1)], none, []⟩])
 .ret))
 (.kl [28] (.seq (.reg [⟨some 31, .mv, [.r 2], none, [2]⟩,
 ⟨some 30, .mv, [.r 31], none, [31]⟩])
 (.cond (.r 30)
 (.kl [3, 4, 5, 30] (.seq (.reg [⟨some 8, .mv, [.c (.int .i64 2)], none, []⟩])
 .ret))
 (.kl [30] (.seq (.reg [⟨some 33, .mv, [.r 3], none, [3]⟩,
 ⟨some 32, .mv, [.r 33], none, [33]⟩])
 (.cond (.r 32)
 (.kl [4, 5, 32] (.seq (.reg [⟨some 8, .mv, [.c (.int .i64 3)], none, []⟩])
 .ret))
 (.kl [32] (.seq (.reg [⟨some 35, (.faddr 0), [.r 5], none, []⟩,
 ⟨some 36, .ld1, [.r 35], none, [35]⟩,
 ⟨some 37, (.faddr 1), [.r 5], none, []⟩,
 ⟨some 38, .ld1, [.r 37], none, [37]⟩,
 ⟨some 39, (.faddr 2), [.r 5], none, [5]⟩,
 ⟨some 40, .ld1, [.r 39], none, [39]⟩,
 ⟨some 41, .mx, [.r 38, .r 40], none, [38, 40]⟩,
 ⟨some 42, (.bin .sub), [.r 36, .r 41], none, [36, 41]⟩,
 ⟨some 43, (.faddr 2), [.r 4], none, [4]⟩,
 ⟨some 44, .ld1, [.r 43], none, [43]⟩,
 ⟨some 45, (.bin .geq), [.r 42, .r 44], none, [42, 44]⟩,
 ⟨some 34, .mv, [.r 45], none, [45]⟩])
 (.cond (.r 34)
 (.kl [34] (.seq (.reg [⟨some 8, .mv, [.c (.int .i64 4)], none, []⟩])
 .ret))
 (.kl [34] .skip))))))))))))))))
 (.seq (.reg [⟨some 8, .mv, [.c (.int .i64 0)], none, []⟩])
 .ret))))
def rs96 : List SR := [.tmp 8]
theorem acall96 (hn : args.length ≤ 46) (h : ac Try.prog c96 (argEnv 0 args) H (Fin H rs96 v H')) : ACall Try.prog 96 args H v H' :=
 acall Try.func96 (c := Try.f96.body.getD .skip) rfl (by kernel_rfl) (by kernel_rfl) hn h
def c97l0 : SC :=
 (.seq (.reg [⟨some 13, (.bin .lss), [.r 12, .c (.int .i64 3)], none, []⟩])
 (.seq (.cond (.r 13)
 (.kl [13] .skip)
 (.kl [2, 11, 12, 13] (.exit 0)))
 (.seq (.block 1 (.seq (.reg [⟨some 14, .mv, [.r 12], none, []⟩,
 ⟨some 15, (.idxA 1 3 false), [.r 11, .r 12], none, []⟩,
 ⟨some 7, .mv, [.r 14], none, [14]⟩,
 ⟨some 8, .mv, [.r 15], none, [15]⟩])
 (.reg [⟨some 16, .mv, [.r 7], none, [7]⟩,
 ⟨some 17, (.iaddrA 1 3), [.r 3, .r 16], none, []⟩,
 ⟨some 18, .ld1, [.r 17], none, [17]⟩,
 ⟨some 19, .mv, [.r 8], none, [8]⟩,
 ⟨some 20, .mv, [.r 2], none, []⟩,
 ⟨some 21, (.un .neg), [.r 20], none, [20]⟩,
 ⟨some 22, .mx, [.r 19, .r 21], none, [19, 21]⟩,
 ⟨some 23, .mv, [.r 2], none, []⟩,
 ⟨some 24, .mn, [.r 22, .r 23], none, [22, 23]⟩,
 ⟨some 25, (.bin .add), [.r 18, .r 24], none, [18, 24]⟩,
 ⟨some 26, (.iaddrA 1 3), [.r 3, .r 16], none, [16]⟩,
 ⟨none, (.st 1), [.r 26, .r 25], none, [25, 26]⟩])))
 (.reg [⟨some 27, (.bin .add), [.r 12, .c (.int .i64 1)], none, [12]⟩,
 ⟨some 12, .mv, [.r 27], none, [27]⟩]))))
def c97 : SC :=
 (.seq (.reg [⟨some 3, .box, [.r 0], none, [0]⟩,
 ⟨some 4, .box, [.r 1], none, [1]⟩,
 ⟨some 6, (.alloc [(.int .i64 0), (.int .i64 0), (.int .i64 0)]), [], none, []⟩])
 (.seq (.seq (.reg [⟨some 9, (.ldn 3), [.r 3], none, []⟩,
 ⟨some 10, (.ldn 3), [.r 4], none, [4]⟩,
 ⟨some 11, (.call 101), [.r 9, .r 10], none, [9, 10]⟩,
 ⟨some 12, .mv, [.c (.int .i64 0)], none, []⟩])
 (.block 0 (.loop c97l0)))
 (.seq (.reg [⟨some 28, (.ldn 3), [.r 3], none, [3]⟩,
 ⟨none, (.st 3), [.r 6, .r 28], none, [28]⟩])
 .ret)))
def rs97 : List SR := [.celln 6 3]
theorem acall97 (hn : args.length ≤ 29) (h : ac Try.prog c97 (argEnv 0 args) H (Fin H rs97 v H')) : ACall Try.prog 97 args H v H' :=
 acall Try.func97 (c := Try.f97.body.getD .skip) rfl (by kernel_rfl) (by kernel_rfl) hn h
def c98l0 : SC :=
 (.seq (.reg [⟨some 12, (.bin .lss), [.r 11, .r 10], none, []⟩])
 (.seq (.cond (.r 12)
 (.kl [12] .skip)
 (.kl [5, 9, 10, 11, 12] (.exit 0)))
 (.seq (.block 1 (.seq (.reg [⟨some 13, (.iaddrS 1), [.r 9, .r 11], none, []⟩,
 ⟨some 14, .ld1, [.r 13], none, [13]⟩,
 ⟨some 7, .mv, [.r 14], none, [14]⟩])
 (.reg [⟨some 15, .mv, [.r 0], none, []⟩,
 ⟨some 16, (.bin .shr), [.r 15, .c (.int .u64 8)], none, [15]⟩,
 ⟨some 17, .mv, [.r 0], none, [0]⟩,
 ⟨some 18, (.conv .u8), [.r 17], none, [17]⟩,
 ⟨some 19, .mv, [.r 7], none, [7]⟩,
 ⟨some 20, (.bin .xor), [.r 18, .r 19], none, [18, 19]⟩,
 ⟨some 21, (.iaddrA 1 256), [.r 5, .r 20], none, [20]⟩,
 ⟨some 22, .ld1, [.r 21], none, [21]⟩,
 ⟨some 23, (.bin .xor), [.r 16, .r 22], none, [16, 22]⟩,
 ⟨some 0, .mv, [.r 23], none, [23]⟩])))
 (.reg [⟨some 24, (.bin .add), [.r 11, .c (.int .i64 1)], none, [11]⟩,
 ⟨some 11, .mv, [.r 24], none, [24]⟩]))))
def c98 : SC :=
 (.seq (.reg [⟨some 4, .mv, [.c (.int .u32 0)], none, []⟩])
 (.seq (.reg [⟨some 8, (.call 102), [], none, [4]⟩,
 ⟨some 5, (.alloc (List.replicate 256 (.int .u32 0))), [], none, []⟩,
 ⟨none, (.st 256), [.r 5, .r 8], none, [8]⟩])
 (.seq (.seq (.reg [⟨some 9, .mv, [.r 1], none, [1]⟩,
 ⟨some 10, .len, [.r 9], none, []⟩,
 ⟨some 11, .mv, [.c (.int .i64 0)], none, []⟩])
 (.block 0 (.loop c98l0)))
 (.seq (.reg [⟨some 25, .mv, [.r 0], none, [0]⟩,
 ⟨some 4, .mv, [.r 25], none, [25]⟩])
 .ret))))
def rs98 : List SR := [.tmp 4]
theorem acall98 (hn : args.length ≤ 26) (h : ac Try.prog c98 (argEnv 0 args) H (Fin H rs98 v H')) : ACall Try.prog 98 args H v H' :=
 acall Try.func98 (c := Try.f98.body.getD .skip) rfl (by kernel_rfl) (by kernel_rfl) hn h
def c100l0 : SC :=
 (.seq (.reg [⟨some 9, (.bin .lss), [.r 8, .r 7], none, []⟩])
 (.seq (.cond (.r 9)
 (.kl [9] .skip)
 (.kl [0, 1, 7, 8, 9] (.exit 0)))
 (.seq (.block 1 (.seq (.reg [⟨some 10, .mv, [.r 8], none, []⟩,
 ⟨some 5, .mv, [.r 10], none, [10]⟩])
 (.seq (.reg [⟨some 11, .mv, [.r 1], none, []⟩,
 ⟨some 12, .mv, [.r 0], none, []⟩,
 ⟨some 13, .mv, [.r 5], none, []⟩,
 ⟨some 14, (.iaddrS 1), [.r 12, .r 13], none, [12, 13]⟩,
 ⟨some 15, .ld1, [.r 14], none, [14]⟩,
 ⟨some 16, .callv, [.r 11, .r 15], none, [11, 15]⟩])
 (.cond (.r 16)
 (.kl [0, 1, 7, 8, 16] (.seq (.reg [⟨some 17, .mv, [.r 5], none, [5]⟩,
 ⟨some 4, .mv, [.r 17], none, [17]⟩])
 .ret))
 (.kl [5, 16] .skip)))))
 (.reg [⟨some 18, (.bin .add), [.r 8, .c (.int .i64 1)], none, [8]⟩,
 ⟨some 8, .mv, [.r 18], none, [18]⟩]))))
def c100 : SC :=
 (.seq (.reg [⟨some 4, .mv, [.c (.int .i64 0)], none, []⟩])
 (.seq (.seq (.reg [⟨some 6, .mv, [.r 0], none, [4]⟩,
 ⟨some 7, .len, [.r 6], none, [6]⟩,
 ⟨some 8, .mv, [.c (.int .i64 0)], none, []⟩])
 (.block 0 (.loop c100l0)))
 (.seq (.reg [⟨some 4, .mv, [.c (.int .i64 (-1))], none, []⟩])
 .ret)))
def rs100 : List SR := [.tmp 4]
theorem acall100 (hn : args.length ≤ 19) (h : ac Try.prog c100 (argEnv 0 args) H (Fin H rs100 v H')) : ACall Try.prog 100 args H v H' :=
 acall Try.func100 (c := Try.f100.body.getD .skip) rfl (by kernel_rfl) (by kernel_rfl) hn h
def c101l0 : SC :=
 (.seq (.reg [⟨some 7, (.bin .lss), [.r 6, .c (.int .i64 3)], none, []⟩])
 (.seq (.cond (.r 7)
 (.kl [7] .skip)
 (.kl [2, 6, 7] (.exit 0)))
 (.seq (.block 1 (.seq (.reg [⟨some 8, .mv, [.r 6], none, []⟩,
 ⟨some 5, .mv, [.r 8], none, [8]⟩])
 (.dreg [⟨0, 0, false, false, ⟨some 9, .mv, [.r 5], none, []⟩, []⟩,
 ⟨1, 1, false, false, ⟨some 10, (.iaddrA 1 3), [.r 3, .r 9], none, []⟩, []⟩,
 ⟨2, 3, false, false, ⟨some 11, .ld1, [.r 10], none, [10]⟩, []⟩,
 ⟨3, 0, false, false, ⟨some 12, .mv, [.r 5], none, [5]⟩, []⟩,
 ⟨4, 8, false, false, ⟨some 13, (.iaddrA 1 3), [.r 2, .r 12], none, [12]⟩, []⟩,
 ⟨5, 24, false, false, ⟨some 14, .ld1, [.r 13], none, [13]⟩, []⟩,
 ⟨6, 63, false, false, ⟨some 15, (.bin .sub), [.r 11, .r 14], none, [11, 14]⟩, []⟩,
 ⟨7, 127, false, false, ⟨some 16, (.iaddrA 1 3), [.r 3, .r 9], none, [9]⟩, []⟩,
 ⟨8, 255, false, false, ⟨none, (.st 1), [.r 16, .r 15], none, [15, 16]⟩, []⟩])))
 (.reg [⟨some 17, (.bin .add), [.r 6, .c (.int .i64 1)], none, [6]⟩,
 ⟨some 6, .mv, [.r 17], none, [17]⟩]))))
def c101 : SC :=
 (.seq (.reg [⟨some 2, .box, [.r 0], none, [0]⟩,
 ⟨some 3, .box, [.r 1], none, [1]⟩,
 ⟨some 4, (.alloc [(.int .i64 0), (.int .i64 0), (.int .i64 0)]), [], none, []⟩])
 (.seq (.seq (.reg [⟨some 6, .mv, [.c (.int .i64 0)], none, []⟩])
 (.block 0 (.loop c101l0)))
 (.seq (.reg [⟨some 18, (.ldn 3), [.r 3], none, [3]⟩,
 ⟨none, (.st 3), [.r 4, .r 18], none, [18]⟩])
 .ret)))
def rs101 : List SR := [.celln 4 3]
theorem acall101 (hn : args.length ≤ 19) (h : ac Try.prog c101 (argEnv 0 args) H (Fin H rs101 v H')) : ACall Try.prog 101 args H v H' :=
 acall Try.func101 (c := Try.f101.body.getD .skip) rfl (by kernel_rfl) (by kernel_rfl) hn h
def c102l0 : SC :=
 (.seq (.reg [⟨some 10, (.bin .lss), [.r 9, .c (.int .i64 8)], none, []⟩])
 (.seq (.cond (.r 10)
 (.kl [10] .skip)
 (.kl [9, 10] (.exit 2)))
 (.seq (.block 3 (.seq (.reg [⟨some 11, .mv, [.r 3], none, []⟩,
 ⟨some 12, (.bin .and), [.r 11, .c (.int .u32 1)], none, [11]⟩,
 ⟨some 13, (.bin .eql), [.r 12, .c (.int .u32 1)], none, [12]⟩])
 (.cond (.r 13)
 (.kl [13] (.reg [⟨some 14, .mv, [.r 3], none, [3]⟩,
 ⟨some 15, (.bin .shr), [.r 14, .c (.int .u64 1)], none, [14]⟩,
 ⟨some 16, (.bin .xor), [.r 15, .c (.int .u32 3988292384)], none, [15]⟩,
 ⟨some 3, .mv, [.r 16], none, [16]⟩]))
 (.kl [13] (.reg [⟨some 17, .mv, [.r 3], none, [3]⟩,
 ⟨some 18, (.bin .shr), [.r 17, .c (.int .u64 1)], none, [17]⟩,
 ⟨some 3, .mv, [.r 18], none, [18]⟩])))))
 (.reg [⟨some 19, (.bin .add), [.r 9, .c (.int .i64 1)], none, [9]⟩,
 ⟨some 9, .mv, [.r 19], none, [19]⟩]))))
def c102l1 : SC :=
 (.seq (.reg [⟨some 5, (.bin .lss), [.r 4, .c (.int .i64 256)], none, []⟩])
 (.seq (.cond (.r 5)
 (.kl [5] .skip)
 (.kl [4, 5] (.exit 0)))
 (.seq (.block 1 (.seq (.reg [⟨some 6, .mv, [.r 4], none, []⟩,
 ⟨some 2, .mv, [.r 6], none, [6]⟩])
 (.seq (.reg [⟨some 7, .mv, [.r 2], none, []⟩,
 ⟨some 8, (.conv .u32), [.r 7], none, [7]⟩,
 ⟨some 3, .mv, [.r 8], none, [8]⟩])
 (.seq (.seq (.reg [⟨some 9, .mv, [.c (.int .i64 0)], none, []⟩])
 (.block 2 (.loop c102l0)))
 (.reg [⟨some 20, .mv, [.r 2], none, [2]⟩,
 ⟨some 21, .mv, [.r 3], none, [3]⟩,
 ⟨some 22, (.iaddrA 1 256), [.r 1, .r 20], none, [20]⟩,
 ⟨none, (.st 1), [.r 22, .r 21], none, [21, 22]⟩])))))
 (.reg [⟨some 23, (.bin .add), [.r 4, .c (.int .i64 1)], none, [4]⟩,
 ⟨some 4, .mv, [.r 23], none, [23]⟩]))))
def c102 : SC :=
 (.seq (.reg [⟨some 0, (.alloc (List.replicate 256 (.int .u32 0))), [], none, []⟩])
 (.seq (.reg [⟨some 1, (.alloc (List.replicate 256 (.int .u32 0))), [], none, []⟩])
 (.seq (.seq (.reg [⟨some 4, .mv, [.c (.int .i64 0)], none, []⟩])
 (.block 0 (.loop c102l1)))
 (.seq (.reg [⟨some 24, (.ldn 256), [.r 1], none, [1]⟩,
 ⟨none, (.st 256), [.r 0, .r 24], none, [24]⟩])
 .ret))))
def rs102 : List SR := [.celln 0 256]
theorem acall102 (hn : args.length ≤ 25) (h : ac Try.prog c102 (argEnv 0 args) H (Fin H rs102 v H')) : ACall Try.prog 102 args H v H' :=
 acall Try.func102 (c := Try.f102.body.getD .skip) rfl (by kernel_rfl) (by kernel_rfl) hn h
end Go.Proofs.Ytaiboicipbhmhaa.Ah
