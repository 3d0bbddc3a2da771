/- joustlaw10's alive, number, few: the walks. -/
import Derived.Test.YtlndgnlkfhlekaaDoorCkF
namespace Go.Proofs.YtlndgnlkfhlekaaDoor
open Go.RowKit

namespace Ck
def sB : ByteArray := ⟨#[115]⟩
def xB : ByteArray := ⟨#[120]⟩
def yB : ByteArray := ⟨#[121]⟩
def nB : ByteArray := ⟨#[110]⟩
def chanceB : ByteArray := ⟨#[99, 104, 97, 110, 99, 101]⟩
def S1 : ByteArray := ⟨#[241, 78, 241, 72, 116, 111, 98, 38, 75, 212, 67, 217, 99, 85, 44, 126, 209, 198, 151, 138, 31, 158, 255, 159, 176, 207, 101, 100, 229, 41, 184, 192]⟩
def C1 : ByteArray := ⟨#[103, 121, 206, 92, 214, 47, 254, 205, 24, 180, 43, 139, 210, 117, 22, 64, 111, 223, 16, 215, 127, 243, 243, 91, 176, 249, 70, 236, 195, 3, 106, 139]⟩
def D1 : ByteArray := ⟨#[12, 178, 97, 127, 7, 50, 122, 57, 129, 53, 242, 88, 213, 161, 6, 153, 49, 218, 73, 231, 128, 128, 92, 214, 229, 43, 114, 217, 11, 130, 115, 18]⟩
def S2 : ByteArray := ⟨#[4, 18, 207, 134, 166, 115, 30, 3, 35, 76, 81, 157, 172, 244, 179, 154, 244, 46, 247, 143, 204, 218, 141, 254, 158, 72, 142, 62, 121, 160, 178, 155]⟩
def C2 : ByteArray := ⟨#[166, 16, 52, 179, 230, 235, 84, 57, 162, 9, 3, 147, 86, 71, 142, 237, 128, 131, 183, 47, 196, 224, 37, 8, 170, 104, 36, 29, 222, 222, 35, 36]⟩
theorem dv_eq (sec use : ByteArray) (ps : List ByteArray) : dv sec use ps = strOf (Sha.sha (Mac.row (Mac.key (num sec)) 92 64 ++ Sha.sha (Mac.row (Mac.key (num sec)) 54 64 ++ (num use ++ [0] ++ ((ps.map num).map fun p => Sha.be p.length ++ p).flatten)))) := by
  unfold dv
  rw [Mac.tag_eq, Mac.pad_eq, Mac.pad_eq, Mac.said_eq]
theorem val1 : dv sB cookieB [] = S1 := by rw [dv_eq]; decide +kernel
theorem val2 : ck S1 xB nB 1 = C1 := by unfold ck be; rw [dv_eq]; decide +kernel
theorem val3 : ck S1 yB nB 1 = D1 := by unfold ck be; rw [dv_eq]; decide +kernel
theorem val4 : tn S1 chanceB = S2 := by unfold tn; rw [dv_eq]; decide +kernel
theorem val5 : ck S2 xB nB 2 = C2 := by unfold ck be; rw [dv_eq]; decide +kernel
theorem ne1 : C1 ≠ D1 := by decide
theorem ne2 : C2 ≠ C1 := by decide
end Ck
end Go.Proofs.YtlndgnlkfhlekaaDoor
