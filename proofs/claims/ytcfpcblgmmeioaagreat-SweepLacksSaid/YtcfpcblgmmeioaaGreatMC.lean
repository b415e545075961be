import Derived.Test.YtcfpcblgmmeioaaGreatProg
import Derived.Test.YtcfpcblgmmeioaaGreatMB
import Derived.KernelRfl
set_option linter.all false
open Option renaming some->β,none->ζ
open Go.Proofs.Tryz renaming prog->γ
open List renaming replicate->ε,range->ω,length->α
open Bool renaming true->η,false->ι
open UInt8 renaming ofNat->ν
open Go.bD.U renaming ai->ξ,an->ο,set_set->τ
open BitVec renaming ofInt->ρ
open Go.bD.R renaming cells->σ
set_option maxRecDepth 100000
namespace Go.Proofs.YtcfpcblgmmeioaaGreat
open Go Go.bD
theorem hm:γ.follows .mixedOrders=true:=Χ
abbrev iI:=ύ
def Ko:Nat->Operand
 |0=>(.const (.int .i64 0))
 |1=>(.const (.bool ι))
 |2=>(.const (.int .i64 1))
 |3=>(.const (.slice ζ 0 0))
 |4=>(.const (.bool η))
 |5=>(.const (.int .i64 8))
 |6=>(.const (.pointer ζ))
 |_=>(.const (.int .i64 4))
def Kp:Nat->Operand
 |0=>(.const (.int .i64 2))
 |1=>(.const (.int .u8 2))
 |2=>(.const (.int .i64 (-1)))
 |3=>(.const (.int .i64 64))
 |4=>(.const (.int .u8 1))
 |5=>(.const (.int .u8 3))
 |6=>(.const (.int .i64 3))
 |_=>(.const (.int .i64 21))
def Kq:Nat->Operand
 |0=>(.const (.int .i64 1048576))
 |1=>(.const (.int .u8 0))
 |2=>(.const (.int .i64 16))
 |3=>(.const (.int .u64 0))
 |4=>(.const (.int .i64 9))
 |5=>(.const (.int .i64 7))
 |6=>(.const (.int .u64 8))
 |_=>(.const (.int .u64 32))
def Kr:Nat->Operand
 |0=>(.const (.int .i64 10))
 |1=>(.const (.int .u64 9223372036854775808))
 |2=>(.const (.int .i64 6))
 |3=>(.const (.int .i64 56))
 |4=>(.const (.int .u64 16))
 |5=>(.const (.int .u64 256))
 |6=>(.const (.int .i64 256))
 |_=>(.const (.int .i64 5))
def Ks:Nat->Operand
 |0=>(.func 47)
 |1=>(.const (.int .u8 4))
 |2=>(.const (.int .i64 32))
 |3=>(.const (.string ⟨#[99,97,110,110,111,116,32,98,101,32,110,101,103,97,116,105,118,101]⟩))
 |4=>(.const (.int .u64 4294967295))
 |5=>(.const (.int .i64 100))
 |6=>(.const (.int .i64 20))
 |_=>(.func 32)
def Kt:Nat->Operand
 |0=>(.func 39)
 |1=>(.const (.string ⟨#[105,100]⟩))
 |2=>(.const (.int .u8 80))
 |3=>(.const (.int .u8 128))
 |4=>(.const (.int .u64 24))
 |5=>(.const (.int .u32 1779033703))
 |6=>(.const (.int .u32 3144134277))
 |_=>(.const (.int .u32 1013904242))
def Ku:Nat->Operand
 |0=>(.const (.int .u32 2773480762))
 |1=>(.const (.int .u32 1359893119))
 |2=>(.const (.int .u32 2600822924))
 |3=>(.const (.int .u32 528734635))
 |4=>(.const (.int .u32 1541459225))
 |5=>(.const (.int .u64 1))
 |6=>(.const (.int .u32 256))
 |_=>(.const (.int .u32 1116352408))
def Kv:Nat->Operand
 |0=>(.const (.int .u32 1899447441))
 |1=>(.const (.int .u32 3049323471))
 |2=>(.const (.int .u32 3921009573))
 |3=>(.const (.int .u32 961987163))
 |4=>(.const (.int .u32 1508970993))
 |5=>(.const (.int .u32 2453635748))
 |6=>(.const (.int .u32 2870763221))
 |_=>(.const (.int .u32 3624381080))
def Kw:Nat->Operand
 |0=>(.const (.int .u32 310598401))
 |1=>(.const (.int .u32 607225278))
 |2=>(.const (.int .u32 1426881987))
 |3=>(.const (.int .u32 1925078388))
 |4=>(.const (.int .u32 2162078206))
 |5=>(.const (.int .u32 2614888103))
 |6=>(.const (.int .u32 3248222580))
 |_=>(.const (.int .u32 3835390401))
def Kx:Nat->Operand
 |0=>(.const (.int .u32 4022224774))
 |1=>(.const (.int .u32 264347078))
 |2=>(.const (.int .u32 604807628))
 |3=>(.const (.int .u32 770255983))
 |4=>(.const (.int .u32 1249150122))
 |5=>(.const (.int .u32 1555081692))
 |6=>(.const (.int .u32 1996064986))
 |_=>(.const (.int .u32 2554220882))
def Ky:Nat->Operand
 |0=>(.const (.int .u32 2821834349))
 |1=>(.const (.int .u32 2952996808))
 |2=>(.const (.int .u32 3210313671))
 |3=>(.const (.int .u32 3336571891))
 |4=>(.const (.int .u32 3584528711))
 |5=>(.const (.int .u32 113926993))
 |6=>(.const (.int .u32 338241895))
 |_=>(.const (.int .u32 666307205))
def Kz:Nat->Operand
 |0=>(.const (.int .u32 773529912))
 |1=>(.const (.int .u32 1294757372))
 |2=>(.const (.int .u32 1396182291))
 |3=>(.const (.int .u32 1695183700))
 |4=>(.const (.int .u32 1986661051))
 |5=>(.const (.int .u32 2177026350))
 |6=>(.const (.int .u32 2456956037))
 |_=>(.const (.int .u32 2730485921))
def KA:Nat->Operand
 |0=>(.const (.int .u32 2820302411))
 |1=>(.const (.int .u32 3259730800))
 |2=>(.const (.int .u32 3345764771))
 |3=>(.const (.int .u32 3516065817))
 |4=>(.const (.int .u32 3600352804))
 |5=>(.const (.int .u32 4094571909))
 |6=>(.const (.int .u32 275423344))
 |_=>(.const (.int .u32 430227734))
def KB:Nat->Operand
 |0=>(.const (.int .u32 506948616))
 |1=>(.const (.int .u32 659060556))
 |2=>(.const (.int .u32 883997877))
 |3=>(.const (.int .u32 958139571))
 |4=>(.const (.int .u32 1322822218))
 |5=>(.const (.int .u32 1537002063))
 |6=>(.const (.int .u32 1747873779))
 |_=>(.const (.int .u32 1955562222))
def KC:Nat->Operand
 |0=>(.const (.int .u32 2024104815))
 |1=>(.const (.int .u32 2227730452))
 |2=>(.const (.int .u32 2361852424))
 |3=>(.const (.int .u32 2428436474))
 |4=>(.const (.int .u32 2756734187))
 |5=>(.const (.int .u32 3204031479))
 |6=>(.const (.int .u32 3329325298))
 |_=>(.const (.int .i64 15))
def KD:Nat->Operand
 |0=>(.const (.int .u32 0))
 |1=>(.const (.int .u64 2))
 |2=>(.const (.string ⟨#[108,101,110,32,111,117,116,32,111,102,32,114,97,110,103,101]⟩))
 |3=>(.const (.int .i64 500))
 |4=>(.const (.int .i64 300))
 |5=>(.const (.int .i64 50))
 |6=>(.const (.int .i64 30))
 |_=>(.func 55)
def KE:Nat->Operand
 |0=>(.func 56)
 |1=>(.func 57)
 |2=>(.func 58)
 |3=>(.func 105)
 |4=>(.func 106)
 |5=>(.func 107)
 |6=>(.func 108)
 |_=>(.const (.int .i64 22))
def KF:Nat->Operand
 |0=>(.const (.int .i64 12))
 |1=>(.const (.int .i32 97))
 |2=>(.const (.int .i32 122))
 |3=>(.const (.int .i32 48))
 |4=>(.const (.int .i32 57))
 |5=>(.const (.int .i32 95))
 |6=>(.const (.int .u8 97))
 |_=>(.const (.int .u8 122))
def KG:Nat->Operand
 |0=>(.const (.int .u8 48))
 |1=>(.const (.int .u8 57))
 |2=>(.const (.int .u8 95))
 |3=>(.const (.int .i64 17))
 |4=>(.const (.int .i64 255))
 |5=>(.const (.int .u64 4294967296))
 |6=>(.const (.int .u64 65536))
 |_=>(.func 209)
def KH:Nat->Operand
 |0=>(.const (.int .i64 (-9223372036854775808)))
 |1=>(.const (.int .i64 9223372036854775807))
 |2=>(.func 216)
 |3=>(.const (.int .u64 18446744073709551615))
 |4=>(.const (.int .i64 65536))
 |5=>(.const (.int .i64 (-6)))
 |6=>(.const (.int .i64 (-11)))
 |_=>(.const (.int .i64 (-25)))
def KI:Nat->Operand
 |0=>(.const (.int .i64 (-2)))
 |1=>(.const (.int .i64 (-13)))
 |2=>(.const (.int .i64 (-22)))
 |3=>(.func 257)
 |4=>(.func 258)
 |5=>(.const (.string ⟨#[]⟩))
 |6=>(.const (.int .u64 9223372036854775807))
 |_=>(.const (.string ⟨#[116,104,101,32,114,101,115,117,108,116,32,111,102,32,40,108,101,110,40,120,41,32,42,32,99,111,117,110,116,41,32,111,118,101,114,102,108,111,119,115]⟩))
def KJ:Nat->Operand
 |0=>(.const (.int .i64 1000))
 |1=>(.const (.int .i64 24))
 |2=>(.const (.int .i64 (-7)))
 |3=>(.const (.int .i64 (-18)))
 |4=>(.const (.int .u64 3))
 |5=>(.const (.int .i64 (-17)))
 |6=>(.const (.int .i64 (-19)))
 |_=>(.const (.int .u64 10))
def KK:Nat->Operand
 |0=>(.const (.int .u64 31))
 |1=>(.const .nilFunc)
 |2=>(.const (.int .u64 7))
 |3=>(.const (.int .u64 18))
 |4=>(.const (.int .u32 8))
 |5=>(.const (.int .u64 17))
 |6=>(.const (.int .u64 19))
 |_=>(.const (.int .u32 1024))
def KL:Nat->Operand
 |0=>(.const (.int .u32 4294967295))
 |1=>(.const (.int .u64 6))
 |2=>(.const (.int .u64 11))
 |3=>(.const (.int .u64 25))
 |4=>(.const (.int .u64 13))
 |5=>(.const (.int .u64 22))
 |_=>(.const (.int .i64 63))
def KM(a:Nat):Operand:=
 match a/8%8 with
 |0=>Ko (a%8)
 |1=>Kp (a%8)
 |2=>Kq (a%8)
 |3=>Kr (a%8)
 |4=>Ks (a%8)
 |5=>Kt (a%8)
 |6=>Ku (a%8)
 |_=>Kv (a%8)
def KN(a:Nat):Operand:=
 match a/8%8 with
 |0=>Kw (a%8)
 |1=>Kx (a%8)
 |2=>Ky (a%8)
 |3=>Kz (a%8)
 |4=>KA (a%8)
 |5=>KB (a%8)
 |6=>KC (a%8)
 |_=>KD (a%8)
def KO(a:Nat):Operand:=
 match a/8%8 with
 |0=>KE (a%8)
 |1=>KF (a%8)
 |2=>KG (a%8)
 |3=>KH (a%8)
 |4=>KI (a%8)
 |5=>KJ (a%8)
 |6=>KK (a%8)
 |_=>KL (a%8)
def C7(a:Nat):Operand:=
 match a/64 with
 |0=>KM a
 |1=>KN a
 |_=>KO a
def KP:Nat->cd
 |0=>(.eqv ι [(32,(.int .u8))] (.tmp 146) (.tmp 150))
 |1=>(.eqv ι [(32,(.int .u8))] (.tmp 59) (.tmp 61))
 |2=>(.eqv ι [(32,(.int .u8))] (.tmp 72) (.tmp 74))
 |3=>(.eqv η [(32,(.int .u8))] (.tmp 20) (.tmp 24))
 |4=>(.po η 0 32 (.tmp 10))
 |5=>(.po η 0 32 (.tmp 11))
 |6=>.ku
 |_=>(.kv η [(32,(.int .u8))] (.J [] .nil) (.tmp 12) (.tmp 13))
def KQ:Nat->cd
 |0=>(.kv η [(32,(.int .u8))] (.J [] .nil) (.tmp 14) (.tmp 15))
 |1=>(.lo [(32,(.int .u8))] (.tmp 25) (.tmp 26) (.tmp 28))
 |2=>(.kv η [(32,(.int .u8))] (.J [] .nil) (.tmp 11) (.tmp 12))
 |3=>(.pj η 37 2 (.tmp 29) (.tmp 30))
 |4=>(.pq (.tmp 27))
 |5=>(.pq (.tmp 44))
 |6=>(.eqv ι [(32,(.int .u8))] (.tmp 15) (.tmp 16))
 |_=>(.kv ι [(32,(.int .u8))] (.v (.bool ι)) (.tmp 8) (.tmp 9))
def KR:Nat->cd
 |0=>(.lo [(32,(.int .u8))] (.tmp 14) (.tmp 15) (.const (.bool η)))
 |1=>(.kt (.tmp 6))
 |2=>(.mW (.tmp 7))
 |3=>(.ma (.tmp 13) (.tmp 14))
 |4=>(.eqv η [(2,(.int .u64))] (.tmp 36) (.tmp 37))
 |5=>(.ll 42 (.tmp 1))
 |6=>(.kq 1 32 (.tmp 3) ζ ζ)
 |_=>(.kp 1 32 (.tmp 59) ζ ζ η)
def KS:Nat->cd
 |0=>(.pj ι 1 8 (.tmp 50) (.tmp 51))
 |1=>(.ma (.const (.string ⟨#[0,1,2,2,3,3,3,3,4,4,4,4,4,4,4,4,5,5,5,5,5,5,5,5,5,5,5,5,5,5,5,5,6,6,6,6,6,6,6,6,6,6,6,6,6,6,6,6,6,6,6,6,6,6,6,6,6,6,6,6,6,6,6,6,7,7,7,7,7,7,7,7,7,7,7,7,7,7,7,7,7,7,7,7,7,7,7,7,7,7,7,7,7,7,7,7,7,7,7,7,7,7,7,7,7,7,7,7,7,7,7,7,7,7,7,7,7,7,7,7,7,7,7,7,7,7,7,7,8,8,8,8,8,8,8,8,8,8,8,8,8,8,8,8,8,8,8,8,8,8,8,8,8,8,8,8,8,8,8,8,8,8,8,8,8,8,8,8,8,8,8,8,8,8,8,8,8,8,8,8,8,8,8,8,8,8,8,8,8,8,8,8,8,8,8,8,8,8,8,8,8,8,8,8,8,8,8,8,8,8,8,8,8,8,8,8,8,8,8,8,8,8,8,8,8,8,8,8,8,8,8,8,8,8,8,8,8,8,8,8,8,8,8,8,8,8,8,8,8,8,8,8,8,8,8,8]⟩)) (.tmp 21))
 |2=>(.eqv ι [(32,(.int .u8))] (.tmp 6) (.tmp 8))
 |3=>(.kp 1 32 (.tmp 3) ζ ζ ι)
 |4=>(.mT 1 (.tmp 11) (.tmp 12))
 |_=>(.eqv ι [(2,(.int .u64))] (.tmp 6) (.tmp 7))
def KT(a:Nat):cd:=
 match a/8 with
 |0=>KP (a%8)
 |1=>KQ (a%8)
 |2=>KR (a%8)
 |_=>KS (a%8)
def KU(a:Nat):Nat:=if 96<a then a - 97 else if 64<a then a - 39 else if 47<a then a+4 else a+26
def KV(a:List iI)(b:Nat):iI:=a.getD b []
variable{b0:Type}
section
def cV(k:ϋ)(b:Nat->ϋ->b0):b0:=
 match k with
 |c::a=>if c<69 then b c a else if c=69 then(match a with|d::h::a=>b (d*71+h) a|_=>b 0 [])else(match a with|d::h::o::a=>b ((d*71+h)*71+o) a|_=>b 0 [])
 |[]=>b 0 []
def KW(a b:Nat)(c:Operand->ϋ->b0)(d:ϋ):b0:=
 match a - b with
 |h=>c (.tmp h) d
def bR(h:Nat)(k:ϋ)(b:Operand->ϋ->b0):b0:=
 match k with
 |c::a=>if c<20 then b (.tmp c) a else if c<36 then KW h (c - 20) b a else if c<70 then b (C7 (c - 36)) a else cV a λd a=>if d<1000 then b (.tmp d) a else b (C7 (d - 1000)) a
 |[]=>b Kn []
def jl(b:ϋ)(a:Nat->ϋ->b0):b0:=
 match b with
 |c::d=>a c d
 |[]=>a 0 []
def xh(a:ϋ)(b:Bool->ϋ->b0):b0:=jl a λc a=>if c=0 then b ι a else b η a
def sd(b:List iI)(a:ϋ)(c:iI->ϋ->b0):b0:=jl a λd a=>c (KV b d) a
def pz{c:Type}(d:ϋ->(c->ϋ->b0)->b0):Nat->ϋ->(List c->ϋ->b0)->b0
 |0,a,b=>b [] a
 |h+1,a,b=>d a λk a=>pz d h a λo a=>b (k::o) a
def qP(b:Nat)(a:ϋ)(c:List Operand->ϋ->b0):b0:=jl a λd a=>pz (bR b) d a c
def se(c:Nat)(a:ϋ)(b:Option Operand->ϋ->b0):b0:=jl a λd a=>if d=0 then b ζ a else bR c a λh a=>b (β h) a
def KX(b:Nat)(a:ϋ)(c:Nat×Nat×Operand->ϋ->b0):b0:=cV a λd a=>cV a λh a=>bR b a λk a=>c (d,h,k) a
def KY(b:Nat)(a:ϋ)(c:List (Nat×Nat×Operand)->ϋ->b0):b0:=jl a λd a=>pz (KX b) d a c
def KZ(a:ϋ)(b:UnOp->ϋ->b0):b0:=jl a λc a=>b (match c with|0=>.neg|1=>.xor|2=>.not|_=>.plus) a
def C8(a:ϋ)(b:IntKind->ϋ->b0):b0:=jl a λc a=>b (match c with|0=>.i8|1=>.i16|2=>.i32|3=>.i64|4=>.u8|5=>.u16|6=>.u32|_=>.u64) a
def L0(a:ϋ)(b:dg->ϋ->b0):b0:=cV a λc a=>jl a λd a=>pz cV d a λh a=>jl a λk a=>pz cV k a λo a=>b ⟨c,h,o⟩ a
def L1(a:ϋ)(b:Nat×Option (Bool×Nat)->ϋ->b0):b0:=cV a λc a=>jl a λd a=>if d=0 then b (c,ζ) a else cV a λh a=>b (c,β (if d=1 then ι else η,h)) a
end
def L2(k:List iI)(c:Nat):Nat->ϋ->cd×ϋ
 |0=>λa=>bR c a λb a=>(.fg b,a)
 |1=>λa=>bR c a λb a=>(.load ι 1 b,a)
 |2=>λa=>cV a λb a=>bR c a λd a=>(.ln b d,a)
 |3=>λa=>cV a λb a=>qP c a λd a=>(.gg b d,a)
 |4=>λa=>cV a λb a=>bR c a λd a=>(.load η b d,a)
 |5=>λa=>cV a λb a=>bR c a λd a=>bR c a λh a=>(.store b d h,a)
 |6=>λa=>bR c a λb a=>(.len b,a)
 |_=>λa=>cV a λb a=>bR c a λd a=>bR c a λh a=>(.dS b d h,a)
def L3(h:List iI)(d:Nat):Nat->ϋ->cd×ϋ
 |0=>λa=>bR d a λb a=>cV a λc a=>(.ext b c,a)
 |1=>λa=>bR d a λb a=>bR d a λc a=>(.bin .add b c,a)
 |2=>λa=>bR d a λb a=>(.qz b,a)
 |3=>λa=>bR d a λb a=>bR d a λc a=>bR d a λk a=>(.pick b c k,a)
 |4=>λa=>bR d a λb a=>bR d a λc a=>(.bin .lss b c,a)
 |5=>λa=>cV a λb a=>bR d a λc a=>(.box b c,a)
 |6=>λa=>bR d a λb a=>bR d a λc a=>(.bin .eql b c,a)
 |_=>λa=>cV a λb a=>sd h a λc a=>(.alloc b c,a)
def L4(o:List iI)(d:Nat):Nat->ϋ->cd×ϋ
 |0=>λa=>sd o a λb a=>KY d a λc a=>(.mb b c,a)
 |1=>λa=>KZ a λb a=>bR d a λc a=>(.un b c,a)
 |2=>λa=>bR d a λb a=>bR d a λc a=>(.bin .neq b c,a)
 |3=>λa=>cV a λb a=>bR d a λc a=>se d a λh a=>se d a λk a=>se d a λp a=>(.mf b c h k p,a)
 |4=>λa=>C8 a λb a=>bR d a λc a=>(.je b c,a)
 |5=>λa=>cV a λb a=>qP d a λc a=>(.ko b c,a)
 |6=>λa=>bR d a λb a=>bR d a λc a=>(.bin .gtr b c,a)
 |_=>λa=>cV a λb a=>cV a λc a=>bR d a λh a=>bR d a λk a=>(.app b c h k,a)
def L5(o:List iI)(b:Nat):Nat->ϋ->cd×ϋ
 |0=>λa=>bR b a λc a=>bR b a λd a=>(.bin .sub c d,a)
 |1=>λa=>cV a λc a=>cV a λd a=>bR b a λh a=>bR b a λk a=>(.me c d h k,a)
 |2=>λa=>cV a λc a=>cV a λd a=>bR b a λh a=>bR b a λk a=>(.qA c d h k,a)
 |3=>λa=>cV a λc a=>qP b a λd a=>(.ks c d,a)
 |4=>λa=>bR b a λc a=>bR b a λd a=>(.bin .geq c d,a)
 |5=>λa=>bR b a λc a=>bR b a λd a=>(.bin .xor c d,a)
 |6=>λa=>bR b a λc a=>bR b a λd a=>(.bin .mul c d,a)
 |_=>λa=>bR b a λc a=>bR b a λd a=>(.bin .leq c d,a)
def L6(o:List iI)(b:Nat):Nat->ϋ->cd×ϋ
 |0=>λa=>cV a λc a=>bR b a λd a=>se b a λh a=>se b a λk a=>(.pk c d h k,a)
 |1=>λa=>bR b a λc a=>bR b a λd a=>(.bin .shr c d,a)
 |2=>λa=>cV a λc a=>bR b a λd a=>bR b a λh a=>(.mZ c d h,a)
 |3=>λa=>cV a λc a=>qP b a λd a=>qP b a λh a=>(.bG c d h,a)
 |4=>λa=>bR b a λc a=>qP b a λd a=>(.jf c d,a)
 |5=>λa=>bR b a λc a=>bR b a λd a=>(.bin .rem c d,a)
 |6=>λa=>bR b a λc a=>bR b a λd a=>(.bin .quo c d,a)
 |_=>λa=>bR b a λc a=>bR b a λd a=>(.bin .and c d,a)
def L7(o:List iI)(c:Nat):Nat->ϋ->cd×ϋ
 |0=>λa=>xh a λb a=>bR c a λd a=>bR c a λh a=>(.qC b d h,a)
 |1=>λa=>xh a λb a=>C8 a λd a=>bR c a λh a=>bR c a λk a=>(.mc b d h k,a)
 |2=>λa=>xh a λb a=>bR c a λd a=>(.mU b d,a)
 |3=>λa=>bR c a λb a=>bR c a λd a=>(.bin .shl b d,a)
 |4=>λa=>bR c a λb a=>bR c a λd a=>(.bin .or b d,a)
 |5=>λa=>bR c a λb a=>(.qB b,a)
 |6=>λa=>bR c a λb a=>(.mX b,a)
 |_=>λa=>bR c a λb a=>(.qD b,a)
def L8(k:List iI)(c:Nat):Nat->ϋ->cd×ϋ
 |0=>λa=>cV a λb a=>bR c a λd a=>(.qE b d,a)
 |1=>λa=>bR c a λb a=>(.mV b,a)
 |2=>λa=>cV a λb a=>cV a λd a=>sd k a λh a=>bR c a λo a=>bR c a λp a=>(.nc b d h o p,a)
 |3=>λa=>bR c a λb a=>bR c a λd a=>(.nd b d,a)
 |4=>λa=>cV a λb a=>sd k a λd a=>bR c a λh a=>(.mY b d h,a)
 |5=>λa=>cV a λb a=>cV a λd a=>sd k a λh a=>bR c a λo a=>bR c a λp a=>(.kr b d h o p,a)
 |_=>λa=>cV a λr a=>(KT r,a)
def C9(b:List iI)(c:Nat)(a:Nat):ϋ->cd×ϋ:=
 match a/8 with
 |0=>L2 b c (a%8)
 |1=>L3 b c (a%8)
 |2=>L4 b c (a%8)
 |3=>L5 b c (a%8)
 |4=>L6 b c (a%8)
 |5=>L7 b c (a%8)
 |_=>L8 b c (a%8)
def ob(c:List iI):Nat->Nat->Option (Nat×Bool)->ϋ->List ca×Nat×ϋ
 |0,b,_,a=>([],b,a)
 |p+1,b,d,a=>jl a λh a=>
  if h<55 then match C9 c b h a with|(r,a)=>match ob c p (b+1) d a with|(k,o,a)=>(⟨β (b+1),r,d⟩::k,o,a)
  else if h=55 then cV a λx a=>jl a λh a=>match C9 c b h a with|(r,a)=>match x with
   |0=>match ob c p b d a with|(k,o,a)=>(⟨ζ,r,d⟩::k,o,a)
   |x+1=>match ob c p x d a with|(k,o,a)=>(⟨β x,r,d⟩::k,o,a)
  else if h=56 then([],b,a)
  else cV a λy a=>ob c p b (if y=0 then ζ else β (y/2 - 1,if y%2=1 then η else ι)) a
def oc(c:List iI):Nat->Nat->ϋ->eC×Nat×ϋ
 |0,b,a=>(.skip,b,a)
 |d+1,b,a=>jl a λr a=>match r with
  |0=>(.skip,b,a)
  |1=>match ob c d b ζ a with|(h,b,a)=>(.plain h,b,a)
  |2=>match ob c d b ζ a with|(h,b,a)=>(.draw h ((ω (α h)).map bk),b,a)
  |3=>match oc c d b a with|(k,b,a)=>match oc c d b a with|(o,b,a)=>(.seq k o,b,a)
  |4=>bR b a λx a=>match oc c d b a with|(k,b,a)=>match oc c d b a with|(o,b,a)=>(.cond x k o,b,a)
  |5=>cV a λp a=>match oc c d b a with|(k,b,a)=>(.block p k,b,a)
  |6=>match oc c d b a with|(k,b,a)=>(.loop k,b,a)
  |7=>cV a λp a=>(.exit p,b,a)
  |8=>(.ret,b,a)
  |9=>(.refuse,b,a)
  |10=>match ob c d b ζ a with|(h,b,a)=>cV a λy a=>pz L0 y a λz a=>(.draw h z,b,a)
  |_=>match ob c d b ζ a with|(h,b,a)=>match oc c d b a with|(o,b,a)=>(.seq (.plain h) o,b,a)
def L9(h:List iI)(b:List Char):ar:=
 cV (b.map λc=>KU c.toNat) λk a=>cV a λd a=>jl a λb a=>pz L1 b a λo a=>match oc h 999 d a with|(c,_,_)=>⟨k,d,c,o⟩
abbrev aw(a b:Nat)(c:ar):Prop:=dw γ a b=β c
variable{e i v M b9 j1:Nat}
def ax{a:ar}(b:dw γ e i=β a:=by kernel_rfl):aw e i a:=b
abbrev ay(q:String){a:List Char}{b:ύ->ύ->ύ->ύ->ύ->ύ->ύ->ύ->ύ->ύ->ύ->ύ->ύ->ύ->ύ->ύ->ύ->ύ->ύ->ύ->ύ->ύ->ύ->ύ->ύ->ύ->ύ->ύ->ύ->ar}(_:String.ofList a=q:=by rfl)(_:∀c d h k o p r x y z C D E F G L P S T V W e f g i j l m n:ύ,L9 [c,d,h,k,o,p,r,x,y,z,C,D,E,F,G,L,P,S,T,V,W,e,f,g,i,j,l,m,n] a=b c d h k o p r x y z C D E F G L P S T V W e f g i j l m n:=by intros;conv=>lhs;cbv):ar:=
 b (((ε 32 (.v (.int .u8 0))):ύ)++([(.J [] .nil),(.J [] .nil)]:ύ)++([(.v (.int .i64 0)),(.v (.int .i64 0))]:ύ)++([(.J [] .nil)]:ύ)) [(.v (.int .u8 0)),(.J [] .nil),(.J [] .nil)] [(.J [] .nil),(.J [] .nil)] (([(.v (.string ⟨#[]⟩))]:ύ)++([(.J [] .nil)]:ύ)++((ε 32 (.v (.int .u8 0))):ύ)++([(.J [] .nil),(.J [] .nil)]:ύ)++([(.v (.int .i64 0)),(.v (.int .i64 0))]:ύ)++([(.J [] .nil)]:ύ)++((ε 32 (.v (.int .u8 0))):ύ)++([(.J [] .nil),(.J [] .nil)]:ύ)++([(.v (.int .i64 0)),(.v (.int .i64 0))]:ύ)++([(.J [] .nil)]:ύ)) [(.v (.int .u64 0)),(.v (.int .u64 0))] [(.J [] .nil),(.v (.bool ι))] (ε 32 (.v (.int .u8 0))) [(.v (.bool ι)),(.J [] .nil),(.J [] .nil)] [(.v (.pointer ζ)),(.v (.int .i64 0))] [(.J [] .nil),(.v (.int .i64 0))] (ε 8 (.v (.int .u32 0))) (ε 64 (.v (.int .u32 0))) [(.J [] .nil)] [(.J [] .nil),(.v (.bool ι)),(.v (.pointer ζ)),(.v (.pointer ζ))] (ε 5 (.v .nilFunc)) [(.v (.string ⟨#[]⟩)),(.J [] .nil),(.J [] .nil),(.v (.pointer ζ)),(.v (.pointer ζ))] [(.v (.int .i64 0))] (((ε 32 (.v (.int .u8 0))):ύ)++([(.J [] .nil),(.J [] .nil)]:ύ)++([(.v (.int .i64 0)),(.v (.int .i64 0))]:ύ)++([(.J [] .nil)]:ύ)++([(.v (.int .u64 0)),(.v (.int .u64 0))]:ύ)++([(.v (.int .i64 0)),(.v (.int .i64 0))]:ύ)) [(.v (.map ζ)),(.J [] .nil),(.J [] .nil),(.v (.bool ι))] [(.v (.pointer ζ)),(.J [] .nil)] [(.v (.int .u8 0)),(.v (.int .i64 0)),(.J [] .nil)] [(.J [] .nil),(.v (.map ζ))] (((ε 32 (.v (.int .u8 0))):ύ)++([(.J [] .nil),(.J [] .nil)]:ύ)++([(.v (.int .i64 0)),(.v (.int .i64 0))]:ύ)++([(.J [] .nil)]:ύ)++((ε 32 (.v (.int .u8 0))):ύ)++([(.J [] .nil),(.J [] .nil)]:ύ)++([(.v (.int .i64 0)),(.v (.int .i64 0))]:ύ)++([(.J [] .nil)]:ύ)) [(.J [] .nil),(.J [] .nil),(.v (.int .u8 0)),(.v (.int .i64 0)),(.J [] .nil),(.v (.int .i64 0)),(.v (.bool ι))] [(.v (.int .u8 0)),(.v (.string ⟨#[]⟩)),(.J [] .nil),(.J [] .nil)] (((ε 8 (.v (.int .u32 0))):ύ)++([(.J [] .nil)]:ύ)++([(.v (.int .u64 0))]:ύ)) [(.v (.pointer ζ)),(.J [] .nil),(.J [] .nil),(.v (.int .u8 0)),(.v (.int .i64 0)),(.J [] .nil),(.v (.int .i64 0)),(.v (.bool ι)),(.v (.int .i64 0)),(.J [] .nil),(.v (.int .i64 0)),(.v (.int .i64 0)),(.v (.int .i64 0)),(.J [] .nil)] [(.v (.int .u8 0))] [(.v (.int .u32 0))]
def La:ar:=ay "+cucbeal3faL4dl3wdgarcu4eul3faL4iadl3yaadhbuau50abguwu,+p65alxOu4eul3faO4ial3Gaadibu3Fau3Iiuaixb3gava,I4dl3KafOauQ4eul3faO4ial3MagdncNu3iau4l3Odsa3jau4dlaK4fagdl3Pajahgumwuau5+buajabgumwu5alyuL4euahadfbl31abajhbvubu4eudk36afdkbuahajhGvueGudtcyu35au3=iuaiCb3lava,=4maaacaadaaeaafaababfgaahaaiaajaakaalaab3?aiakducvu4ab3ZajjuM3kau4dl3naK4fcgdl3+a,amahguFwu4euahcdfdl3+bgaiafdlbudrcwu3+bfau3+bkiuaizb3oava,+bk4dl3+bmaosuKau5+cCamahguowuau5+cNanguwuK5+cClxuL5alDOu4eul3faL4iadl3+bzanguouK4eul3+bDaiafdlbudjcwu3+bCau3+bHiuaizb3qava,+bH4l3+bJaqouKau5+deapahdmcvu5alxuL3fau4ial3saK4fegdl3+bQarangumwu4euahedffdk3+bXafdkbuanarhGvueGudtcyu3+bWau3+b4iuaiCb3tava,+b44maaacaadaaeaafaababfgaahaaiaajaakaalaadl3+b6atsuKau5+dXaianarhGvueGudvcyu5alAOu4eul3faL4iadl3vaK4fggdl3+b*auarmvu4euahgdfhdc3+ccana,uhGvueGuanarhGvueGu2a4eul3faL4iab3+caa,ujuM3vau4l3+clarouKau5+eAamLuSouM5alxOu4eubaiasducvu4ab3+bUarjuM3sau4b3+bdamjuM3nau4l3faO4i"
def Lb:aw 0 4 La:=ax
def Lc:ar:=ay "+blabaal3baL4l3ldsa3cak4l3nabvbbMvbbSvbcnodAdmpM3maq3silailb3dpWa3afLcras4l3vabeLcdodvuM3uau3yitaitb3fava,y4dk3BdsaeLcdwdvuM3Aau3Eiuaiyb3hava,E4ibaaaabbcaadaaeaafaagaahaal3HabeLcdwdvuM3Gau3Kiuaiyb3java,K4dc3MadouKau5+bkafouK5alwuLau5+bsahouK5alwuLau5+bAajouK5alwuLau5+bIaeguouM5alxuLau5+bSaehGuKeGucaceGu2b5alAuLau5+b8agguouM5alxuLau5+b,aghGuKeGucaceGu2c5alAuLau5+cpaiguouK5alxuL3bau4i"
def Ld:aw 0 6 Lc:=ax
def Le:ar:=ay "7bbcalaL4dl3gaagfwg,+p74ehl3daO4iadlaK4fagdl3jadaagjmik4elahadfbdl3paaadheopcbqbrTswt,+oRau5Saaadhevuccubuguwu,+oS5alBOuau5:aaadhevucdubuguwu,+p85alBOu4eul3daO4ial3faK4fcgdl3OaeaaadhevuccubugumAu4euahcdfdl3YaaadhevuccubuaehbvubuTuwu,+oR4eul3daO4iab3WaejuM3fau4b3nadjmM3ean4l3daL4i"
def Lf:aw 0 7 Le:=ax
def Lg:ar:=ay "TbccadalaQaQ4l3ldzaqman8l3fakam4dlaK4fagdl3oagaagomnpaq5Lagms,+p95alrtL4euahadfbl3yaeaaaghevueeudBcyu4bafaaaghevueeudCcyu4b3wagjuM3hau4dl3LaedkbudDbu3Kau3Oiuaiybizc3iawa,Oa,P4l3Raj4eul3daQaQ4ial3Saeaf3dava,S4i"
def Lh:aw 0 8 Lg:=ax
def Li:ar:=ay "ucceafal3faNaK4l3jdEa3hai4dl3kagaaabdFejkl,+oT3iam4l3oahsnK4eolah3faNap4ial3ragkqcarbs3fataK4i"
def Lj:aw 0 9 Li:=ax
def Lk:ar:=ay "hbbcalaQ4laakdcaebf3dag4i"
def Ll:aw 0 10 Lk:=ax
def Lm:ar:=ay "vbbcalaN4l3jaakicbjbkdHbl3iam3oihaihb3eanao4l3raddIbq3qar3tipaipb3gasat4l3vaf3dau4i"
def Ln:aw 0 11 Lm:=ax
def Lo:ar:=ay "Acbeal3faL4dl3haaggabgishj4ekl3faL4iadlaK4fagdl3mafaagmmln4eoahadfbdc3saaafhGrseGtabafhGvueGu2d4eul3faL4iab3qafjpM3gaq4l3faO4i"
def Lp:aw 1 12 Lo:=ax
def Lq:ar:=ay "Ncbeal3faN4dlaK4fagdlafabkhcaibjgkmgl4emahadfbk3qaaabkqcarbsafhbtubukucdubudpcpuabkucaubuafhbvubukuceubudqcEu3bau4yaaabaacaadaaeaafaagaahaaiaajaakaamaanaaoaapaaqaaraasaataauaavaaladpsvwaaxaab3oafjnM3gao4l3Naa3fau4i"
def Lr:aw 1 13 Lq:=ax
def Ls:ar:=ay "odcgahalnWb3haNaK4laaeLeacdJeijk,+oTilailb3haman4i"
def Lt:aw 0 14 Ls:=ax
def Lu:ar:=ay "ycbeal3faN4dlabOafQ4eglaa3fah4ial3jaaabdLbj2edKcil3bam4dk3oaaabkoccpbqdpcnrabktcdubudpcsu3fau4maaabaacaadaaeaagaahaaiaajaafabjkaalaai"
def Ca:aw 1 15 Lu:=ax
def Lv:ar:=ay "Hcbeal3faN4dl3habOagQ4ehlaa3fai4ial3kaaabdMbk2fdKcjm3ban4dl3gaK4fagdl3pafabkpcbqbrgsmot4euahadfbb3yaaabkucbubuafhbvubudqcBu3bau4b3wafjuM3gau4l3Haa3fau4i"
def xi:aw 1 16 Lv:=ax
def Lw:ar:=ay "ucceafal3faNaK4l3jdEa3hai4dl3kagaaabdFejkl,+oU3iam4l3oahsnK4eolah3faNap4ial3ragkqcarbs3fataK4i"
def Lx:aw 0 17 Lw:=ax
def Ly:ar:=ay "eabaal3baQ4l2gqsbabbn+bJc3bad4i"
def Lz:aw 0 18 Ly:=ax
def LA:ar:=ay "vcceafalnQbaNaK4dc3kaakjcakbleGd2h3jao3qiiaiib3hapaq4dl3sahrcr4esl3faNa44ial3uagdObt3fauaK4i"
def LB:aw 0 19 LA:=ax
def LC:ar:=ay "2cbecGl3fpQg4l3jabdPbi3gpQg3afGfj4ddc3maaklcambneGf2i3laq3sikaikb3haras4fal3vahrcu3uau4etk3xaakucaubueGfabdObu3a2j4iaaabaacaadaaeaafaagacdehaal3Faakucduburcuau5+bcagabdQcvurcu5alyuL3Eau4eub3QaaaaaaagabdObukzcbu3afbuykAccu3afbuykBcdu3afbuO4aleGf3afGeu4i"
def LD:aw 0 20 LC:=ax
def LF:ar:=ay "rcbealnQbaL4dc3jaakicajbkeGd2k3ian3pihaihb3gaoap4l3rag3faq4i"
def LG:aw 0 21 LF:=ax
def LH:ar:=ay "odcgahalnWb3haNaK4laaeLeacdJeijk,+oUilailb3haman4i"
def LI:aw 0 22 LH:=ax
def LJ:ar:=ay "eabaal3baQ4ldsaqtbabbn+bvc3bad4i"
def LK:aw 0 25 LJ:=ax
def LL:ar:=ay ":dcgcLhal3hpWaaK4dl3oacabdScnorcp4eqlqaa3afLgr3iaM4ial3tabdTbs3jat4l3vaidUcu*4dl3kaM4fagdl3xajaigumwu4euahadfbdc3DaiajhbvubuaiajyuMhbwubudWczu4eulqaa3afLgu3iaP4iab3BajjuM3kau4l3Oaaacqicabvbbu3lp+bUi3afck,P4dk3SaiaigudZbudYcxueckJ0buadXcwu3Rau30iuaiDb3mava,04naaabaacaafaagaadabfeabfhaaiaajaakaalaamaadl32amsuK4eulqaaam3afLgv3iau4ial36eckald1cvuiuaivb3afLgv3iau4i"
def LM:aw 0 26 LL:=ax
def LN:ar:=ay "rcbealn+bhbaK4dl3heedd2bgrch4eil3faM4ial3kqoebb,+p:cb,+p;db,+p<eb,+p=3gp+b5o3afffj4dc3lcadbkAbfflbmaaeedKncop3faq4i"
def LO:aw 0 27 LN:=ax
def LP:ar:=ay "+edcbealn+bhbaK4dl3teedd7bsrct4eul3faM4ial3waacbdbud8cwu3gau4dl3AcadbuouW4eudlafCuK4eul3faR4iadl3Faakucaubuguwu54eul3fa84ial3haN4laL4dk3Lcbdbuvbaccdbuxbqwuqpcabybbun4u3jau4jaaabaadaaeaacaafabbgaahaaiaadlaK4fagdl3Tajaakucaubugumzu4euahadfbddc32ahrcuau5+bQaikucaubuaakucaubuajhbvubukucaubumEu5alJuL4eulagaivbbuxbiwu3hau4baO4ab3+bgagaakucaubuajhbvubuvbbuxbiCu3hau4b30ajjuM3kau4dl3+bqahrcu4eubagaivbbuxbiwu3hau4al3+bwaaagkvcau3afbuw4l3faK4iadl3+bAafmuK4eul3faY4iadl3+bCcadbuouT4eul3laN4dlaK4fcgdl3+bFalaakucaubugumzu4euahcdfdl3+bOalafsvu4eubakaakucaubualhbvubuvbbuxbiCu3lau4ab3+bMaljuM3mau4l3+b1aaakkvcau3afbuw4l3faK4ial3+b5aakucaubuafhbvubu3nau4ddc3+b<cddbuguamkucbubugujuMsAu4eul3fa:4ial3oaN4laL4dlaK4fegdl3+cdapamkuccubugumzu4euahedffddc3+cmamkuccubuaphbvubuhbuKbucddbuhbuKbuoyu4eudlcadbuouX4eul3faP4iadc3+cDamkuccubuaphbvubucddbud9cwu4eul3paO4hfaab3+cNanamkuccubuaphbvubuvbbuxbyCu3oau4b3+ckapjuM3qau4dc3+cXamkucaubuamkucbubuqpcabybbun4u3rau4dl3+c7cadbuou+4eudlaorcu4eul3fa44ial3+c<aqankvccu3afbuw4dc3+c+aqamkucdubucddbud:cwu3+c*au3+dgiuaiDbkDcdu3afbux4c3+dlaqamkuceubucddbud;cwu3+dkau3+dtiuaiDbkDceu3afbux4laqquaanvbacddbuxbiwuvbbuxbyzud<cBukDccu3afbuw4dc3+dKaqamkucdubucddbud=dwuK3+dJau3+dSiuaiDbkDcdu3afbux4c3+dXaqamkuceubucddbud>cwu3+dWau3+d5iuaiDbkDceu3afbux4lBbaaakucaubuzbiyu3sau4l3+d?arafaqhbwv3afbuv4laaarkvcau3afbuw4l3faK4i"
def LQ:aw 0 28 LP:=ax
def LR:ar:=ay "tbdcadaealaNaNaL4dkaakfcbgbhdObiaakkcclbmdObnaakpcdqbr3dajaoas4raaabaacaadaafaagaahaaiaakaalaamaanaaeacinjabnoaapaaqaai"
def LS:aw 0 29 LR:=ax
def LU:ar:=ay "eabaal3baQ4l2gqvbbbbn+btc3bad4i"
def LV:aw 0 30 LU:=ax
def LW:ar:=ay "Sebial3jaK4dl3qacgpaK4faglmrq4desahadfblh+bfpre+bft3lpYd3af+bfk,u4l3we+bfkd?bu3mau4dl3yalwuP4eul3jaM4ial3AcckeLucNkeLuqwcaLwLLuaK4fcglmuS4deuahcdfdl2l3opWa3afLn,G4l3IadaaabeLnalKyexwvu3pau4l3OaosuK4eulao3jau4iab3Rj,EM3Fau4b3SjrM3sau4l3jaK4i"
def LX:aw 0 31 LW:=ax
def LY:ar:=ay "oebial3fn+bma3hnWc3jaK4labeLgadJ+a+abed*ejklm3jan4i"
def LZ:aw 0 32 LY:=ax
def M0:ar:=ay "9bccadalaNaK4dl3kaad+babjrck4ell3daNaM4ial3nqjan+cdm3fan4l3paeaagpueqd+bbcor4dlaagtaK4faglmuv4deuahadfblh+bftve+bfu3hpYd3af+bfg,y4l3Aaecagbu2md+bccxu4laecbgbuguueud+bbcyu4dlcbgbuguaK4fcglmuv4deuahcdfdlhbxvbu3jau4b3Saeai2nd+bccwu4bjBM3Oau4l3XaeccgeLud+bdcwu4baecNgeLud+bdcwu4bj,vM3wau4l36aed+bebuaed+bfbu3dawa,84i"
def M1:aw 0 33 M0:=ax
def M3:ar:=ay "NbccadalaNaK4l3jaad+bgbi3faj4laN4dl3laed+bhbkudlPadm4aK4faglmon4depahadfbbafaed+bibrv+bfbsx+bf+d?qt3gau4b3wjoM3pau4dl3xaed+bjbusuK4eul3daNaZ4iadl3BafdHbu3Aau3Diuaixb3hava,D4l3FahsuKau5>agaad+bkcvurcu5alyOu4eul3daNaZ4ial3Naf3dauaK4i"
def M4:aw 0 34 M3:=ax
def M5:ar:=ay "GeciajalnWb3jaNaK4dl3nacmmMan5EacwpP5aloOq4erl3jaNaM4ial3tdEa3las4dl3uadakaaeLfacKtexwvu3mau4l3AalsuK4eulal3jaNa,B4ial3Dakkucaubu3jauaK4i"
def M6:aw 0 35 M5:=ax
def M7:ar:=ay "xcbealnQbaN4dlaK4fagdlafaaghmgi4ejahadfbdc3naaafhGmneGoeGd2o4erlaa3fas4iab3lafjkM3gal4l3uaaeGdBGbuzGGtu3fau4i"
def M8:aw 1 36 M7:=ax
def M9:ar:=ay "pbbccLlpWa4dl3gaaOafQ4eglqaa3afLch4ial3kaad+bmbjd+blbk3jal3niiaiib3epWa3afLdman4l3peLd3afLco4i"
def Cb:aw 0 37 M9:=ax
def Ma:ar:=ay "pbbccLlpWa4dl3gaaOafQ4eglqaa3afLch4ial3kaad+bnbjd+blbk3jal3niiaiib3epWa3afLdman4l3peLd3afLco4i"
def Mb:aw 0 38 Ma:=ax
def Mc:ar:=ay "oebial3fn+bmanHbnWc3jaK4lbfeLgadJ+boacfed*ejklm3jan4i"
def Md:aw 0 39 Mc:=ax
def Me:ar:=ay "ibbcalaN4dlaaQad4eel3daN4ial3gvbaaaxbbfg3dah4i"
def Mf:aw 0 40 Me:=ax
def Mg:ar:=ay "gbbccGlpQg4laad+bqbdd+bpbe3afGcf4i"
def Mh:aw 0 41 Mg:=ax
def Mi:ar:=ay "kcbeal3faL4laaVfabVhogi3faj4i"
def Mj:aw 0 42 Mi:=ax
def Mk:ar:=ay "rcbeal3dnda3faL4lbcCfMag5rbcFiP5alhjLak5zabJ+bsabcd+brcmnrco5allpL3faq4i"
def Ml:aw 0 44 Mk:=ax
def Mm:ar:=ay "ibbcalaN4dlaaQad4eel3daN4ial3gvbaaaxbyfg3dah4i"
def Mn:aw 0 45 Mm:=ax
def Mo:ar:=ay "ibbcalaN4dlaaQad4eel3daN4ial3gBbaaazbyfg3dah4i"
def Mp:aw 6 45 Mo:=ax
def Mq:ar:=ay "ocal3gaagf3fag4b3iaaaeaeuhjd+bubkabd+btfhKilm4"
def Mr:aw 0 46 Mq:=ax
def Ms:ar:=ay "ncbeal3faK4dfal3haaabd+bvcgh3gai4efl3faU4il3labaad+bvckl3kam4ejl3faM4ial3faK4i"
def Mt:aw 0 47 Ms:=ax
def Mu:ar:=ay "Acbeal3faL4dl3haaggabgishj4ekl3faL4iadl3maaglaK4faglmnm4deoahadfblan3gap4dc3raaafhbqrbsabafhbvubustu4eul3faL4iab3AjnM3oau4l3faO4i"
def Mv:aw 0 48 Mu:=ax
def Mw:ar:=ay "Gcceafal3faNaK4laN4dl3maaglaK4faglmnm4deoahadfblhblnbp3jaq4l3tabaiKsbt3sau3wirairb3kpWa3afLj,va,w4dl3yaksuK4eulak3faNa,z4iab3BageLjBLbuzL+bXwu3hau4b3FjnM3oau4l3Gag3fauaK4i"
def Mx:aw 1 49 Mw:=ax
def My:ar:=ay "Ncbeal3faN4laN4dl3jabaK4faglmji4dekahadfblaj3hal4l3naagmabagyopMnq3iar4dl3taagsabagyvuLtuwuK4eubahjuM3iau4al3CafaaahGbvabudTbuvbbuxbyzu3gau4b3JaaahGbvbua3bau4b3MjjM3kau4l3Naf3fau4i"
def Mz:aw 0 50 My:=ax
def MA:ar:=ay "hbbcalaK4laajdRyeMMfR3dag4i"
def MB:aw 0 51 MA:=ax
def MC:ar:=ay "GccecLfal3dn+bUa3fpWaaK4l3kqbbabT3hp+crb3afdgj4dl3labgkaK4faglmml4denahadfblhbkmbo3jap4b3rcbgbqaiqfcabsbbOvcbtxcGrucbg3afbuv4bjmM3nau4l3zcacbuedgcbcbud+bwdxwuiuaivb3afLev3gau4i"
def MD:aw 0 52 MC:=ax
def ME:ar:=ay "IccecLfal3dn+bUa3fpWaaK4dfagdl3jabgiwjM4ekahafbdk3nababgndZbod+bycmpeccJ+bzbrad+bxcqs3mat3vilailb3hava,v4naaabaacaafaagaadabfeabfhaaiaajaakaalaamaadl3xahsuK4eulqaaah3afLev3gau4iab3Bag3cau4dl3CabguouK4eulqaa3afLeu3gaK4ial3GabhLuKeLu3afLeu3gaK4i"
def MF:aw 0 53 ME:=ax
def MG:ar:=ay "Zbbcal3cn+bhaaL4dlcbbbdd+bAbercf4egl3daL4iadl3icabbh4fal3loiW3kak4ejl3mccbbld+bBbman5FcdbbpgqorK5alosL3dat4il3woiT3vau4eul3xccbbuguouKau53cdbbuguouK5alyuL3dau4idl3IoiX3Hau4euab3Joi+3Hau4eul3KccbbuguouKau5+bkcdbbuguCuS5alyuLau5+bwcdbbuguFuP5alyuL3dau4ial3daL4i"
def MH:aw 0 54 MG:=ax
def MI:ar:=ay "Ccbealn+bhbaK4dk3jaakicbjbkcbdbmccdbod+bDbpqdcabnbbqd+bCclr3ias3uihaihb3gata,u4qaaabaacaadaaeaafaagaahaaiacdfjaakaalaamaanaaoaapaadl3wagouK4eubaaafkvcbu3afbuw4alag3fau4i"
def MJ:aw 0 55 MI:=ax
def MK:ar:=ay "ycbealn+bhbaK4dc3jaakicbjbkcbdbmd+bEcln3iao3qihaihb3gapaq4dl3sagorK4esbaaafktcbu3afbuw4alag3fau4i"
def ML:aw 0 56 MK:=ax
def MM:ar:=ay "Pcbealn+bhbaK4l3laaeedd+bFckl3kam3oijaijb3gpYd3af+bffnao4dl3qagspK4eqlag3far4iadc3uaacbdbucddbuhbuKbud+bGdtyu3tau3Cisaisbisc3iawa,C3ha,D4dfal3GagsuK3Fau4eul3Iag3fau4il3Kai3Jau4eul3faP4ial3Laae+bffcddbud+bHfxwu,+p>,+p?3fau4i"
def MN:aw 0 57 MM:=ax
def MO:ar:=ay "vcbealn+bhbaK4l3jaaeedd+bFcij3iak3mihaihb3gpYd3af+bfflam4dl3oagsnK4eolag3fap4ial3raae+bffcddbsd+bHfqrt,+p*,+p+3fau4i"
def MP:aw 0 58 MO:=ax
def MQ:ar:=ay "+bGbbcal3cn+bhaaL4dl3gcbbbfd+bMbgrch4eil3daL4iadl3kcabbjokW4eldl3eaK4fagdl3nadccbbngommp4eqahadfbdl3uccbbtadhbvubud+bMburcuau52ccbbuadhbvubuou,+oV5alAOu4eul3daL4ial3faK4fcgdl3Jaeadmvu4euahcdfddc3Occbbuaehbvubuccbbuadhbvubuozu4eul3daL4iab3MaejuM3fau4b3sadjrM3eas4l3ZccbbuguwuKau5+bOccbbugumuP5alyuLau5+b0cdbbuguouK5alyuL3dau4iadl3?cabbuouT4eulccbbugucdbbugujxuouK3dau4ial3+bhcabbuouXau5+cucabbuou+5alxOuau5+cFccbbuguouK5alyuLau5+cRcdbbuguwuM5alyuLau5+c3cdbbugumu45alyuL3dau4i"
def MR:aw 1 59 MQ:=ax
def MS:ar:=ay "Ccbeal3faK4dlaK4fagdlafaakhcaibjgkmgl4emahadfbl3qaakpcaqbrafhbstbukucaubuabovu4eulaf3fau4iab3oafjnM3gao4l3faU4i"
def MT:aw 0 60 MS:=ax
def MU:ar:=ay "Acbeal3faL4dl3haaggabgishj4ekl3faL4iadlaK4fagdl3mafaagmmln4eoahadfbdc3saaafhbrsbtabafhbvubusyu4eul3faL4iab3qafjpM3gaq4l3faO4i"
def MV:aw 0 61 MU:=ax
def MW:ar:=ay "Dcceafal3faQaL4l3kaaabd+bNdjkK3jal3niiaiib3haman4dl3pahao5Hagd+bObqgrESsagd+bPbumtu5alpuL4eubagd+bObud+bQcuK3hau4al3Cagah3fava,C4i"
def MX:aw 0 62 MW:=ax
def MY:ar:=ay "Pcceafal3faQaL4dl3iaad+bSbhabd+bRcijrck4ellaa3famaL4ial3oaaabd+bTcno3hap4dl3ragkqcbrbsgtouM4eulagkucbubuhbuKbu3fauaO4iaddc3DagkucbubuguagkucaubugujzuouK4eul3faQaO4ial3Pag3fauaO4i"
def MZ:aw 0 63 MY:=ax
def N0:ar:=ay "+blcbeal3dn+b=a3faN4laN4dlaK4fagdl3lagabglmkm4enahadfbdc3redcabaghbrsbtgud+bUcqurcuau5YabaghbvubuguabhbuKbugusyu5alEOu4eul3faN4iab3pagjoM3hap4dlaK4fcgdl3Lahabgumwu4euahcdfdl3jaN4laK4dfegddc3Rajafgumwuau5+byedcabahhbvubuafajhbvubud+bVdCyurcu5alFuL4euahefflaiafajhbvubuvbbuxbyzu3jau4b3?ajjuM3kau4l3+a+aiabahhbvubuvbbuxbyzu3jau4l3+bfaiafajGbvbuaxbyxu3jau4b3+bkai3gau4b3PahjuM3iau4l3+blaf3fau4i"
def N1:aw 0 64 N0:=ax
def N2:ar:=ay "+bvdcgahal3haQaL4dl3laaOakQ4ellabqncabmbbOn+bDn3haoaO4iadc3qaakpcaqbraaktcbubuaakuccubuaakucdubuqneabsbbCcbydbun+bDu3jau4dl3Iaakucaubuabd9cvu4eulaikucbu3afbuO4dkaiacd+bWcvuaakucbuburcu3haza,X4kaaabaadaaeaafaagaahaacabgiaajaaial3kaL4ddc3ZabaakucaubuacabguLwud+bXdCyu4eub3:aiaakuccubuabacjuMd=dxwu39au3+baiuaiEbkEccu3afbux3kaw4b3+bfaiaakucdubuabacjuMd=dxwu3+beau3+boiuaiEbkEcdu3afbux3kaw4l3+bsaiacd+bWcvuaj3hava,+bu4i"
def Cc:aw 0 65 N2:=ax
def N3:ar:=ay "vcceafal3faQaL4dlaaOagQ4ehlabvbbiqcbabjn+bGk3falaO4iadl3naad+bSbmabd+bRcno4eplaa3faqaL4ial3saaabd+bZcrsd+bYbt3fauaO4i"
def Cd:aw 0 66 N3:=ax
def N4:ar:=ay "hbbcal3cnYaaK4lcbbbdgejfM3dag4i"
def N5:aw 0 67 N4:=ax
def N6:ar:=ay "WebialnWb3jaK4dl3peLfd+b0boap5IadeLfKrbsrct5alqOu4eul3jaK4ial3yaaeLfacd+b1dwvu3xau3Ciuaizb3kp+crb3afdj,Ba,C4dl3EaksuK4eulak3jau4iadl3HccjbuguaK4faglmuv4deuahadfblhLxveLu3npWa3afLm,M4l3OaaeLmacadd*exwvu3oau4l3TansuK4eulan3jau4iab3Wj,JM3Kau4l3jaK4i"
def N7:aw 0 68 N6:=ax
def N8:ar:=ay "ibbdalnWaaL4lbbcaceGfd+a,ceg3eah4i"
def N9:aw 0 69 N8:=ax
def Na:ar:=ay "AcbealnQbaL4ddcaakfcbgbheGd2p4ekl3faL4iadc3maaklcbmbneGd3a2q4dcaaaakrcasbteGdvGbuxGGwukqcau3afbuw4l3faO4i"
def Nb:aw 0 70 Na:=ax
def Nc:ar:=ay "IbbcalaL4dl3gaagfaK4faglmhg4deiahadfblahh+bffhe+bfk3fpYd3eaj3af+bfel4dc3ne+bfed+b2bmrcnao5GadwqKar5NaaadyuMh+bftucaubucaebuCwu5GlsuL5alpOu4eul3daL4iab3FjhM3iau4l3GaaguFuP3dau4i"
def Nd:aw 0 71 Nc:=ax
def Nf:ar:=ay "icab3faaabvbbfd+b3deOg4"
def Ng:aw 0 72 Nf:=ax
def Nh:ar:=ay "rcadl3fabgewf04eglaakhcbi3afbj84ialaaabgld+b4ckm4baaabd+b3doOp4"
def Ni:aw 0 73 Nh:=ax
def Nj:ar:=ay "KcalnWb4l3haacadeGhd+b5cgi4laacIdbld+b4ckm4laacJdbpd+b4coq4lcGdcasbtcGdcbubucKdbuvbdzwuguaK4faglmuv4deuahadfblhbxvbu3gau4b3Haaafd+b6cvu4bjAM3Dau4"
def Nk:aw 0 74 Nj:=ax
def Nl:ar:=ay "nbbcalaN4dlaakdcbebfsgK4ehl3daN4ial3jaakicajbkd+b7bl3dam4i"
def Nn:aw 0 75 Nl:=ax
def No:ar:=ay "hbbcalaK4laakdcbebf3dag4i"
def Np:aw 0 76 No:=ax
def Nq:ar:=ay "hbbcalaQ4laad+b7bdqjbaben+c6f3dag4i"
def Nr:aw 0 77 Nq:=ax
def Ns:ar:=ay "pbbcala14l3haad+b8cgM3gah3jifaifb3eaiaj4dl3laerck4ell3da14ial3nadhbmKbn3dao4i"
def Nt:aw 0 78 Ns:=ax
def Nu:ar:=ay "Ebbcc+bflpYd4l3faad+b9ce2Vfqdbabg3epYd3af+bfdh4dl3jaad+bhbiudjPadkPaK4faglmml4denahadfbkcbdboaad+b9cq2Vrvbbsxbqptcbd3afbuv4jaaabaacaadabbeaafaagaahaaiaabjmM3nau4l3yaad+b:buccd3afLuv4laad+b:bucNd3afLuv4le+bfd3af+bfcu4i"
def Nv:aw 0 79 Nu:=ax
def Nw:ar:=ay "pbbcalaK4dlaakdcaebfggwhK4eibaad+b;cj,+p,4alaaklcbmbn3dao4i"
def Nx:aw 0 80 Nw:=ax
def Ny:ar:=ay "Acbeal3faL4dl3haaggabgishj4ekl3faL4iadl3maaglaK4faglmnm4deoahadfblan3gap4dc3raaafhbqrbsabafhbvubustu4eul3faL4iab3AjnM3oau4l3faO4i"
def Nz:aw 0 81 Ny:=ax
def NA:ar:=ay "+bMbcccLdal3cn+crapWaaL4l3iedbd+b=bhd+b<biqabaGj3fpWa3afLek4dlaK4fagdl3mafcbbbmgnmlo4epahadfbl3tcJebsjtMcJe3afbuv4lcbbbuafhcvucbubu4eulcIebujuMcIe3afbuv4ccGeecucbbbuafhcvucaubucbbbuafhcvucaubuqccabAbbud+b>cHucGe3afcuv4ab3rafjqM3gar4dlaK4fcgdl3Yagccbbugumxu4euahcdfddc35cJebuccbbuaghLvucJubujAucJe3afbuv4dccIebuccbbuaghLvucIubujAucIe3afbuv4ccGeecuccbbuaghLvucGuecud+b>cAucGe3afcuv4b33agjuM3hau4dl3+bqcabbuouT4eubcbbbuhcuKcaubucKe3afbuv4adlcabbuouX4eubccbbuhLuKcKubucKe3afbuv4adlcJebuwu04eulqaa3afLcu3eaL4ial3+bMeLe3afLcu3eaO4i"
def NB:aw 1 82 NA:=ax
def NC:ar:=ay "zbbccdlp+crb4dkaakdcaebfaakhcbibjqfcabgbbkvcblaaknccobpdLbqaakscdtbudLbuvLcruqbdabWbbmcbu3afdcu4xaaabaacaadaaeaafaagaahaaiaakaalaamaanaapaaqaaraasaaobjddhstbjcdhjbuauaavaawaai"
def ND:aw 0 83 NC:=ax
def NF:ar:=ay "1bbccdlp+crb4l3hqbbabT3ep+crb3afddg4dlaK4fagdl3iaeaakicajbkglmhm4enahadfbc3rcbdbqaakscatbuaehbvubuqfcabubbOvcbuxcGrucbd3afbuv4b3paejoM3fap4dlaK4fcgdl3Eafaakucbubugumzu4euahcdfdl3Ncad3afbuX4kccdbuaakucbubuafhbvubudMbuvLbuxL+bXDuccd3afbuv4oaaabaacaadaaeaafaagaahaaiaajabbkaalaamaanaab3LafjuM3gau4l31edd3afdcu4i"
def Ce:aw 0 84 NF:=ax
def NG:ar:=ay "obbeal3enWaaL4dlbbcadeGgdvcfhrci4ejlbccadeGld+a,ckm4l3faL4ial3faO4i"
def NH:aw 0 85 NG:=ax
def NI:ar:=ay "kbbccGlpQg4l3fd+b?a3eae4l3gadaad+b*cfg4ladd+b+bi3afGcj4i"
def NJ:aw 0 86 NI:=ax
def NK:ar:=ay "gbbcalaN4laavbbdd+b,c,+oWe3daf4i"
def NL:aw 0 87 NK:=ax
def NM:ar:=ay "jcbeal3faL4laaabd+cacfgChK3fai4i"
def NN:aw 0 88 NM:=ax
def NO:ar:=ay "ibbdal3eaL4laagebbsfg3eah4i"
def NP:aw 0 89 NO:=ax
def NQ:ar:=ay "+cgfal3laO4laO4fagfbl3wacabyvu3nau4dl3zamFu,+qa4eulaaabacaed+cbexwvu4iadladouK4eulaaabacaed+ccexwvu4iadlakrcu4eulaaabacaed+cdexwvu4badyuM3eau4al3Xaaabacaed+ceexwvu3Wau32iuaiAb3oava,24dl34aoouS4eulaaabacaed+cfexwvu4lacyuManabyvuyxu3oau4baM4adl3+a+akau5+b,al5alvuLau5+cfaoouM5alwuL4eulaaabacaed+cgexwvu4euiaaddcabwuKau5+cBaeaaabyuMhbwubuaaanhbvubuKDcyumuKrcu5alHuL4eulaaabacanaed+chfyxwvu3qau4l3+bIap3cau4hbal3+bKaaabacanaed+cifyxwvu3+bJau3+bQiuaiBb3rava,+bQ4l3+bSar3mau4l3+bTaqabyvuacaqyvu3taxa,+bX4l3+bZamMuP3vau4l3+b1asatmvu4eulasa,uCvu3lau4l3+b7aaabaqadaed+btfyxwvu4baqjuM3cau4l3+b?ata,uCvu3lau4l3+b,aaaqjuMacadaed+btfzxwvu4baq3dau4"
def NR:aw 0 90 NQ:=ax
def NS:ar:=ay "ibbcalaK4deLlaaugdd+cjbe3daf4ial3haad+ckbg3dah4i"
def NT:aw 0 91 NS:=ax
def NU:ar:=ay "6cbeal3faL4dl3kaagjd+clbkrclam5Cabgoaagqspr5alnOs4etl3faL4ialaKa34dl3vaaguaK4faglmuv4deuahadfblav3iau4dk3Aaaahhbvubud+cmbuabahhbvubud+cmbuDzu3jau4maaabaacaadaafaagaahaaiaaeabijaakaalaal3Lagaimvuau5+bkagagaiDvumxu5alzuL4eubahai3gava,V4ab3Xj,wM3xau4dc3Yaaafhbvubuabafhbvubumyu3fau4i"
def NV:aw 0 92 NU:=ax
def NW:ar:=ay "GdcgcLhaln+crb3hpWaaK4l3oedeacd+cncno3nap3rimaimb3jpWa3afLiqar4dl3tajssK4etlqaaaj3afLgv3iau4ial3yedeacd+cocvu3xau3Biuaiyb3lava,B4l3Daaakducvu4leLi3afLgu3iaK4i"
def NX:aw 0 93 NW:=ax
def NY:ar:=ay "Gcceafal3faNaK4laN4dl3maaglaK4faglmnm4deoahadfblhblnbp3jaq4l3tabaiKsbt3sau3wirairb3kpWa3afLj,va,w4dl3yaksuK4eulak3faNa,z4iab3BageLjBLbuzL+bXwu3hau4b3FjnM3oau4l3Gag3fauaK4i"
def NZ:aw 1 94 NY:=ax
def O0:ar:=ay "Ncbeal3faN4laN4dl3jabaK4faglmji4dekahadfblaj3hal4l3naagmabagyopMnq3iar4dl3taagsabagyvuLtuwuK4eubahjuM3iau4al3CafaaahGLvabud+cpbuvbbuxbyzu3gau4b3JaaahGLvbua3bau4b3MjjM3kau4l3Naf3fau4i"
def O1:aw 0 95 O0:=ax
def O2:ar:=ay "pccecLfal3dn+bUa3fpWaaK4lcacbgabqbcabXcbicbcbkd+bwdhjlimaimb3afLen3gao4i"
def O3:aw 0 96 O2:=ax
def O4:ar:=ay "SbbcalaL4dl3haa2r4fagl2siia4dejahafbliibiic3eakal4l3naeCm,+qban5FaeFp,+qc5aloqL3gar4l3tafrcsat5RadouKau5Waemu,+qdau52aewu,+qe5WlwOuau5;aesu,+qf5WlwuL5RlEOu5alIuL4eul3daL4ial3LaaTuCuMau5+bkaaTuFu25alxuL3dau4i"
def O5:aw 0 97 O4:=ax
def O6:ar:=ay "JbbcalaL4dl3gaagfaK4faglmhg4deiahadfblahhbfhbk3eajal4l3naed+bAbmrcnao5Gaeoq,+oV5alpOras5OaaadGbvabuaed+cqcvu5altOu4eul3daL4iab3BjhM3iau4l3CaaguCuMau5;aaguFu55alxuL3dau4i"
def O7:aw 0 98 O6:=ax
def O8:ar:=ay "JcceafalnYbaNaK4dl3jaad+babircjak5ye+bfdd+b2bmrcn5allOo4epl3faNaM4ial3saacadbsd+crcrt3rau3wiqaiqb3hava,w4dfal3zah3yau4eul3faNaR4il3BaaguCuP3Aau4eul3faNa84iadk3Eaad+ctbuage+bfdB+bfbud+csdxwu3fauaK4iaaacaadaabbebdeaafaagaahaai"
def O9:aw 6 99 O8:=ax
def Oa:ar:=ay "ibbcalaN4dlaaQad4eel3daN4ial3gvbaaaxbqfg3dah4i"
def Ob:aw 0 100 Oa:=ax
def Oc:ar:=ay "zcceafal3faNaK4dl3jaad+babircj4ekl3faNaM4ial3naaabd+crcmn3mao3qilailb3hapaq4dl3sahrcr4esl3faNaY4ial3uaad+ctbtagagjuMd+cudxwu3fauaK4i"
def Od:aw 0 101 Oc:=ax
def Oe:ar:=ay "Fccec+bffaln+bhbpYdaK4dk3kaakjcbkblcbdbnd+cvcmo3jap3riiaiib3hpYd3af+bfgqar4naaabaacaadaaeaafaagbkahaaiaajaakaalaamaadfal3uahrct3tau4esl3we+bfg3af+bfeu3gaY4idk3ycddbugue+bfgd?buswu3xau4haaabaacaadaaeabbfaagaaeul3Ee+bfg3af+bfeu3ga:4ial3Fe+bfg3af+bfeu3gaK4i"
def Of:aw 0 102 Oe:=ax
def Og:ar:=ay "=ddgahaial3haNaLaK4l3raakqcbrbsabd+cvctu3qau3xipaipb3kpYd3af+bfj,wa,x4dl3zakrcu4eul3haNaLaY4ial3Be+bfjd?bud+cwbu3mpUc3afcl,C4dk3EcalbucblbuacachbyK3afbuwhbxK3afbuw4kaaabaacaadaaeaafaagaahabdiaajaadk3NaakucaubuccjeLueclqxcacufbMe+bfjd?bud+cxeAywu3Mau3YiuaiGbiHc3np+dAj3afcm,Xa,Ya,Z4taaabaacaadaaeaafaagaahaaiaajbpddfgkbpalaamaanaaoaapaaqaaraasaadl31aosuKau5+bNcambuguouK5alyOu4eulao3haNaLa,84ial3:cambuhbuKbu3hauaOaK4i"
def Oh:aw 0 103 Og:=ax
def Oi:ar:=ay "+a,fbkalnYb3laK4l3re+bfgd?bq3mar4dk3uadaakucaubuccgeLuacalKteywvu3tau3Eisaisb3npWa3afLm,Da,E4qaaabaacaadaaeaafaagaahaaiaajbnakaalaamaanaaoaapaadl3GansuK4eulan3lau4iadk3KaeaakucaubucNgeLuacalKCeywvu3Jau3UiuaiFb3ppWa3afLo,T3oa,U4qaaabaacaadaaeaafaagaahaaiaajbnakaalaamaanaaoaapaadl3WansuK4eulan3lau4iadk3ZeLmeLoccg3afLuwcNg3afLuw4gaaabaacaadabbeaafaadc34aakucbubue+bfgd+cycvu33au3:iuaiBb3qav3oa,:4dl3<anouK4eubaaapkvcbu3afbuw4alan3lau4i"
def Oj:aw 0 104 Oi:=ax
def Ol:ar:=ay "yecicLjalnWb3jpWaaK4dladacvbbld+czckmrcn4eolqaa3afLip3kaM4ial3raaadqicabqbbreLfacd+cAestuKiuaivb3afLiv3kau4i"
def Om:aw 0 105 Ol:=ax
def On:ar:=ay "UecicLjalnWb3jpWaaK4dl3oadacvbbodScnprcq4erlqaa3afLis3kaM4ial3uaaadqicabtbbu3lp+bUi3afck,v4dl3xeLfd+b0bu4euleckacvbbud0cwuiuaivb3afLiv3kau4ial3GeckeLfacd+cBdwvu3Fau3Kiuaizb3mava,K4dl3MamsuK4eulqaaam3afLiv3kau4ial3Qeckald1cvuiuaivb3afLiv3kau4i"
def Oo:aw 0 106 On:=ax
def Oq:ar:=ay "TecicLjalnWb3jpWaaK4dl3nadacvbbnd+czcmorcp4eqlqaa3afLir3kaM4ial3taaadqicabsbbt3lp+dGi3afck,u4l3xeckeLfacd+cCewvuK3wau3Biuaizb3afLfv3mau4dl3DalouKau5;cIfbuESucJfbumwu5alAuL4euleckeLfd+cDdvuKiuaivb3afLiv3kau4ial3SeLfal3afLiv3kau4i"
def Ot:aw 0 107 Oq:=ax
def Ou:ar:=ay ">ecicLjalnWb3jpWaaK4dl3oadacvbbodScnprcq4erlqaa3afLis3kaM4iadl3ueLfd+b0bt4eulqaa3afLiu3ka44ial3xaaadqicabvbbu3lp+bUi3afck,y4l3BeckeLfacd+cEdwvu3Aau3Fiuaizb3mp+dLh3afdl,Ea,F4dfal3IamsuK3Hau4eul3Kqaaam3afLiv3kau4il3Ncalbuau5+bmcblbuguouK5alyuL3Mau4eul3Vqaa3afLiu3kaK4il3Xcalburcuau5+bIcclbuguouM5alyuL3Wau4eul36cclbuhLuKeLu3afLiu3kaK4ial3:eckedld+cFcvuiuaivb3afLiv3kau4i"
def Ov:aw 0 108 Ou:=ax
def Ow:ar:=ay "YbbcalaL4dlaK4fagdl3iadaaTimhj4ekahadfbl3oaaad2t3fap4l3raeCq,+qgar5NaeFt,+qh5alsuL3gau4l3xaeCu,+qiau5ZaeFu,+qj5alwuL3hau4l3Dafrcuau5;adouKau5*agrcuau5+beaesu,+qk5*lwuL5;lAOu5alEuL4eul3daL4iab3madjlM3eam4l3RaaTuwuKau5+bwaaTumu,+ql5alxuL3dau4i"
def Ox:aw 1 109 Ow:=ax
def Oy:ar:=ay "+bndcgahal3haQaL4dl3laaOakQ4ell3haQaL4iadc3naakmcanboaakqcbrbsaakuccubuaakucdubuqneabpbbtcbydbun+bDu3jau4dl3Faakucaubuabd9cvu4eulaikucbu3afbuL4dcaiaakucbubu3haya,R4ial3kaL4ddc3TabaakucaubuacabguLwud+bXdCyu4eub34aiaakuccubuabacjuMd+bNdxwu33au3=iuaiEbkEccu3afbux3kaw4b3+a,aiaakucdubuabacjuMd+bNdxwu3+a+au3+biiuaiEbkEcdu3afbux3kaw4l3+bmaiaj3hava,+bm4i"
def Cf:aw 0 110 Oy:=ax
def Oz:ar:=ay "DbbcalaN4dl3faaOaeQ4efl3daN4iadk3haakgcchbid+bObjaaklcdmbnd+bOboxbykp3eaq4maaabaacaadaafaagaahaaiaaeabijaakaalaadl3saakrcbsbt4eubadaakucaubuvbbuxbyzu3eau4al3Dad3dau4i"
def Cg:aw 0 111 Oz:=ax
def OA:ar:=ay "rbbcalaK4dlaaOadQ4eel3daK4iadk3gaakfccgbhd+bPbijMjaaklcdmbnd+bPbojkp3daq4naaabaacaadaagaahaaiaajaaeabjfaakaalaamaai"
def Ch:aw 0 112 OA:=ax
def OB:ar:=ay "Ocbeal3faQ4dl3iaaghoiK4ejl3faQ4ial3laaabaahbmKbngoLlpd+cGckq3gar4l3tafgsMtS3hau4dk3wafaghbvubuafagGbvabuabjuMd+bQcwuafagjuMGbwbuaabjuMd+bQcwuqneabHbbOcbBdbun+bDu3fau4uaaabaacaadaaeaafaagaahaaiaakaalaamaanaaoaapaajabdqabdraasaataai"
def xj:aw 0 113 OB:=ax
def OC:ar:=ay "scbeal3faL4dlaK4fagdlafaaghmgi4ejahadfbl3naaafhbmnboabd9cpq4erl3faO4iab3lafjkM3gal4l3faL4i"
def OD:aw 0 114 OC:=ax
def OE:ar:=ay "HbbcalaN4dl3gaaOafQ4egl3daN4ial3ivbaaakicajbkxbyhl3eam4dlaK4fagdl3oaeaakocbpbqgrmns4etahadfbb3xadaakucbubuaehbvubud+bSbuxbyCu3eau4b3vaejuM3fau4l3Had3dau4i"
def xk:aw 0 115 OE:=ax
def OF:ar:=ay "+cxcbeal3faQ4dl3paakocbpbqgrosK4etlqcan+bGu3gau4dlaK4fagdl3xagaakucaubugumzu4euahadfbl3Gaakucaubuaghbvubuabd9cvurcu4eucafafkucaubuaakucaubuaghbvubuBbbuzbyCukHcau3afbuw4ab3EagjuM3hau4l36af3fau4ial37aaabd+cHcvu3iau4l3:Bbaaakucbubuzbiyu3jau4l3*aiahaakucbubuahhbvubuabd+bTcvuhbED3afbuv4ddcaiahhbvubukucaubuguaiahhbvubukucbubugujCuwuM4eulaiqcbbbun+bGu3fau4ial3+bEahyuM3kau4dl3+bGahouK4eub3kaK4adc3+bIaiajhbvubuaiajjuMhbwubu3laza,+bP4laN4dl3+bRaakucbubuahhbvubukucbubuguouK4eukBbaakkucaubuzbyyualkucaubuzbyyud+cIbu3nau4nbaacaadaaeaagaahaaiaajaaaaafabjkaalaamaak3+b?Bbaakkucbubuzbiyualkucbubuzbiyud+cJbu3nau4nbaacaadaaeaagaahaaiaajaaaaafabjkaalaamaalaN4l3+cianaiajtbvabuazbixu3oau4l3+cnanamzbivu3oau4l3+cqanaiajjuStbwbuaazbiyuqcbbbun+bGu3fau4i"
def Ci:aw 6 116 OF:=ax
def OG:ar:=ay "+bgcbeal3dn+b=a3faL4dlabmfMag5qabwiP5alhOj4ekl3faL4iadl3mcacblom14enlcbcboopKaq5LcccbsgtouK5alruL3fau4iadl3ycacbuouWau52cacbuouT5alxOu4eulcbcbuwuKau5+a,cbcbuouKau5+bicacbuouT5+a,lxuL5alCOuau5+bucbcbuabyuMFwu5alzuLau5+bIcccbuguouK5alyuL3fau4ial36cacbuouXau5+b0cbcbuouK5alxuLau5+b:abwuM5alwuLau5+b,cccbuguabyuMowu5alAuL3fau4i"
def OH:aw 0 117 OG:=ax
def OI:ar:=ay "Xdbgal3en+b=a3haL4l3neddabd+cKcmn3mao3qilailb3ip+dUe3afchpaq4l3teddacd+cKcst3sau3wirairb3kp+dUe3afcj,va,w4dl3yaircuau50akrcu5alwOuau58abguacguswu5alzOu4eul3haL4iadl3Lechecj2u4eulechecjd+cLcvu3hau4iadc3RabhbuKbuachbuKbumxu3hau4i"
def OJ:aw 0 118 OI:=ax
def OK:ar:=ay "Dcbeal3faQ4dk3haakgcchbid+bPbjaaklcdmbnd+bPboPbdkp3gaq4maaabaacaadaafaagaahaaiaaeabijaakaalaadl3safaad+bPbsEStMuYjuMwru4eulaad+bObuabd+bQcvu3fau4ial3Daa3fau4i"
def OL:aw 0 119 OK:=ax
def OM:ar:=ay "Ydbgal3haL4ddc3jaaachbijbkabachbmnboslp4eqdcaaachbrsbtabachbvubumyu3hau4iadlaK4fagdl3Bahaagumwu4euahadfbdc3Haaahhbvubuabahhbvubusyu4eudcaaahhbvubuabahhbvubumyu3hau4iab3FahjuM3iau4l3haL4i"
def ON:aw 0 120 OM:=ax
def OO:ar:=ay "obbcalaQ4dfagdlaagdweM4efahafbbaad+cJbg3bah4dl3jaagiojK4ekl3daQ4ial3maahblKbm3dan4i"
def OP:aw 0 121 OO:=ax
def OQ:ar:=ay "0cbeal3faN4dl3iaakhcbibjgkolK4emlaakncaobpabd+cMcqrd+cIbs3fat4ial3vaaabd+cHcvu3gau4laN4l3yagaakucbubuafGbvabuxbiAu3hau4l3Gagaakucbubuafhbvubuabd+bZcvuxbiDu3hau4l3RagaakucbubuafjuMGbwbuaxbiBud+cJbu3fau4i"
def Cj:aw 0 122 OQ:=ax
def OR:ar:=ay "gbbcal3cnWaaL4leLbqaad+cNcde3daf4i"
def OS:aw 0 123 OR:=ax
def OT:ar:=ay "WdcgcdhalnWb3hp+crbaK4l3paacaeeGpdtcoq3oar3tinainb3jasat4dl3vajsuK4eulqba3afdgu3iaZ4ial3zaiacd+cOcvu3yau3Ciuaiyb3lp+crb3afdk,B3ka,C4dl3EajsuK4eulqba3afdgu3iaZ4iadl3Iedkacd+cncvu3Hau3Liuaiyb3mpWa3afLl,Ka,L4l3NamsuKau5+bleLleLed+cNcvurcu5alyOu4eulqba3afdgu3iaZ4ial3Wedk3afdgu3iaK4i"
def OU:aw 0 124 OT:=ax
def OV:ar:=ay ";bbcal3cnYaaL4l3fe+bfbd?be3eaf4dfal3icabbhcbbbjqydabWbbicbkd2blrcm3han4egl3daL4il3qccbeLpadd+cPcqrrcsat5QcNbeLuadd+cPcvurcu5alzOuau54ccbcIubucNbcIubusxu5alBOuau5+bdccbcKubuguwuK5alzOu3pau4eol3daL4ial3ScNbeLud+b0buau5+bxcNbcKubuguadovuau5+bMcNbcJubucNbcIubuoxu5+bxlBuL5alJOu3dau4i"
def OW:aw 0 125 OV:=ax
def OX:ar:=ay "udadl3habrcg4ehlaakicbj3afbk84iabaaaakmcanboacxbbpqklcas3afbtr4"
def OY:aw 0 126 OX:=ax
def OZ:ar:=ay "vcab3faaabCfKag5rabFi05alhjLabHl<uemabHo6uepabuervbdnqsd+b3dekt4"
def P0:aw 0 127 OZ:=ax
def P1:ar:=ay "hcal2v4baa2wd+b3deOf4"
def P2:aw 0 128 P1:=ax
def P3:ar:=ay "Bcadl3habggwh,+qm4eilaakjcbk3afbl84ialaaabgnueod+bbcmp4labgraK4faglmts4deuahadfblhbrtbu3gau4b3yaaafd+cQcvu4bjtM3uau4"
def P4:aw 0 129 P3:=ax
def P5:ar:=ay "ibbcalaN4dlaaQad4eel3daN4ial3gvbaaaxbbfg3dah4i"
def P6:aw 0 130 P5:=ax
def P7:ar:=ay "Scceafal3faNaL4dl3iaakhcbibjokKal5Babaakocapbqgrwns5almtL4eubaad+b;cu,+oS4adlaakucbubusuK4eul3faNaL4ial3DaakucaubuabGbvabu3hau4l3JaaaakucaubuabGbvbuakAcau3afbuw4lag3fauaO4i"
def P8:aw 0 131 P7:=ax
def P9:ar:=ay "rcbeal3faN4l3jaaaaabd+cRcjkd+b8cil3iam3oihaihb3ganao4l3qafd+b7bp3faq4i"
def Pa:aw 0 132 P9:=ax
def Pb:ar:=ay "GbbccLlpWa4l3haad+cSbgqabaGh3epWa3afLdi4l3kaad+cRcj0cId3afblk4laad+cRcm0cJd3afbon4dlcGdcapcGdcbrcKdvbdqstguaK4faglmuv4deuahadfblhbxvbu3gau4b3Bafaad+cTcuPkw3afbuv4bjBM3xau4l3GeLd3afLcu4i"
def Pc:aw 0 133 Pb:=ax
def Pd:ar:=ay "ncal3faakecbfbgohK4eibaaabkjcbl3afbmk4a"
def Pe:aw 0 134 Pd:=ax
def Pf:ar:=ay "hbbccGlpQg4laaBbbdd+cVc,+oWed+cUbf3afGcg4i"
def Pg:aw 1 135 Pf:=ax
def Ph:ar:=ay "+btbbcal3cn+craaN4l3icabbhcbbbjgkuelBbcim3ean4dlaK4fagdl3paecbbbpgqmor4esahadfbl3wadcbbbuaehcvucbubud+cWbuzbbBu3eau4b3Fadcbbbuaehcvucaubud+cXbuzbbBu3eau4b3uaejtM3fau4l3OadccbbuguueuBbbuzbbzu3eau4dl3gaK4fcgdl3Vafccbbugumxu4euahcdfdl32ccbbuafhLvueLu3hpWa3afLg,54l37adcag2xzbbwu3eau4l3;adcIgbud+cYbuzbbxu3eau4l3*adcJgbud+cYbuzbbxu3eau4l3+bcadcGgcaubud+cXbuzbbyu3eau4l3+biadcGgcbubud+cXbuzbbyu3eau4b3+boadcKgbud+cXbuzbbxu3eau4b30afjuM3gau4l3+btad3dau4i"
def Pj:aw 1 136 Ph:=ax
def Pk:ar:=ay "+bmcbeccl3dnUanUbpUc4dk3kecccacbkgld+cZcjmecdcadbpgqd+cZcor3ganas4maaabaacaadaafaagaahaaiaaeacfhjaakaalaadl3uafat5Ragrcu5alwuL4eulecc3afceu4iadlagau53afrcu5alwuL4eulecd3afceu4iadlafrcuau5*cacbugucadbugusxu5alBOu4eulqca3afceu4ial3ipUc4dlaK4fagdl3Saicacbugumxu4euahadfbdc3ZcahbucacbuaihbvubucadbuaihbvubuPadzuvbbuxbiGucah3afbuv4ccbhbucbcbuaihbvubucbdbuaihbvubuPbdzuvbbuxbiGucbh3afbuv4b3XaijuM3jau4l3+bmech3afceu4i"
def Pl:aw 0 137 Pk:=ax
def Pm:ar:=ay "eabaal3baQ4ld+c0aqzbaibn+d<c3bad4i"
def Pn:aw 0 138 Pm:=ax
def Po:ar:=ay "Zcadl3gaakfcjgbhoi34ejbaad+c0akkcam3afinl4alaakocjpbqabgsuhtjrukocju3afbuw4lvbaaakuciubuxbbyuabxbbvu3fau4dfagdl3HaeguCuV4euahafbdcaaaakucaueiuaeGbuabVd+c1cwukBcau3afiuw4baeGbubVa3fau4b3Waaaekvciu3afbuw4"
def Pp:aw 0 139 Po:=ax
def Pq:ar:=ay "+bmbbccGlpQg4l3jaakicajeik3ep+d9k3afidl4dl3naakmcjnboop34eqbd+c0a3afidr4alvbaaaktciubuxbbsuvbb,+oXxbbvu3fau4dfagdl3BaeguLuVsu;4euahafbbaevbb1xbbvu3fau4l3IaeaakucjubuE6ud+c2buxbbAu3fau4dfcgdl3QaeguwuK4euahcdfdc3VeidaeGbuabVd+c1cwu3afidu4b3TaeGbubVa3fau4lpQg4dl3ZeidaK4feglmuP4deuahedfflav2y3hava,24b34agERuagERujuMagERujuSagERujuYahHu,+oYueuahHu<ueuahHu6ueuahueuAbGf,43afbuDAbGf,73afbuBAbGf,:3afbuzAbGfI3afbuy4bj,ZM30au4l3+bmeGf3afGcu4i"
def Pr:aw 0 140 Pq:=ax
def Ps:ar:=ay "Acbeal3faN4l3jaavbbi3gaj4dl3labgkaK4faglmml4denahadfblhbkmbo3iap4b3rafahgruhsd+c2btxbbquahxbbvu3gau4b3zjmM3nau4l3Aaf3fau4i"
def Pt:aw 0 141 Ps:=ax
def Pu:ar:=ay "tcbeal3faK4dl3haaggaK4faglmih4dejahadfblai3gak4l3mabaaafhbmnboKlbp4eqlaf3far4iab3tjiM3jas4l3faU4i"
def Pv:aw 0 142 Pu:=ax
def Pw:ar:=ay "1eal3labjkM3jal4fagdl3naiacmmn4eoahadfbl3sai3kar4fcgddc3tajabwstau5TadaaajhbvubuaaajyuMhbwubuKDczumuK5alGuL4euahcdfdc3MaaajaaajyuMaaajyuMhbwubuaaajhbvubuhbHG3afbuzhbGE3afbuw4b3KajyuM3kau4b3qaijpM3jaq4"
def Px:aw 0 143 Pw:=ax
def Py:ar:=ay "zbbcalaK4dlaaCd,+qn4eelaaHf73bag4b3da,+oO4adl3iaaCh,+qo4eilaaHj<3bak4b3macjl23dam4adl3oaaCn=4eolaaHp63baq4b3sacjrP3das4al3uacaaueu2zudujtu3dau4i"
def Pz:aw 0 152 Py:=ax
def PA:ar:=ay "jbbcalaL4laaCdMae5naaFgP5alfhL3dai4i"
def PC:aw 0 153 PA:=ax
def PD:ar:=ay "gbbcala34laauhdDe93daf4i"
def PE:aw 0 154 PD:=ax
def PF:ar:=ay "+bEccecLfal3dn+cra3fpWaaK4l3pedcabd+cocop3oaq3sinainb3haras4dl3uahstK4eulqaaah3afLev3gau4iadk3yagdPbucbcbuguqacaGxJbu3jpWa3afLi,C4iaaacaadaaeaabbgbdfaagaahaadl3EcbcbuguaK4faglmuv4deuahadfblhcxvecu3lp+czf3afck,J4l3Lcbkbu4eulcIibujuMcIi3afbuv4kcGiecucakbud+c9bud+c8cxucGi3afcuv4iaaabaacaadaaeabbfaagaahaaabj,GM3Hau4dl3ZcccbuguaK4fcglmuv4deuahcdfdlhLxveLu3npWa3afLm,44l36cIibucImbujwucIi3afbuv4lcJibucJmbujwucJi3afbuv4bcGiecucGmecud+c8cwucGi3afcuv4bj,1M32au4dl3+bgcJibuwu04eulqaa3afLeu3gaM4iadl3+bkcacbu4fel3+bnouT3+bmau4eub3+bocbcbuhcuKcaubud+c:bucKi3afbuv4l3+bwoDX3+bvau4eub3+bxcccbuhLuKcKubud+c:bucKi3afbuv4aleLi3afLeu3gaK4i"
def PG:aw 0 155 PF:=ax
def PH:ar:=ay "+bqcceafal3dn+cra3faNaK4dl3medcabd+c;clmrcn4eol3faNaM4ial3qqjan+cdp3haq4l3sagcacbsd+bbcrt4lagcbcbuguueud+bbcyu4dlcbcbuguaK4faglmuv4deuahadfblhcxvecu3jp+czf3afci,H4l3Jagcbibud+c<cwu4bagcaibud+b6cwu4bjFM3Fau4l3Sagcccbuguueud+bbcyu4dlcccbuguaK4fcglmuv4deuahcdfdlhLxveLu3lpWa3afLk,34l35agcakeGud+b5cwu4lagcIkbud+b4cwu4lagcJkbud+b4cwu4lagcGkcaubud+b6cxu4lagcGkcbubud+b6cxu4bagcKkbud+b6cwu4bj,0M31au4l3+bnagd+bebuagd+bfbu3fawa,+bp4i"
def PI:aw 0 156 PH:=ax
def PJ:ar:=ay "ibbcalaN4dlaaQad4eel3daN4ial3gvLaaaxL+bXfg3dah4i"
def PK:aw 0 157 PJ:=ax
def PL:ar:=ay "jcbeal3faL4laaabd+c=cfgChK3fai4i"
def PM:aw 0 158 PL:=ax
def PN:ar:=ay "lcceafal3faKaL4laaabd+c>dgh,+qpiiaiib3fajak4i"
def PO:aw 0 159 PN:=ax
def PQ:ar:=ay "+bydbgal3haN4l3laaabt+bfkblaa4lacgn3iao4dl3qahopK4eqlaa3har4ial3taags3jat4dl3vabaiovu4eulaaacz+bf+d?vu3hau4iadl3BaiahjvuaaUuwwu4eulaaabt+bfvabuaaiahjvuabyvuY+bf+d?dzu3kau4l3Qajabt+bfvbuaaacI+bfvu4dcajabahjvut+bfxbuaaaaabt+bfvbuaaI+bfxu4laj3hau4ial35aaaiahjvut+bfxabua3bau4dl3:acaaabahjvut+bfxbuaaZzurcu4eudcaaabahjvut+bfxbuaaaaabt+bfvbuaaI+bfxu4laaabt+bfvbuaaacI+bfvu4laa3hau4ial3+boaaait+bfvbuaaacI+bfvu4laaabt+bfvbuaaahd+c+cvu4laa3hau4i"
def Ck:aw 6 160 PQ:=ax
def PR:ar:=ay "ibbcalaN4dlaaQad4eel3daN4ial3gB+bfaaaz+bf+d?fg3dah4i"
def PT:aw 6 161 PR:=ax
def PU:ar:=ay "Hdbgal3haN4l3jaaabacaaglt+bfibjbkbm4dlabacoop4eqlaa3har4ial3taags3iat4dc3vaaabt+bfvabuaaaact+bfvbuaaz+bf+d?xu3bau4l3Caaaaguaht+bfxbvbua3a0+bfdu4laa3hau4i"
def PV:aw 6 162 PU:=ax
def PW:ar:=ay "vccec+bffal3fpYdaL4dl3jaagiaK4faglmkj4delahadfblh+bfike+bfm3ipYd3af+bfhn4l3pcahboabopq4erle+bfh3af+bfes3gaO4iab3ujkM3lat4l3vqda3af+bfeu3gaL4i"
def PX:aw 0 163 PW:=ax
def PY:ar:=ay "rbbccclpUc4dlaamdMae5maawgP5alfOh4eilqca3afccj4ialvbb,+qqaad+c,cklvbb,+qraad+c,cnoqccabmbbp3afccq4i"
def PZ:aw 0 164 PY:=ax
def Q0:ar:=ay "+bQediccjakalnWbn+dEc3jp+dAjaKaK4dl3uehgadd+dacturcu4eulqja3afciu3kaKaM4ial3zaaehgadqAdabwbhvibun+equ3mau4dl3EaleLfd+dbcvu4fagdlalkucnubuguwuK4euahafblalkucnubud+dccu,+qs4lalkucnubuhPuKcaueLu3npWa3afLm,X4l3ZalalkucnubutPubMaakzcnu3afbuw4dlaleLmd+decvu4euhbal3;aaeLmadd+b1dwvu3:au3?iuaizb3op+crb3afdn,>a,?4dl3+a+aosuK4eulqja3afciu3kaKaZ4ial3+bbalkuclubujuMkyclu3afbuw4dlcbnbuguaK4fcglmuv4deuahcdfdlhcxvecu3rp+czf3afcq,+bn4b3+bpalecqd+dfcvu4bjAM3+blau4l3+btccnbuguaK4feglmuv4deuahedfflhLxveLu3tpWa3afLs,+by4b3+bAaleLsd+dbcvu4bjAM3+bwau4dk3+bEalkucjubualkuckubuqjcabybbualkuclubu3afciy3kauaK4qaaabaacaadaaeaafaagaahaaiaajaakaalaamaanabmoaapaai"
def Q1:aw 6 165 Q0:=ax
def Q2:ar:=ay "HcceafalnYbaNaK4dl3kaad+babjrckal5Ae+bfdd+b2bnrco5almOp4eql3faNaM4ial3taacadbtd+crcsu3sau3xirairb3hava,x4dl3zahrcu4eul3faNaY4ial3Baad+ctbu3jau4l3Daiage+bfdh+bfwv3af+bfuv4lai3fauaK4i"
def Q3:aw 0 166 Q2:=ax
def Q4:ar:=ay "rcbeal3dnda3faL4lbcCfMag5rbcFiP5alhjLak5zabJ+dgabcd+brcmnrco5allpL3faq4i"
def Q5:aw 0 167 Q4:=ax
def Q6:ar:=ay "+bTecicLjal3fn+dGanWb3jpWaaK4dl3peLfd+b0bo4epleceacqfcabrbbOeLfeLfd+dheqstuiuaivb3afLiv3kau4ial3AeceeLfd+dicvu3zau3Diuaiybizc3lp+czf3afck,Ca,Da,E4dfal36amsuK35au4eul38qaaam3afLiv3kau4il3;cakbuacdWcvuau5+b<cbkbu5alwuL3:au4eul3+baqaa3afLiu3kaP4il3+bccakbuacdWcvu3+bbau4eub3+bgcbk3afbuO4l3Geceaccakbuadd+djeyxvu3oau4dc3NalanecealanhLvueLuacadjuMd+cAeBxwu3Mau3YiuaiGbhLGF3afLuw3nav4l31amsuK4eulqaaam3afLiv3kau4iadc3+bieceeckalhLuKeLualhLuMeLud+dheBAxu3+bhau3+briuaiEb3afLfv3nau4ddc3+btamouKau5+cRalhLuKcJubualhLuMcJubuPbdyucJfbuESuMuYjuMwzu5alJuL4euleceeLfadd+cDdwvuiuaivb3afLiv3kau4ial3+bSeLfam3afLiv3kau4i"
def Q7:aw 0 168 Q6:=ax
def Q8:ar:=ay "+bddcgahal3en+bUanWb3haNaK4l3qecdeLed+dkcpq3par3tioaiob3jp+crb3afdisat4dl3vajsuK4eulaj3haNa,w4iadl3ycaibuouT4eul3Cedid+dmbuacd+dldvu*3Bau3Giuaizb3lava,G4dl3Ial4eul3haNaP4iadk3Jedid+dmbuakacBbbud+dodxwuecdJ0buad+dncwuiuaivb3hava,S4naaacaadaagaahaabbebgeaafabgiaajaakaalaamaaial3Uediacd+dpcvu3nau4dc3YecdccibuamhLvueLuacd+cBdAvu3Xau36iuaiDb3oav3ka,64dl38ajsuK4eulaj3haNa,94iadk3;ccibuamamjuMand+dreyxvuecdJ+bzbuad+dqcwuiuaivb3hava,+bc4oaaabaacaadaaeaafaahaaiaagabhjaakaalaamaanaai"
def Q9:aw 1 169 Q8:=ax
def Qa:ar:=ay "+blecicLjal3fn+dGanWb3jpWaaK4dl3peLfd+b0bo4epleLf3afLiq3ka44ial3teceeLfd+dicst3sau3wirairbirc3lp+czf3afck,va,wa,x4dfal3ZamsuK3Yau4eul31qaaam3afLiv3kau4il34cakbuacdWcvuau5+bYcbkburcu5alxuL33au4eul3=qaa3afLiu3ka44il3?cakbuacdWcvu3>au4eub3+bacbk3afbuL4l3zeceaccakbuadd+djeyxvu3oau4dc3GalanecealanhLvueLuacadjuMd+cCeBxwu3Fau3RiuaiGbhLGF3afLuw3nav4l3UamsuK4eulqaaam3afLiv3kau4iadc3+bbeceeckalhLuKeLualhLuMeLud+dheBAxuiuaivb3afLiv3kau4i"
def Qb:aw 0 170 Qa:=ax
def Qc:ar:=ay "AdcgcLhal3en+dGanWb3hpWaaK4l3mecdeLed+dsclm3lan3pikaikb3jaoap4dl3rajsqK4erlqaaaj3afLgs3iat4ial3vecdaiacd+dtdwvuiuaivb3afLgv3iau4i"
def Qd:aw 0 171 Qc:=ax
def Qe:ar:=ay "+bgdcgcdhal3en+bUanWb3hp+dLhaK4l3recdeLed+dkcqr3qas3uipaipb3jp+crb3afdita,u4dl3wajsuK4eulqhaaj3afdgv3iau4ial3Aedid+dubu3lp+dLh3afdk,A4dl3Ccakbu4eul3Fcbkbuacd+dldvu*3Eau3Jiuaizb3mava,J4dl3Lamrcu4eulqha3afdgu3ia44ial3OcbkbualaljuMd+dvdxwucbk3afbuv4ledk3afdgu3iaK4ial3Wediacd+dpcvu3oau4dk30ecdcckbuanhLvueLuacd+cEdAvu3Zau38iuaiDb3pp+dLh3afdo,73ka,84oaaabaacaadaaeaafaagaahblaiaajaakaalaamaanaadl3:ajsuK4eulqhaaj3afdgv3iau4ial3?ecdcckbuanedod+dweywvu3>au3+bciuaiBbcck3afbuw3kav4l3+bfedkaj3afdgv3iau4i"
def Qf:aw 1 172 Qe:=ax
def Qg:ar:=ay "uccecLfal3dn+bUan+dLbpWaaK4dlcadbg4ehlecccbdbjd0cikilailb3afLem3gan4ial3peccccdbpd+bzcoqirairb3afLes3gat4i"
def Qh:aw 0 173 Qg:=ax
def Qi:ar:=ay "1cbeal3faN4laN4dlaK4fagdl3kagaagkmjl4emahadfbl3iaN4laK4dfcgddc3qaiafgqmpras5Pafaihbvubuaaaghbvubuabd+bXdzvu5altuL4euahcfdlahafaihbvubuvbbuxbyzu3iau4b3NaijuM3jau4l3Pahaaaghbvubuvbbuxbyzu3iau4b3WahafaiGbvbuaxbyxu3gau4b3oagjnM3hao4l31af3fau4i"
def Qj:aw 0 174 Qi:=ax
def Qk:ar:=ay "Dcbeal3faK4laK4dlaK4fagdlagaakicbjbkglmhm4enahadfbl3rabaakrcbsbtaghbvubud+dybud+dxcqurcu4eubag3gau4ab3pagjoM3hap4l3Daf3fau4i"
def Ql:aw 0 175 Qk:=ax
def Qm:ar:=ay "NbbcalaN4laN4laK4l3iaaghd+dzbi3gaj4dlaK4fagdl3lagafglmkm4enahadfbl3radvbaaaaeaeafaghbvubujyuGbsbtbuxbyruqcbabun+bGuvbbuxbiqu3eau4b3Haeafaghbvubujyu3fau4b3pagjoM3hap4l3Nad3dau4i"
def Qn:aw 0 176 Qm:=ax
def Qo:ar:=ay "NbbcalaN4laN4laK4l3iaaghd+dzbi3gaj4dlaK4fagdl3lagafglmkm4enahadfbl3radvbaaaaeaeafaghbvubujyuGbsbtbuxbiruqcbbbun+bGuvbbuxbiqu3eau4b3Haeafaghbvubujyu3fau4b3pagjoM3hap4l3Nad3dau4i"
def Qp:aw 0 177 Qo:=ax
def Qq:ar:=ay "Lcceccfal3dn+b=a3fp+dUeaL4dl3iedcabgid+bUchjrck4ellqea3afcem3gaL4iadl3ocacbnooX4epdcabGbqbMacccbsd+dAcrtiuaivb3afcev3gau4ial3yabcbcbuhbwubuuhuju93hau4dl3FcacbuouT4eubagy,+qtu3hau4al3Kagqebbbu3afceu3gaO4i"
def Qr:aw 0 178 Qq:=ax
def Qs:ar:=ay "ucbeal3dn+dUan+dUbaL4dlcacbfcadbhsgi4ejlcacbkcadbmmln3fao4ial3qcbcbpcbdbrmqs3fat4i"
def Qt:aw 1 179 Qs:=ax
def Qu:ar:=ay "Lcbeal3faN4laN4laK4dfagdlagaagimhjak5zaaaghbmnboabd+dxcpq5allrL4esahafblafaaaghbvubuvbbuxbytu3gau4b3BagjuM3hau4l3Dafabvbbuxbywu3gau4l3HafaaagGbvbuaxbyxu3fau4i"
def Qv:aw 0 180 Qu:=ax
def Qw:ar:=ay "Mcbeal3dnWanWbaL4lcaceGfcadeGh2Aaj5xcIcblcIdbnomo5alkpLaq5LcJcbscJdbuotu5alruLau5ZcGcecucGdecud+dBcwu5alzuLau5=cKcbucKdbudWcwu5alzuL3fau4i"
def Qx:aw 0 181 Qw:=ax
def Qy:ar:=ay "+bdccecdfal3fp+crbaK4l3maad+bgbl3ham4l3oagd+bhbnqbbabo3ip+crb3afdhp4dl3ragd+bhbqudraK4faglmts4deuahadfblagd+dCbu3jau4k3ycbhbuagabd+cTcvuaiqfcabvbbuBcbuzcGAucbh3afbuv4laaabaacaadaafaaeabbgaahaaiaajaakaabjtM3uau4dl3Jagd+bhbuuduaK4fcglmuv4deuahcdfdkcchbuagabd+dDcvuBLbuzL+bXyucch3afbuv4jaaabaacaadaaeabbfaagaahaaiaabjDM3Mau4dl3Xagd+bjbusuKau5+bHedhabd+c;cvurcu5alyOu4eulqba3afdeu3gaZ4iadl38edhabd+cocvu37au3;iuaiyb3kava,;4l3=aksuKau5+b;ajaad+bkcvurcu5alyOu4eulqba3afdeu3gaZ4ial3+bdedh3afdeu3gaK4i"
def Qz:aw 1 182 Qy:=ax
def QA:ar:=ay "Xcbeal3dnWa3faL4dfal3heLcd+b0bg3gah4efl3faO4il3kcJcbjmkMal5AcJcbnwo05almOpaq5KcIcbsmtK5alrOuau5UcIcbucJcbuwwu5alzOu3jau4eil3faL4il3FcIcbuouK3Eau4eul3IcGccaubuguouKau5+bicGccbubuguouK5alzuL3fau4ial3UcGcecuabd+dEcvu3fau4i"
def QB:aw 0 183 QA:=ax
def QC:ar:=ay "tcal3habuhgDh93fai4la;4fagdl3kafCjK4ekahadfbb3oaaaeafHopueqd+bbcnr4b3mafylP3gam4"
def QD:aw 0 184 QC:=ax
def QE:ar:=ay "Mcbeal3faK4l3kaad+b8cjY3jak3miiaiib3galam4dl3oagrcn4eol3faK4iadc3qafhbpKbqudrRs<afhbuMbuuduRu6StuafhbuSbuuduSyu3iau4dl3GahabPadu0wwu4eulaad+b;cu84l3faK4ial3Mah3fau4i"
def QF:aw 0 185 QE:=ax
def QG:ar:=ay "pbbccGlpQg4lpQg4l3iaad+b8ch,+oO3hai3kigaigb3fajak4l3m2Bae2C4leGd3afGco4i"
def QH:aw 0 186 QG:=ax
def QI:ar:=ay "Lcbeal3faN4l3jaad+bhbiudj3gak4dl3mafabwlm4enbaad+b;co84al3haN4dl3rafaK4faglmrq4desahadfblaad+dFbt3iau4l3waakucbubuouK4eubagahvbbuxbiwu3hau4ab3FjrM3sau4dl3GaakucbubusuK4eul3faN4ial3Lag3fau4i"
def QJ:aw 0 187 QI:=ax
def QK:ar:=ay "gbbccGlpQg4laad+dHad+dGcde3afGcf4i"
def QL:aw 1 188 QK:=ax
def QM:ar:=ay "Tcbeal3faN4l3kaaBbbj3gak4dlaK4fagdl3magabgmmln4eoahadfbl3sabaghbrsbtguuhu3iau4dlaK4fcgdl3yaimuP4euahcdfdb3CafahaiEPuy;uuhuHyuLu=ueuBbbuzbbDu3gau4b3AaijuM3jau4b3Nafabaghbvubuzbbyu3gau4b3qagjpM3haq4l3Taf3fau4i"
def QN:aw 1 189 QM:=ax
def QO:ar:=ay "gbbcalaN4dlaa4edlBbbW3dae4ial3gBbb13daf4i"
def QP:aw 1 190 QO:=ax
def QQ:ar:=ay "xbbcalaN4l3gaagfuegBbbh3eai4dlaK4fagdl3kaeaagkmjl4emahadfbb3qadaaaehbqrbsd+dIbtzbbpu3eau4b3oaejnM3fao4l3xad3dau4i"
def QR:aw 1 191 QQ:=ax
def QS:ar:=ay "pbbcalaN4laaMd,+quLe>uefaaMh>Li>uejaaLl>uemBbdgkn3dao4i"
def QT:aw 1 192 QS:=ax
def QU:ar:=ay "Qcbeal3dnUa3faL4dl3habmgMah5sabwjP5aliOkal5Acacbngoabspq5almOras5Ocbcbuguabsvu5altOu4eul3faL4iadlaK4fagdl3Bafabmvu4euahadfbdc3Gcacbuafhbvubucbcbuafhbvubuwzu4eul3faL4iab3EafjuM3gau4l3faO4i"
def QV:aw 0 193 QU:=ax
def QW:ar:=ay "cabacil3bp+d9k4lqkiab,+oZbb,+o0cb,+o1db,+o2eb,+o3fb,+o4gb,+o5hb,+o63afiab4i"
def QX:aw 0 194 QW:=ax
def QY:ar:=ay "+bYcbecil3dn+d9a3fp+d9k4dk3pabd+dJbod+dKaeic3gp+e0lp+e0lp+d9k3af<fp3af<gq3afihr4kaaadaabdefgbdcdefgbdecfgafbgagaahabdiabdjaadl3taK4faglmsV4detahadfblas3jau4dk3wAbihRbud+dLcu,+qvAbihRbud+dLcu,+qwDxuAbihRbud+dLcu,+qxDxu3kau4maaabaadaaeaahaaiaacaceifabigaajaakaalaadc3HAbih5buajjvuAbihRbuAbih?buNwuAbihRburbuAbih:buNwuDAujGuaiAb<gubujxuaiAb<fubujxu3lau4dk36AbihKbud+dLcu,+qyAbihKbud+dLcu,+qzDxuAbihKbud+dLcu,+qADxu3mau4maaabaadaaeaahaaiaacaceifabigaajaakaalaal3+a+alAbihKbuAbihMbuNwuAbihKbuAbihSbuNwuDzuAbihMbuAbihSbuNwuDzuj,*u3nau4b3+brakamjvuAbihKbuAbihMbuAbihSbuAbihYbuakjvuAbihRbuAbih?buAbih:buqkiab,+bsbbIcbGdbEebAfbygbwhbu3afihu4bjsM3tau4dl3+bMaK4fcglmuP4deuahcdfdlav3oau4c3+bPanAbihubuanAbicubujxuAbihA3afbuv4bjEM3+bMau4l3+bYeih3afieu4i"
def QZ:aw 0 195 QY:=ax
def R0:ar:=ay "rbbcalaN4laN4dla;4fagdlaeCfK4egahadfbb3kadaaaeHkluemvbbnxbbjo3eap4b3iaeyhP3fai4l3rad3daq4i"
def R1:aw 0 196 R0:=ax
def R2:ar:=ay "+brcbeccl3dnUanUbpUc4dk3kecccacbkgld+dEcjmecdcadbpgqd+dEcor3ganas4maaabaacaadaafaagaahaaiaaeacfhjaakaalaadfal3vafau5Tagrcu5alwuL3uau4etl3Aeccd+dNbu3afceu4il3Dagau59afrcu5alwuL3Cau4eul3Iecdd+dNbu3afceu4il3Lafrcuau5+bhcacbugucadbugusxu5alBOu3Kau4eul3Wqca3afceu4ialeccd+dNbu3ipUc3afch,X4dl3ZcahbuguaK4fbglmuv4deuahbdfclav3jau4k35cahbuaicbhbuaicacbuaihbvubucadbuaihbvubuPadzucbcbuaihbvubucbdbuaihbvubuPbdzuhb,5,63afbuGhb,8,93afbuw4GaaabaacaadaaeaafaagaahaaiaajaakaalaamaanaaoaapaaqaaraasaataauaavaawaaxaayaazaaAaaBaaCaaDabeEaaFaabj,1M32au4l3+brech3afceu4i"
def R3:aw 1 202 R2:=ax
def R4:ar:=ay "rbbccclpUc4dlaagdmeMaf5oaaghwiP5algOj4eklqca3afccl4ialaad+c:bmaad+c:boqccabnbbp3afccq4i"
def R5:aw 0 203 R4:=ax
def R6:ar:=ay "ibbcalaN4dlaaQad4eel3daN4ial3gBbaaazbifg3dah4i"
def R7:aw 1 204 R6:=ax
def R8:ar:=ay "+bucbeal3dn+crandbaL4dlbdmfMag5qbdwiP5alhOjak5ycbcbmJ+dPabdd+dOcnorcp5allOqar5McccbtJ+dRabdd+dQcvurcu5alsOu4eul3faL4iadl3Acacbu4fal3DouW3Cau4eul3EcbcbuguouMau5+a+cccbuguouS5alyuLau5+bkcccbud+dQcu,+qB5alxuL3fau4il3Uo,AT3Tau4eul3VcbcbuguCuMau5+bGcbcbuguFuR5alyuLau5+bScccbuguouK5alyuLau5+b4cbcbud+dOcu,+qC5alxuL3fau4il3+a+o,AX3*au4eul3+a,cbcbuguouKau5+chcccbuguCuS5alyuLau5+ctcccbuguFuR5alyuLau5+cFcccbuJ+dUabdd+dQcvu5alyuL3fau4ial3faL4i"
def R9:aw 0 205 R8:=ax
def Ra:ar:=ay "jcadl3fab4eelaad+bbcfW4iabaad+bbch14"
def Rb:aw 0 206 Ra:=ax
def Rc:ar:=ay "tcbeal3faK4dl3haaggaK4faglmih4dejahadfblai3gak4l3mabaaafhbmnboolp4eqlaf3far4iab3tjiM3jas4l3faU4i"
def Re:aw 0 207 Rc:=ax
def Rf:ar:=ay "odcgahal3gn+eicaKaL4laaabJ+dWabfd+dVdijkilailb3haman4i"
def Rg:aw 0 208 Rf:=ax
def Rh:ar:=ay "fbbcal3cnYaa,+qD4lcabbd3dae4i"
def Ri:aw 0 209 Rh:=ax
def Rj:ar:=ay "Wcbeal3faN4dl3kabmjK4ekbWj,+oP3aXl4al3oaagnuhoabuhqd+dZcpr3nas3uimaimb3gata,u4dl3wafwu3au5Wagwu,+qE5alwOu4eubWj,+qF3aXu4alagudu1biquu3iau4l3GahaaIbvu3jau4dfagdl3Jaiahgumwu4euahafbcaiahaitbvbuaaahaitbvabuaIbxujBu3jau4l3Wah3fau4i"
def Rk:aw 6 212 Rj:=ax
def Rl:ar:=ay "6cbeal3dn+dEa3faL4dfal3habmgMah5sabwjP5aliOkal5Acacecnabd+dEcoprcq5almOr3gas4efl3faL4il3vcgcbu3uau4etl3xcfcbuouKau51ccccaubuou15alyuLau5=ccccbubuouK5alyuLau5+bgcccccubuguouK5alzuL3fau4ial3Tccceduabd+d0cvuau5+bCcfcbuCuU5alxuLau5+bMcfcbuFu,+qG5alxuL3fau4i"
def Rm:aw 6 213 Rl:=ax
def Rn:ar:=ay "+bCcalnWb4ddc3iaakhcbicgjbkal5BcIdbnwoK5almpLaq5LaakscbtcauecucGdecud+d1cwu5alruL4eucaakuckubucIdbujwukAcku3afbuw4addcaakucbuehueLdd+d2cvurcu4euialaakucmubujuMkycmu3afbuw4dceLdaakucmubuqrcaLyObu3fp+eur3afPe,34ddk36aakucbucauecucGdecud+d3cwu35au3>iuaiDb3gpUc3afcf,=a,>4oaaabaacaadaaeaafaagaahblaiaajaakaalaamaanaal3*agau5+b*aakucbucguburcu5alAuL4euc3+bhaakucbuccueduecfd+d4cvu3+bgau3+boiuaiCbiDccLe3afcuxcNe3afbux4acaaaakucnubuePeBPbuzP+ckwukBcnu3afbuw4"
def Ro:aw 6 214 Rn:=ax
def Rp:ar:=ay "Fcbeal3dn+euan+eubaK4dl3hcLcecgcLdecid+d6chj3gak4fal3nafsmK3man4ell3paf3fao4il3rcNcbqcNdbssrt3qau4epdl3wcNcbucNdbumwu4eul3faU4ial3faM4ial3BcOcbucOdbuywu3fau4i"
def Rq:aw 6 216 Rp:=ax
def Rr:ar:=ay ":cbealnWbaL4dc3haakgcbhcgibjrckal5BaakncbocfpbqCrK5almsLat5Raakucjubuguaakucbucfubuozu5alFuL3gau4dc3Iafau5+baaakucbucfubuouKau5+bnaakucbuehueLdaakucjubuaakucjubuguyuMhbAubud+d7dHGu5+bal,POu5al,IuL3fau4i"
def Rs:aw 6 217 Rr:=ax
def Rt:ar:=ay "0caln+czb4ddccbdbercfag5qaakicbjcakeclcadbnd+d8cmorcp5alhOq4eriadlaakscbtcgubu4eulaakuckubujuMkycku3afbuw4iakaaaakucbuccueduaakucjubucadbuBbbuzbyxud+d:cCuaakucbuehud+d9cyuk,Ecju3afbuw4xaaabaacaadaaeaafaagaahaaiaajaakaalaapaaqaaraasaamaanacfsoabstaauaavaawaa"
def Ru:aw 6 218 Rt:=ax
def Rv:ar:=ay "ibbdal3eaL4laagebbsfg3eah4i"
def Cl:aw 0 219 Rv:=ax
def Rw:ar:=ay "xecicLjal3fn+dGan+czbnWcnWdpWaaK4lcaebkecfvcbmeLgeLhvLcopqbdabWbbncbqcbebsd+bwdlrtiuaivb3afLiv3kau4i"
def Rx:aw 0 220 Rw:=ax
def Ry:ar:=ay "Gcdeccfagal3dn+dGanWbp+czfaNaK4l3lcacbkeLdcbcbnd+b1dlmo3kap3rijaijb3ip+crb3afdhqar4dl3taissKat5QcahbusuW5alxOu4eulqfa3afceu3gaNaZ4iadk3BcbhbuhcuKecucchbu3afcew3gauaK4jaaabaacaadaaeaafaagabfhaaiaai"
def Rz:aw 0 221 Ry:=ax
def RA:ar:=ay "qebial3fn+dGa3jaK4dleceadd+d;cjkabacKlcmnmoK4epl3jaK4ial3jaM4i"
def RB:aw 0 222 RA:=ax
def RC:ar:=ay "Fccecdfal3dn+bUanWbp+crbaK4l3kcacbjeLdcbcbmd+b1dkln3jao3qiiaiib3hp+crb3afdgpaq4dl3sahsrKas5OcagbusuTau5XcagbusuX5OlxuL5altOu4eulqba3afdeu3gaZ4ial3Fedg3afdeu3gaK4i"
def RD:aw 0 223 RC:=ax
def RE:ar:=ay "Xdcgahal3haKaL4l3naagm3jan4l3pai3kaKao4dfagdl3qajakmpq4erahafblajakjstuhuHu,+o7udu3mau4l3zacaaalhbvubuabKzcvumuK4eubaljuM3kau4b3Jal3lau4l3Kajajaimvuau5+bkacaaajhbvubuabKzcvuouK5alCuL3haHa,W4i"
def RF:aw 0 224 RE:=ax
def RG:ar:=ay "ubbcal3cn+craaN4laN4dl3hcbbbgghaK4faglmji4dekahadfblhchjecl3gp+czf3afcfm4b3oadcafboBbbpzbynq3ear4b3tjjM3kas4l3uad3dat4i"
def RH:aw 1 225 RG:=ax
def RI:ar:=ay "pcceafal3faNaK4laaaaghdZbidYcgjabdXcklimaimb3fanao4i"
def RJ:aw 0 226 RI:=ax
def RK:ar:=ay "+bydbgal3haN4l3laaabtbkblaa4lacgn3iao4dl3qahopK4eqlaa3har4ial3taags3jat4dl3vabaiovu4eulaaaczbyvu3hau4iadl3BaiahjvuaaUuwwu4eulaaabtbvabuaaiahjvuabyvuYbymzu3kau4l3QajabtbvbuaaacIbvu4dcajabahjvutbxbuaaaaabtbvbuaaIbxu4laj3hau4ial35aaaiahjvutbxabua3bau4dl3:acaaabahjvutbxbuaaZzurcu4eudcaaabahjvutbxbuaaaaabtbvbuaaIbxu4laaabtbvbuaaacIbvu4laa3hau4ial3+boaaaitbvbuaaacIbvu4laaabtbvbuaaahd+d=cvu4laa3hau4i"
def RL:aw 6 227 RK:=ax
def RM:ar:=ay "Bcbeal3dn+cra3faK4laK4dfagdlafjgMcccbigjmhkal5BabcccboafjqMhLprcKsbtd+bvcnurcu5almuL4euahafbbafjuM3gau4l3Baf3fau4i"
def RN:aw 0 228 RM:=ax
def RO:ar:=ay "pcceafal3faNaK4laaaaghdZbid+bycgjabd+bxcklimaimb3fanao4i"
def RP:aw 0 229 RO:=ax
def RQ:ar:=ay "+dlebial3jaN4l3qaaabactLpbqbra4dlabacotu4eulaaabadd+d>dwvu3jau4iadl3Bacaaguowu4eulaaabtLvabuaadzL+bXvu3kau4dl3Kajguaagumwu4eubaaajgutLwbuaa3a0Lau4alaj3jau4iadc3UaaabtLvabuaguadgujwuaaactLvbuaagujyu3lau4dl36akaaUuwwu4eulaaabtLvabuaakabyvuYL+bXaxu3mau4l3+a+alabtLvbuaaadILvu4dcalabadgujwutLybuaaaaactLvbuaaILxu4lal3jau4ial3+boaaaktLvabua3nau4dl3+brabadgujwuacFvu4eulamabtLvbuaaadILvu4dcamabadgujwutLybuaaaaactLvbuaaILxu4laaaktLvbuaa3a0Lau4lam3jau4iadl3+bQamabadgujwutLybuaaadZvurcu4eudcamabadgujwutLybuaaaaactLvbuaaILxu4lamabtLvbuaaadILvu4lam3jau4ial3+b?adguacabyvuyxu3oau4dl3+ccamabactLwbvbuaadZvurcu4eudcamabactLwbvbuaadantLvbuaaILxu4dcamaagutLwbuaaadantLvabuaILxu4lamabtLvbuaaand+d*cvu4lam3jau4iadl3+cFamaagutLwbuaaadZvurcu4eudcamaagutLwbuaaadantLvabuaILxu4dcamabactLwbvbuaadantLvbuaaILxu4lamabtLvbuaaand+d*cvu4lam3jau4ial3+c8adaaactLvbuaad+d+cxu3pau4l3+c=amabtLvbuaaadILvu4dcamabadgujwutLybuaaamabaojvutLxbuaaILzu4lam3jau4i"
def Cm:aw 6 230 RQ:=ax
def RR:ar:=ay "2cceafal3dn+dGanWbaNaK4dl3pcIdboopK4eql3faNaK4ial3tecceLdd+dicst3sau3wirairbirc3hp+czf3afcg,va,wa,x4dl3zaisuK4eulai3faNa,A4ial3kaN4dl3Ccbgbu4eubajcagbuBbbuzbyxu3kau4adl3JahguaK4faglmuv4deuahadfblhLxveLu3mpWa3afLl,N4l3QecceLld+dscvu3Pau3Tiuaiyb3nava,T4dl3VansuK4eulan3faNa,W4iab3Yajamzbyvu3kau4b31j,KM3Lau4l32aj3fauaK4i"
def RS:aw 6 231 RR:=ax
def RT:ar:=ay ">dcgcLhal3en+dGa3hpWaaK4dl3nabgmonK4eolqaa3afLgp3iaK4ial3rabdTbq3car4l3tabecdacd+d;ctudUcsu4labguMuS3jau4dk3CecdabaitbvabuaacjuMd+dtdzwu3Bau3JiuaiCb3kpWa3afLj,Ia,J4naaabaacaadaaeaafaagbkahaaiaajaakaalaamaadl3LaksuK4eulqaaak3afLgv3iau4iadk3QecdabaijuMtbwbuaaacjuMd+dtdAwu3Pau3YiuaiDb3mpWa3afLl,X3la,Y4oaaabaacaadaaeaafaagaahblaiaajaakaalaamaanaadl30aksuK4eulqaaak3afLgv3iau4iadc34ecdabaihbvubuqfcabubbOeLjeLld+dheBwvuiuaivb3afLgv3iau4i"
def Cn:aw 6 232 RT:=ax
def RU:ar:=ay "lbbccdl3cn+crap+dLh4dkcabbdoeTedbd+dmbgccbbiqhdabfbbhcbj3afdck4jaaabaacaadaafaagaaeacbghaaiaai"
def RV:aw 0 233 RU:=ax
def RW:ar:=ay "Hdbgal3haN4l3jaaabacaagltbibjbkbm4dlabacoop4eqlaa3har4ial3taags3iat4dc3vaaabtbvabuaaaactbvbuaazbyxu3bau4l3Caaaaguahtbxbvbua3a0bmu4laa3hau4i"
def RX:aw 6 234 RW:=ax
def RY:ar:=ay "+bfeciajal3fn+bUa3in+dLdaNaK4dl3uedhd+d,btrcu4eul3yeceedhd+cFcvu3xau3Biuaiyb3lpWa3afLk,Aa,B4l3DabaceLkhLwv3afLuv4labal3java,H4ial3JacyuMPbduK3nau4l3Mam3oau4dl3NacouK4eub3oaM4adk3QeceabanhLvueLud+dkcyu3Pau3WiuaiBb3pp+crb3afdo,Va,W4maaabaacaadaaeaafbjagaahaaiaajaakaalaadl3YapsuK4eulap3jaNa,Z4iadk31edod+dubuedh3rp+dLhp+dLh3afdq,13afdr,24haaacaabcdebcdbeaeaafabcgaadl34acouK4eukedhedod+dubu3afdqw3afdru4faaabaacabadaaeaaal3:eceedqedrd+eadwvu39au3>iuaizb3tav3qa,>4dl3*apsuK4eulap3jaNa,+a+4ial3+baabamamjuSasd+dreyxvu3jauaK4i"
def RZ:aw 1 235 RY:=ax
def S0:ar:=ay "kcbeal3faL4laad+ecbfabd+ecbhd+ebcgi3faj4i"
def S1:aw 0 236 S0:=ax
def S2:ar:=ay "hbbcalaN4laad+bSbdhbeKbf3dag4i"
def S3:aw 0 237 S2:=ax
def S4:ar:=ay "JbbcalaN4l3iaaMhR3eai4dl3kadERjaamkl4embadjnM3eao4alaN4dlaK4fagdl3qafadmpq4erahadfbl3vaaadMvu3hau4dl3yafaaadLvumxu4eubagjuM3hau4ab3Faeagvbbuxbiwu3fau4b3tafjsM3gat4l3Jae3dau4i"
def S5:aw 0 238 S4:=ax
def S6:ar:=ay "rcbeal3dnUanUbaL4lcacbfcadbhdWcgiaj5xcbcblcbdbndWcmo5alkpL3faq4i"
def S7:aw 0 240 S6:=ax
def S8:ar:=ay "mbbcalaL4l3faad+bhbe3eaf4dl3hadwgW4ehbaad+b;ciZ4aladokW3dal4i"
def S9:aw 0 241 S8:=ax
def Sa:ar:=ay "EcbecLl3fpWa4l3haad+cSbgqabaGh3gpWa3afLfi4l3kaad+cRcj0cIf3afblk4laad+cRcm0cJf3afbon4laaabd+cTcpqcGfcas3afbtr4laaabd+cTcvucGfcbu3afbuw4laaabd+cTcvucKf3afbuv4leLf3afLeu4i"
def Sb:aw 0 242 Sa:=ax
def Sc:ar:=ay "Ccbeal3dnUa3faL4dlabmfMag5qabwiP5alhOjak5ycacbmgnabsop5allOqar5Mcbcbtguabsvu5alsOu4eul3faL4ial3AabJ+egabcd+efcvu3fau4i"
def Sd:aw 0 243 Sc:=ax
def Se:ar:=ay "EbbcalaK4l3kaad+b8cjP3jak3miiaiib3ealam4dl3oaercn4eol3daK4ial3ga34dl3qadgpaK4faglmrq4desahadfblhbprbt3iau4b3wafRu6ahuhuSwu3gau4b3BjrM3sau4l3CafDu9udu3dau4i"
def Sf:aw 0 244 Se:=ax
def Sg:ar:=ay "+bhcbecGl3fpQg4l3nBbaaazbbmnBbb,+oXzbbop3gaq4dfagdl3safgrLsVst;4euahafbbafBbb1zbbvu3gau4l3zaaguuhuE6u3hau4dlaK4fcgdl3DahmuP4euahcdfdb3HafagahEPuy;uuhuHyuLu=ueuBbbuzbbDu3gau4b3FahjuM3iau4l3SBbi,+oZ,+o0,+o1,+o2,+o3,+o4,+o5,+o63jau4dlaK4fegdl3Tajafgumwu4euahedffb3ZaiafajajjuVGbxbwbuabd+ehdAvu3jau4b3XajjuV3kau4lpQg4dlaK4fggdl37almu,+oO4euahgdfhb3;alaialMuRhbwubualLuREPuy,+qHuuhuHzuLu,+o8ueuAbGkH3afbuv4b39aljuM3mau4l3+bheGk3afGeu4i"
def Sh:aw 1 245 Sg:=ax
def Si:ar:=ay "cabaal3baN4lBb<,+o9,+o:,+o;,+o<,+o=,+o>,+o?,+o*,+o+,+o,,+pa,+pb,+pc,+pd,+pe,+pf,+pg,+ph,+pi,+pj,+pk,+pl,+pm,+pn,+po,+pp,+pq,+pr,+ps,+pt,+pu,+pv,+pw,+px,+py,+pz,+pA,+pB,+pC,+pD,+pE,+pF,+pG,+pH,+pI,+pJ,+pK,+pL,+pM,+pN,+pO,+pP,+pQ,+pR,+pS,+pT,+pU,+pV,+pW,+pX,+pY,+pZ,+p0,+p13bab4i"
def Sj:aw 1 246 Si:=ax
def Sk:ar:=ay "xbbcalaN4l3haauhgjh93eai4l3k1bbBPP3faj4dla54fagdl3lafCkK4elahadfbl3paeafadLq=uerhbop3afbts4badMu=3eau4b3nafymM3gan4l3xae3dau4i"
def Sl:aw 1 247 Sk:=ax
def Sm:ar:=ay "+bwbbcc<lp+e0l4lp+e0l4dl3laK4faglmk24delahadfblak3fam4c3oaeaaaeERphboqbrugsRt,+oYaaaeERujuMhbxubuuguRu<SCuaaaeERujuShbxubuuguRu6SCuaaaeERujuYhbxubuuguSBuAb<dn3afbuv4bjkM3lau4dl3ga24fcgdl3YafmuV4euahcdfddc32afyu,+p2Ab<dubuafyuSAb<dubu3haya,84l3:agd+dLcu,+qIagd+dLcu,+qJDwuagHu,+qKDwu3jau4l3+a,ahd+dLcu,+qLahd+dLcu,+qMDwuahHu,+qNDwu3kau4c3+bhafafyu2Ab<dubuaijvuafyu5Ab<dubujyuajjvuAb<dH3afbuv4b30afjuM3gau4l3+bwe<d3af<cu4i"
def Sn:aw 0 248 Sm:=ax
def Sp:ar:=ay "cabac<l3bp+e0l4lql<ab,+o9bb,+o:cb,+o;db,+o<eb,+o=fb,+o>gb,+o?hb,+o*ib,+o+jb,+o,kb,+palb,+pbmb,+pcnb,+pdob,+pepb,+pfqb,+pgrb,+phsb,+pitb,+pjub,+pkvb,+plwb,+pmxb,+pnyb,+pozb,+ppAb,+pqBb,+prCb,+psDb,+ptEb,+puFb,+pvGb,+pwHb,+pxIb,+pyJb,+pzKb,+pALb,+pBMb,+pCNb,+pDOb,+pEPb,+pFQb,+pGRb,+pHSb,+pITb,+pJUb,+pKVb,+pLWb,+pMXb,+pNYb,+pOZb,+pP0b,+pQ1b,+pR2b,+pS3b,+pT4b,+pU5b,+pV6b,+pW7b,+pX8b,+pY9b,+pZ:b,+p0;b,+p13af<ab4i"
def Sq:aw 0 249 Sp:=ax
def Sr:ar:=ay "rcbeal3fa,+p34l3habuhgNh,+qO3gai4l3kaaafRjkaaafy7nHmoSlp3faq4i"
def Ss:aw 0 250 Sr:=ax
def St:ar:=ay "kbbcccl3cnUapUc4dkcabbdd+c:becbbbgd+c:bhqccabfbbi3afccj4iaaabaadaaeaacabefaagaahaai"
def Su:aw 1 252 St:=ax
def Sv:ar:=ay "jcbealn+e9baL4laaJ+ejabdd+eicfgrch3fai4i"
def Sw:aw 0 253 Sv:=ax
def Sx:ar:=ay "jbbdaln+czaaL4lcacbegfbbogh3eai4i"
def Sy:aw 0 254 Sx:=ax
def Sz:ar:=ay "jcbealn+b,baL4laaJ+elabdd+ekcfgrch3fai4i"
def SA:aw 0 255 Sz:=ax
def SB:ar:=ay "hbbdalnWaaL4leLcbbd+cPcef3eag4i"
def SC:aw 0 256 SB:=ax
def SD:ar:=ay "hbbcal3cnWaaL4lcKbbdgeofK3dag4i"
def SE:aw 0 257 SD:=ax
def SF:ar:=ay "fbbcal3cn+czaaL4lcbbbd3dae4i"
def SG:aw 0 258 SF:=ax
def SH:ar:=ay "obbdalnWaaL4lcKcbegfbboghai5veLcd+b0bkrcl5aljmL3ean4i"
def SI:aw 0 259 SH:=ax
def SJ:ar:=ay "Xdcgahal3haKaL4l3naagm3jan4l3pai3kaKao4dfagdl3qajakmpq4erahafblajakjstuhuHu,+o7udu3mau4l3zacaaalh+bfvue+bfuabKzcvumuK4eubaljuM3kau4b3Jal3lau4l3Kajajaimvuau5+bkacaaajh+bfvue+bfuabKzcvuouK5alCuL3haHa,W4i"
def SK:aw 0 260 SJ:=ax
def SL:ar:=ay "lcbfalnYa3gaK4lbce+bfdKgbhabd+dXcij3gak4i"
def SM:aw 0 261 SL:=ax
def SN:ar:=ay "ucbeal3faK4l3iaad+embh3gai4l3kabd+embj3hak4dl3maf4eldlag4eml3faK4ial3faU4iadl3oag4enl3faM4iadl3paaabmop4eql3faU4iadl3saaabwrs4etl3faM4ial3faK4i"
def SO:aw 0 262 SN:=ax
def SP:ar:=ay "Ecceafal3fa3a34deLl3maauglabugnd+eocmo3lap3rikaikb3haqar4l3taguhsahuhu3fata,v4ial3yaaabd+epcvu3xau3Biuaiyb3java,B4l3Daiaj3fava,D4i"
def SQ:aw 0 264 SP:=ax
def SR:ar:=ay "+becbeal3dn+b=a3faL4dlabmfMag5qabwiP5alhOj4ekl3faL4iadl3mcacbl4fal3pom13oao4enl3qcbcbpoqKar5NcccbtguouK5alsuL3fau4il3AomW3zau4eul3BcbcbuCuMau59cbcbuabmvu5alyuLau5+bccccbuguouK5alyuL3fau4il3RomT3Qau4eul3ScbcbuCuKau5+bycbcbuabmvu5alyuLau5+bKcccbuguouK5alyuL3fau4il38omX37au4eul39cbcbuouKau5+b6abCuS5alwuLau5+b>cccbuguabyuMowu5alAuL3fau4ial3faL4i"
def SS:aw 0 265 SR:=ax
def SU:ar:=ay "Bcbeal3dn+dEanWbaL4dlcIdbfogKah5scacecjcGdecld+esckmrcn5aliOo4epl3faL4iadl3rcgcbq4erlcacecscGdecud+d1cturcu3fau4ial3zcfcbusuK3fau4i"
def SV:aw 6 267 SU:=ax
def SX:ar:=ay "1cceccfal3dnUanUbpUcaL4dl3jeccecdd+escijrck4ellqca3afcem3gaL4ial3oeccd+dNbn3hpUc3afcgo4dl3qcagbpgqaK4faglmsr4detahadfblas3iau4k3wcagbuahcbgbuahcacbuahhbvubucadbuahhbvubuPbdzucbcbuahhbvubucbdbuahhbvubuPadzuhb,w,x3afbuGhb,z,A3afbuw4GaaabaacaadaaeaafaagaahaaiaajaakaalaamaanaaoaapaaqaaraasaataauaavaawaaxaayaazaaAaaBaaCaaDabeEaaFaabjsM3tau4l31ecg3afceu3gaO4i"
def SY:aw 0 268 SX:=ax
def SZ:ar:=ay "9cdeccfagal3dn+b=anUbp+dUeaKaK4dl3jecdcadbjgkd+dEcilrcman5Eedccadbqgrd+d0cpsrct5aloOu4eulqea3afceu3gaKaM4ial3ycadbucbcbuhbwubud+etbu3ip+dUe3afch,D4dl3Fcacbu4fal3IouT3Hau4eub3Jcbdbucbcbuhbwubud+eubu3afchu4l3RoDX3Qau4euc3TcccbucadbuGbubMacbdbuGbubMaqccabxbbud+evcBu3Sau33iuaiFb3afchv4adkechcadbuhbuKbu3afcey3gauaK4iaaabaacaadaaeaafaccegaahaai"
def T0:aw 0 269 SZ:=ax
def T1:ar:=ay "Dcbeal3dn+dUan+dUbaK4dfal3heccecd2D3gai4efl3faK4il3lcacbkcadbmmlnao5Gcacbqcadbsortau5Tcbcbucbdbumwu5GlzuL5alpOu3kau4ejl3faU4ial3faM4i"
def T2:aw 0 271 T1:=ax
def T3:ar:=ay "zdbgal3en+dEanWb3haL4l3lcadeckcGeecmd+d3cln3kao3qijaijb3ipUc3afchpaq4l3saiar5Nccdedtechacd+eydwvu5alsuL3hau4i"
def T4:aw 6 272 T3:=ax
def T5:ar:=ay "pcbeal3dnUanSbaL4leccbdggd+dEcfhai5vbdgkJ+ezaccdd+efclm5aljnL3fao4i"
def T6:aw 0 273 T5:=ax
def T7:ar:=ay "ucbealn+dEbaN4dlcfdbfCgKah5taagjcfdblwkm5alinL4eolaacfdbqtbpabra3fas4ial3uaa3fat4i"
def T8:aw 6 274 T7:=ax
def T9:ar:=ay "Mcbeal3dn+b=a3faN4laN4dl3jabgiaK4faglmkj4delahadfblhbikbm3ian4dl3pedcahgpd+d0coqrcras5OahguabhbuKbugusyu5altOu4eul3faN4iab3Dafahd+c:buBbbuzbyxu3gau4b3IjkM3lau4l3JafJ+eBabcd+eAcvu4laf3fau4i"
def Ta:aw 6 275 T9:=ax
def Tb:ar:=ay "lcbeal3dn+dGa3fa,+qP4l3habcbcbhLgi3gpdq3afbfj4l3lJ+eDabf3fak4i"
def Tc:aw 0 276 Tb:=ax
def Td:ar:=ay "lbbcal3cn+dLaaL4lcbbbdgeccbbgghjfimjS3dak4i"
def Te:aw 0 283 Td:=ax
def Tf:ar:=ay "Gdcgahal3en+bUan+dLbn+dLcaNaK4dlcaebi4ejdkcbebkcbfbmvbclnd+eIboecdJ0bqad+dncprisaisb3hata,u4naaabaacaadaagaahaaeaafabgiaajaakaalaamaaiadk3wccebuccfbuvbcwud+eJbuecdJ+bzbuad+dqcwuiuaivb3hava,F4naaabaacaadaagaahaaeaafabgiaajaakaalaamaai"
def Tg:aw 0 284 Tf:=ax
def Th:ar:=ay "ucbeal3faL4dlaagfabghsgi4ejlaagkabgmmln3fao4ial3qaaVpabVrmqs3fat4i"
def Ti:aw 0 285 Th:=ax
def Tj:ar:=ay "gbbcalaN4laad+eLbdd+eKbe3daf4i"
def Tk:aw 0 286 Tj:=ax
def Tl:ar:=ay "pcbeal3faL4dl3haaaK4faglmhg4deiahadfblah3gaj4l3labafKkblrcm4enl3faL4iab3pjhM3iao4l3faO4i"
def Tm:aw 0 289 Tl:=ax
def Tn:ar:=ay "pbbdal3eaL4dccabbeaahbfgbhcbbbjaahbklbmFin3eao4i"
def To:aw 0 290 Tn:=ax
def Tp:ar:=ay "+dpdbgal3haN4l3v1beCVV3iau4dlaK4fagdl3waimu24euahadfbl3kaK4fcgdl3AajmuR4euahcdfdc3EahaiahaihbvubuE,+o8uabaiERuajjvuhbyubuugujCuhbJI3afbuv4b3CajjuM3kau4b3yaijuM3jau4dl3la24fegdl3VakmuV4euahedffdc3Zahakyu,+p2hbwubuahakyuShbwubu3maza,74k39ahakahakyu2hbwubuald+eMcu,+qQald+eMcu,+qRDwualMu,+qSDwujCuahakyu5hbwubujzuamd+eMcu,+qTamd+eMcu,+qUDwuamMu,+qVDwujCuhb,8,93afbuv4HaaabaacaadaaeaafaagaahaajaamaanaaqaaraasaataauaawaayaaBaaCaaiacgukacgulaaoaapaavaaxacguzacguAaaDaaEaaFaaGaab3XakjuM3lau4l3+bwBbaaazbevu3oau4dlaK4fggdl3+bzaomuV4euahgdfhdc3+bDanhbuRbuanhbu?buNxuanhbuRbuy,+qWuanhbu:buNxuDCu3qau4dk3+bTanhbu5buanhbuRbud+eMcu,+qXanhbuRbud+eMcu,+qYDyuanhbuRbud+eMcu,+qZDyujIuapjvuacaohbvubujyuahaohbvubujyu3rau4FaaabaacaadaaeaafaahaaiaajaamaanaaoaasaauaavaawaaxaazaaAaaBaaCaagafcjoxCkaecoxClaapadcxCqaaraataayaaDaaEaadc3+ceanhbuKbuanhbuMbuNxuanhbuKbuanhbuSbuNxuDBuanhbuMbuanhbuSbuNxuDBu3sau4dk3+cBanhbuKbud+eMcu,+p4anhbuKbud+eMcu,+q0DyuanhbuKbud+eMcu,+q1Dyuarjvu3tau4raaabaacaaeaafaagaajaakaalaaoaadacglhabliaamaanaapaaqaac3+cRaqasjvuanhbuKbuanhbuMbuanhbuSbuanhbuYbuaqjvuanhbuRbuanhbu?buanhbu:buBbi,+cS,+cV,+cYIDAxu3oau4b3+bBaojuM3pau4dl3uaK4figdl3+c,atmuP4euahidfjc3+ddanatanathbvubuaaathbvubujyuhbED3afbuv4b3+dbatjuM3uau4l3+dpan3hau4i"
def Tq:aw 1 291 Tp:=ax
def Tr:ar:=ay "jcbeal3faL4laaabd+eNcfgChK3fai4i"
def Ts:aw 0 292 Tr:=ax
def Tt:ar:=ay "ibbdaln+czaaL4lbbeccKebfrcg3eah4i"
def Tu:aw 0 293 Tt:=ax
def Tv:ar:=ay "jcbeal3faL4laaabd+eOcfgChK3fai4i"
def Tw:aw 0 294 Tv:=ax
def Tx:ar:=ay "ibbdalnWaaL4lbbeLcKebfrcg3eah4i"
def Ty:aw 0 295 Tx:=ax
def Tz:ar:=ay "gbbcalaL4laaaasde3daf4i"
def TA:aw 0 296 Tz:=ax
def TB:ar:=ay "Zcceafal3fa3a34l3paaNo,+oQ3hap4l3raaHq73iar4l3tabNs,+oQ3jat4l3vabHu73kau4l3xagaiEvu3lau4l3AahaiEvuakHu7jwu3mau4l3GalNu,+oQ3nau4l3IalHu73oau4l3KamagajEvujxu3nau4l3PahajEvuanjvuamHu7jwu3fau4l3XaaabEvu3gau4i"
def TC:aw 0 299 TB:=ax
def TD:ar:=ay "rcbeal3dnUanUbaL4lecccacbgghd+dEcfiaj5xecdcacbmgnd+dEclo5alkpL3faq4i"
def TE:aw 0 300 TD:=ax
def TF:ar:=ay "pcbeal3dnUanUbaL4leccecdd+eqcfgah5tcacbjgkJ+ePaccdd+efclm5alinL3fao4i"
def TG:aw 0 302 TF:=ax
def TH:ar:=ay "hbbccclp+dUe4laauhdDe9qebbbf3afccg4i"
def TI:aw 0 303 TH:=ax
def TJ:ar:=ay "Wdbgal3en+b=anUb3haL4l3oeddeced+d4cno3nap3rimaimbimc3ip+dUe3afchqaras4l3veddacd+eVcvu3uau3yitaitb3lp+dUe3afck,xa,y4dc3AajouKau55alouK5alwuLau5=acgucaebuguoxu5alAuLau5+bkeckachbuKbuechaid+eWezwvu5alBuL3hau4i"
def TK:aw 0 308 TJ:=ax
def TL:ar:=ay "Bbbeal3faL4dccabbfaahbghbibcaahbklbmFjnao5HbcaahbqrbscbbbuaahbvubuFtu5alpuL3fau4i"
def TM:aw 0 309 TL:=ax
def TN:ar:=ay "qcbfal3gaK4dfal3iedcaaabd+eCdhij3hak4egl3gaU4il3nedcabaad+eCdmno3map4ell3gaM4ial3gaK4i"
def TO:aw 0 311 TN:=ax
def TP:ar:=ay "Vdbgal3en+b=a3haL4l3neddabd+eVcmn3mao3qilailb3ip+dUe3afchpaq4l3teddacd+eVcst3sau3wirairb3kp+dUe3afcj,va,w4dc3yaiouKau51akouK5alwuLau59abguacguowu5alzuLau5+beechabhbuKbuecjachbuKbud+eWeByxu5alDuL3hau4i"
def TQ:aw 0 312 TP:=ax
def TR:ar:=ay "wcbfal3gaK4ddc3iaabchbhibjabbchblmbnd+eEcko3hap4l3ragsqK4erlag3gas4ial3uaaabd+eFctu3gau4i"
def TS:aw 0 313 TR:=ax
def TT:ar:=ay "ucbeal3faK4l3iaad+eYbh3gai4l3kabd+eYbj3hak4dl3maf4eldlag4eml3faK4ial3faU4iadl3oag4enl3faM4iadl3paaabmop4eql3faU4iadl3saaabwrs4etl3faM4ial3faK4i"
def TU:aw 0 314 TT:=ax
def TV:ar:=ay "Kcbeal3faK4dl3kaagjaK4faglmlk4demahadfblalhbjlbo3ganap4dl3rafabgrCqs4etl3faM4ial3vabafhbvubu3iau4l3zagahd+eEcvu3jau4l3CaisuK4eulai3fau4iab3FjlM3mau4dl3Gaaguabgumwu4eul3faU4ial3faK4i"
def TW:aw 0 315 TV:=ax
def TX:ar:=ay "KbbcalaN4laK4dl3kaagjaK4faglmlk4demahadfblhbjlbn3gao4l3qadafgqjpr3eas4l3uadmtK4eubWj,+p53aXu4abjlM3mau4l3yadd+e1cNu3hau4dl3AaaguaK4fcglmuv4deuahcdfdlhbxvbu3jau4b3Gagaizbyvu3hau4b3Jj,BM3Cau4l3Kag3dau4i"
def TY:aw 1 318 TX:=ax
def TZ:ar:=ay "KbbcalaN4laK4dl3kaagjaK4faglmlk4demahadfblhbjlbn3gao4l3qadafgqjpr3eas4l3uadmtK4eubWj,+p53aXu4abjlM3mau4l3yadd+e2cNu3hau4dl3AaaguaK4fcglmuv4deuahcdfdlhbxvbu3jau4b3GagaizL+bXvu3hau4b3Jj,BM3Cau4l3Kag3dau4i"
def U0:aw 1 319 TZ:=ax
def U1:ar:=ay "GbbcalaN4laN4dlaK4fagdl3iaejh5aagjmik4elahadfbl3ga14dlaK4fcgdl3pagmoP4epahcdfdb3tafETsaaaeagjvuhbxubujtu3gau4b3ragjqM3har4b3Cadafvbbuxbbwu3eau4b3naejmP3fan4l3Gad3dau4i"
def U2:aw 0 320 U1:=ax
def U3:ar:=ay "HbbcalaN4laN4dla,+q24fagdl3iaeChK4eiahadfbl3gaK4fcgdl3mafaagmmln4eoahcdfdl3saaafhbrsbtuhuju93hau4b3yadagaeuhuHwuLu,+p4ueuvbbuxbbBu3eau4b3qafjpM3gaq4b3kaeyjM3fak4l3Had3dau4i"
def U4:aw 0 321 U3:=ax
def U5:ar:=ay "ncbeal3fa,+p34laaabHfgaaaby7jRikShl3fam4i"
def U6:aw 1 322 U5:=ax
def U7:ar:=ay "tcbeal3faK4dl3haaggaK4faglmih4dejahadfblai3gak4l3mabaaafhcmnecoKlbp4eqlaf3far4iab3tjiM3jas4l3faU4i"
def U8:aw 0 323 U7:=ax
def U9:ar:=ay "tcbeal3faK4dl3haaggaK4faglmih4dejahadfblai3gak4l3mabaaafhLmneLoKlbp4eqlaf3far4iab3tjiM3jas4l3faU4i"
def Ua:aw 0 324 U9:=ax
def Ub:ar:=ay "Dbbeal3faL4dccabbfaahbghbicbcbkaahblmbnFjoap5JcacbraahbstbucbbbuaahbvubuFzu5alquL3fau4i"
def Uc:aw 0 325 Ub:=ax
def Ud:ar:=ay "Lcceccfal3dn+b=a3fp+dUeaK4dledcabghd+d0cgircj4eklqea3afcel3gaM4iadl3ncacbm4fal3qonT3pap4eol3rabcbcbrhbqsbtd+eubu3afceu3gaK4il3yonX3xau4eudc3zabGbubMacccbud+e6cwuiuaivb3afcev3gau4ial3Gabcbcbuhbwubud+etbu3afceu3gaK4i"
def Ue:aw 0 331 Ud:=ax
def Uf:ar:=ay "uebial3fn+dUa3hn+dUc3jaL4dl3leceecgd+d6ckl3kam4l3oajsnK4eolajmpK3jaq4ial3sabadmrs3jat4i"
def Ug:aw 0 332 Uf:=ax
def Uh:ar:=ay "gbbcalaL4laaaasde3daf4i"
def Ui:aw 0 334 Uh:=ax
def Uj:ar:=ay "Bcbeal3faN4dlabmfK4egbWj,+oP3aXh4adlabaaUjaaglykmyin3cao4l3qabwpK4eqbaaaaUstbrabtaabYbymvuaagutbwabua3bau4al3Baa3fau4i"
def Uk:aw 6 337 Uj:=ax
def Ul:ar:=ay "Bcbeal3faN4dlabmfK4egbWj,+oP3aXh4adlabaaUjaaglykmyin3cao4l3qabwpK4eqbaaaaUstLrabtaabYL+bXavuaagutLwabua3bau4al3Baa3fau4i"
def Um:aw 6 338 Ul:=ax
end Go.Proofs.YtcfpcblgmmeioaaGreat
namespace Go.bD
open Go
abbrev cy.{a}{b:Sort a}(_:b):Type:=Unit
variable{b0:Type}
def c4(a:b0->Prop)(_:cy a)(b:b0):Prop:=a b
def bX{a:Type}(b:b0->a->Prop)(_:cy b)(c:b0)(d:a):Prop:=b c d
def cu(a:Prop)(_:cy a):Prop:=a
def hV{a:b0->Prop}{c:cy a}{b:b0}:c4 a c b=a b:=rfl
def Un{b:Type}{a:b0->b->Prop}{h:cy a}{c:b0}{d:b}:bX a h c d=a c d:=rfl
variable{Q b6 h3 j3 j7:Prop}
def Co{a:cy Q}:cu Q a=Q:=rfl
def jm(b:U)(c:Nat->Prop):Prop:=∀a,b a=ζ->c a
def ha(a b:Prop):Prop:=a/\b
def sf{a:cy Q}(b:b6):ha b6 (cu Q a)=Q:=by simp[ha,cu,b]
def sg{a:cy Q}:ha True (cu Q a)=Q:=by simp[ha,cu]
variable{h8:eC}{e2:cd}{n b5:R}{t Z:R -> U -> Prop}{I:Bool}{K:Ctx}{e8:gm -> Fr -> U -> Prop}{j:Fr}{j8:Fr -> U -> Prop}{b4:FuncId}{f s e0:U}{b1:Int}{e1:IntKind}{g H c0:ύ}{e i v M b9 j1:Nat}{j6:Nat -> Prop}{Y:bu}{X e7:Operand}{N e6 h6:Own}{m:Program}{b2:TypeId}{e5:Value}
section
def Uo:c3 K .skip e8 j f=e8 .norm j f:=rfl
def Up:c3 K .ret e8 j f=e8 .ret j f:=rfl
def Uq:c3 K (.exit e) e8 j f=e8 (.exit e) j f:=rfl
def Ur{a:eC}:c3 K (.seq h8 a) e8 j f=c3 K h8 (eW (c3 K a e8) e8) j f:=rfl
def Us:c3 K (.block e h8) e8 j f=c3 K h8 (ly e e8) j f:=rfl
def Ut{a:List ca}:c3 K (.plain a) e8 j f=ji K a (e8 .norm) j f:=rfl
def Uu{a:List ca}{b:List dg}:c3 K (.draw a b) e8 j f=can K (nth a) (e8 .norm) b j f:=rfl
def kA(b:R)(c d:Prop):Prop:=
 match b with
 |.v (.bool a)=>(a=η->c)/\(a=ι->d)
 |_=>False
def xl{a:eC}:c3 K (.cond X h8 a) e8 j f=kA (al j X) (cu (c3 K h8 e8 j f) ()) (cu (c3 K a e8 j f) ()):=rfl
def Cp{a:cy Q}:kA (.v (.bool η)) (cu Q a) b6=Q:=by simp[kA,cu]
def Cq{a:cy Q}:kA (.v (.bool ι)) b6 (cu Q a)=Q:=by simp[kA,cu]
def Uv:c3 K (.loop h8) e8 j f=cu (c3 K (.loop h8) e8 j f) ():=rfl
def Uw:eW j8 e8 .norm j f=j8 j f:=rfl
def Ux:eW j8 e8 .ret j f=e8 .ret j f:=rfl
def Uy:eW j8 e8 (.exit e) j f=e8 (.exit e) j f:=rfl
def Uz:ly e e8 .norm j f=e8 .norm j f:=rfl
def UA:ly e e8 .ret j f=e8 .ret j f:=rfl
def UB:ly i e8 (.exit e) j f=(if e=i then e8 .norm j f else e8 (.exit e) j f):=by simp only[ly];split<;>rfl
def UC:ly e e8 (.exit e) j f=e8 .norm j f:=by simp[ly]
def UD:ji K [] j8 j f=j8 j f:=rfl
def UE{a:Option Nat}{b:List ca}:ji K (⟨a,e2,ζ⟩::b) j8 j f=G K e2 j f (λc d=>ji K b j8 (dj j a c) d):=rfl
def hX(b:R)(c:Bool)(d a:Prop):Prop:=
 match b with
 |.v (.bool h)=>if h=c then d else a
 |.aJ []=>a
 |_=>False
def UF{a:Option Nat}{b:List ca}:
  ji K (⟨a,e2,β (e,I)⟩::b) j8 j f=hX (j e) I (cu (G K e2 j f (λc d=>ji K b j8 (dj j a c) d)) ()) (cu (ji K b j8 (dj j a (.aJ [])) f) ()):=rfl
def UG{a:cy Q}:hX (.v (.bool η)) η (cu Q a) b6=Q:=by simp[hX,cu]
def UH{a:cy Q}:hX (.v (.bool ι)) ι (cu Q a) b6=Q:=by simp[hX,cu]
def UI{a:cy Q}:hX (.v (.bool η)) ι b6 (cu Q a)=Q:=by simp[hX,cu]
def UJ{a:cy Q}:hX (.v (.bool ι)) η b6 (cu Q a)=Q:=by simp[hX,cu]
def UK{a:cy Q}:hX (.aJ []) I b6 (cu Q a)=Q:=rfl
def UL{a:Bool}:hX (.v (.bool I)) a Q b6=((I=a->Q)/\(I=(!a)->b6)):=by cases I<;>cases a<;>simp[hX]
def UM{a:Nat->ca}:can K a j8 [] j f=j8 j f:=rfl
def mn(a:ca)(b:ca->Prop):Prop:=b a
def UN{a:Option Nat}{b:Option (Nat×Bool)}{c:ca->Prop}:mn ⟨a,e2,b⟩ c=c ⟨a,e2,b⟩:=rfl
def UO{a:Nat->ca}{b:List dg}:can K a j8 (⟨e,[],[]⟩::b) j f=mn (a e) (c4 (λc=>T K c (λd h=>can K a j8 b d h) j f) ()):=by simp only[can,a8J,false_implies,implies_true,true_and,mn,c4]
def UP{a:Nat->ca}{b c:ϋ}{d:List dg}:can K a j8 (⟨e,i::b,c⟩::d) j f=ha (mn (a i) (c4 (λh=>Def K h j) ())) (cu (can K a j8 (⟨e,b,c⟩::d) j f) ()):=by simp only[can,a7J,forall_eq_or_imp,ha,mn,c4,cu];exact propext and_assoc
def si(c:Ctx)(a:ca)(b:Fr)(d:U):Prop:=
 match a.dst with
 |some h=>E c a b d λk _=>k=b h
 |none=>True
def od(b:Ctx)(c:Nat->ca)(d:Fr)(h:U):ϋ->Prop->Prop
 |[],a=>a
 |k::o,a=>ha (mn (c k) (c4 (λp=>si b p d h) ())) (cu (od b c d h o a) ())
def UQ{a:Nat->ca}:od K a j f [] Q=Q:=rfl
def UR{a:Nat->ca}{b:ϋ}:od K a j f (e::b) Q=ha (mn (a e) (c4 (λc=>si K c j f) ())) (cu (od K a j f b Q) ()):=rfl
theorem Cr{a:Nat->ca}{b:Prop}:∀c,od K a j f c b=((∀d∈c,hB K a d j f)/\b)
 |[]=>by simp[od]
 |d::h=>by simp only[od,Cr h,ha,mn,c4,cu,a7J,forall_eq_or_imp,hB,si];grind
def US{a:Nat->ca}{b:ϋ}{c:List dg}:can K a j8 (⟨e,[],i::b⟩::c) j f=mn (a e) (c4 (λk=>T K k (λd h=>od K a d h (i::b) (can K a j8 c d h)) j f) ()):=by simp only[can,a8J,false_implies,implies_true,true_and,mn,c4,Cr]
def UT{a:Option Nat}:Def K ⟨a,e2,ζ⟩ j=G K e2 j U.emp (λ_ _=>True):=rfl
def UU:si K ⟨β e,e2,ζ⟩ j f=G K e2 j f (λa _=>a=j e):=rfl
def UW{a:cy (λ_:Nat=>True)}:jm f (c4 (λ_=>True) a)=True:=by simp[jm,c4]
def UX{a:ca}{b:List ca}:nth (a::b) 0=a:=rfl
def UY{b:ca}{a:List ca}:nth (b::a) (e+1)=nth a e:=rfl
def UZ{a:Option Nat}:T K ⟨a,e2,ζ⟩ j8 j f=G K e2 j f (λb c=>j8 (dj j a b) c):=rfl
def V0{a:Option Nat}:T K ⟨a,e2,β (e,I)⟩ j8 j f=hX (j e) I (cu (G K e2 j f (λb c=>j8 (dj j a b) c)) ()) (cu (j8 (dj j a (.aJ [])) f) ()):=rfl
def V1:dj j (β i) n e=if e=i then n else j e:=rfl
def V2:dj j ζ n e=j e:=rfl
def dx(a:Option R)(b:R->Prop):Prop:=
 match a with
 |some a=>b a
 |none=>False
def iJ[Decidable Q]{a:R->Prop}:dx (if Q then β n else ζ) a=(Q/\a n):=by split<;>simp[dx, *]
def V3{a:R->Prop}:dx (β n) a=a n:=rfl
def nm(a:R)(b:R->Prop):Prop:=b a
def V4{a:R->Prop}:nm n a=a n:=rfl
def pA(a:Option ύ)(b:ύ->Prop):Prop:=
 match a with
 |some a=>b a
 |none=>False
def V5{a:ύ->Prop}:pA (β g) a=a g:=rfl
section
def V6:G K (.fg X) j f t=nm (al j X) (c4 (λa=>t a f) ()):=rfl
def uh(a b c:R):Option R:=
 match a with
 |.v (.bool d)=>β (if d then b else c)
 |_=>ζ
def V7:uh (.v (.bool η)) n b5=β n:=rfl
def V8:uh (.v (.bool ι)) b5 n=β n:=rfl
def V9{a:Operand}:G K (.pick e7 X a) j f t=dx (uh (al j e7) (al j X) (al j a)) (c4 (λb=>t b f) ()):=by simp only[G,uh];generalize al j e7=X;cases X<;>first|rfl|(rename_i v;cases v<;>rfl)
def Va:G K (.alloc b2 g) j f t=jm f (c4 (λa=>t (.ptr a 0) (f.set a (.cells g))) ()):=rfl
def Vb:G K (.box b2 X) j f t=nm (al j X) (c4 (λa=>ha (0<α a.cells) (cu (jm f (c4 (λb=>t (.ptr b 0) (f.set b (.cells a.cells))) ())) ())) ()):=rfl
def Vc:G K (.ll b2 X) j f t=nm (al j X) (c4 (λa=>ha (0<α a.cells) (cu (jm f (c4 (λb=>t (.ptr b 0) (f.set b (.ro a.cells))) ())) ())) ()):=rfl
def cW(b:Bool)(a:Nat)(c:U)(d:R):Option R:=
 match d with
 |.ptr h off=>match c.read h with
  |some cs=>if off+a<=α cs then β (aM b a (cs.drop off))else ζ
  |none=>ζ
 |.bS cs=>if a<=α cs then β (aM b a cs)else ζ
 |_=>ζ
def qQ(d:Bool)(b c:Nat)(a:Option ύ):Option R:=
 match a with
 |some a=>if c+b<=α a then β (aM d b (a.drop c))else ζ
 |none=>ζ
def Vd:cW I e f (.ptr i v)=qQ I e v (f.read i):=rfl
def Cs(a:i+e<=α g):qQ I e i (β g)=β (aM I e (g.drop i)):=by simp[qQ,a]
def Ve(a:e<=α g):cW I e f (.bS g)=β (aM I e g):=by simp[cW,a]
def Vf:G K (.load I e X) j f t=dx (cW I e f (al j X)) (c4 (λa=>t a f) ()):=by
 simp only[G,cW];generalize al j X=b;cases b<;>first
  |rfl
  |(simp only[iJ,hV];done)
  |(rename_i c h;simp only[];generalize f.read c=d;cases d<;>first|rfl|(simp only[iJ,hV]))
def en(a:U)(b:Nat):Option ύ:=
 match a b with
 |some (.cells cs)=>β cs
 |_=>ζ
def xm(a:U)(b:Nat)(k:R)(c:ύ)(o:U->Prop):Prop:=
 match k with
 |.ptr d off=>pA (en a d) λh=>ha (α c=b/\off+b<=α h) (o (a.set d (.cells (putAt h off c))))
 |_=>False
def Vg{a:U->Prop}:xm f e (.ptr i v) g a=pA (en f i) (c4 (λb=>ha (α g=e/\v+e<=α b) (cu (pA (β (putAt b v g)) (c4 (λc=>a (f.set i (.cells c))) ())) ())) ()):=rfl
def Vh:G K (.store e X e7) j f t=xm f e (al j X) (al j e7).cells (c4 (λa=>t (.aJ []) a) ()):=by
 simp only[G,xm];generalize al j X=b;cases b<;>first
  |rfl
  |(
    rename_i c h;simp only[en];cases f c with
    |none=>rfl
    |some d=>cases d with
     |cells cs=>exact propext and_assoc.symm
     |_=>rfl)
def sj(a:R):Option R:=
 match a with
 |.ptr b off=>β (.ptr b off)
 |.bS cs=>β (.bS cs)
 |.bG c cL cs=>β (.bG c cL cs)
 |_=>ζ
def Vi:sj (.ptr e i)=β (.ptr e i):=rfl
def Vj:sj (.bS g)=β (.bS g):=rfl
def Vk:G K (.qz X) j f t=dx (sj (al j X)) (c4 (λa=>t a f) ()):=by simp only[G,sj];generalize al j X=b;cases b<;>first|rfl|(rename_i v;cases v<;>rfl)
def sk(a:Nat)(b:R):Option R:=
 match b with
 |.ptr c d=>β (.ptr c (d+a))
 |.bS cs=>β (.bS (cs.drop a))
 |_=>ζ
def Vl:sk e (.ptr i v)=β (.ptr i (v+e)):=rfl
def Vm:sk e (.bS g)=β (.bS (g.drop e)):=rfl
def Vn:G K (.ln e X) j f t=dx (sk e (al j X)) (c4 (λa=>t a f) ()):=by simp only[G,sk];generalize al j X=b;cases b<;>first|rfl|(rename_i v;cases v<;>rfl)
def mo(b c:Nat)(d h:R):Option R:=
 match d,h with
 |.ptr k o,.v (.int _ a)=>if 0<=a/\a<c then β (.ptr k (o+a.toNat*b))else ζ
 |.bS cs,.v (.int _ a)=>if 0<=a/\a<c then β (.bS (cs.drop (a.toNat*b)))else ζ
 |_,_=>ζ
def sl(a:0<=b1)(b:b1<i):mo e i (.ptr v M) (.v (.int e1 b1))=β (.ptr v (M+b1.toNat*e)):=by simp[mo,a,b]
def Vo(a:0<=b1)(b:b1<i):mo e i (.bS g) (.v (.int e1 b1))=β (.bS (g.drop (b1.toNat*e))):=by simp[mo,a,b]
def Vp:G K (.qA e i X e7) j f t=dx (mo e i (al j X) (al j e7)) (c4 (λa=>t a f) ()):=by
 simp only[G,mo];generalize al j X=b;generalize al j e7=c;cases b<;>first
  |rfl
  |(cases c<;>first
    |rfl
    |(rename_i d;cases d<;>first
      |rfl
      |(simp only[iJ,hV];exact propext and_assoc.symm)))
def eo(b:Nat)(a:Option R):Option R:=
 match a with
 |some a=>if α a.cells=b then β (.bS a.cells)else ζ
 |none=>ζ
def hC(a:α n.cells=e):eo e (β n)=β (.bS n.cells):=by simp[eo,a]
def cz(b:Nat)(h k:R):Option R:=
 match h,k with
 |.J xs _,.v (.int _ a)=>if 0<=a then eo b xs[a.toNat]? else ζ
 |.bE c off len _ d,.v (.int _ a)=>if d=b/\0<=a/\a<len then β (.ptr c (off+a.toNat*b))else ζ
 |.aq c len _ d,.v (.int _ a)=>if d=b/\0<=a/\a<len then β (.ptr c (a.toNat*b))else ζ
 |_,_=>ζ
def gp(a:0<=b1):cz e (.J g N) (.v (.int e1 b1))=eo e g[b1.toNat]? :=by simp[cz,a]
theorem jQ(a:0<=b1)(b:b1<v):cz e (.aq i v M e) (.v (.int e1 b1))=β (.ptr i (b1.toNat*e)):=by simp[cz,a,b]
theorem ui(a:0<=b1)(b:b1<M):cz e (.bE i v M b9 e) (.v (.int e1 b1))=β (.ptr i (v+b1.toNat*e)):=by simp[cz,a,b]
theorem Vq:G K (.dS e X e7) j f t=dx (cz e (al j X) (al j e7)) (c4 (λc=>t c f) ()):=by
 simp only[G,cz];generalize al j X=d;generalize al j e7=h;cases d<;>first
  |rfl
  |(cases h<;>first
    |rfl
    |(rename_i k;cases k<;>first
      |rfl
      |(
        simp only[iJ,hV];apply propext;constructor
        .rintro⟨o,p,r,x⟩;exact⟨⟨o,p,r⟩,x⟩
        simp_all)
      |(
        rename_i y C D a;by_cases b:0<=a
        .simp only[b,true_and,if_true,eo];generalize y[a.toNat]?=z;cases z<;>first|rfl|(simp only[iJ,hV])
        .simp[b,dx])))
def uj(c:Bool)(a b:Nat)(d:R):Option R:=
 match d with
 |.agg cs=>if a+b<=α cs then β (aM c b (cs.drop a))else ζ
 |_=>ζ
def Vr(a:e+i<=α g):uj I e i (.agg g)=β (aM I i (g.drop e)):=by simp[uj,a]
def Vs:G K (.po I e i X) j f t=dx (uj I e i (al j X)) (c4 (λa=>t a f) ()):=by simp only[G,uj];generalize al j X=b;cases b<;>first|rfl|(simp only[iJ,hV])
def uk(a:U)(b:R):Option R:=
 match b with
 |.ff c=>match a c with
  |some (.mp us _)=>β (.v (.int .i64 (α us)))
  |_=>ζ
 |_=>ζ
def Vt{a:List (R×R×Nat)}(b:f e=β (.mp a i)):uk f (.ff e)=β (.v (.int .i64 (α a))):=by simp[uk,b]
def Vu:G K (.pn X) j f t=dx (uk f (al j X)) (c4 (λa=>t a f) ()):=by simp only[G,uk];generalize al j X=b;cases b<;>first|rfl|(rename_i c;simp only[];cases f c with|none=>rfl|some d=>cases d<;>rfl)
def um(c:Bool)(a d:Nat)(h k:R):Option R:=
 match h,k with
 |.agg cs,.v (.int _ b)=>if 0<=b/\b<d/\b.toNat*a+a<=α cs then β (aM c a (cs.drop (b.toNat*a)))else ζ
 |_,_=>ζ
def Vv(a:0<=b1)(b:b1<i)(c:b1.toNat*e+e<=α g):um I e i (.agg g) (.v (.int e1 b1))=β (aM I e (g.drop (b1.toNat*e))):=by simp[um,a,b,c]
theorem Vw:G K (.pj I e i X e7) j f t=dx (um I e i (al j X) (al j e7)) (c4 (λa=>t a f) ()):=by
 simp only[G,um];generalize al j X=b;generalize al j e7=c;cases b<;>first
  |rfl
  |(cases c<;>first
    |rfl
    |(rename_i d;cases d<;>first
      |rfl
      |(simp only[iJ,hV];grind)))
def pB(c:Fr)(a:ύ):List (Nat×Nat×Operand)->(ύ->Prop)->Prop
 |[],b=>b a
 |(off,cf,h)::k,b=>nm (al c h) λd=>ha (α d.cells=cf/\off+cf<=α a) (pA (β (putAt a off d.cells)) λo=>pB c o k b)
def Vx{a:ύ->Prop}:pB j g [] a=a g:=rfl
def Vy{a:List (Nat×Nat×Operand)}{b:ύ->Prop}:pB j g ((e,i,X)::a) b=nm (al j X) (c4 (λc=>ha (α c.cells=i/\e+i<=α g) (cu (pA (β (putAt g e c.cells)) (c4 (λd=>pB j d a b) ())) ())) ()):=rfl
theorem Ct{b:ύ->Prop}:∀(c:List (Nat×Nat×Operand))(a:ύ),kx j a c b=pB j a c b
 |[],_=>rfl
 |(off,cf,h)::d,a=>by
  simp only[kx,pB,nm,ha,pA,Ct d];grind
def Vz{a:List (Nat×Nat×Operand)}:G K (.mb g a) j f t=pB j g a λb=>t (.agg b) f:=Ct a g
def fi(b:R):Option R:=
 match b with
 |.J xs _=>β (.v (.int .i64 (α xs)))
 |.bE _ _ a _ _=>β (.v (.int .i64 a))
 |.aq _ a _ _=>β (.v (.int .i64 a))
 |_=>ζ
def VA:fi (.aq i e v M)=β (.v (.int .i64 e)):=rfl
def VB:fi (.J g N)=β (.v (.int .i64 (α g))):=rfl
def VC:fi (.bE i v e M b9)=β (.v (.int .i64 e)):=rfl
def VD:G K (.len X) j f t=dx (fi (al j X)) (c4 (λa=>t a f) ()):=by simp only[G,fi];generalize al j X=b;cases b<;>rfl
def jn(c:BinOp)(a b:R):Option R:=
 match a,b with
 |.v a,.v b=>(bt c a b).map .v
 |_,_=>ζ
theorem sm{a:BinOp}{b:Value}:jn a (.v e5) (.v b)=(bt a e5 b).map .v:=rfl
def VE{a:BinOp}:G K (.bin a X e7) j f t=dx (jn a (al j X) (al j e7)) (c4 (λb=>t b f) ()):=by
 simp only[G,jn];generalize al j X=c;generalize al j e7=d;cases c<;>first
  |rfl
  |(cases d<;>first
    |rfl
    |(rename_i v h;simp only[];generalize bt a v h=k;cases k<;>rfl))
def xn(b:UnOp)(a:R):Option R:=
 match a with
 |.v a=>(o7 b a).map .v
 |_=>ζ
def VF{a:UnOp}:xn a (.v e5)=(o7 a e5).map .v:=rfl
def VG{a:UnOp}:G K (.un a X) j f t=dx (xn a (al j X)) (c4 (λb=>t b f) ()):=by simp only[G,xn];generalize al j X=c;cases c<;>first|rfl|(rename_i v;simp only[];generalize o7 a v=d;cases d<;>rfl)
def xo(a:IntKind)(b:R):Option R:=
 match b with
 |.v (.int _ c)=>β (.v (.int a (a.wrap c)))
 |_=>ζ
def VH{a:IntKind}:xo e1 (.v (.int a b1))=β (.v (.int e1 (e1.wrap b1))):=rfl
def VI:G K (.je e1 X) j f t=dx (xo e1 (al j X)) (c4 (λa=>t a f) ()):=by simp only[G,xo];generalize al j X=b;cases b<;>first|rfl|(rename_i v;cases v<;>rfl)
def oe(a:Ctx)(b:FuncId)(c:ύ)(d:U)(h:R->U->Prop):Prop:=hS a.p b c d h (up a.k)
def VJ{a:List Operand}:G K (.gg b4 a) j f t=oe K b4 (a.map (al j)) f (bX t ()):=rfl
def xp(a:Nat)(b:R):Option R:=
 match b with
 |.aJ c=>c[a]?
 |_=>ζ
def VK:xp e (.aJ g)=g[e]? :=rfl
def VL:G K (.ext X e) j f t=dx (xp e (al j X)) (c4 (λa=>t a f) ()):=by simp only[G,xp];generalize al j X=b;cases b<;>first|rfl|(rename_i c;cases c[e]? <;>rfl)
def VM(c:Bool)(a b:R):Option R:=
 match a,b with
 |.v (.bool a),.v (.bool b)=>β (.v (.bool (xor c (a==b))))
 |_,_=>ζ
def VN{a b:Bool}:VM I (.v (.bool a)) (.v (.bool b))=β (.v (.bool (xor I (a==b)))):=rfl
def sn(a:Bool)(b c:R):Option R:=
 match b,c with
 |.ptr _ _,.v (.pointer ζ)=>β (.v (.bool a))
 |.bS _,.v (.pointer ζ)=>β (.v (.bool a))
 |.v (.pointer ζ),.v (.pointer ζ)=>β (.v (.bool (!a)))
 |_,_=>ζ
def VO:sn I (.ptr e i) (.v (.pointer ζ))=β (.v (.bool I)):=rfl
def VP:sn I (.bS g) (.v (.pointer ζ))=β (.v (.bool I)):=rfl
def VQ:sn I (.v (.pointer ζ)) (.v (.pointer ζ))=β (.v (.bool (!I))):=rfl
def VR:G K (.qC I X e7) j f t=dx (sn I (al j X) (al j e7)) (c4 (λd=>t d f) ()):=by
 simp only[G,sn];generalize al j X=h;generalize al j e7=c;cases h<;>first
  |rfl
  |(rename_i v;cases v<;>first
    |rfl
    |(cases c<;>first|rfl|(rename_i b;cases b<;>first|rfl|(rename_i a;cases a<;>rfl)))
    |(rename_i a;cases a<;>first|rfl|(cases c<;>first|rfl|(rename_i b;cases b<;>first|rfl|(rename_i a;cases a<;>rfl)))))
  |(cases c<;>first|rfl|(rename_i b;cases b<;>first|rfl|(rename_i a;cases a<;>rfl))|(simp only[iJ,hV];done))
def intOf(a:R):Option Int:=
 match a with
 |.v (.int _ b)=>β b
 |_=>ζ
end
def qR(a:List (Nat×Option (Bool×Nat)))(b:R->U->Prop):gm->Fr->U->Prop:=qN ⟨0,0,.skip,a⟩ b
def bd(c:m.follows .mixedOrders=η){a:List (Nat×Option (Bool×Nat))}(d:dw m M i=β ⟨e,v,h8,a⟩)(h:α g<=e)
  (k:c3 (Ctx.of m) h8 (qR a t) (ml g) f):AC m i g f t:=by
 refine Km c d h ?_;have b:qN ⟨e,v,h8,a⟩ t=qR a t:=by funext b j f;rfl
 rw[b];exact k
def VS:ml g e=g.getD e (.aJ []):=rfl
theorem VT{c:ar}:qN c t .ret j f=dx (jk j f c.results) λd=>∃b,b.sub f/\t d b:=by
 apply propext;simp only[qN];constructor
 .rintro⟨d,b,a,h,k⟩;rw[a];exact⟨b,h,k⟩
 .intro a;cases o:jk j f c.results with
  |none=>rw[o]at a;exact a.elim
  |some d=>rw[o]at a;obtain⟨b,h,k⟩:=a;grind
def VU{a:List (Nat×Option (Bool×Nat))}:qR a t .ret j f=dx (jk j f a) (c4 (λc=>∃b,b.sub f/\t c b) ()):=VT
def VV{a:List (Nat×Option (Bool×Nat))}:qR a t .norm j f=qR a t .ret j f:=rfl
def VW:jk j f []=β (.aJ []):=rfl
def VX{a:Nat×Option (Bool×Nat)}:jk j f [a]=gn j f a:=by simp only[jk,fD];cases gn j f a<;>rfl
def VY:gn j f (e,ζ)=β (j e):=rfl
def Cu(a:Bool)(b:Nat)(c:U)(d:R):Option R:=
 match d with
 |.ptr h off=>qQ a b off (c.read h)
 |_=>ζ
def VZ:Cu I e f (.ptr i v)=qQ I e v (f.read i):=rfl
def W0:gn j f (e,β (I,i))=Cu I i f (j e):=by rfl
def U.uo:(f.set i Y) e=if e=i then β Y else f e:=rfl
def U.Cv:(f.set e (.cells g)).read e=β g:=by simp[U.read,U.set]
def U.W1:(f.set e (.ro g)).read e=β g:=by simp[U.read,U.set]
def U.W2(a:e≠i):(f.set i Y).read e=f.read e:=by simp[U.read,U.set,a]
def U.W3:en (f.set e (.cells g)) e=β g:=by simp[en,U.set]
def U.W4(a:e≠i):en (f.set i Y) e=en f e:=by simp[en,U.set,a]
def U.ae(a:f e=β (.cells g)):f.read e=β g:=by simp[U.read,a]
def U.W5(a:f e=β (.ro g)):f.read e=β g:=by simp[U.read,a]
def U.aI(a:f e=β (.cells g)):en f e=β g:=by simp[en,a]
theorem U.gP(a:(f.set i Y) e=ζ):e≠i/\f e=none:=by grind[U.set]
def U.Cw{b a:bu}(c:i≠e):((f.set e b).set i a).set e Y=((f.set e Y).set i a):=by rw[U.ef _ c,τ]
def U.Cx{c a b:bu}(d:i≠e)(h:v≠e):(((f.set e c).set i a).set v b).set e Y=(((f.set e Y).set i a).set v b):=by rw[U.ef _ h,Cw d]
def U.Cy{d a b c:bu}(h:i≠e)(k:v≠e)(o:M≠e):((((f.set e d).set i a).set v b).set M c).set e Y=((((f.set e Y).set i a).set v b).set M c):=by rw[U.ef _ o,Cx h k]
def U.Cz{h a b c d:bu}(k:i≠e)(o:v≠e)(p:M≠e)(r:b9≠e):(((((f.set e h).set i a).set v b).set M c).set b9 d).set e Y=(((((f.set e Y).set i a).set v b).set M c).set b9 d):=by rw[U.ef _ r,Cy k o p]
def U.CA{k a b c d h:bu}(o:i≠e)(p:v≠e)(r:M≠e)(x:b9≠e)(y:j1≠e):((((((f.set e k).set i a).set v b).set M c).set b9 d).set j1 h).set e Y=((((((f.set e Y).set i a).set v b).set M c).set b9 d).set j1 h):=by rw[U.ef _ y,Cz o p r x]
def U.CB{a:Nat}{p b c d h k o:bu}(r:i≠e)(x:v≠e)(y:M≠e)(z:b9≠e)(C:j1≠e)(D:a≠e):(((((((f.set e p).set i b).set v c).set M d).set b9 h).set j1 k).set a o).set e Y=(((((((f.set e Y).set i b).set v c).set M d).set b9 h).set j1 k).set a o):=by rw[U.ef _ D,CA r x y z C]
def U.CC{a b:Nat}{x c d h k o p r:bu}(y:i≠e)(z:v≠e)(C:M≠e)(D:b9≠e)(E:j1≠e)(F:a≠e)(G:b≠e):((((((((f.set e x).set i c).set v d).set M h).set b9 k).set j1 o).set a p).set b r).set e Y=((((((((f.set e Y).set i c).set v d).set M h).set b9 k).set j1 o).set a p).set b r):=by rw[U.ef _ G,CB y z C D E F]
def U.W6{a b c:Nat}{z d h k o p r x y:bu}(C:i≠e)(D:v≠e)(E:M≠e)(F:b9≠e)(G:j1≠e)(L:a≠e)(P:b≠e)(S:c≠e):(((((((((f.set e z).set i d).set v h).set M k).set b9 o).set j1 p).set a r).set b x).set c y).set e Y=(((((((((f.set e Y).set i d).set v h).set M k).set b9 o).set j1 p).set a r).set b x).set c y):=by rw[U.ef _ S,CC C D E F G L P]
def aN{b:cy j6}(c:∀a,f a=ζ->j6 a):jm f (c4 j6 b):=c
def cm{h:cy (c3 K (.loop h8) e8 j f)}(a:Fr->U->Prop)(b:Fr->U->Nat)(k:a j f)(o:∀j f,a j f->c3 K h8 (eW (λc d=>a c d/\b c d<b j f) e8) j f):
  cu (c3 K (.loop h8) e8 j f) h:=⟨a,b,k,o⟩
theorem ah{c:cy t}(d:AC K.p b4 g f Z)(h:∀a b,Z a b->t a b):oe K b4 g f (bX t c):=(d.mono h).p
theorem U.a6:f.sub f:=λ_ _ a=>a
theorem U.ag(a:s.sub f)(c:s e=ζ):s.sub (f.set e Y):=λd h b=>by
 rw[U.uo];split;simp_all
 .exact a _ _ b
theorem U.lz(b:s.sub f):(s.set e Y).sub (f.set e Y):=λd h a=>by
 rw[U.uo]at a|-;split;simp_all
 .rename_i c;rw[if_neg c]at a;exact b _ _ a
end
theorem wrap_i64(c: -9223372036854775808<=b1)(d:b1<9223372036854775808):IntKind.i64.wrap b1=b1:=by have a:((2:Int)^IntKind.i64.bits)=18446744073709551616:=rfl;have b:((2:Int)^(IntKind.i64.bits - 1))=9223372036854775808:=rfl;simp only[IntKind.wrap,a,b,IntKind.signed,a8S,decide_eq_true_eq];omega
theorem kB:IntKind.u64.wrap b1=b1%18446744073709551616:=by have a:((2:Int)^IntKind.u64.bits)=18446744073709551616:=rfl;rfl
def xq:IntKind.u32.wrap b1=b1%4294967296:=by have a:((2:Int)^IntKind.u32.bits)=4294967296:=rfl;rfl
def uq:IntKind.u8.wrap b1=b1%256:=by have a:((2:Int)^IntKind.u8.bits)=256:=rfl;rfl
theorem wrap_u64(a:0<=b1)(b:b1<18446744073709551616):IntKind.u64.wrap b1=b1:=by rw[kB];omega
def wrap_u32(a:0<=b1)(b:b1<4294967296):IntKind.u32.wrap b1=b1:=by rw[xq];omega
theorem wrap_u8(a:0<=b1)(b:b1<256):IntKind.u8.wrap b1=b1:=by rw[uq];omega
def W7(a:UInt8):IntKind.u32.wrap (a.toNat:Int)=(a.toUInt32.toNat:Int):=by have:=a.toNat_lt;rw[wrap_u32 δ δ];simp
def W8(a:UInt8):IntKind.u64.wrap (a.toNat:Int)=(a.toUInt64.toNat:Int):=by have:=a.toNat_lt;rw[wrap_u64 δ δ];simp
def W9(a:UInt32):IntKind.u8.wrap (a.toNat:Int)=(a.toUInt8.toNat:Int):=by rw[uq];simp
def Wa(a:UInt64):IntKind.u8.wrap (a.toNat:Int)=(a.toUInt8.toNat:Int):=by rw[uq];simp
section
variable(a b:Int)
def Wb:bt .add (.int .i64 a) (.int .i64 b)=β (.int .i64 (IntKind.i64.wrap (a+b))):=rfl
def Wc:bt .sub (.int .i64 a) (.int .i64 b)=β (.int .i64 (IntKind.i64.wrap (a - b))):=rfl
def Wd:bt .mul (.int .i64 a) (.int .i64 b)=β (.int .i64 (IntKind.i64.wrap (a*b))):=rfl
def We(c:b≠0):bt .quo (.int .i64 a) (.int .i64 b)=β (.int .i64 (IntKind.i64.wrap (a.tdiv b))):=by simp[bt,fy,hT,c]
def Wf(c:b≠0):bt .rem (.int .i64 a) (.int .i64 b)=β (.int .i64 (a.tmod b)):=by simp[bt,fy,hT,c]
variable(k:IntKind)
def Wg:bt .eql (.int k a) (.int k b)=β (.bool (decide (a=b))):=by simp[bt,fy,hT]
def Wh:bt .neq (.int k a) (.int k b)=β (.bool (decide (a≠b))):=by simp[bt,fy,hT]
def Wi:bt .lss (.int k a) (.int k b)=β (.bool (decide (a<b))):=by simp[bt,fy,hT]
def Wj:bt .leq (.int k a) (.int k b)=β (.bool (decide (a<=b))):=by simp[bt,fy,hT]
def Wk:bt .gtr (.int k a) (.int k b)=β (.bool (decide (b<a))):=by simp[bt,fy,hT]
def Wl:bt .geq (.int k a) (.int k b)=β (.bool (decide (b<=a))):=by simp[bt,fy,hT]
def Wm(c:Bool):o7 .not (.bool c)=β (.bool !c):=rfl
end
def Wn(a b:Int):bt .add (.int .u64 a) (.int .u64 b)=β (.int .u64 (IntKind.u64.wrap (a+b))):=rfl
def Wo(a b:Int):bt .sub (.int .u64 a) (.int .u64 b)=β (.int .u64 (IntKind.u64.wrap (a - b))):=rfl
def Wp(a b:Int):bt .mul (.int .u64 a) (.int .u64 b)=β (.int .u64 (IntKind.u64.wrap (a*b))):=rfl
theorem so(c:Nat)(d:IntKind)(b:Int)(k:0<=b)(o:b<64):bt .shr (.int .u64 c) (.int d b)=β (.int .u64 (c>>>b.toNat:Nat)):=by
 obtain⟨a,rfl⟩:∃a:Nat,b=a:=⟨b.toNat,δ⟩;have h:min a IntKind.u64.bits=a:=by simp[IntKind.bits];omega
 have p:(2)^a=((2^a:Nat):Int):=ς;simp only[bt,fy,if_true,o6,if_neg (show¬(a:Int)<0 by omega),a7L,h,a8e];grind
def iK(a:Nat):IntKind.u8.wrap (a:Int)=((ν a).toNat:Int):=by rw[uq];simp
variable{w j4:ϊ}
theorem Wq(a:0<=b1)(b:b1.toNat<α w):cz 1 (.J (w.map aj) N) (.v (.int e1 b1))=β (.bS [.v (.int .u8 (w.getD b1.toNat 0).toNat)]):=by
 rw[gp a,a7R,Ρ b];have:w.getD b1.toNat 0=w[b1.toNat]:=by simp_all
 rw[this];rfl
def Wr(a:Decidable True):@decide True a=true:=ς
def Ws(a:Decidable False):@decide False a=false:=ς
def CD:aM η e g=.agg (g.take e):=rfl
def CE:σ (.J g N)=[.J g N]:=rfl
def CF:σ (.v e5)=[.v e5]:=rfl
def CG:σ (.ptr e i)=[.ptr e i]:=rfl
def CH:σ (.bS g)=[.bS g]:=rfl
def CI:σ (.iface b2 n)=[.iface b2 n]:=rfl
def hY:σ (.agg g)=g:=rfl
theorem sq(a:α g=α H):putAt H 0 g=g:=by simp[putAt,a]
def Wt:aM ι 1 (n::g)=n:=rfl
section
variable(x y:UInt32)
def Wu:bt .add (.int .u32 x.toNat) (.int .u32 y.toNat)=β (.int .u32 (x+y).toNat):=by rfl
def CJ:bt .sub (.int .u32 x.toNat) (.int .u32 y.toNat)=β (.int .u32 (x - y).toNat):=by have:=x.toNat_lt;have:=y.toNat_lt;simp only[bt,fy,hT,xq,UInt32.toNat_sub];simp;omega
def CK:bt .mul (.int .u32 x.toNat) (.int .u32 y.toNat)=β (.int .u32 (x*y).toNat):=by rfl
theorem qS(a:Nat)(b:a<4294967296):IntKind.u32.wrap (a:Int)=a:=wrap_u32 δ δ
def ofInt_u32:ρ 32 (x.toNat:Int)=x.toBitVec:=by simp
def Wv:bt .and (.int .u32 x.toNat) (.int .u32 y.toNat)=β (.int .u32 (x&&&y).toNat):=by have a:bt .and (.int .u32 x.toNat) (.int .u32 y.toNat)=β (.int .u32 (IntKind.u32.wrap (ρ 32 (x.toNat)&&&ρ 32 (y.toNat)).toNat)):=rfl;rw[a,ofInt_u32,ofInt_u32,qS _ (ab7 _)];rfl
def Ww:bt .or (.int .u32 x.toNat) (.int .u32 y.toNat)=β (.int .u32 (x|||y).toNat):=by have a:bt .or (.int .u32 x.toNat) (.int .u32 y.toNat)=β (.int .u32 (IntKind.u32.wrap (ρ 32 (x.toNat)|||ρ 32 (y.toNat)).toNat)):=rfl;rw[a,ofInt_u32,ofInt_u32,qS _ (ab7 _)];rfl
def Wx:bt .xor (.int .u32 x.toNat) (.int .u32 y.toNat)=β (.int .u32 (x^^^y).toNat):=by have a:bt .xor (.int .u32 x.toNat) (.int .u32 y.toNat)=β (.int .u32 (IntKind.u32.wrap (ρ 32 (x.toNat)^^^ρ 32 (y.toNat)).toNat)):=rfl;rw[a,ofInt_u32,ofInt_u32,qS _ (ab7 _)];rfl
def Wy:o7 .xor (.int .u32 x.toNat)=β (.int .u32 (~~~x).toNat):=by
 have a:o7 .xor (.int .u32 x.toNat)=β (.int .u32 (IntKind.u32.wrap (ρ 32 4294967295^^^ρ 32 (x.toNat)).toNat)):=rfl;rw[a,ofInt_u32,qS _ (ab7 _)];have:(ρ 32 4294967295^^^x.toBitVec)= ~~~x.toBitVec:=by rw[BitVec.not_def];rfl
 rw[this];rfl
theorem Wz(c:IntKind)(a:Int)(h:0<=a)(k:a<32):bt .shl (.int .u32 x.toNat) (.int c a)=β (.int .u32 (x<<<UInt32.ofNat a.toNat).toNat):=by
 obtain⟨b,rfl⟩:∃b:Nat,a=b:=⟨a.toNat,δ⟩;have hm:b<32:=δ;have d:min b IntKind.u32.bits=b:=by simp[IntKind.bits];omega
 simp only[bt,fy,if_true,o6,if_neg (show¬(b:Int)<0 by omega),a7L,d,xq,UInt32.toNat_shiftLeft,UInt32.toNat_ofNat',a9G];grind
theorem WA(c:IntKind)(a:Int)(h:0<=a)(k:a<32):bt .shr (.int .u32 x.toNat) (.int c a)=β (.int .u32 (x>>>UInt32.ofNat a.toNat).toNat):=by
 obtain⟨b,rfl⟩:∃b:Nat,a=b:=⟨a.toNat,δ⟩;have hm:b<32:=δ;have d:min b IntKind.u32.bits=b:=by simp[IntKind.bits];omega
 simp only[bt,fy,if_true,o6,if_neg (show¬(b:Int)<0 by omega),a7L,d,UInt32.toNat_shiftRight,UInt32.toNat_ofNat',a8e];grind
end
def aY(a:Nat)(b:ύ):Prop:=∀c∈b,α c.cells=a
def WB:aY e []=True:=by simp[aY]
def CL:aY e (n::g)=(α n.cells=e/\aY e g):=by simp[aY]
theorem WC:aY e (g++H)=(aY e g/\aY e H):=by grind[aY]
theorem ur:aY 1 (w.map aj)=True:=by simp[aY,aj,σ]
def bj(a b:U)(h:Nat)(c:ύ)(k:Own):Prop:=
 a.sub b/\match k with
  |.buf d o=>a d=ζ/\b d=β (.buf h (α c) o)
  |.any=>False
  |_=>c=[]
theorem U.au(c:f.sub s)(d:s.sub e0):f.sub e0:=λa b h=>d a b (c a b h)
def U.bK(b:f.sub s)(a:s e=ζ):f e=none:=by
 cases bZ:f e with
 |none=>rfl
 |some c=>rw[b e c bZ]at a;cases a
theorem bj.nil(a:s.sub f){b:Nat}:bj s f b [] .nil:=⟨a,rfl⟩
def bj.zero(a:s.sub f){b:Nat}:bj s f b [] .zero:=⟨a,rfl⟩
def bj.sub{a:Nat}{b:ύ}{c:Own}(d:bj s f a b c):s.sub f:=d.1
theorem bj.base{o:Own}(b:bj s f e g o)(c:e0.sub s):bj e0 f e g o:=by
 refine⟨U.au c b.1,?_⟩;have a:=b.2;cases o with
 |buf d h=>exact⟨U.bK c a.1,a.2⟩
 |_=>exact a
def bj.mono(b:bj s f e g N)(c:f.sub e0):bj s e0 e g N:=by
 refine⟨U.au b.1 c,?_⟩;have a:=b.2;cases N with
 |buf d h=>exact⟨a.1,c _ _ a.2⟩
 |_=>exact a
theorem bj.set{c a:Nat}{d:ύ}{b:Own}{ob p:bu}(h:bj s f c d b)(k:s a=β p):bj (s.set a ob) (f.set a ob) c d b:=by
 refine⟨U.lz h.1,?_⟩;have o:=h.2;cases b with
 |buf r x=>
  have y:r≠a:=by rintro rfl;rw[o.1]at k;cases k
  grind[ο]
 |_=>exact o
theorem bj.new{ob:bu}(a:bj s f i g N)(b:f e=ζ):bj (s.set e ob) (f.set e ob) i g N:=by
 refine⟨U.lz a.1,?_⟩;have c:=a.2;cases N with
 |buf d h=>
  have k:d≠e:=by rintro rfl;rw[c.2]at b;cases b
  grind[ο]
 |_=>exact c
def mq(d x:Nat)(c:U)(y z:R)(k:R->U->Prop):Prop:=
 match y,z with
 |.J xs r,.J a _=>(∀o∈xs,α o.cells=d)/\(∀o∈a,α o.cells=d)/\(α xs+α a)*x<=140737488355328/\α xs+α a<=9223372036854775807/\
   match r with
   |.buf p C=>c p=β (.buf d (α xs) C)/\∀b h,(b=p\/c b=ζ)->k (.J (xs++a) (.buf b h)) ((c.del p).set b (.buf d (α xs+α a) h))
   |.any=>False
   |_=>xs=[]/\(if a=[]then k (.J [] r) c else∀b h,c b=ζ->k (.J a (.buf b h)) (c.set b (.buf d (α a) h)))
 |_,_=>False
def WD:G K (.app e i X e7) j f t=mq e i f (al j X) (al j e7) (bX t ()):=rfl
theorem ep{C:cy t}(a:bj s f e g N)(D:aY e g)(E:aY e H)(F:(α g+α H)*i<=140737488355328)(G:α g+α H<=9223372036854775807)
  (c:∀p r,bj s r e (g++H) p->t (.J (g++H) p) r):mq e i f (.J g N) (.J H e6) (bX t C):=by
 have d:=a.2;refine⟨D,E,F,G,?_⟩;cases N with
 |any=>trivial
 |nil=>
  obtain rfl:g=[]:=d;refine⟨rfl,?_⟩;split
  .rename_i h;subst h;exact c _ _ ⟨a.1,rfl⟩
  .intro k x b;refine c _ _ ⟨U.ag a.1 (U.bK a.1 b),U.bK a.1 b,?_⟩;rw[ξ];simp
 |zero=>
  obtain rfl:g=[]:=d;refine⟨rfl,?_⟩;split
  .rename_i h;subst h;exact c _ _ ⟨a.1,rfl⟩
  .intro k x b;refine c _ _ ⟨U.ag a.1 (U.bK a.1 b),U.bK a.1 b,?_⟩;rw[ξ];simp
 |buf L T=>
  refine⟨d.2,λk x b=>c _ _ ?_⟩;have y:s k=none:=by rcases b with rfl|b;exact d.1;exact U.bK a.1 b
  refine⟨U.ag (λz P o=>?_) y,y,?_⟩
  .have S:z≠L:=by rintro rfl;rw[d.1]at o;cases o
   rw[U.eN _ S];exact a.1 z P o
  .rw[ξ,Ψ]
def jR(d:Nat)(b:U)(a:ύ)(h:R->U->Prop):Prop:=
 (∀k∈a,α k.cells=d)/\(if α a=0 then h (.J [] .zero) b else∀c,b c=ζ->h (.J a (.buf c (α a))) (b.set c (.buf d (α a) (α a))))
def WE{a:List Operand}:G K (.ko e a) j f t=jR e f (a.map (al j)) (bX t ()):=by simp only[G,jR,bX,a7w]
def dJ{k:cy t}(a:s.sub f)(o:aY e g)(b:∀c d,bj s d e g c->t (.J g c) d):jR e f g (bX t k):=by
 refine⟨o,?_⟩;split
 .rename_i p;obtain rfl:=a7t p;exact b _ _ ⟨a,rfl⟩
 .intro r h;exact b _ _ ⟨U.ag a (U.bK a h),U.bK a h,by rw[ξ]⟩
def cF(a:Option R)(b:Nat):Option Int:=
 match a with
 |none=>β b
 |some c=>intOf c
def fl(a:Own)(b c:Option R):Own:=
 match b,c with
 |none,ζ=>a
 |_,_=>.any
def dT(c:Nat)(a:R)(d h:Option R):Option R:=
 match a with
 |.J xs p=>match cF d 0,cF h (α xs) with
  |some a,β b=>if 0<=a/\a<=b/\b<=α xs/\xs.all (λr=>decide (α r.cells=c))then β (.J ((xs.take b.toNat).drop a.toNat) (fl p d h))else ζ
  |_,_=>ζ
 |.bE k off len cap o=>match cF d 0,cF h len with
  |some a,β b=>if o=c/\0<=a/\a<=b/\b<=len/\a<len then β (.bE k (off+a.toNat*c) (b.toNat - a.toNat) (cap - a.toNat) c)else ζ
  |_,_=>ζ
 |.aq k len cap o=>match cF d 0,cF h len with
  |some a,β b=>if o=c/\0<=a/\a<=b/\b<=len/\(d.isSome=η->a<len)then β (qF d.isSome k a.toNat b.toNat cap c)else ζ
  |_,_=>ζ
 |_=>ζ
def xr(a:Option Operand)(b:Nat):dc j a b=cF (a.map (al j)) b:=by
 cases a with
 |none=>rfl
 |some a=>simp only[dc,cF,a8u,intOf];rfl
def WG(a b:Option Operand):wC N a b=fl N (a.map (al j)) (b.map (al j)):=by cases a<;>cases b<;>rfl
theorem WH{a d:Option Operand}:G K (.pk e X a d) j f t=dx (dT e (al j X) (a.map (al j)) (d.map (al j))) (c4 (λo=>t o f) ()):=by
 have p:a.isSome=(a.map (al j)).isSome:=ς;simp only[G,dT,xr,WG (j:=j) a d,p];generalize al j X=r;generalize a.map (al j)=h;generalize d.map (al j)=k;cases r<;>try rfl
 .rename_i x D;simp only[];generalize cF h 0=b;generalize cF k (α x)=c;cases b<;>cases c<;>try rfl
  simp only[iJ,hV,a7E,decide_eq_true_eq];grind
 .rename_i y E len z C;simp only[];generalize cF h 0=b;generalize cF k len=c;cases b<;>cases c<;>try rfl
  simp only[iJ,hV];grind
 .rename_i y len z C;simp only[];generalize cF h 0=b;generalize cF k len=c;cases b<;>cases c<;>try rfl
  simp only[iJ,hV];grind
def WI(a:0<=b1)(b:b1<=v):dT e (.aq i v M e) ζ (β (.v (.int e1 b1)))=β (.aq i b1.toNat M e):=by simp[dT,cF,intOf,a,b,qF]
def WJ(a:aY e g):dT e (.J g N) ζ ζ=β (.J g N):=by
 have:(g.all λb=>decide (α b.cells=e))=true:=by simpa[aY] using a
 simp[dT,cF,fl,this]
theorem qT(a:0<=b1)(b:b1<=α g)(c:aY e g):dT e (.J g N) (β (.v (.int e1 b1))) ζ=β (.J (g.drop b1.toNat) .any):=by
 have:(g.all λd=>decide (α d.cells=e))=true:=by simpa[aY] using c
 simp[dT,cF,fl,intOf,this,a,b]
theorem og(a:0<=b1)(b:b1<=α g)(c:aY e g):dT e (.J g N) ζ (β (.v (.int e1 b1)))=β (.J (g.take b1.toNat) .any):=by grind[decide,aY,dT,cF,fl,intOf]
theorem CM{b:IntKind}{a:Int}(c:0<=b1)(d:b1<=a)(h:a<=α g)(k:aY e g):dT e (.J g N) (β (.v (.int e1 b1))) (β (.v (.int b a)))=β (.J ((g.take a.toNat).drop b1.toNat) .any):=by grind[decide,aY,dT,cF,fl,intOf]
def uu(b:Bool)(a:List (Nat×cb))(c d:R)(h:R->Prop):Prop:=
 match c,d with
 |.agg cs,.agg cL=>dp a cs/\dp a cL/\h (.v (.bool (xor b (peq (.agg cs) (.agg cL)))))
 |_,_=>False
variable{j5:List (Nat × cb)}
def WK:G K (.eqv I j5 X e7) j f t=uu I j5 (al j X) (al j e7) (c4 (λa=>t a f) ()):=rfl
theorem WL{a:R->Prop}:uu I j5 (.agg g) (.agg H) a=ha (dp j5 g/\dp j5 H) (cu (a (.v (.bool (xor I (peq (.agg g) (.agg H)))))) ()):=by simp only[uu,ha,cu];grind
def WM:(w.map aj).drop e=(w.drop e).map aj:=ς
def WN:(w.map aj).take e=(w.take e).map aj:=ς
def bj.WO(a:s.sub f):bj s f 1 (([]:ϊ).map aj) .nil:=⟨a,rfl⟩
theorem nn{c:cy t}(d:bj s f 1 (w.map aj) N)(h:α w+α j4<=140737488355328)
  (k:∀a b,bj s b 1 ((w++j4).map aj) a->t (.J ((w++j4).map aj) a) b):mq 1 1 f (.J (w.map aj) N) (.J (j4.map aj) e6) (bX t c):=by
 grind[ep,ur]
def xt{a:UInt8}{d:cy t}(h:bj s f 1 (w.map aj) N)(k:α w+1<=140737488355328)
  (o:∀b c,bj s c 1 ((w++[a]).map aj) b->t (.J ((w++[a]).map aj) b) c):mq 1 1 f (.J (w.map aj) N) (.J [aj a] e6) (bX t d):=
 nn (j4:=[a]) h k o
def sr{a:UInt8}{d:cy t}(h:s.sub f)(k:∀b c,bj s c 1 [aj a] b->t (.J [aj a] b) c):jR 1 f [.v (.int .u8 a.toNat)] (bX t d):=
 dJ (g:=[a].map aj) h (by rw[ur];trivial) k
def xu(a:e<α w):(w.map aj)[e]?=β (.v (.int .u8 (w.getD e 0).toNat)):=by
 rw[a7R,Ρ a];have:w.getD e 0=w[e]:=by simp[a]
 rw[this];rfl
def CN{b c:Fr->U->Prop}(d:∀j f,b j f->c j f):∀(h:List ca)(j:Fr)(f:U),ji K h b j f->ji K h c j f
 |[],j,f,a=>d j f a
 |_::k,j,f,a=>s7 (λj f a=>CN d k j f a) a
def CO{b:Nat->ca}{c d:Fr->U->Prop}(h:∀j f,c j f->d j f):∀(k:List dg)(j:Fr)(f:U),can K b c k j f->can K b d k j f
 |[],j,f,a=>h j f a
 |_::o,j,f,a=>⟨a.1,s7 (λj f a=>⟨a.1,CO h o j f a.2⟩) a.2⟩
theorem jo:∀(o:eC) {h k:gm->Fr->U->Prop} (_:∀c j f,h c j f->k c j f) (j:Fr) (f:U),c3 K o h j f->c3 K o k j f
 |.skip,_,_,b,j,f,a=>b _ j f a
 |.ret,_,_,b,j,f,a=>b _ j f a
 |.exit _,_,_,b,j,f,a=>b _ j f a
 |.plain ops,_,_,b,j,f,a=>CN (b _) ops j f a
 |.draw _ y,_,_,b,j,f,a=>CO (b _) y j f a
 |.seq d p,h,k,b,j,f,a=>jo d (λc j f a=>by
   cases c with
   |norm=>exact jo p b j f a
   |exit x=>exact b _ j f a
   |ret=>exact b _ j f a) j f a
 |.block x d,h,k,b,j,f,a=>jo d (λc j f a=>by
   cases c with
   |norm=>exact b _ j f a
   |exit G=>simp only[ly]at a|-;grind
   |ret=>exact b _ j f a) j f a
 |.cond o d p,h,k,b,j,f,a=>by
   simp only[xl,Co,kA]at a|-;split at a
   .exact⟨λr=>jo d b j f (a.1 r),λr=>jo p b j f (a.2 r)⟩
   .trivial
 |.loop d,h,k,b,j,f,a=>by
   obtain⟨z,C,D,E⟩:=a;exact⟨z,C,D,λj f F=>jo d (λc j f a=>by
    cases c with
    |norm=>exact a
    |exit x=>exact b _ j f a
    |ret=>exact b _ j f a) j f (E j f F)⟩
def ss{b c:eC}{k:cy (c3 K b (eW (c3 K h8 e8) e8) j f)}{o:cy (c3 K c (eW (c3 K h8 e8) e8) j f)}(d:Fr->U->Prop)
  (p:I=η->c3 K b (eW d e8) j f) (r:I=ι->c3 K c (eW d e8) j f) (x:∀j f,d j f->c3 K h8 e8 j f):
  kA (.v (.bool I)) (cu (c3 K b (eW (c3 K h8 e8) e8) j f) k) (cu (c3 K c (eW (c3 K h8 e8) e8) j f) o):=by
 have hm:∀h j f,eW d e8 h j f->eW (c3 K h8 e8) e8 h j f:=λh j f a=>by
  cases h with
  |norm=>exact x j f a
  |exit y=>exact a
  |ret=>exact a
 exact⟨λa=>jo b hm j f (p a),λa=>jo c hm j f (r a)⟩
def pC(b c:R):Option R:=
 match b,c with
 |.v (.string d),.v (.int _ a)=>if 0<=a then(match d.data[a.toNat]? with|some h=>β (.v (.int .u8 h.toNat))|none=>ζ)else ζ
 |_,_=>ζ
def WQ:G K (.ma X e7) j f t=dx (pC (al j X) (al j e7)) (c4 (λc=>t c f) ()):=by
 simp only[G,pC];generalize al j X=d;generalize al j e7=h;cases d<;>first
  |rfl
  |(rename_i v;cases v<;>first
    |rfl
    |(cases h<;>first
      |rfl
      |(rename_i k o;cases o<;>first
        |rfl
        |(
          rename_i r a;simp only[];by_cases b:0<=a
          .simp only[b,true_and,if_true];generalize k.data[a.toNat]?=p;cases p<;>rfl
          .simp[b,dx]))))
def su(a b:Nat)(c:U)(d:R):Option R:=
 match d with
 |.ptr h off=>match c h with
  |some (.ro cs)=>if off+b*a<=α cs then β (.J (eB a b (cs.drop off)) .any)else ζ
  |_=>ζ
 |_=>ζ
def WR:G K (.kq e i X ζ ζ) j f t=dx (su e i f (al j X)) (c4 (λa=>t a f) ()):=by
 simp only[G,su,dc];generalize al j X=b;cases b<;>first
  |rfl
  |(
    rename_i c k;simp only[];generalize f c=d;cases d with
    |none=>simp[dx]
    |some h=>cases h with
     |ro cs=>simp only[iJ,hV];simp
     |_=>simp[dx])
def WS(a:f i=β (.ro g))(b:α g=e):su 1 e f (.ptr i 0)=β (.J g .any):=by simp[su,a,b,eB,Φ]
theorem xv(a:e<64):bt .shl (.int .i64 b1) (.int e1 (e:Int))=β (.int .i64 (IntKind.i64.wrap (b1*2^e))):=by
 have b:min e IntKind.i64.bits=e:=by simp[IntKind.bits];omega
 simp_all [bt,fy,o6]
def CP(a b:Option R):Option R:=
 match a,b with
 |some a,β b=>β (.aJ [a,b])
 |_,_=>ζ
def WT:CP (β n) (β b5)=β (.aJ [n,b5]):=rfl
def WU{a b:Nat×Option (Bool×Nat)}:jk j f [a,b]=CP (gn j f a) (gn j f b):=by simp only[jk,fD];cases gn j f a<;>cases gn j f b<;>rfl
def CQ(a b c:Option R):Option R:=
 match a,b,c with
 |some a,β b,β c=>β (.aJ [a,b,c])
 |_,_,_=>ζ
def WV{a:R}:CQ (β n) (β b5) (β a)=β (.aJ [n,b5,a]):=rfl
def WW{a b c:Nat×Option (Bool×Nat)}:jk j f [a,b,c]=CQ (gn j f a) (gn j f b) (gn j f c):=by simp only[jk,fD];cases gn j f a<;>cases gn j f b<;>cases gn j f c<;>rfl
def WX:((0:Nat):Int)=0:=rfl
def WY:((1:Nat):Int)=1:=rfl
def WZ:((e:Int).tmod (i:Int))=((e%i:Nat):Int):=rfl
def CR:((e:Int).tmod 64)=((e%64:Nat):Int):=WZ (i:=64)
def hZ:=
 υ @Uo<|
 υ @Up<|
 υ @Uq<|
 υ @Ur<|
 υ @Us<|
 υ @Ut<|
 υ @Uu<|
 υ @xl<|
 υ @Uv<|
 υ @hV<|
 υ @Un<|
 υ @Uw<|
 υ @Ux<|
 υ @Uy<|
 υ @Uz<|
 υ @UA<|
 υ @UC<|
 υ @UB<|
 υ @UD<|
 υ @UE<|
 υ @UF<|
 υ @UM<|
 υ @UO<|
 υ @UP<|
 υ @US<|
 υ @UQ<|
 υ @UR<|
 υ @UT<|
 υ @UU<|
 υ @UZ<|
 υ @V0<|
 υ @UX<|
 υ @UY<|
 υ @V6<|
 υ @V9<|
 υ @Va<|
 υ @Vb<|
 υ @Vc<|
 υ @Vf<|
 υ @Vh<|
 υ @Vk<|
 υ @Vn<|
 υ @Vp<|
 υ @Vq<|
 υ @Vw<|
 υ @Vz<|
 υ @VD<|
 υ @Vs<|
 υ @Vu<|
 υ @VE<|
 υ @VG<|
 υ @VI<|
 υ @VJ<|
 υ @VL<|
 υ @WD<|
 υ @WE<|
 υ @WH<|
 υ @WQ<|
 υ @WR<|
 υ @WK<|
 υ @VR<|
 υ @V1<|
 υ @V2<|
 υ @VS<|
 υ @Vx<|
 υ @Vy<|
 υ @VU<|
 @VV
def ia:=
 υ @Cp<|
 υ @Cq<|
 υ @UG<|
 υ @UH<|
 υ @UI<|
 υ @UJ<|
 υ @UK<|
 υ @UW<|
 υ @eq_self.{1}<|
 υ @UN<|
 υ @a7W.{0}<|
 υ @a7Z.{0}<|
 υ @WL<|
 υ @Option.map_none.{0,0}<|
 υ @WJ<|
 υ @qT<|
 υ @og<|
 υ @CM<|
 υ @WM<|
 υ @WN<|
 υ @V3<|
 υ @V4<|
 υ @V5<|
 υ @sg<|
 υ @sf<|
 υ @V7<|
 υ @V8<|
 υ @Vd<|
 υ @Ve<|
 υ @Cs<|
 υ @Vg<|
 υ @Vi<|
 υ @Vj<|
 υ @Vl<|
 υ @Vm<|
 υ @sl<|
 υ @Vo<|
 υ @Wq<|
 υ @ui<|
 υ @hC<|
 υ @Vv<|
 υ @VB<|
 υ @Vr<|
 υ @Vt<|
 υ @VC<|
 υ @sm<|
 υ @VF<|
 υ @VH<|
 υ @VK<|
 υ @VN<|
 υ @VO<|
 υ @VP<|
 υ @VQ<|
 υ @a8u.{0,0}<|
 υ @VX<|
 υ @VY<|
 υ @VW<|
 υ @W0<|
 υ @VZ<|
 υ @sq<|
 υ @a7C.{0,0}<|
 υ @a8K.{0,0}<|
 υ @Wb<|
 υ @Wc<|
 υ @Wd<|
 υ @We<|
 υ @Wf<|
 υ @Wg<|
 υ @Wh<|
 υ @Wi<|
 υ @Wj<|
 υ @Wk<|
 υ @Wl<|
 υ @Wm<|
 υ @Wu<|
 υ @CJ<|
 υ @CK<|
 υ @Wv<|
 υ @Ww<|
 υ @Wx<|
 υ @Wy<|
 υ @Wz<|
 υ @WA<|
 υ @wrap_i64<|
 υ @W7<|
 υ @W8<|
 υ @W9<|
 υ @Wa<|
 υ @Wn<|
 υ @Wo<|
 υ @Wp<|
 υ @so<|
 υ @wrap_u64<|
 υ @Wt<|
 υ @CD<|
 υ @a7w.{0,0}<|
 υ @a7s.{0}<|
 υ @a7x.{0}<|
 υ @U.Cv<|
 υ @U.W1<|
 υ @U.W2<|
 υ @U.W3<|
 υ @U.W4<|
 υ @τ<|
 υ @U.Cw<|
 υ @U.Cx<|
 υ @U.Cy<|
 υ @U.Cz<|
 υ @U.CA<|
 υ @U.CB<|
 υ @U.CC<|
 υ @U.W6<|
 υ @CE<|
 υ @CF<|
 υ @CG<|
 υ @CH<|
 υ @CI<|
 υ @hY<|
 υ @a8O.{0}<|
 υ @and_self<|
 υ @a7Q<|
 υ @a8g<|
 υ @aa9<|
 υ @a7L<|
 υ @true_and<|
 υ @and_true<|
 υ @a9p<|
 υ @a7T<|
 υ @Wr<|
 @Ws
def eP:=
 υ @WX<|
 υ @WY<|
 υ @WU<|
 υ @WT<|
 υ @WW<|
 @WV
def aW:=
 υ @a7s.{0}<|
 υ @a7x.{0}<|
 υ @a7w.{0,0}<|
 υ @Ψ.{0}<|
 υ @a9j.{0}<|
 υ @List.length_range<|
 υ @a7q.{0}<|
 υ @a7F.{0}<|
 υ @CE<|
 υ @CF<|
 υ @CG<|
 υ @CH<|
 υ @CI<|
 υ @hY<|
 υ @ur<|
 υ @WB<|
 υ @CL<|
 υ @WC<|
 υ @and_true<|
 υ @true_and<|
 υ @a7Q<|
 υ @eq_self.{1}<|
 @and_self
def bo(a:ϊ):R:=.v (.string ⟨a.toArray⟩)
theorem toList_mk(a:ϊ):(⟨a.toArray⟩:ByteArray).toList=a:=ς
theorem CS(a b:ϊ):bt .eql (.string ⟨a.toArray⟩) (.string ⟨b.toArray⟩)=β (.bool (decide (a=b))):=by grind[bt,qx,toList_mk]
theorem CT(a b:ϊ):bt .neq (.string ⟨a.toArray⟩) (.string ⟨b.toArray⟩)=β (.bool (decide (a≠b))):=by grind[bt,qx,toList_mk]
def oh(a:ϊ):(⟨a.toArray⟩:ByteArray).size=α a:=by rfl
variable{u:bn}{l h9:World}
section
def X0:si K ⟨β e,e2,β (i,I)⟩ j f=hX (j i) I (cu (G K e2 j f (λa _=>a=j e)) ()) (cu ((.aJ []:R)=j e) ()):=rfl
def X1{a:Option Nat}:Def K ⟨a,e2,β (e,I)⟩ j=hX (j e) I (cu (G K e2 j U.emp (λ_ _=>True)) ()) (cu True ()):=rfl
def np(a:R):Option R:=
 match a with
 |.J xs _=>match bytesOf xs with
  |some b=>β (.v (.string ⟨b.toArray⟩))
  |none=>ζ
 |_=>ζ
def CU:np (.J (w.map aj) N)=β (.v (.string ⟨w.toArray⟩)):=by simp[np,rV]
def X2:G K (.qD X) j f t=dx (np (al j X)) (c4 (λa=>t a f) ()):=by simp only[G,np];generalize al j X=b;cases b<;>first|rfl|(rename_i c h;simp only[];generalize bytesOf c=d;cases d<;>rfl)
def qU(d:Bool)(a b:R):Option R:=
 match a,b with
 |.v (.int c a),.v (.int h b)=>if c=h then β (.v (.int c (if d then max a b else min a b)))else ζ
 |_,_=>ζ
def X3{a:Int}:qU η (.v (.int e1 b1)) (.v (.int e1 a))=β (.v (.int e1 (max b1 a))):=by simp[qU]
def X4{a:Int}:qU ι (.v (.int e1 b1)) (.v (.int e1 a))=β (.v (.int e1 (min b1 a))):=by simp[qU]
def X5:G K (.mc I e1 X e7) j f t=dx (qU I (al j X) (al j e7)) (c4 (λa=>t a f) ()):=by
 simp only[G,qU];generalize al j X=b;generalize al j e7=c;cases b<;>first
  |rfl
  |(rename_i v;cases v<;>first
    |rfl
    |(cases c<;>first
      |rfl
      |(rename_i d;cases d<;>first|rfl|(simp only[iJ,hV]))))
def sv(a:R):Option R:=
 match a with
 |.v (.string b)=>β (.v (.int .i64 b.size))
 |_=>ζ
def xw:sv (.v (.string ⟨w.toArray⟩))=β (.v (.int .i64 (α w))):=by rfl
def X6:G K (.qB X) j f t=dx (sv (al j X)) (c4 (λa=>t a f) ()):=by simp only[G,sv];generalize al j X=b;cases b<;>first|rfl|(rename_i v;cases v<;>rfl)
def qV(a:R)(d h:Option R):Option R:=
 match a with
 |.v (.string b)=>match cF d 0,cF h b.size with
  |some a,β c=>if 0<=a/\a<=c/\c<=b.size then β (.v (.string (b.extract a.toNat c.toNat)))else ζ
  |_,_=>ζ
 |_=>ζ
def xx(a:ϊ)(b c:Nat):(⟨a.toArray⟩:ByteArray).extract b c=⟨((a.take c).drop b).toArray⟩:=by apply ByteArray.ext;simp only[ByteArray.data_extract];simp[a8H]
def X7(a:0<=b1)(b:b1<=α w):qV (.v (.string ⟨w.toArray⟩)) (β (.v (.int e1 b1))) ζ=β (.v (.string ⟨(w.drop b1.toNat).toArray⟩)):=by simp[qV,cF,intOf,oh,a,b,xx]
def X8(a:0<=b1)(b:b1<=α w):qV (.v (.string ⟨w.toArray⟩)) ζ (β (.v (.int e1 b1)))=β (.v (.string ⟨(w.take b1.toNat).toArray⟩)):=by simp[qV,cF,intOf,oh,a,b,xx]
def X9{b:IntKind}{a:Int}(c:0<=b1)(d:b1<=a)(h:a<=α w):qV (.v (.string ⟨w.toArray⟩)) (β (.v (.int e1 b1))) (β (.v (.int b a)))=β (.v (.string ⟨((w.take a.toNat).drop b1.toNat).toArray⟩)):=by simp[qV,cF,intOf,oh,c,d,h,xx]
theorem CV(a:0<=b1)(b:b1<α w):pC (.v (.string ⟨w.toArray⟩)) (.v (.int e1 b1))=β (.v (.int .u8 (w.getD b1.toNat 0).toNat)):=by grind[List.getD,pC]
def CW(c:Nat)(h:U)(r x:R)(p:R->U->Prop):Prop:=
 match r,x with
 |.bE d off a _ k,.J b _=>k=c/\(∀o∈b,α o.cells=c)/\match h d with
  |some (.cells cs)=>off+a*c<=α cs/\p (.v (.int .i64 (min (α b) a))) (h.set d (.cells (putAt cs off (flat (b.take a)))))
  |_=>False
 |.aq d a _ k,.J b _=>k=c/\(∀o∈b,α o.cells=c)/\match h d with
  |some (.cells cs)=>a*c<=α cs/\p (.v (.int .i64 (min (α b) a))) (h.set d (.cells (putAt cs 0 (flat (b.take a)))))
  |_=>False
 |_,_=>False
def Xa:G K (.mT e X e7) j f t=CW e f (al j X) (al j e7) (bX t ()):=rfl
def CX{a:cy t}(b:aY e g)(c:f v=β (.cells H))(d:M+i*e<=α H)
  (h:t (.v (.int .i64 (min (α g) i))) (f.set v (.cells (putAt H M (flat (g.take i)))))):CW e f (.bE v M i b9 e) (.J g N) (bX t a):=by
 refine⟨rfl,b,?_⟩;rw[c];trivial
def uv(c b:Nat)(k:U)(a:R)(o p:Option R):Option R:=
 match a with
 |.ptr h off=>match cF o 0,cF p b with
  |some a,β d=>match k.read h with
   |some cs=>if 0<=a/\a<=d/\d<=b/\off+b*c<=α cs/\a<b then β (.bE h (off+a.toNat*c) (d.toNat - a.toNat) (b - a.toNat) c)else ζ
   |none=>ζ
  |_,_=>ζ
 |_=>ζ
def xy(a:f.read v=β g)(b:M+e*i<=α g)(c:0<e):uv i e f (.ptr v M) ζ ζ=β (.bE v M e e i):=by simp[uv,cF,a,b,c]
theorem Xb{a b:Option Operand}:G K (.kp i e X a b ι) j f t=dx (uv i e f (al j X) (a.map (al j)) (b.map (al j))) (c4 (λc=>t c f) ()):=by
 simp only[G,uv,xr];generalize al j X=d;generalize a.map (al j)=h;generalize b.map (al j)=k;cases d<;>try rfl
 rename_i o y;simp only[];generalize cF h 0=p;generalize cF k e=r;generalize f.read o=x;cases p<;>cases r<;>cases x<;>first
  |rfl
  |(simp[dx];done)
  |(
    simp only[iJ,hV,a8o,if_false];grind)
def om(d:Nat)(b:U)(a:ύ)(h:R->U->Prop):Prop:=
 (∀k∈a,α k.cells=d)/\(if α a=0 then h (.J [] .zero) b else∀c,b c=ζ->h (.aq c (α a) (α a) d) (b.set c (.cells (flat a))))
def Xc{a:List Operand}:G K (.ks e a) j f t=om e f (a.map (al j)) (bX t ()):=by simp only[G,om,bX,a7w]
def oo{a:cy t}:om e f [] (bX t a)=t (.J [] .zero) f:=by simp[om,bX]
def eQ{b:cy t}(c:aY e g)(d:g≠[])(h:∀a,f a=ζ->t (.aq a (α g) (α g) e) (f.set a (.cells (flat g)))):om e f g (bX t b):=by refine⟨c,?_⟩;rw[if_neg (λk=>d (a7t k))];exact h
def CY(d h:Nat)(k:ύ)(c:U)(o p:R)(r:R->U->Prop):Prop:=
 match o,p with
 |.v (.int _ a),.v (.int _ x)=>a=x/\0<=a/\a<=9223372036854775807/\a*h<=281474976710656/\∀b,c b=ζ->r (.aq b a.toNat a.toNat d) (c.set b (.cells (ε a.toNat k).flatten))
 |_,_=>False
def Xd:G K (.kr e i g X e7) j f t=CY e i g f (al j X) (al j e7) (bX t ()):=rfl
theorem xz{b:IntKind}{c:cy t}(d:e*v<=281474976710656)(h:e<=9223372036854775807)(k:∀a,f a=ζ->t (.aq a e e i) (f.set a (.cells (ε e g).flatten))):
  CY i v g f (.v (.int e1 (e:Int))) (.v (.int b (e:Int))) (bX t c):=⟨rfl,δ,δ,δ,λa o=>by
 grind[bX,Int.toNat_natCast]⟩
def jS(c z:Nat)(d:U)(E F:R)(x:R->U->Prop):Prop:=
  match nf d c F with
  |some (b,y)=>match E with
    |.J xs D=>xs=[]/\(D=.nil\/D=.zero)/\b*z<=140737488355328/\b<=9223372036854775807/\
      (if b=0 then x (.J [] D) d else∀h k p,d h=ζ->b<=k->k<=maxLen->α p=(k - b)*c->x (.aq h b k c) (d.set h (.cells (y++p))))
    |.aq r a k C=>match d r with
      |some (.cells cs)=>C=c/\α cs=k*c/\(a+b)*z<=140737488355328/\a+b<=9223372036854775807/\
        (if a+b<=k then x (.aq r (a+b) k c) (d.set r (.cells (putAt cs (a*c) y)))
         else∀h o p,d h=ζ->a+b<=o->o<=maxLen->α p=(o -(a+b))*c->x (.aq h (a+b) o c) (d.set h (.cells (cs.take (a*c)++y++p))))
      |some (.fL cs)=>C=c/\α cs=k*c/\(a+b)*z<=140737488355328/\a+b<=9223372036854775807/\
        (if a+b<=k then x (.aq r (a+b) k c) (d.set r (.fL (putAt cs (a*c) y)))
         else∀h o p,d h=ζ->a+b<=o->o<=maxLen->α p=(o -(a+b))*c->x (.aq h (a+b) o c) (d.set h (.cells (cs.take (a*c)++y++p))))
      |_=>False
    |.bE r off a k C=>match d r with
      |some (.cells cs)=>C=c/\off+k*c<=α cs/\(a+b)*z<=140737488355328/\a+b<=9223372036854775807/\
        (if a+b<=k then x (.bE r off (a+b) k c) (d.set r (.cells (putAt cs (off+a*c) y)))
         else∀h o p,d h=ζ->a+b<=o->o<=maxLen->α p=(o -(a+b))*c->x (.aq h (a+b) o c) (d.set h (.cells ((cs.drop off).take (a*c)++y++p))))
      |_=>False
    |_=>False
  |none=>False
def Xe:G K (.me e i X e7) j f t=jS e i f (al j X) (al j e7) (bX t ()):=rfl
def av(p r:U)(a:Nat)(d:ύ)(h:R):Prop:=
 p.sub r/\((d=[]/\(h=.J [] .nil\/h=.J [] .zero))\/∃k b c o,h=.aq k b c a/\p k=ζ/\r k=β (.cells o)/\α o=c*a/\o.take (b*a)=d/\α d=b*a/\b<=c/\c<=maxLen)
theorem av.nil{a b:U}{c:Nat}(d:a.sub b):av a b c [] (.J [] .nil):=⟨d,.inl ⟨rfl,.inl rfl⟩⟩
def av.zero{a b:U}{c:Nat}(d:a.sub b):av a b c [] (.J [] .zero):=⟨d,.inl ⟨rfl,.inr rfl⟩⟩
def av.mono{a:R}(d:av f s e g a)(c:s.sub e0):av f e0 e g a:=by
 obtain⟨h,b⟩:=d;refine⟨U.au h c,?_⟩;rcases b with b|⟨k,o,p,r,x,y,z,C⟩
 .exact .inl b
 .exact .inr ⟨k,o,p,r,x,y,c _ _ z,C⟩
theorem av.base(c:av f e0 e g n)(b:s.sub f):av s e0 e g n:=by
 obtain⟨d,a⟩:=c;refine⟨U.au b d,?_⟩;rcases a with a|⟨h,k,o,p,r,x,y⟩
 .exact .inl a
 .exact .inr ⟨h,k,o,p,r,U.bK b x,y⟩
def av.new{ob:bu}(h:av s f i g n)(k:f e=ζ):av (s.set e ob) (f.set e ob) i g n:=by
 obtain⟨o,a⟩:=h;refine⟨U.lz o,?_⟩;rcases a with a|⟨c,p,r,x,y,z,b,C⟩
 .exact .inl a
 .have d:c≠e:=by rintro rfl;rw[k]at b;cases b
  exact .inr ⟨c,p,r,x,y,by rw[ο _ _ d];exact z,by rw[ο _ _ d];exact b,C⟩
theorem av.src(b:av s f e g n):∃a,α g=a*e/\bW f e n=β (a,g)/\fi n=β (.v (.int .i64 a)):=by
 obtain⟨h,c⟩:=b;rcases c with⟨rfl,rfl|rfl⟩|⟨k,a,o,p,rfl,r,x,y,z,d,C,D⟩
 .exact⟨0,ς,rfl,rfl⟩
 .exact⟨0,ς,rfl,rfl⟩
 .refine⟨a,d,?_,rfl⟩;simp_all [a7D,bW,U.ae]
theorem fj{l:cy t}(m:av s f e H n)(G:0<e)(q:bW f e b5=β (i,g))(h:α g=i*e)(u:(α H+α g)*v<=140737488355328*e)(w:α H+α g<=9223372036854775807)
  (r:∀L P,av s P e (H++g) L->t L P):jS e v f n b5 (bX t l):=by
 obtain⟨b,A⟩:=m;unfold jS;rw[wD q];simp only[bX];have dc:∀a,α H=a*e->(a+i)*v<=140737488355328/\a+i<=9223372036854775807:=by
  intro a B;have x:α H+α g=(a+i)*e:=by rw[B,h,a8w]
  rw[x]at u w;constructor
  .have:(a+i)*v*e<=140737488355328*e:=by grind
   exact Nat.le_of_mul_le_mul_right this G
  .have:(a+i)*1<=(a+i)*e:=abt _ G;omega
 rcases A with⟨rfl,Y⟩|⟨I,a,c,y,rfl,S,K,z,T,V,Z,M⟩
 .obtain⟨C,W⟩:=dc 0 ς;have j9:∀k,(k=.nil\/k=.zero)->(([]:ύ)=[]/\(k=.nil\/k=.zero)/\i*v<=140737488355328/\i<=9223372036854775807/\
   (if i=0 then t (.J [] k) f else∀d c o,f d=ζ->i<=c->c<=maxLen->α o=(c - i)*e->t (.aq d i c e) (f.set d (.cells (g++o))))):=by
   intro k N;refine⟨rfl,N,by simpa using C,δ,?_⟩;split
   .rename_i hm;subst hm;have:g=[]:=a7t (by simpa using h);subst this;refine r _ _ ⟨b,.inl ⟨rfl,?_⟩⟩;simp_all
   .intro d c o p D E F;refine r _ _ ⟨U.ag b (U.bK b p),.inr ⟨d,i,c,g++o,rfl,U.bK b p,ξ _ _ _,?_,?_,by trivial,D,E⟩⟩
    .rw[Ψ,h,F,<-a8w];congr 1;omega
    .rw[<-h,a9Y];rfl
  grind
 .obtain⟨C,W⟩:=dc a V;simp only[K];refine⟨trivial,z,C,W,?_⟩;have O:(y.take (a*e)).length=a*e:=by rw[T,V]
  split
  .rename_i j;have Q:a*e+α g<=α y:=by rw[h,z,<-a8w];exact a7D _ j
   refine r _ _ ⟨U.ag b S,.inr ⟨I,a+i,c,_,rfl,S,ξ _ _ _,?_,?_,by grind,j,M⟩⟩
   .rw[eO _ _ _ Q,z]
   .have x:(a+i)*e=(y.take (a*e)++g).length:=by grind
    rw[putAt,x,a9Y,T]
  .intro d X o p D E F;refine r _ _ ⟨U.ag b (U.bK b p),.inr ⟨d,a+i,X,_,rfl,U.bK b p,ξ _ _ _,?_,?_,by grind,D,E⟩⟩
   .rw[Ψ,Ψ,O,h,F,<-a8w,<-a8w];congr 1;omega
   .have x:(a+i)*e=(y.take (a*e)++g).length:=by grind
    grind
theorem CZ:bW f 1 (.J (w.map aj) N)=β (α w,w.map aj):=by grind[aj,decide,σ,bW,rY]
def xA(a:U)(b:R):Option R:=
 match bW a 1 b with
 |some (_,xs)=>match bytesOf xs with
  |some c=>β (.v (.string ⟨c.toArray⟩))
  |none=>ζ
 |none=>ζ
def Xf(a:bW f 1 n=β (e,w.map aj)):xA f n=β (.v (.string ⟨w.toArray⟩)):=by simp[xA,a,rV]
def uw(a:R):Option R:=
 match a with
 |.v (.string b)=>β (.J (b.data.toList.map aj) .any)
 |_=>ζ
def Xg:uw (.v (.string ⟨w.toArray⟩))=β (.J (w.map aj) .any):=by rfl
def Xh:G K (.pq X) j f t=dx (uw (al j X)) (c4 (λa=>t a f) ()):=by simp only[G,uw];generalize al j X=b;cases b<;>first|rfl|(rename_i v;cases v<;>rfl)
theorem aZ.frozen{v:Value}(h:Holds u f l)(k:f M=β (.ro g))(o:e*i<=α g)(p:aZ u v (.aq M e b9 i)):aZ u v (.J (eB i e g) .any):=by
 obtain⟨r,x,T,L,P,c,S⟩:=h.cT M _ k;have V:=c.1;cases p with
 |aq M e b9 i hk y=>
  obtain⟨z,C,d⟩:=wK hk o r;by_cases D:e=0
  .subst D;have:=a7t d;rw[this];exact .di _ _ _ (λE=>by cases E) trivial
  .refine .J M 0 e b9 i (λa=>x.getD a Go.undef) _ .any hk d.symm y z ?_ ?_ ?_ trivial;grind;grind
   .intro a F b;rw[C]at b;have G:a<e*i:=by grind
    rw[a8s G]at b;exact c.2 a F b
end
def sw:=
 υ @Xc<|
 υ @Xe<|
 υ @Xd<|
 υ @Xh<|
 υ @X2<|
 υ @X5<|
 υ @X6<|
 υ @Xa<|
 υ @Xb<|
 υ @X0<|
 @X1
def sx:=
 υ @Xg<|
 υ @jQ<|
 υ @VA<|
 υ @WI<|
 υ @CU<|
 υ @X3<|
 υ @X4<|
 υ @xw<|
 υ @X7<|
 υ @X8<|
 υ @X9<|
 υ @xy<|
 υ @CT<|
 υ @CS<|
 υ @CV<|
 υ @ite_true.{1}<|
 υ @ite_false.{1}<|
 υ @a8i<|
 υ @a8c<|
 υ @a9Z<|
 υ @Bool.true_xor<|
 υ @a8S<|
 υ @a9H<|
 υ @decide_true<|
 @decide_false
section
def Xi{a b:List Operand}:G K (.bG b4 a b) j f t=nm (.bG b4 (a.map (al j)) (b.map (al j))) (c4 (λc=>t c f) ()):=rfl
def xB(a:Ctx)(b:R)(c:ύ)(d:U)(h:R->U->Prop):Prop:=
 match b with
 |.bG fn cL cs=>fA a.p fn=η/\hS a.p fn (cL++c++cs) d h (up a.k)
 |_=>False
def Xj{a:List Operand}:G K (.jf X a) j f t=xB K (al j X) (a.map (al j)) f (bX t ()):=rfl
def eR{c:cy t}(d:fA K.p b4=η)(h:AC K.p b4 (g++c0++H) f Z)(k:∀a b,Z a b->t a b):xB K (.bG b4 g H) c0 f (bX t c):=⟨d,(h.mono k).p⟩
def Xk:G K (.qE b2 X) j f t=nm (.iface b2 (al j X)) (c4 (λa=>t a f) ()):=rfl
def pD(d:TypeId)(a:Bool)(b:R)(h:R):Option R:=
 match h with
 |.iface k c=>if k=d then β (if a then .aJ [c,.v (.bool η)]else c)else if a=η then β (.aJ [b,.v (.bool ι)])else ζ
 |.v .nilIface=>if a=η then β (.aJ [b,.v (.bool ι)])else ζ
 |_=>ζ
def Xl:pD b2 η b5 (.iface b2 n)=β (.aJ [n,.v (.bool η)]):=by simp[pD]
def Xm{a:TypeId}(b:a≠b2):pD b2 η n (.iface a b5)=β (.aJ [n,.v (.bool ι)]):=by simp[pD,b]
def Xn:pD b2 η n (.v .nilIface)=β (.aJ [n,.v (.bool ι)]):=by rfl
def Xo:pD b2 ι b5 (.iface b2 n)=β n:=by simp[pD]
def D0(a:Bool)(b:R):Option R:=
 match b with
 |.iface _ _=>β (.v (.bool a))
 |.v .nilIface=>β (.v (.bool (!a)))
 |_=>ζ
def Xp:D0 I (.iface b2 n)=β (.v (.bool I)):=rfl
def Xq:D0 I (.v .nilIface)=β (.v (.bool (!I))):=rfl
def D1(a:Bool)(b:R):Option R:=
 match b with
 |.bG _ _ _=>β (.v (.bool a))
 |.v .nilFunc=>β (.v (.bool (!a)))
 |_=>ζ
def Xr:D1 I (.bG e g H)=β (.v (.bool I)):=rfl
def Xs:D1 I (.v .nilFunc)=β (.v (.bool (!I))):=rfl
def Xt(a:Ctx)(b:R)(c:U):Prop:=
 match b with
 |.iface d h=>up a.k (.iface d h) c
 |_=>False
def Xu:G K (.mV X) j f t=Xt K (al j X) f:=rfl
def xC(b:R)(c:U)(d:Nat->ByteArray->Prop):Prop:=
 match b with
 |.v (.string h)=>∀a,c a=ζ->d a h
 |_=>False
def Xv:G K (.kt X) j f t=xC (al j X) f (bX (λa b=>t (.ptr a 0) (f.set a (.it b 0))) ()):=rfl
def D2{a:Nat->ByteArray->Prop}{b:cy a}:xC (.v (.string ⟨w.toArray⟩)) f (bX a b)=jm f (c4 (λc=>a c ⟨w.toArray⟩) ()):=rfl
def xD(h:R)(b:U)(c:R->U->Prop):Prop:=
 match h with
 |.ptr d off=>off=0/\match b d with
  |some (.it a pos)=>if pos<a.size then c (.aJ [.v (.bool η),.v (.int .i64 pos),.v (.int .i32 (Utf8.decode a pos).1)]) (b.set d (.it a (pos+(Utf8.decode a pos).2)))else c (.aJ [.v (.bool ι)]) b
  |_=>False
 |_=>False
def Xw:G K (.mW X) j f t=xD (al j X) f (bX t ()):=rfl
def Xx{a:cy t}(b:f i=β (.it ⟨w.toArray⟩ e))(c:e<α w)
  (d:t (.aJ [.v (.bool η),.v (.int .i64 e),.v (.int .i32 (Utf8.decode ⟨w.toArray⟩ e).1)]) (f.set i (.it ⟨w.toArray⟩ (e+(Utf8.decode ⟨w.toArray⟩ e).2)))):xD (.ptr i 0) f (bX t a):=by
 refine⟨rfl,?_⟩;rw[b];simp only[oh,if_pos c];exact d
def Xy{a:cy t}(b:f e=β (.it ⟨w.toArray⟩ i))(c:¬i<α w)(d:t (.aJ [.v (.bool ι)]) f):xD (.ptr e 0) f (bX t a):=by refine⟨rfl,?_⟩;rw[b];simp only[oh,if_neg c];exact d
def xE(a:R):Option R:=
 match a with
 |.J [] .nil=>β (.v (.pointer ζ))
 |.aq b _ cap _=>if 0<cap then β (.ptr b 0)else ζ
 |_=>ζ
def Xz:xE (.J [] .nil)=β (.v (.pointer ζ)):=rfl
def XA(a:0<i):xE (.aq e v i M)=β (.ptr e 0):=by simp[xE,a]
def XB:c3 K .refuse e8 j f=False:=rfl
def U.XC:(f.set e (.pd b2 g)).read e=β g:=by simp[U.read,U.set]
def XD:(R.bG e g H).cells=[.bG e g H]:=rfl
def XE:sj (.bG e g H)=β (.bG e g H):=rfl
def pE(a:Bool)(b:U)(h k:R):Option R:=
 match h,k with
  |.ptr _ _,.v (.pointer ζ)=>β (.v (.bool a))
  |.v (.pointer ζ),.ptr _ _=>β (.v (.bool a))
  |.v (.pointer ζ),.v (.pointer ζ)=>β (.v (.bool (!a)))
  |.ptr c o,.ptr d p=>if lp b c=η/\lp b d=η then β (.v (.bool (xor a (decide (c=d/\o=p)))))else ζ
  |_,_=>ζ
def XF:G K (.mS I X e7) j f t=dx (pE I f (al j X) (al j e7)) (c4 (λd=>t d f) ()):=by
 simp only[G,pE];generalize al j X=h;generalize al j e7=c;cases h<;>first
  |rfl
  |(rename_i v;cases v<;>first
    |rfl
    |(rename_i k;cases k<;>first|rfl|(cases c<;>first|rfl|(rename_i a;cases a<;>first|rfl|(rename_i b;cases b<;>rfl)))))
  |(cases c<;>first|rfl|(rename_i a;cases a<;>first|rfl|(rename_i b;cases b<;>rfl))|(simp only[iJ,hV];done))
def XG(a:lp f e=η):pE I f (.ptr e i) (.ptr e i)=β (.v (.bool (!I))):=by simp[pE,a]
def XH:pE I f (.ptr e i) (.v (.pointer ζ))=β (.v (.bool I)):=rfl
def XI:pE I f (.v (.pointer ζ)) (.ptr e i)=β (.v (.bool I)):=rfl
def XJ:pE I f (.v (.pointer ζ)) (.v (.pointer ζ))=β (.v (.bool (!I))):=rfl
end
def XK:(η==η)=true:=rfl
def XL:(η==ι)=false:=rfl
def XM:(ι==η)=false:=rfl
def XN:(ι==ι)=true:=rfl
def D3:=
 υ @Xi<|
 υ @Xj<|
 υ @Xk<|
 υ @Xu<|
 υ @Xv<|
 υ @Xw<|
 υ @XF<|
 @XB
def D4:=
 υ @XK<|
 υ @XL<|
 υ @XM<|
 υ @XN<|
 υ @Xl<|
 υ @Xm<|
 υ @Xn<|
 υ @Xo<|
 υ @Xp<|
 υ @Xq<|
 υ @Xr<|
 υ @Xs<|
 υ @D2<|
 υ @Xz<|
 υ @XA<|
 υ @U.XC<|
 υ @XD<|
 υ @XE<|
 υ @XG<|
 υ @XH<|
 υ @XI<|
 @XJ
noncomputable def jq (b:R->Option R) (c v:R):R->Option R:=λa=>@ite _ (a=c) (Classical.propDecidable _) (β v) (b a)
def sy{a:R->Option R}{v:R}:jq a n v n=β v:=by simp[jq]
def pF{a:R->Option R}{v:R}(b:n≠b5):jq a b5 v n=a n:=by simp[jq,b]
def xF(b:R):∀(a:List (R×R×Nat))(c:Nat),dM a b c=(dM a b 0).map λd=>(d.1+c,d.2)
 |[],_=>rfl
 |h::a,c=>by
  unfold dM;split
  .simp
  .rw[xF b a (c+1),xF b a (0+1)];cases dM a b 0<;>simp[aaQ,Nat.add_left_comm,aaE]
theorem lA(b:R×R×Nat)(d:List (R×R×Nat))(a:R):dM (b::d) a 0=@ite _ (a=b.1) (Classical.propDecidable _) (β (0,b.2.1)) ((dM d a 0).map λh=>(h.1+1,h.2)):=by
 conv=>lhs;unfold dM
 rw[xF a d (0+1)];by_cases c:a=b.1
 .rw[if_pos ((qy _ _).2 c),if_pos c]
 .rw[if_neg (λk=>c ((qy _ _).1 k)),if_neg c]
theorem D5(b v:R)(o:Nat)(a:R):∀c:List (R×R×Nat),dM c b 0=ζ->(dM (c++[(b,v,o)]) a 0).map (·.2)=jq (λa=>(dM c a 0).map (·.2)) b v a
 |[],_=>by
  grind[lA,jq,dM]
 |p::c,h=>by
  rw[lA]at h;split at h
  .cases h
  .next r=>
   have x:dM c b 0=none:=by simp_all
   have ih:=D5 b v o a c x;rw[a8A,lA];by_cases d:a=p.1
   .have k:a≠b:=λy=>r (by rw[<-y];exact d);rw[if_pos d,pF k];rw[lA,if_pos d]
   .rw[if_neg d];by_cases k:a=b;simp_all [sy]
    .rw[pF k]at ih|-;rw[lA,if_neg d,aaB,aaB];exact ih
theorem D6(c v k:R)(b:R):∀(d:List (R×R×Nat))(o:Nat),dM d c 0=β (o,v)->(dM (d.modify o λh=>(h.1,k,h.2.2)) b 0).map (·.2)=jq (λb=>(dM d b 0).map (·.2)) c k b
 |[],_,a=>by trivial
 |h::d,o,a=>by
  rw[lA]at a;split at a
  .next p=>
   simp only[a7y,a8x]at a;obtain⟨rfl,_⟩:=a;rw[abc,lA];by_cases a:b=c
   .subst a;rw[sy];simp[p]
   simp_all [pF,lA]
  .next p=>
   cases r:dM d c 0 with
   |none=>rw[r]at a;cases a
   |some y=>
    rw[r]at a;simp only[a8u,a7y,a8x]at a;obtain⟨rfl,rfl⟩:=a;have ih:=D6 c y.2 k b d y.1 r;rw[abd,lA];by_cases a:b=h.1
    .have x:b≠c:=λz=>p (by rw[<-z];exact a);rw[if_pos a,pF x];rw[lA,if_pos a]
    .rw[if_neg a];by_cases x:b=c;simp_all [sy]
     .rw[pF x]at ih|-;rw[lA,if_neg a,aaB,aaB];exact ih
structure kC(rs:List (Nat×cb))(us:List (R×R×Nat))(a:Nat)(b:R->Option R):Prop where
 val:∀k,(dM us k 0).map (·.2)=b k
 keys:rU rs us
 born:(us.map (·.2.2)).Nodup
 lt:∀c∈us,c.2.2<a
def kC.new:kC j5 [] 0 λ_=>none:=⟨λ_=>rfl,λb a=>by simp at a,ς,λb a=>by simp at a⟩
theorem XO(a:List (R×R×Nat))(c:Nat)(v:R):(a.modify c λb=>(b.1,v,b.2.2)).map (·.2.2)=a.map (·.2.2):=by
 induction a generalizing c with
 |nil=>simp
 |cons b a ih=>grind
theorem mem_modify{b:List (R×R×Nat)}{v:R}{a:R×R×Nat}(d:a∈b.modify e λa=>(a.1,v,a.2.2)):∃c∈b,a.1=c.1/\a.2.2=c.2.2:=by
 induction b generalizing e with
 |nil=>simp at d
 |cons c b ih=>grind
theorem kC.set{a:List (R×R×Nat)}{p:R->Option R}(b:kC j5 a i p){v:R}(r:dM a n 0=β (e,v)):kC j5 (a.modify e λc=>(c.1,b5,c.2.2)) i (jq p n b5) where
 val:=λx=>by
  rw[D6 n v b5 x a e r];simp only[jq];rw[b.val]
 keys:=λc d=>by
  obtain⟨h,k,o,_⟩:=mem_modify d;rw[o];exact b.keys h k
 born:=by rw[XO];exact b.born
 lt:=λc d=>by
  obtain⟨h,k,_,o⟩:=mem_modify d;rw[o];exact b.lt h k
theorem kC.push{d:List (R×R×Nat)}{h:R->Option R}(b:kC j5 d e h){v:R}(x:dp j5 g)(o:dM d (.agg g) 0=ζ):kC j5 (d++[(.agg g,v,e)]) (e+1) (jq h (.agg g) v) where
 val:=λp=>by
  rw[D5 _ v e p d o];simp only[jq];rw[b.val]
 keys:=λc a=>by
  rcases a7z.1 a with a|a
  .exact b.keys c a
  simp_all
 born:=by rw[a8l,aaK];refine⟨b.born,ς,?_⟩;intro y r z k;obtain⟨c,a,rfl⟩:=a7G.1 r;simp at k;subst k;exact Nat.ne_of_lt (b.lt c a)
 lt:=λc a=>by
  rcases a7z.1 a with a|a
  .exact Nat.lt_succ_of_lt (b.lt c a)
  simp_all
def nq(c:U)(d:Nat)(h:List (Nat×cb))(k:R->Option R):Prop:=∃a b,c d=β (.mp a b)/\kC h a b k
def a6T(h:U)(k:Nat)(o:List (Nat×cb))(p:R->Option R)(r:R)(x:Nat):Prop:=
 ∃a b,h k=β (.mp a b)/\∀v,∃c,Iz a (x:Int)=β c/\kC o (a.modify c λd=>(d.1,v,d.2.2)) b (jq p r v)
section
def XP:G K .ku j f t=jm f (c4 (λa=>t (.ff a) (f.set a (.mp [] 0))) ()):=rfl
def ux(a:Bool)(b:List (Nat×cb))(c:R)(h:U)(k o:R)(d:R->Prop):Prop:=
 match k,o with
 |.ff p,.agg cs=>match h p with
  |some (.mp us _)=>dp b cs/\rU b us/\(match dM us (.agg cs) 0 with
   |some (_,v)=>d (if a then .aJ [v,.v (.bool η)]else v)
   |none=>d (if a then .aJ [c,.v (.bool ι)]else c))
  |_=>False
 |_,_=>False
def XQ:G K (.kv I j5 n X e7) j f t=ux I j5 n f (al j X) (al j e7) (c4 (λa=>t a f) ()):=by simp only[G,ux];generalize al j X=b;generalize al j e7=c;rfl
def uy{c:R->Option R}{a:R->Prop}{k:cy a}(o:nq f e j5 c)(p:dp j5 g)
  (r:∀v,c (.agg g)=β v->a (if I then .aJ [v,.v (.bool η)]else v)) (x:c (.agg g)=ζ->a (if I then .aJ [n,.v (.bool ι)]else n)):ux I j5 n f (.ff e) (.agg g) (c4 a k):=by
 obtain⟨y,C,z,d⟩:=o;simp only[ux,z];refine⟨p,d.keys,?_⟩;have b:=d.val (.agg g);cases h:dM y (.agg g) 0 with
 |none=>rw[h]at b;exact x b.symm
 |some D=>rw[h]at b;exact r _ b.symm
def uz(a:List (Nat×cb))(b:U)(d h v:R)(k:U->Prop):Prop:=
 match d,h with
 |.ff c,.agg cs=>match b c with
  |some (.mp us clock)=>dp a cs/\rU a us/\k (b.set c (.mp (lk us (.agg cs) v clock).1 (lk us (.agg cs) v clock).2))
  |_=>False
 |_,_=>False
def XR{v:Operand}:G K (.lo j5 X e7 v) j f t=uz j5 f (al j X) (al j e7) (al j v) (c4 (λa=>t (.aJ []) a) ()):=by simp only[G,uz];generalize al j X=b;generalize al j e7=c;rfl
def D7{v:R}{c:R->Option R}{a:U->Prop}{o:cy a}(p:nq f e j5 c)(d:dp j5 g)
  (r:∀h,nq (f.set e h) e j5 (jq c (.agg g) v)->a (f.set e h)):uz j5 f (.ff e) (.agg g) v (c4 a o):=by
 obtain⟨x,z,y,b⟩:=p;simp only[uz,y];refine⟨d,b.keys,r _ ⟨_,_,ξ _ _ _,?_⟩⟩;unfold lk;cases k:dM x (.agg g) 0 with
 |none=>exact b.push d k
 |some C=>exact b.set k
end
theorem D8{a b:ϊ}:jn .neq (bo a) (bo b)=β (.v (.bool (!decide (a=b)))):=by grind[bo,sm,CT]
def qW{a b:ϊ}:jn .eql (bo a) (bo b)=β (.v (.bool (decide (a=b)))):=by simp only[bo,sm,CS a b];rfl
def XS:xA f (.J (w.map aj) N)=β (bo w):=Xf CZ
def pG{a:ϊ}{b:Own}:np (.J (a.map aj) b)=β (bo a):=CU
def nr(k:(∀a,R.J a .nil∈g->a=[])->AC m b4 g f t):AC m b4 g f t:=λb o p c r=>by
 refine k (λa x=>?_) b o p c r;obtain⟨d,y,z⟩:=a8a x;have h:=c.2 d _ (by rw[Ρ y,z]);generalize b.getD d undef=v at h;cases h with
 |di=>rfl
 |J C off len cap D E a F hk hlen G L P hH S T=>trivial
def XT:=
 υ @XP<|
 υ @XQ<|
 @XR
def XU:=
 υ @D8<|
 υ @qW<|
 υ @XS<|
 @pG
def qX:=υ hZ (υ sw (υ D3 XT))
def XV:=υ ia<|υ eP<|υ sx<|υ D4 XU
attribute [go_sem ↓] qX
attribute [go_sem] XV a8G ne_eq not_true_eq_false not_false_eq_true a9c a9n al ofConst cv
def ak(a:Q)(b:h3)(c:Q->b6=h3:=by intro d;simp -dsimp -implicitDefEqProofs (disch:=first|omega|assumption|(simp only[aW,Nat.reduceAdd];try omega)) only[go_sem,simprocAttr,-List.reduceReplicate,d];rfl):b6:=(c a).mpr b
def bU(a:b6)(b:Q=b6:=by simp -dsimp -implicitDefEqProofs (disch:=first|omega|assumption|(simp only[aW,Nat.reduceAdd];try omega)) only[go_sem,simprocAttr,-List.reduceReplicate];rfl):Q:=b.mpr a
def aG(a:Q)(b:h3)(c:Q->b6=h3:=by intro d;simp -dsimp -implicitDefEqProofs (disch:=first|omega|assumption|(simp only[aW,Nat.reduceAdd];try omega)) only[go_sem,simprocAttr,d];rfl):b6:=(c a).mpr b
def er(a:b6)(b:Q=b6:=by simp -dsimp -implicitDefEqProofs (disch:=first|omega|assumption|(simp only[aW,Nat.reduceAdd];try omega)) only[go_sem,simprocAttr];rfl):Q:=b.mpr a
def cf(a:Q)(b:Q->b6=True:=by intro c;simp -dsimp -implicitDefEqProofs (disch:=first|omega|assumption|(simp only[aW,Nat.reduceAdd];try omega)) only[go_sem,simprocAttr,-List.reduceReplicate,c]):b6:=of_eq_true (b a)
def kD(a:Q=True:=by simp -dsimp -implicitDefEqProofs (disch:=first|omega|assumption|(simp only[aW,Nat.reduceAdd];try omega)) only[go_sem,simprocAttr,-List.reduceReplicate]):Q:=of_eq_true a
def gQ(a:Q)(b:Q->b6=True:=by intro c;simp -dsimp -implicitDefEqProofs (disch:=first|omega|assumption|(simp only[aW,Nat.reduceAdd];try omega)) only[go_sem,simprocAttr,c]):b6:=of_eq_true (b a)
def qY(a:Q=True:=by simp -dsimp -implicitDefEqProofs (disch:=first|omega|assumption|(simp only[aW,Nat.reduceAdd];try omega)) only[go_sem,simprocAttr]):Q:=of_eq_true a
def c2(a:Q)(b:b6):Q/\b6:=⟨a,b⟩
def aE(a:Q)(b:b6)(c:h3):Q/\b6/\h3:=⟨a,b,c⟩
def aL(a:Q)(b:b6)(c:h3)(d:j3):Q/\b6/\h3/\j3:=⟨a,b,c,d⟩
def bh(a:Q)(b:b6)(c:h3)(d:j3)(h:j7):Q/\b6/\h3/\j3/\j7:=⟨a,b,c,d,h⟩
def bz{a:Prop}(b:Q)(c:b6)(d:h3)(h:j3)(k:j7)(o:a):Q/\b6/\h3/\j3/\j7/\a:=⟨b,c,d,h,k,o⟩
def c7{a b:Prop}(c:Q)(d:b6)(h:h3)(k:j3)(o:j7)(p:a)(r:b):Q/\b6/\h3/\j3/\j7/\a/\b:=⟨c,d,h,k,o,p,r⟩
def bw{a b c:Prop}(d:Q)(h:b6)(k:h3)(o:j3)(p:j7)(r:a)(x:b)(y:c):Q/\b6/\h3/\j3/\j7/\a/\b/\c:=⟨d,h,k,o,p,r,x,y⟩
def cO{a b c d:Prop}(h:Q)(k:b6)(o:h3)(p:j3)(r:j7)(x:a)(y:b)(z:c)(C:d):Q/\b6/\h3/\j3/\j7/\a/\b/\c/\d:=⟨h,k,o,p,r,x,y,z,C⟩
def cg{a b c d h:Prop}(k:Q)(o:b6)(p:h3)(r:j3)(x:j7)(y:a)(z:b)(C:c)(D:d)(E:h):Q/\b6/\h3/\j3/\j7/\a/\b/\c/\d/\h:=⟨k,o,p,r,x,y,z,C,D,E⟩
def fF{a b c d h k:Prop}(o:Q)(p:b6)(r:h3)(x:j3)(y:j7)(z:a)(C:b)(D:c)(E:d)(F:h)(G:k):Q/\b6/\h3/\j3/\j7/\a/\b/\c/\d/\h/\k:=⟨o,p,r,x,y,z,C,D,E,F,G⟩
def gq{a b c d h k o:Prop}(p:Q)(r:b6)(x:h3)(y:j3)(z:j7)(C:a)(D:b)(E:c)(F:d)(G:h)(L:k)(P:o):Q/\b6/\h3/\j3/\j7/\a/\b/\c/\d/\h/\k/\o:=⟨p,r,x,y,z,C,D,E,F,G,L,P⟩
def lB{a b c d h k o p:Prop}(r:Q)(x:b6)(y:h3)(z:j3)(C:j7)(D:a)(E:b)(F:c)(G:d)(L:h)(P:k)(S:o)(T:p):Q/\b6/\h3/\j3/\j7/\a/\b/\c/\d/\h/\k/\o/\p:=⟨r,x,y,z,C,D,E,F,G,L,P,S,T⟩
def gr{a b c d h k o p r:Prop}(x:Q)(y:b6)(z:h3)(C:j3)(D:j7)(E:a)(F:b)(G:c)(L:d)(P:h)(S:k)(T:o)(V:p)(W:r):Q/\b6/\h3/\j3/\j7/\a/\b/\c/\d/\h/\k/\o/\p/\r:=⟨x,y,z,C,D,E,F,G,L,P,S,T,V,W⟩
def pH{a b c d h k o p r x:Prop}(y:Q)(z:b6)(C:h3)(D:j3)(E:j7)(F:a)(G:b)(L:c)(P:d)(S:h)(T:k)(V:o)(W:p)(e:r)(f:x):Q/\b6/\h3/\j3/\j7/\a/\b/\c/\d/\h/\k/\o/\p/\r/\x:=⟨y,z,C,D,E,F,G,L,P,S,T,V,W,e,f⟩
def oq{a b c d h k o p r x y:Prop}(z:Q)(C:b6)(D:h3)(E:j3)(F:j7)(G:a)(L:b)(P:c)(S:d)(T:h)(V:k)(W:o)(e:p)(f:r)(g:x)(i:y):Q/\b6/\h3/\j3/\j7/\a/\b/\c/\d/\h/\k/\o/\p/\r/\x/\y:=⟨z,C,D,E,F,G,L,P,S,T,V,W,e,f,g,i⟩
def ot{a b c d h k o p r x y z:Prop}(C:Q)(D:b6)(E:h3)(F:j3)(G:j7)(L:a)(P:b)(S:c)(T:d)(V:h)(W:k)(e:o)(f:p)(g:r)(i:x)(j:y)(l:z):Q/\b6/\h3/\j3/\j7/\a/\b/\c/\d/\h/\k/\o/\p/\r/\x/\y/\z:=⟨C,D,E,F,G,L,P,S,T,V,W,e,f,g,i,j,l⟩
def D9{a b c d h k o p r x y z C:Prop}(D:Q)(E:b6)(F:h3)(G:j3)(L:j7)(P:a)(S:b)(T:c)(V:d)(W:h)(e:k)(f:o)(g:p)(i:r)(j:x)(l:y)(m:z)(n:C):Q/\b6/\h3/\j3/\j7/\a/\b/\c/\d/\h/\k/\o/\p/\r/\x/\y/\z/\C:=⟨D,E,F,G,L,P,S,T,V,W,e,f,g,i,j,l,m,n⟩
def ou{a b c d h k o p r x y z C D E:Prop}(F:Q)(G:b6)(L:h3)(P:j3)(S:j7)(T:a)(V:b)(W:c)(e:d)(f:h)(g:k)(i:o)(j:p)(l:r)(m:x)(n:y)(q:z)(s:C)(t:D)(u:E):Q/\b6/\h3/\j3/\j7/\a/\b/\c/\d/\h/\k/\o/\p/\r/\x/\y/\z/\C/\D/\E:=⟨F,G,L,P,S,T,V,W,e,f,g,i,j,l,m,n,q,s,t,u⟩
section
def XW:G K (.mX X) j f t=dx (rW (al j X)) (c4 (λa=>t a f) ()):=by simp only[G];rfl
def XX:rW (.aq i v e M)=β (.v (.int .i64 e)):=rfl
def XY:rW (.J [] .nil)=β (.v (.int .i64 0)):=rfl
def cn(d:Nat)(x:R)(h k o:Option R):Option R:=
 match x with
 |.aq p len cap r=>match cF h 0,cF k len,cF o cap with
  |some a,β c,β b=>if r=d/\0<=a/\a<=c/\c<=b/\b<=cap then
    β (if h.isSome=η then(if a<b then .bE p (a.toNat*d) (c.toNat - a.toNat) (b.toNat - a.toNat) d else .J [] .zero)else .aq p c.toNat b.toNat d)
   else ζ
  |_,_,_=>ζ
 |.bE p off len cap r=>match cF h 0,cF k len,cF o cap with
  |some a,β c,β b=>if r=d/\0<=a/\a<=c/\c<=b/\b<=cap then
    β (if a<b then .bE p (off+a.toNat*d) (c.toNat - a.toNat) (b.toNat - a.toNat) d else .J [] .zero)
   else ζ
  |_,_,_=>ζ
 |.J [] .nil=>match cF h 0,cF k 0,cF o 0 with
  |some a,β c,β b=>if a=0/\c=0/\b=0 then β (.J [] .nil)else ζ
  |_,_,_=>ζ
 |.J [] .zero=>match cF h 0,cF k 0,cF o 0 with
  |some a,β c,β b=>if a=0/\c=0/\b=0 then β (.J [] .zero)else ζ
  |_,_,_=>ζ
 |_=>ζ
def XZ{a b c:Option Operand}:rX j e n a b c=cn e n (a.map (al j)) (b.map (al j)) (c.map (al j)):=by simp only[rX,cn,xr,Option.isSome_map];rfl
def Y0{a b c:Option Operand}:G K (.mf e X a b c) j f t=dx (cn e (al j X) (a.map (al j)) (b.map (al j)) (c.map (al j))) (c4 (λd=>t d f) ()):=by simp only[G,XZ];rfl
theorem ib(a:v<=i):cn e (.aq M b9 i e) ζ (β (.v (.int e1 (v:Int)))) ζ=β (.aq M v i e):=by grind[cn,cF,intOf]
theorem gu(a:e<=v)(b:v<=M)(c:e<M):cn i (.aq b9 v M i) (β (.v (.int e1 (e:Int)))) ζ ζ=β (.bE b9 (e*i) (v - e) (M - e) i):=by grind[cn,cF,intOf]
def uA(a:e=v):cn i (.aq M e v i) (β (.v (.int e1 (e:Int)))) ζ ζ=β (.J [] .zero):=by subst a;simp[cn,cF,intOf]
theorem Da{a:IntKind}(b:e<=M)(c:M<=v)(d:e<v):cn i (.aq b9 j1 v i) (β (.v (.int e1 (e:Int)))) (β (.v (.int a (M:Int)))) ζ=β (.bE b9 (e*i) (M - e) (v - e) i):=by grind[cn,cF,intOf]
def Y1:cn e (.J [] .zero) (β (.v (.int e1 0))) ζ ζ=β (.J [] .zero):=by rfl
def Y2:cn e (.J [] .nil) (β (.v (.int e1 0))) ζ ζ=β (.J [] .nil):=by rfl
def xG:cn e (.J [] .nil) ζ (β (.v (.int e1 0))) ζ=β (.J [] .nil):=by rfl
def Db(a:Option U)(b:U->Prop):Prop:=
 match a with
 |some c=>b c
 |none=>False
def Y3{a:U->Prop}{b:cy a}:Db (β f) (c4 a b)=a f:=rfl
def Dc(a:Option (R×U))(b:R->U->Prop):Prop:=
 match a with
 |some (c,d)=>b c d
 |none=>False
def Y4{a:cy t}:Dc (β (n,f)) (bX t a)=t n f:=rfl
def Y5:G K (.mY e g X) j f t=Db (lq e g (al j X) f) (c4 (λa=>t (.aJ []) a) ()):=by simp only[G];rfl
def Y6:G K (.mZ e X e7) j f t=Dc (mg e (al j X) (al j e7) f) (bX t ()):=by simp only[G];rfl
def Y7:G K (.nd X e7) j f t=dx (lr (al j X) (al j e7) f) (c4 (λa=>t a f) ()):=by simp only[G];rfl
def xH(a:f i=β (.cells g))(b:v+M*e<=α g):lq e H (.bE i v M b9 e) f=β (f.set i (.cells (putAt g v (ε M H).flatten))):=by simp[lq,a,b]
def Y8:lq e g (.J [] N) f=β f:=rfl
def hD(a:bW f e n=β (b9,H))(b:f v=β (.cells g))(c:M+i*e<=α g):mg e (.bE v M i j1 e) n f=β (.v (.int .i64 (min b9 i:Nat)),f.set v (.cells (putAt g M (H.take (i*e))))):=by simp[mg,a,b,c]
def xI(a:cN n=β e)(b:cN b5=β i)(c:e≠i)(d:ky f e=η)(h:ky f i=η):lr n b5 f=β (.v (.bool ι)):=by simp[lr,a,b,c,d,h]
def qZ(a:f e=β (.cells g))(b:g≠[]):ky f e=true:=by
 cases g with
 |nil=>trivial
 |cons c g=>simp[ky,a]
def sz(c p:Nat)(r:ύ)(k:U)(y z:R)(x:R->U->Prop):Prop:=
 match y,z with
  |.aq C d cap D,.v (.int .i64 a)=>match k.read C with
   |some cs=>D=c/\α cs=cap*c/\0<=a/\cap<d+a.toNat/\(d+a.toNat)*p<=140737488355328/\d+a.toNat<=9223372036854775807/\
    ∀h b o,k h=ζ->d+a.toNat<=b->b<=maxLen->α o=(b -(d+a.toNat))*c->x (.aq h (d+a.toNat) b c) (k.set h (.cells (cs.take (d*c)++(ε a.toNat r).flatten++o)))
   |none=>False
  |.J xs E,.v (.int .i64 a)=>xs=[]/\E=.nil/\0<a/\a.toNat*p<=140737488355328/\a<=9223372036854775807/\
    ∀h b o,k h=ζ->a.toNat<=b->b<=maxLen->α o=(b - a.toNat)*c->x (.aq h a.toNat b c) (k.set h (.cells ((ε a.toNat r).flatten++o)))
  |_,_=>False
def Y9:G K (.nc e i g X e7) j f t=sz e i g f (al j X) (al j e7) (bX t ()):=rfl
def xJ{d:cy t}(h:f j1=β (.cells g))(k:α g=M*v)(o:M<e+i)(p:(e+i)*b9<=140737488355328)(r:e+i<=9223372036854775807)
  (x:∀b a c,f b=ζ->e+i<=a->a<=maxLen->α c=(a -(e+i))*v->t (.aq b (e+i) a v) (f.set b (.cells (g.take (e*v)++(ε i H).flatten++c)))):sz v b9 H f (.aq j1 e M v) (.v (.int .i64 (i:Int))) (bX t d):=by
 simp only[sz,U.ae h,a7L];exact⟨trivial,k,δ,o,p,r,x⟩
def Dd{d:cy t}(o:0<e)(h:e*v<=140737488355328)(p:e<=9223372036854775807)
  (k:∀b a c,f b=ζ->e<=a->a<=maxLen->α c=(a - e)*i->t (.aq b e a i) (f.set b (.cells ((ε e g).flatten++c)))):sz i v g f (.J [] .nil) (.v (.int .i64 (e:Int))) (bX t d):=by
 simp only[sz,a7L];exact⟨trivial,trivial,δ,h,δ,k⟩
def View(c:U)(h:R)(k:U)(o:R):Prop:=∀(a:bn)(b:World)(v:Value),Holds a c b->aZ a v h->∃d,Step a c b d k b/\aZ d v o
def AC.view(k:AC m b4 g f t)(o:∀a b,t a b->∃c d,View b a d c/\Z c d):AC m b4 g f Z:=
 λp r x y z=>(k p r x y z).mono λ_ _ C=>by
  obtain⟨v,a,D,b,E,h,F,G⟩:=C;obtain⟨c,d,L,P⟩:=o a b G;obtain⟨S,T,V⟩:=L D _ v h.holds F;exact⟨v,c,S,d,E,h.trans T,V,P⟩
def View.refl{a:U}{b:R}:View a b a b:=λc k v d h=>⟨c,.refl d,h⟩
theorem View.J{s:U}{a:ύ}{o:Own}:View s (.J a o) s (.J a .any):=λb E v c d=>by
 refine⟨b,.refl c,?_⟩;cases d with
 |di h cap dv bZ k=>exact .di h cap .any bZ trivial
 |J p off len cap r x a dv hk hlen y z C hH D k=>exact .J p off len cap r x a .any hk hlen y z C hH D trivial
theorem View.aq{b:U}{c n cap k:Nat}{a:ύ}(h:b c=β (.cells a))(o:n*k<=α a):View b (.aq c n cap k) (b.set c (.ro a)) (.J (eB k n a) .any):=λy z v p r=>by
 obtain⟨x,d⟩:=Step.freeze p h;exact⟨x,d,aZ.frozen d.holds (ξ _ _ _) o (r.mono d.le)⟩
theorem mr:eB 1 e g=g.take e:=by rfl
theorem Ya(c:i<=v):eB e i (g.take (v*e))=eB e i g:=by
 unfold eB;by_cases hk:e=1;grind
 .simp only[hk,if_false];refine a8W λa b=>?_;have b:a<i:=by simpa using b
  have d:a*e+e<=v*e:=by have:(a+1)*e<=v*e:=a7D _ δ;grind
  rw[a8H,a8B,a8Y δ]
theorem View.dK(o:av s f e g n):∃a d,α g=a*e/\s.sub d/\View f n d (.J (eB e a g) .any):=by
 obtain⟨b,p⟩:=o;rcases p with⟨rfl,rfl|rfl⟩|⟨h,a,F,r,rfl,x,y,G,z,C,L,P⟩
 .refine⟨0,f,ς,b,?_⟩;grind[eB,View.J]
 .refine⟨0,f,ς,b,?_⟩;grind[eB,View.J]
 .refine⟨a,f.set h (.ro r),C,λk D c=>?_,?_⟩
  .have E:k≠h:=by rintro rfl;rw[x]at c;cases c
   rw[ο _ _ E];exact b k D c
  .rw[<-z,Ya (a7T a)];exact View.aq y (by grind)
theorem View.trans{a b c:U}{d h k:R}(r:View a d b h)(x:View b h c k):View a d c k:=λy o v z C=>by
 obtain⟨D,p,E⟩:=r y o v z C;obtain⟨F,G,L⟩:=x D o v p.holds E;exact⟨F,p.trans G,L⟩
theorem View.aJ{c d:U}{b h:R}{a k:ύ}(x:View c b d h):View c (.aJ (a++b::k)) d (.aJ (a++h::k)):=λy z v C D=>by
 cases D with
 |aJ E cs F o=>
  have G:=o (α a) b ς;obtain⟨L,p,S⟩:=x y z _ C G;refine⟨L,p,.aJ E _ (by simpa using F) λr P T=>?_⟩;by_cases V:r=α a;simp_all
  .refine(o r P ?_).mono p.le;grind
theorem View.agg{d h:U}{b c:R}{a k:ύ}(S:c.one=η)(x:View d b h c):View d (.agg (a++b::k)) h (.agg (a++c::k)):=λy z v C D=>by
 cases D with
 |agg E cs T F o=>
  have G:=o (α a) b ς;obtain⟨L,p,V⟩:=x y z _ C G;refine⟨L,p,.agg E _ (λW e=>?_) (by simpa using F) λr P f=>?_⟩;grind;by_cases g:r=α a;simp_all
  .refine(o r P ?_).mono p.le;grind
end
def eS:=
 υ @XW<|
 υ @Y0<|
 υ @Y5<|
 υ @Y6<|
 υ @Y7<|
 υ @Y9<|
 υ @Y3<|
 υ @Y4<|
 υ @XX<|
 υ @XY<|
 @xG
def dL(a:Q)(b:h3)(c:Q->b6=h3:=by intro d;simp -dsimp -implicitDefEqProofs (disch:=first|omega|assumption|(simp only[aW,Nat.reduceAdd];try omega)) only[go_sem,simprocAttr,-List.reduceReplicate,↓eS,d];rfl):b6:=(c a).mpr b
def De(a:b6)(b:Q=b6:=by simp -dsimp -implicitDefEqProofs (disch:=first|omega|assumption|(simp only[aW,Nat.reduceAdd];try omega)) only[go_sem,simprocAttr,-List.reduceReplicate,↓eS];rfl):Q:=b.mpr a
def wr:eC->ϋ
 |.plain ops|.draw ops _=>ops.filterMap (·.dst)
 |.seq a b|.cond _ a b=>wr a++wr b
 |.block _ a|.loop a=>wr a
 |_=>[]
def hE(b:ϋ)(c d:Fr):Prop:=∀a,a∉b->d a=c a
theorem hE.trans{a:ϋ}{b c d:Fr}(o:hE a b c)(p:hE a c d):hE a b d:=λh k=>(p h k).trans (o h k)
def hE.put{c:ϋ}{b:Option Nat}(d:∀a,b=β a->a∈c):hE c j (dj j b n):=λa h=>ub j b n a λk=>h (d a k)
section
def Df{a:ϋ}{k:Fr->U->Prop}{o:Fr}:∀(b:List ca),(∀c∈b,∀p,c.dst=β p->p∈a)->∀(j:Fr)(f:U),hE a o j->ji K b k j f->ji K b (λr d=>k r d/\hE a o r) j f
 |[],_,j,f,cr,h=>⟨h,cr⟩
 |c::y,x,j,f,cr,h=>ni (λE d z=>Df y (λC D=>x C (a8L _ D)) _ d (cr.trans (hE.put (x c (a9k ..)))) z) h
def Dg{b:ϋ}{c:Nat->ca}{h:Fr->U->Prop}{k:Fr}(o:∀z p,(c z).dst=β p->p∈b):∀(r:List dg)(j:Fr)(f:U),hE b k j->can K c h r j f->can K c (λx d=>h x d/\hE b k x) r j f
 |[],j,f,cr,a=>⟨a,cr⟩
 |C::D,j,f,cr,a=>⟨a.1,ni (λE d y=>⟨y.1,Dg o D _ d (cr.trans (hE.put (o C.i))) y.2⟩) a.2⟩
theorem ov{r:ϋ}:∀(x:eC),(∀b∈wr x,b∈r)->∀ {o:gm->Fr->U->Prop}{d:Fr} (j:Fr) (f:U),hE r d j->c3 K x o j f->c3 K x (λh C E=>o h C E/\hE r d C) j f
 |.skip,_,_,_,j,f,cr,a=>⟨a,cr⟩
 |.ret,_,_,_,j,f,cr,a=>⟨a,cr⟩
 |.exit _,_,_,_,j,f,cr,a=>⟨a,cr⟩
 |.plain ops,hw,_,_,j,f,cr,a=>Df ops (λF G b p=>hw b (aaC.2 ⟨F,G,p⟩)) j f cr a
 |.draw ops L,hw,_,_,j,f,cr,a=>Dg (λy b p=>by
   refine hw b (aaC.2 ?_);grind[nth,List.mem_of_getElem?]) L j f cr a
 |.seq c z,hw,o,d,j,f,cr,a=>jo c (λh j f a=>by
   cases h with
   |norm=>exact ov z (λb k=>hw b (a9w _ k)) j f a.2 a.1
   |exit y=>exact a
   |ret=>exact a) j f (ov c (λb k=>hw b (a9B _ k)) j f cr a)
 |.block y c,hw,o,d,j,f,cr,a=>jo c (λh j f a=>by
   cases h with
   |norm=>exact a
   |exit e=>obtain⟨P,g⟩:=a;simp only[ly]at P|-;split<;>(simp_all)
   |ret=>exact a) j f (ov c hw j f cr a)
 |.cond x c z,hw,o,d,j,f,cr,a=>by
   simp only[xl,Co,kA]at a|-;split at a
   .exact⟨λp=>ov c (λb k=>hw b (a9B _ k)) j f cr (a.1 p),λp=>ov z (λb k=>hw b (a9w _ k)) j f cr (a.2 p)⟩
   .trivial
 |.loop c,hw,o,d,j,f,cr,a=>by
   obtain⟨S,T,V,W⟩:=a;refine⟨λj f=>S j f/\hE r d j,T,⟨V,cr⟩,λj f D=>jo c (λh j f a=>?_) j f (ov c hw j f D.2 (W j f D.1))⟩;cases h with
   |norm=>exact⟨⟨a.1.1,a.2⟩,a.1.2⟩
   |exit y=>exact a
   |ret=>exact a
def gR(a:Fr):List (Nat×R)->Prop
 |[]=>True
 |b::c=>a b.1=b.2/\gR a c
def Yb:gR j []=True:=rfl
def Yc{v:R}:gR j [(e,v)]=(j e=v):=by simp[gR]
def Yd{v:R}{a:Nat×R}{b:List (Nat×R)}:gR j ((e,v)::a::b)=(j e=v/\gR j (a::b)):=rfl
def hb(a:Fr):List (Nat×R)->Fr
 |[]=>a
 |b::c=>dj (hb a c) (β b.1) b.2
def Ye:hb j []=j:=rfl
def Yf{v:R}{a:List (Nat×R)}:hb j ((e,v)::a)=dj (hb j a) (β e) v:=rfl
theorem sA{a:Fr}:∀ {b:List (Nat×R)},gR a b->hb a b=a
 |[],_=>rfl
 |d::o,c=>by
  rw[hb,sA c.2];funext h;by_cases k:h=d.1
  .subst k;rw[<-c.1];simp[dj,lZ]
  grind[ub,Option.some.inj]
def keeps(a:Fr):ϋ->List (Nat×R)
 |[]=>[]
 |b::c=>(b,a b)::keeps a c
def Yg:keeps j []=[]:=rfl
def Yh{a:ϋ}:keeps j (e::a)=(e,j e)::keeps j a:=rfl
def xK{b c:Fr}:∀ {d:ϋ},(∀a∈d,c a=b a)->gR c (keeps b d)
 |[],_=>trivial
 |a::p,h=>⟨h a (a9k ..),xK λk o=>h k (a8L _ o)⟩
theorem Dh:∀ {a:Nat},j6 a->∃a,j6 a/\∀b,j6 b->a<=b:=by
 intro a
 induction a using Nat.strongRecOn with
 |ind a ih=>grind
theorem cc(D:ϋ)(y:b0->List (Nat×R))(E:b0->U->Prop)(h:b0->Nat)(L:b0)
  (m:E L f/\gR j (y L)) (P:∀x c,E x c->∀d,c3 K h8 (eW (λn q=>∃a,E a q/\gR n (y a)/\h a<h x) e8) (hb (hb d (keeps j D)) (y x)) c)
  (I:D.all (λS=> !(wr h8).contains S)=true:=by kernel_rfl):cu (c3 K (.loop h8) e8 j f) ():=by
 classical
 let p:=λ(d) (c) (a)=>E a c/\gR d (y a)
 let z:=λ(d) (c)=>if C:∃k,(∃a,p d c a/\h a=k)/\∀o,(∃a,p d c a/\h a=o)->k<=o then C.choose else 0;refine⟨λd c=>(∃a,p d c a)/\hE (wr h8) j d,z,⟨⟨L,m⟩,λ_ _=>rfl⟩,λb r T=>?_⟩;have C:∃k,(∃a,p b r a/\h a=k)/\∀o,(∃a,p b r a/\h a=o)->k<=o:=by obtain⟨a,s⟩:=T.1;exact Dh ⟨a,s,rfl⟩
 obtain⟨⟨x,i,hm⟩,M⟩:=C.choose_spec;have t:gR b (keeps j D):=xK λS N=>T.2 S λO=>by
  simp_all
 have u:hb (hb b (keeps j D)) (y x)=b:=by rw[sA t,sA i.2]
 have l:=P x r i.1 b;rw[u]at l;refine jo h8 (λv F G V=>?_) b r (ov h8 (λ_ P=>P) b r T.2 l);cases v with
 |norm=>obtain⟨⟨a,W,e,w⟩,A⟩:=V;refine⟨⟨⟨a,W,e⟩,A⟩,?_⟩;have g:∃k,(∃a,p F G a/\h a=k)/\∀o,(∃a,p F G a/\h a=o)->k<=o:=Dh ⟨a,⟨W,e⟩,rfl⟩;show z F G<z b r;have B:z F G=g.choose:=dif_pos g;have H:z b r=C.choose:=dif_pos C;rw[B,H];exact Nat.lt_of_le_of_lt (g.choose_spec.2 _ ⟨a,⟨W,e⟩,rfl⟩) (by rw[<-hm];exact w)
 |exit Q=>exact V.1
 |ret=>exact V.1
end
theorem gv(d:ϋ)(b:b0->List (Nat×R))(c:b0->Prop)(h:b0->Nat)(k:b0)
  (x:c k) (y:gR j (b k)) (z:∀a,c a->∀o,c3 K h8 (eW (λC D=>∃p,D=f/\c p/\gR C (b p)/\h p<h a) e8) (hb (hb o (keeps j d)) (b a)) f)
  (E:d.all (λF=> !(wr h8).contains F)=true:=by kernel_rfl):cu (c3 K (.loop h8) e8 j f) ():=
 cc d b (λa r=>r=f/\c a) h k ⟨⟨rfl,x⟩,y⟩ (λa r G o=>by
  obtain⟨rfl,L⟩:=G;refine jo h8 (λP S T V=>?_) _ _ (z a L o);grind) E
def uB:=
 υ @Yb<|
 υ @Yc<|
 υ @Yd<|
 υ @Ye<|
 υ @Yf<|
 υ @Yg<|
 @Yh
def U.uC(a:f e=ζ)(b:s.sub f):s e=none:=U.bK b a
def U.Yi(c:f e=ζ):f.sub (s.set e Y)=f.sub s:=propext ⟨λa d h b=>by
 have k:d≠e:=by rintro rfl;rw[c]at b;cases b
 have:=a d h b;rwa[ο _ _ k]at this,λa=>U.ag a c⟩
def U.sub_self:f.sub f=True:=eq_true U.a6
def Yj:(∃b,b.sub s/\f.sub b)=f.sub s:=propext ⟨λ⟨_,a,h⟩ c d k=>a c d (h c d k),λa=>⟨f,a,U.a6⟩⟩
def Yk:(∃b,b.sub s/\b=f)=f.sub s:=propext ⟨λ⟨_,a,c⟩=>by subst c;exact a,λa=>⟨f,a,rfl⟩⟩
def Yl:sv (bo w)=β (.v (.int .i64 (α w))):=xw
def Ym(a:e<α w):pC (bo w) (.v (.int e1 (e:Int)))=β (.v (.int .u8 (w.getD e 0).toNat)):=by have:=CV (w:=w) (e1:=e1) (b1:=(e)) δ δ;trivial
def ow:cz e (.J g N) (.v (.int e1 (i:Int)))=eo e g[i]? :=by rfl
def Yn:eo 1 (β (.v e5))=β (.bS [.v e5]):=rfl
def Yo:eo 1 (β (bo w))=β (.bS [bo w]):=rfl
def Yp:eo 1 (β (.J g N))=β (.bS [.J g N]):=rfl
def Yq:eo 1 (β (.ptr e i))=β (.bS [.ptr e i]):=rfl
def Yr[Decidable Q]:(!decide Q)=decide (¬Q):=decide_not.symm
def Ys:(xor ι I)=I:=a9Z I
def Yt:(∃b,b.sub s/\f.sub b/\Q)=(f.sub s/\Q):=propext ⟨λ⟨_,a,h,k⟩=>⟨λc d o=>a c d (h c d o),k⟩,λa=>⟨f,a.1,U.a6,a.2⟩⟩
def Yu:(∃b,b.sub s/\b=f/\Q)=(f.sub s/\Q):=propext ⟨λ⟨_,a,c,d⟩=>by subst c;trivial,λa=>⟨f,a.1,rfl,a.2⟩⟩
def Yv{a:b0}{b:List b0}:List.take (e+1) (a::b)=a::List.take e b:=rfl
def Yw{a:List b0}:List.take 0 a=[]:=rfl
def Yx:List.take e ([]:List b0)=[]:=List.take_nil
def Yy{a:List b0}:List.drop 0 a=a:=rfl
def Yz:putAt (b5::g) 0 (n::H)=n::putAt g 0 H:=by rfl
def YA:putAt g 0 []=g:=by rfl
def YB:putAt (n::g) (e+1) H=n::putAt g e H:=by simp[putAt,Nat.add_right_comm]
def YC{b:b0}{a:List b0}:(b::a).length=α a+1:=rfl
def YD:([]:List b0).length=0:=rfl
def YE:(bo w).cells=[bo w]:=rfl
def YF:(R.J g N).cells=[.J g N]:=rfl
def YG:(R.ptr e i).cells=[.ptr e i]:=rfl
def YH{v:Value}:(R.v v).cells=[.v v]:=rfl
theorem pI(a:e<=α g)(b:aY i g):dT i (.J g N) (β (.v (.int e1 (e:Int)))) ζ=β (.J (g.drop e) .any):=by grind[qT,Int.toNat_natCast]
def YI(a:e<α g)(b:aY i g):dT i (.J g N) (β (.v (.int e1 ((e:Int)+1)))) ζ=β (.J (g.drop (e+1)) .any):=pI (e:=e+1) a b
theorem YJ(a:e<=α g)(b:aY i g):dT i (.J g N) ζ (β (.v (.int e1 (e:Int))))=β (.J (g.take e) .any):=by grind[og,Int.toNat_natCast]
theorem YK{a:IntKind}(b:i<=e)(c:e<=α g)(d:aY v g):dT v (.J g N) (β (.v (.int e1 (i:Int)))) (β (.v (.int a (e:Int))))=β (.J ((g.take e).drop i) .any):=by grind[CM,Int.toNat_natCast]
def YL:(∃ _:Unit,True)=True:=eq_true ⟨(),trivial⟩
def YM{a:cy t}:jR e f [] (bX t a)=t (.J [] .zero) f:=by simp[jR,bX]
def YN:cz e (.J g N) (.v (.int e1 0))=eo e g[0]? :=ow (i:=0)
def YO:cz e (.J g N) (.v (.int e1 1))=eo e g[1]? :=ow (i:=1)
def uD:=
 υ @YN<|
 υ @YO<|
 υ @YL<|
 υ @pI<|
 υ @YI<|
 υ @YJ<|
 υ @YK<|
 υ @YE<|
 υ @YF<|
 υ @YG<|
 υ @YH<|
 υ @ξ<|
 υ @ο<|
 υ @Yz<|
 υ @YA<|
 υ @YB<|
 υ @YC<|
 υ @YD<|
 υ @Yv<|
 υ @Yw<|
 υ @Yx<|
 υ @Yy<|
 υ @U.Yi<|
 υ @U.sub_self<|
 υ @Yj<|
 υ @Yk<|
 υ @Yt<|
 υ @Yu<|
 υ @true_and<|
 υ @and_true<|
 υ @Yl<|
 υ @Ym<|
 υ @ow<|
 υ @Yn<|
 υ @Yo<|
 υ @Yp<|
 υ @Yq<|
 υ @hY<|
 υ @hY<|
 υ @CD<|
 υ @decide_true<|
 υ @decide_false<|
 υ @a8c<|
 υ @a8i<|
 υ @a8S<|
 υ @a9H<|
 υ @abo<|
 υ @Bool.and_false<|
 υ @Ys<|
 υ @Bool.true_xor<|
 υ @Yr<|
 @Decidable.not_not
theorem sB{a:Nat->Bool}(b:e<i)(c:a e=ι):(ω i).all a=false:=List.all_eq_false.2 ⟨e,a8C.2 b,by simp[c]⟩
theorem sC{a:Nat->Bool}(b:∀c<e,a c=η):(ω e).all a=true:=a7E.2 λd h=>b d (a8C.1 h)
def upto(b:∀a<e,j6 a)(c:j6 e):∀a<e+1,j6 a:=λa d=>(Nat.lt_or_eq_of_le (Nat.le_of_lt_succ d)).elim (b a) λh=>h▸c
def YP:R.v (.int e1 ((e:Int)+1))=.v (.int e1 ((e+1:Nat):Int)):=rfl
theorem r0{a:Bool}(b:(I=η)=(a=η):=by apply propext;(try dsimp only);(try simp (disch:=omega) only[if_pos,if_neg,Υ,a8Z,a8R,Bool.not_eq_eq_eq_not,a8c,a8i,decide_eq_true_eq,decide_eq_false_iff_not,a8o,false_iff,iff_false,true_iff,iff_true,true_and,and_true,false_and,and_false,false_or,or_false,true_or,or_true,iff_self, *])<;>omega):I=a:=by simp_all
theorem aR{a:Bool}(b:I=a:=by exact r0):R.v (.bool I)=.v (.bool a):=b▸rfl
theorem aV{a:Bool}(b:I=a):R.v (.bool I)=.v (.bool a):=by rw[b]
def U.uE(a:f.sub s)(b:f e=β Y):s e=β Y:=a _ _ b
def U.uF(a:bj f s i g N)(b:f e=β Y):s e=β Y:=a.sub _ _ b
def iL(c d:U):Prop:=∀a b,c a=β (.cells b)->d a=β (.cells b)
def U.sD(a:f.sub s):iL f s:=λc d b=>a _ _ b
theorem iL.trans(a:iL f s)(b:iL s e0):iL f e0:=λd h c=>b _ _ (a _ _ c)
def U.uG(a:iL f s)(b:f e=β (.cells g)):s e=β (.cells g):=a _ _ b
def U.uH{a:bu}(b:f e=β Y)(c:f i=ζ):(f.set i a) e=β Y:=U.ag U.a6 c _ _ b
def U.hc(b:f i=ζ)(a:f e=β Y):e≠i:=by rintro rfl;rw[b]at a;cases a
def a0(a:f e=β Y:=by first|assumption|exact ξ _ _ _):f e=β Y:=a
def a3(a:f e=β Y:=by first|exact a0|exact U.uH a2 abE|exact U.uE abE a2|exact U.uF abE a2|exact U.xL abE a2|exact U.uG abE a2):f e=β Y:=a
def a4(a:f e=β Y:=by first|exact a0|exact U.uH a3 abE|exact U.uE abE a3|exact U.uF abE a3|exact U.xL abE a3|exact U.uG abE a3):f e=β Y:=a
def a5(a:f e=β Y:=by first|exact a0|exact U.uH a4 abE|exact U.uE abE a4|exact U.uF abE a4|exact U.xL abE a4|exact U.uG abE a4):f e=β Y:=a
def dy(a:f e=β Y:=by first|exact a0|exact U.uH a5 abE|exact U.uE abE a5|exact U.uF abE a5|exact U.xL abE a5|exact U.uG abE a5):f e=β Y:=a
def fL(c:∀a b,f a=β (.cells b)->s a=β (.cells b):=by intro _ _ _;exact dy):iL f s:=c
def r1(c:∀a b,f a=β b->s a=β b:=by intro _ _ _;exact dy):f.sub s:=c
section
def eI(a:Q=b6:=by simp -dsimp -implicitDefEqProofs (disch:=first|omega|assumption|exact U.uC abE abE|(simp only[aW,Nat.reduceAdd];try omega)) only[go_sem,simprocAttr,-List.reduceReplicate,↓eS,uD,uB, *]<;>rfl):Q=b6:=a
def ic(a:Q=b6:=by first|exact eI|rfl):Q=b6:=a
def aa(a:b6)(b:Q=b6:=by exact ic):Q:=b.mpr a
def aO(a:Q=True:=by simp -dsimp -implicitDefEqProofs (disch:=first|omega|assumption|exact U.uC abE abE|(simp only[aW,Nat.reduceAdd];try omega)) only[go_sem,simprocAttr,-List.reduceReplicate,↓eS,uD,uB, *]):Q:=of_eq_true a
def aK(b:m.follows .mixedOrders=η){a:List (Nat×Option (Bool×Nat))}(c:dw m v e=β ⟨i,M,h8,a⟩)(d:Q)(h:α g<=i:=by simp)
  (k:c3 (Ctx.of m) h8 (qR a t) (ml g) f=Q:=by exact eI):AC m e g f t:=bd b c h (k.mpr d)
def bs{c:Nat->Prop}(d:∀a,f a=ζ->c a)(h:∀a,f a=ζ->j6 a=c a:=by intro a b;exact eI):jm f (c4 j6 ()):=λa b=>(h a b).mpr (d a b)
def U.set_nil(a:(f.set i Y) e=ζ):f e=ζ/\e≠i/\i≠e:=⟨(U.gP a).2,(U.gP a).1,(U.gP a).1.symm⟩
def dd{d:Nat->Prop}(o:∀a,f a=ζ->a≠e->e≠a->d a)(h:∀a,f a=ζ->a≠e->e≠a->j6 a=d a:=by intro a b c h;exact eI):jm (f.set e Y) (c4 j6 ()):=λa b=>by
 obtain⟨b,c,k⟩:=U.set_nil b;exact(h a b c k).mpr (o a b c k)
def hd{k:Nat->Prop}{r:bu}(x:∀a,f a=ζ->a≠e->e≠a->a≠i->i≠a->k a)(o:∀a,f a=ζ->a≠e->e≠a->a≠i->i≠a->j6 a=k a:=by intro a b c o d h;exact eI):jm ((f.set e Y).set i r) (c4 j6 ()):=λa b=>by
 obtain⟨b,d,h⟩:=U.set_nil b;obtain⟨b,c,p⟩:=U.set_nil b;exact(o a b c p d h).mpr (x a b c p d h)
def cl(c:AC m b4 g f Z)(d:∀a b,Z a b->t a b)(h:Q=oe K b4 g f (bX t ()):=by exact ic)(k:K.p=m:=by rfl):Q:=by subst k;exact h.mpr (ah c d)
def bp(a:AC K.p b4 g f λb c=>c=f/\b=n)(d:Q)(h:t n f=Q:=by exact eI):oe K b4 g f (bX t ()):=ah a λ_ _ a=>by rw[a.1,a.2];exact h.mpr d
theorem ns(c:AC m b4 g f λa b=>b=f/\a=n)(d:b6)(h:Q=oe K b4 g f (bX t ()):=by exact ic)(k:t n f=b6:=by exact ic)(o:K.p=m:=by rfl):Q:=by grind[ah]
theorem gs{c:U->Prop}(b:AC K.p b4 g f λd a=>f.sub a/\d=n)(h:∀a,f.sub a->c a)(k:∀a,f.sub a->t n a=c a:=by intro a b;exact eI):oe K b4 g f (bX t ()):=ah b λ_ a b=>by simp_all
def nt(a:Q=b6:=by first|(simp only[decide_eq_true_eq,decide_eq_false_iff_not,a8R,Bool.not_eq_false',a8c,a8i,Decidable.not_not]<;>rfl)|rfl):Q=b6:=a
def YQ{c:Prop}(k:(I=η)=Q:=by exact nt)(o:(I=ι)=b6:=by exact nt)(d:Q->h3=j7:=by intro;first|exact eI|rfl)(h:b6->j3=c:=by intro;first|exact eI|rfl):kA (.v (.bool I)) (cu h3 ()) (cu j3 ())=((Q->j7)/\(b6->c)):=by subst k o;exact propext ⟨λb=>⟨λa=>(d a).mp (b.1 a),λa=>(h a).mp (b.2 a)⟩,λb=>⟨λa=>(d a).mpr (b.1 a),λa=>(h a).mpr (b.2 a)⟩⟩
def YR{c:Bool}{d:Prop}(o:(I=c)=Q:=by exact nt)(p:(I= !c)=b6:=by exact nt)(h:Q->h3=j7:=by intro;first|exact eI|rfl)(k:b6->j3=d:=by intro;first|exact eI|rfl):hX (.v (.bool I)) c (cu h3 ()) (cu j3 ())=((Q->j7)/\(b6->d)):=by rw[UL];subst o p;exact propext ⟨λb=>⟨λa=>(h a).mp (b.1 a),λa=>(k a).mp (b.2 a)⟩,λb=>⟨λa=>(h a).mpr (b.1 a),λa=>(k a).mpr (b.2 a)⟩⟩
def aF(a:j3->b6)(b:j7->h3)(c:Q=((j3->b6)/\(j7->h3)):=by first|exact YQ|exact YR):Q:=c.mpr ⟨a,b⟩
def Di(a:Q:=by first|assumption|(simp only[decide_eq_true_eq,decide_eq_false_iff_not,a8R,Bool.not_eq_false',Decidable.not_not]<;>omega)):Q:=a
def YS(a:I=true:=by exact Di)(b:Q=b6:=by exact eI):kA (.v (.bool I)) (cu Q ()) (cu h3 ())=b6:=by subst a;exact Cp.trans b
def YT(a:I=false:=by exact Di)(b:Q=b6:=by exact eI):kA (.v (.bool I)) (cu h3 ()) (cu Q ())=b6:=by subst a;exact Cq.trans b
def iM(a:b6)(b:Q=b6:=by first|exact YS|exact YT|exact a6U|exact a6V):Q:=b.mpr a
end
end Go.bD
