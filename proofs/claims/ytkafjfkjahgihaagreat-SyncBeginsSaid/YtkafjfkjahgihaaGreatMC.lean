import Derived.Test.YtkafjfkjahgihaaGreatProg
import Derived.Test.YtkafjfkjahgihaaGreatMB
import Derived.KernelRfl
set_option linter.all false
open Option renaming some->β,none->ε
open Go.Proofs.Tryz renaming prog->γ
open List renaming replicate->δ,range->χ,length->α
open Bool renaming true->ζ,false->θ
open Go.bD.U renaming aj->μ,an->ξ,set_set->ς
open UInt8 renaming ofNat->ν
open BitVec renaming ofInt->π
open Go.bD.R renaming cells->ρ
set_option maxRecDepth 100000
namespace Go.Proofs.YtkafjfkjahgihaaGreat
open Go Go.bD
theorem hm:γ.follows .mixedOrders=true:=acw
abbrev iF:=Ψ
def KS:Nat->Operand
 |0=>(.const (.int .i64 0))
 |1=>(.const (.bool θ))
 |2=>(.const (.int .i64 1))
 |3=>(.const (.slice ε 0 0))
 |4=>(.const (.bool ζ))
 |5=>(.const (.pointer ε))
 |6=>(.const (.int .i64 8))
 |_=>(.const (.int .i64 4))
def KT:Nat->Operand
 |0=>(.const (.int .i64 2))
 |1=>(.const (.int .u8 2))
 |2=>(.const (.int .i64 (-1)))
 |3=>(.const (.int .u8 1))
 |4=>(.const (.int .u8 3))
 |5=>(.const (.int .i64 64))
 |6=>(.const (.int .i64 3))
 |_=>(.const (.int .u8 0))
def KU:Nat->Operand
 |0=>(.const (.int .i64 21))
 |1=>(.const (.int .i64 1048576))
 |2=>(.const (.int .i64 16))
 |3=>(.const (.int .u64 0))
 |4=>(.const (.int .i64 7))
 |5=>(.const (.int .i64 9))
 |6=>(.const (.int .u64 8))
 |_=>(.const (.int .u64 32))
def KV:Nat->Operand
 |0=>(.const (.int .i64 10))
 |1=>(.const (.int .u64 9223372036854775808))
 |2=>(.const (.int .i64 6))
 |3=>(.const (.int .i64 56))
 |4=>(.const (.int .i64 5))
 |5=>(.const (.int .u64 16))
 |6=>(.const (.int .u64 256))
 |_=>(.const (.int .i64 43))
def KW:Nat->Operand
 |0=>(.const (.int .i64 256))
 |1=>(.const (.int .u8 4))
 |2=>(.func 109)
 |3=>(.const (.int .i64 32))
 |4=>(.const (.string ⟨#[99,97,110,110,111,116,32,98,101,32,110,101,103,97,116,105,118,101]⟩))
 |5=>(.const (.int .u64 4294967295))
 |6=>(.const (.string ⟨#[116]⟩))
 |_=>(.const (.int .i64 100))
def KX:Nat->Operand
 |0=>(.const (.int .i64 20))
 |1=>(.const (.int .i64 30))
 |2=>(.func 117)
 |3=>(.const (.string ⟨#[105,100]⟩))
 |4=>(.const (.int .u8 128))
 |5=>(.const (.int .u64 24))
 |6=>(.const (.int .u8 80))
 |_=>(.const (.int .u32 1779033703))
def KY:Nat->Operand
 |0=>(.const (.int .u32 3144134277))
 |1=>(.const (.int .u32 1013904242))
 |2=>(.const (.int .u32 2773480762))
 |3=>(.const (.int .u32 1359893119))
 |4=>(.const (.int .u32 2600822924))
 |5=>(.const (.int .u32 528734635))
 |6=>(.const (.int .u32 1541459225))
 |_=>(.const (.int .i64 15))
def KZ:Nat->Operand
 |0=>(.const (.int .u32 1116352408))
 |1=>(.const (.int .u32 1899447441))
 |2=>(.const (.int .u32 3049323471))
 |3=>(.const (.int .u32 3921009573))
 |4=>(.const (.int .u32 961987163))
 |5=>(.const (.int .u32 1508970993))
 |6=>(.const (.int .u32 2453635748))
 |_=>(.const (.int .u32 2870763221))
def L0:Nat->Operand
 |0=>(.const (.int .u32 3624381080))
 |1=>(.const (.int .u32 310598401))
 |2=>(.const (.int .u32 607225278))
 |3=>(.const (.int .u32 1426881987))
 |4=>(.const (.int .u32 1925078388))
 |5=>(.const (.int .u32 2162078206))
 |6=>(.const (.int .u32 2614888103))
 |_=>(.const (.int .u32 3248222580))
def L1:Nat->Operand
 |0=>(.const (.int .u32 3835390401))
 |1=>(.const (.int .u32 4022224774))
 |2=>(.const (.int .u32 264347078))
 |3=>(.const (.int .u32 604807628))
 |4=>(.const (.int .u32 770255983))
 |5=>(.const (.int .u32 1249150122))
 |6=>(.const (.int .u32 1555081692))
 |_=>(.const (.int .u32 1996064986))
def L2:Nat->Operand
 |0=>(.const (.int .u32 2554220882))
 |1=>(.const (.int .u32 2821834349))
 |2=>(.const (.int .u32 2952996808))
 |3=>(.const (.int .u32 3210313671))
 |4=>(.const (.int .u32 3336571891))
 |5=>(.const (.int .u32 3584528711))
 |6=>(.const (.int .u32 113926993))
 |_=>(.const (.int .u32 338241895))
def L3:Nat->Operand
 |0=>(.const (.int .u32 666307205))
 |1=>(.const (.int .u32 773529912))
 |2=>(.const (.int .u32 1294757372))
 |3=>(.const (.int .u32 1396182291))
 |4=>(.const (.int .u32 1695183700))
 |5=>(.const (.int .u32 1986661051))
 |6=>(.const (.int .u32 2177026350))
 |_=>(.const (.int .u32 2456956037))
def L4:Nat->Operand
 |0=>(.const (.int .u32 2730485921))
 |1=>(.const (.int .u32 2820302411))
 |2=>(.const (.int .u32 3259730800))
 |3=>(.const (.int .u32 3345764771))
 |4=>(.const (.int .u32 3516065817))
 |5=>(.const (.int .u32 3600352804))
 |6=>(.const (.int .u32 4094571909))
 |_=>(.const (.int .u32 275423344))
def L5:Nat->Operand
 |0=>(.const (.int .u32 430227734))
 |1=>(.const (.int .u32 506948616))
 |2=>(.const (.int .u32 659060556))
 |3=>(.const (.int .u32 883997877))
 |4=>(.const (.int .u32 958139571))
 |5=>(.const (.int .u32 1322822218))
 |6=>(.const (.int .u32 1537002063))
 |_=>(.const (.int .u32 1747873779))
def L6:Nat->Operand
 |0=>(.const (.int .u32 1955562222))
 |1=>(.const (.int .u32 2024104815))
 |2=>(.const (.int .u32 2227730452))
 |3=>(.const (.int .u32 2361852424))
 |4=>(.const (.int .u32 2428436474))
 |5=>(.const (.int .u32 2756734187))
 |6=>(.const (.int .u32 3204031479))
 |_=>(.const (.int .u32 3329325298))
def L7:Nat->Operand
 |0=>(.const (.int .u32 0))
 |1=>(.const (.int .u64 1))
 |2=>(.const (.int .u32 256))
 |3=>(.const (.string ⟨#[108,101,110,32,111,117,116,32,111,102,32,114,97,110,103,101]⟩))
 |4=>(.const (.int .u64 2))
 |5=>(.const (.int .i64 2000))
 |6=>(.const (.string ⟨#[97]⟩))
 |_=>(.const (.int .i64 300))
def L8:Nat->Operand
 |0=>(.const (.int .i64 50))
 |1=>(.func 59)
 |2=>(.func 60)
 |3=>(.func 61)
 |4=>(.func 62)
 |5=>(.const (.int .u8 67))
 |6=>(.func 74)
 |_=>(.func 126)
def L9:Nat->Operand
 |0=>(.func 127)
 |1=>(.func 128)
 |2=>(.func 129)
 |3=>(.const (.int .i64 22))
 |4=>(.const (.int .i64 255))
 |5=>(.const (.int .i32 97))
 |6=>(.const (.int .i32 122))
 |_=>(.const (.int .i32 48))
def La:Nat->Operand
 |0=>(.const (.int .i32 57))
 |1=>(.const (.int .i32 95))
 |2=>(.const (.int .u8 97))
 |3=>(.const (.int .u8 122))
 |4=>(.const (.int .u8 48))
 |5=>(.const (.int .u8 57))
 |6=>(.const (.int .u8 95))
 |_=>(.const (.int .i64 17))
def Lb:Nat->Operand
 |0=>(.func 200)
 |1=>(.func 205)
 |2=>(.const (.int .i64 (-6)))
 |3=>(.const (.int .i64 (-11)))
 |4=>(.const (.int .i64 (-25)))
 |5=>(.const (.int .i64 (-2)))
 |6=>(.const (.int .i64 (-13)))
 |_=>(.const (.int .i64 (-22)))
def Lc:Nat->Operand
 |0=>(.const (.int .i64 12))
 |1=>(.func 237)
 |2=>(.const (.int .i64 (-9223372036854775808)))
 |3=>(.const (.int .i64 9223372036854775807))
 |4=>(.const (.int .u64 18446744073709551615))
 |5=>(.const (.int .i64 1000))
 |6=>(.const (.int .i64 (-7)))
 |_=>(.const (.int .i64 (-18)))
def Ld:Nat->Operand
 |0=>(.const (.int .u64 3))
 |1=>(.const (.int .i64 (-17)))
 |2=>(.const (.int .i64 (-19)))
 |3=>(.const (.int .u64 10))
 |4=>(.const (.int .u64 31))
 |5=>(.const (.int .u64 4294967296))
 |6=>(.const (.int .u64 65536))
 |_=>(.const (.string ⟨#[]⟩))
def Le:Nat->Operand
 |0=>(.const (.int .u64 9223372036854775807))
 |1=>(.const (.string ⟨#[116,104,101,32,114,101,115,117,108,116,32,111,102,32,40,108,101,110,40,120,41,32,42,32,99,111,117,110,116,41,32,111,118,101,114,102,108,111,119,115]⟩))
 |2=>(.const (.int .i64 65536))
 |3=>(.func 337)
 |4=>(.func 338)
 |5=>(.const .nilFunc)
 |6=>(.const (.int .i64 24))
 |_=>(.const (.int .i64 63))
def Lf:Nat->Operand
 |0=>(.const (.int .u64 7))
 |1=>(.const (.int .u64 18))
 |2=>(.const (.int .u32 8))
 |3=>(.const (.int .u64 17))
 |4=>(.const (.int .u64 19))
 |5=>(.const (.int .u32 1024))
 |6=>(.const (.int .u32 4294967295))
 |_=>(.const (.int .u64 6))
def Lg:Nat->Operand
 |0=>(.const (.int .u64 11))
 |1=>(.const (.int .u64 25))
 |2=>(.const (.int .u64 13))
 |_=>(.const (.int .u64 22))
def Lh(a:Nat):Operand:=
 match a/8%8 with
 |0=>KS (a%8)
 |1=>KT (a%8)
 |2=>KU (a%8)
 |3=>KV (a%8)
 |4=>KW (a%8)
 |5=>KX (a%8)
 |6=>KY (a%8)
 |_=>KZ (a%8)
def Li(a:Nat):Operand:=
 match a/8%8 with
 |0=>L0 (a%8)
 |1=>L1 (a%8)
 |2=>L2 (a%8)
 |3=>L3 (a%8)
 |4=>L4 (a%8)
 |5=>L5 (a%8)
 |6=>L6 (a%8)
 |_=>L7 (a%8)
def Lj(a:Nat):Operand:=
 match a/8%8 with
 |0=>L8 (a%8)
 |1=>L9 (a%8)
 |2=>La (a%8)
 |3=>Lb (a%8)
 |4=>Lc (a%8)
 |5=>Ld (a%8)
 |6=>Le (a%8)
 |_=>Lf (a%8)
def Lk(a:Nat):Operand:=
 match a/8%8 with
 |_=>Lg (a%8)
def Cv(a:Nat):Operand:=
 match a/64 with
 |0=>Lh a
 |1=>Li a
 |2=>Lj a
 |_=>Lk a
def Ll:Nat->cc
 |0=>(.pK ζ (.tmp 77) (.tmp 79))
 |1=>(.pK θ (.tmp 83) (.tmp 84))
 |2=>(.eqv ζ [(32,(.int .u8))] (.tmp 134) (.tmp 136))
 |3=>(.eqv θ [(32,(.int .u8))] (.tmp 150) (.tmp 151))
 |4=>(.eqv ζ [(32,(.int .u8))] (.tmp 19) (.tmp 20))
 |5=>.kA
 |6=>(.pL (.tmp 27))
 |_=>(.pL (.tmp 44))
def Lm:Nat->cc
 |0=>(.eqv θ [(32,(.int .u8))] (.tmp 59) (.tmp 61))
 |1=>(.eqv θ [(32,(.int .u8))] (.tmp 72) (.tmp 74))
 |2=>(.kB ζ [(32,(.int .u8))] (.J [] .nil) (.tmp 11) (.tmp 12))
 |3=>(.pJ ζ 0 32 (.tmp 11))
 |4=>(.pJ ζ 0 32 (.tmp 10))
 |5=>(.kB ζ [(32,(.int .u8))] (.J [] .nil) (.tmp 12) (.tmp 13))
 |6=>(.kB ζ [(32,(.int .u8))] (.J [] .nil) (.tmp 14) (.tmp 15))
 |_=>(.lr [(32,(.int .u8))] (.tmp 25) (.tmp 26) (.tmp 28))
def Ln:Nat->cc
 |0=>(.pG ζ 37 2 (.tmp 29) (.tmp 30))
 |1=>(.eqv θ [(32,(.int .u8))] (.tmp 15) (.tmp 16))
 |2=>(.pG θ 1 8 (.tmp 50) (.tmp 51))
 |3=>(.lp 24 (.tmp 1))
 |4=>(.kv 1 32 (.tmp 3) ε ε)
 |5=>(.kz (.tmp 6))
 |6=>(.nn (.tmp 7))
 |_=>(.mg (.tmp 13) (.tmp 14))
def Lo:Nat->cc
 |0=>(.eqv ζ [(2,(.int .u64))] (.tmp 36) (.tmp 37))
 |1=>(.kB θ [(32,(.int .u8))] (.v (.bool θ)) (.tmp 8) (.tmp 9))
 |2=>(.lr [(32,(.int .u8))] (.tmp 14) (.tmp 15) (.const (.bool ζ)))
 |3=>(.eqv θ [(32,(.int .u8))] (.tmp 6) (.tmp 8))
 |4=>(.ku 1 32 (.tmp 3) ε ε θ)
 |5=>(.nj 1 (.tmp 11) (.tmp 12))
 |6=>(.ku 1 32 (.tmp 59) ε ε ζ)
 |_=>(.mg (.const (.string ⟨#[0,1,2,2,3,3,3,3,4,4,4,4,4,4,4,4,5,5,5,5,5,5,5,5,5,5,5,5,5,5,5,5,6,6,6,6,6,6,6,6,6,6,6,6,6,6,6,6,6,6,6,6,6,6,6,6,6,6,6,6,6,6,6,6,7,7,7,7,7,7,7,7,7,7,7,7,7,7,7,7,7,7,7,7,7,7,7,7,7,7,7,7,7,7,7,7,7,7,7,7,7,7,7,7,7,7,7,7,7,7,7,7,7,7,7,7,7,7,7,7,7,7,7,7,7,7,7,7,8,8,8,8,8,8,8,8,8,8,8,8,8,8,8,8,8,8,8,8,8,8,8,8,8,8,8,8,8,8,8,8,8,8,8,8,8,8,8,8,8,8,8,8,8,8,8,8,8,8,8,8,8,8,8,8,8,8,8,8,8,8,8,8,8,8,8,8,8,8,8,8,8,8,8,8,8,8,8,8,8,8,8,8,8,8,8,8,8,8,8,8,8,8,8,8,8,8,8,8,8,8,8,8,8,8,8,8,8,8,8,8,8,8,8,8,8,8,8,8,8,8,8,8,8,8,8,8]⟩)) (.tmp 21))
def Lp:Nat->cc
 |_=>(.eqv θ [(2,(.int .u64))] (.tmp 6) (.tmp 7))
def Lq(a:Nat):cc:=
 match a/8 with
 |0=>Ll (a%8)
 |1=>Lm (a%8)
 |2=>Ln (a%8)
 |3=>Lo (a%8)
 |_=>Lp (a%8)
def Lr(a:Nat):Nat:=if 96<a then a - 97 else if 64<a then a - 39 else if 47<a then a+4 else a+26
def Ls(a:List iF)(b:Nat):iF:=a.getD b []
variable{b2:Type}
section
def cX(k:Φ)(b:Nat->Φ->b2):b2:=
 match k with
 |c::a=>if c<69 then b c a else if c=69 then(match a with|d::h::a=>b (d*71+h) a|_=>b 0 [])else(match a with|d::h::o::a=>b ((d*71+h)*71+o) a|_=>b 0 [])
 |[]=>b 0 []
def Lt(a b:Nat)(c:Operand->Φ->b2)(d:Φ):b2:=
 match a - b with
 |h=>c (.tmp h) d
def bO(h:Nat)(k:Φ)(b:Operand->Φ->b2):b2:=
 match k with
 |c::a=>if c<20 then b (.tmp c) a else if c<36 then Lt h (c - 20) b a else if c<70 then b (Cv (c - 36)) a else cX a λd a=>if d<1000 then b (.tmp d) a else b (Cv (d - 1000)) a
 |[]=>b KR []
def jh(b:Φ)(a:Nat->Φ->b2):b2:=
 match b with
 |c::d=>a c d
 |[]=>a 0 []
def xL(a:Φ)(b:Bool->Φ->b2):b2:=jh a λc a=>if c=0 then b θ a else b ζ a
def sH(b:List iF)(a:Φ)(c:iF->Φ->b2):b2:=jh a λd a=>c (Ls b d) a
def pT{c:Type}(d:Φ->(c->Φ->b2)->b2):Nat->Φ->(List c->Φ->b2)->b2
 |0,a,b=>b [] a
 |h+1,a,b=>d a λk a=>pT d h a λo a=>b (k::o) a
def ra(b:Nat)(a:Φ)(c:List Operand->Φ->b2):b2:=jh a λd a=>pT (bO b) d a c
def sI(c:Nat)(a:Φ)(b:Option Operand->Φ->b2):b2:=jh a λd a=>if d=0 then b ε a else bO c a λh a=>b (β h) a
def Lu(b:Nat)(a:Φ)(c:Nat×Nat×Operand->Φ->b2):b2:=cX a λd a=>cX a λh a=>bO b a λk a=>c (d,h,k) a
def Lv(b:Nat)(a:Φ)(c:List (Nat×Nat×Operand)->Φ->b2):b2:=jh a λd a=>pT (Lu b) d a c
def Lw(a:Φ)(b:UnOp->Φ->b2):b2:=jh a λc a=>b (match c with|0=>.neg|1=>.xor|2=>.not|_=>.plus) a
def Cw(a:Φ)(b:IntKind->Φ->b2):b2:=jh a λc a=>b (match c with|0=>.i8|1=>.i16|2=>.i32|3=>.i64|4=>.u8|5=>.u16|6=>.u32|_=>.u64) a
def Lx(a:Φ)(b:dj->Φ->b2):b2:=cX a λc a=>jh a λd a=>pT cX d a λh a=>jh a λk a=>pT cX k a λo a=>b ⟨c,h,o⟩ a
def Ly(a:Φ)(b:Nat×Option (Bool×Nat)->Φ->b2):b2:=cX a λc a=>jh a λd a=>if d=0 then b (c,ε) a else cX a λh a=>b (c,β (if d=1 then θ else ζ,h)) a
end
def Lz(k:List iF)(c:Nat):Nat->Φ->cc×Φ
 |0=>λa=>bO c a λb a=>(.fi b,a)
 |1=>λa=>bO c a λb a=>(.load θ 1 b,a)
 |2=>λa=>cX a λb a=>bO c a λd a=>(.lq b d,a)
 |3=>λa=>cX a λb a=>ra c a λd a=>(.fZ b d,a)
 |4=>λa=>cX a λb a=>bO c a λd a=>(.load ζ b d,a)
 |5=>λa=>cX a λb a=>bO c a λd a=>bO c a λh a=>(.store b d h,a)
 |6=>λa=>bO c a λb a=>(.len b,a)
 |_=>λa=>bO c a λb a=>cX a λd a=>(.ext b d,a)
def LA(k:List iF)(c:Nat):Nat->Φ->cc×Φ
 |0=>λa=>cX a λb a=>bO c a λd a=>bO c a λh a=>(.dU b d h,a)
 |1=>λa=>bO c a λb a=>(.qS b,a)
 |2=>λa=>bO c a λb a=>bO c a λd a=>(.bin .add b d,a)
 |3=>λa=>bO c a λb a=>bO c a λd a=>bO c a λh a=>(.pick b d h,a)
 |4=>λa=>cX a λb a=>bO c a λd a=>(.box b d,a)
 |5=>λa=>bO c a λb a=>bO c a λd a=>(.bin .lss b d,a)
 |6=>λa=>bO c a λb a=>bO c a λd a=>(.bin .eql b d,a)
 |_=>λa=>cX a λb a=>sH k a λd a=>(.alloc b d,a)
def LB(o:List iF)(d:Nat):Nat->Φ->cc×Φ
 |0=>λa=>sH o a λb a=>Lv d a λc a=>(.mh b c,a)
 |1=>λa=>Lw a λb a=>bO d a λc a=>(.un b c,a)
 |2=>λa=>bO d a λb a=>bO d a λc a=>(.bin .neq b c,a)
 |3=>λa=>cX a λb a=>bO d a λc a=>sI d a λh a=>sI d a λk a=>sI d a λp a=>(.ml b c h k p,a)
 |4=>λa=>cX a λb a=>ra d a λc a=>(.kt b c,a)
 |5=>λa=>Cw a λb a=>bO d a λc a=>(.jb b c,a)
 |6=>λa=>bO d a λb a=>bO d a λc a=>(.bin .gtr b c,a)
 |_=>λa=>cX a λb a=>cX a λc a=>bO d a λh a=>bO d a λk a=>(.app b c h k,a)
def LC(o:List iF)(b:Nat):Nat->Φ->cc×Φ
 |0=>λa=>bO b a λc a=>bO b a λd a=>(.bin .sub c d,a)
 |1=>λa=>cX a λc a=>cX a λd a=>bO b a λh a=>bO b a λk a=>(.mj c d h k,a)
 |2=>λa=>cX a λc a=>cX a λd a=>bO b a λh a=>bO b a λk a=>(.qT c d h k,a)
 |3=>λa=>cX a λc a=>ra b a λd a=>(.ky c d,a)
 |4=>λa=>bO b a λc a=>bO b a λd a=>(.bin .geq c d,a)
 |5=>λa=>bO b a λc a=>bO b a λd a=>(.bin .xor c d,a)
 |6=>λa=>cX a λc a=>bO b a λd a=>sI b a λh a=>sI b a λk a=>(.pH c d h k,a)
 |_=>λa=>bO b a λc a=>bO b a λd a=>(.bin .mul c d,a)
def LD(k:List iF)(b:Nat):Nat->Φ->cc×Φ
 |0=>λa=>bO b a λc a=>bO b a λd a=>(.bin .shr c d,a)
 |1=>λa=>bO b a λc a=>bO b a λd a=>(.bin .leq c d,a)
 |2=>λa=>cX a λc a=>bO b a λd a=>bO b a λh a=>(.nr c d h,a)
 |3=>λa=>bO b a λc a=>ra b a λd a=>(.jc c d,a)
 |4=>λa=>cX a λc a=>ra b a λd a=>ra b a λh a=>(.bL c d h,a)
 |5=>λa=>bO b a λc a=>bO b a λd a=>(.bin .rem c d,a)
 |6=>λa=>xL a λc a=>bO b a λd a=>bO b a λh a=>(.qV c d h,a)
 |_=>λa=>bO b a λc a=>bO b a λd a=>(.bin .quo c d,a)
def LF(o:List iF)(c:Nat):Nat->Φ->cc×Φ
 |0=>λa=>xL a λb a=>Cw a λd a=>bO c a λh a=>bO c a λk a=>(.mi b d h k,a)
 |1=>λa=>bO c a λb a=>bO c a λd a=>(.bin .and b d,a)
 |2=>λa=>xL a λb a=>bO c a λd a=>(.nk b d,a)
 |3=>λa=>bO c a λb a=>bO c a λd a=>(.bin .shl b d,a)
 |4=>λa=>bO c a λb a=>bO c a λd a=>(.bin .or b d,a)
 |5=>λa=>bO c a λb a=>(.qU b,a)
 |6=>λa=>bO c a λb a=>(.np b,a)
 |_=>λa=>bO c a λb a=>(.qW b,a)
def LG(k:List iF)(c:Nat):Nat->Φ->cc×Φ
 |0=>λa=>cX a λb a=>bO c a λd a=>(.qX b d,a)
 |1=>λa=>bO c a λb a=>(.nm b,a)
 |2=>λa=>cX a λb a=>cX a λd a=>sH k a λh a=>bO c a λo a=>bO c a λp a=>(.ns b d h o p,a)
 |3=>λa=>bO c a λb a=>bO c a λd a=>(.nt b d,a)
 |4=>λa=>cX a λb a=>sH k a λd a=>bO c a λh a=>(.nq b d h,a)
 |5=>λa=>cX a λb a=>cX a λd a=>sH k a λh a=>bO c a λo a=>bO c a λp a=>(.kx b d h o p,a)
 |_=>λa=>cX a λr a=>(Lq r,a)
def Cx(b:List iF)(c:Nat)(a:Nat):Φ->cc×Φ:=
 match a/8 with
 |0=>Lz b c (a%8)
 |1=>LA b c (a%8)
 |2=>LB b c (a%8)
 |3=>LC b c (a%8)
 |4=>LD b c (a%8)
 |5=>LF b c (a%8)
 |_=>LG b c (a%8)
def oJ(c:List iF):Nat->Nat->Option (Nat×Bool)->Φ->List ca×Nat×Φ
 |0,b,_,a=>([],b,a)
 |p+1,b,d,a=>jh a λh a=>
  if h<55 then match Cx c b h a with|(r,a)=>match oJ c p (b+1) d a with|(k,o,a)=>(⟨β (b+1),r,d⟩::k,o,a)
  else if h=55 then cX a λx a=>jh a λh a=>match Cx c b h a with|(r,a)=>match x with
   |0=>match oJ c p b d a with|(k,o,a)=>(⟨ε,r,d⟩::k,o,a)
   |x+1=>match oJ c p x d a with|(k,o,a)=>(⟨β x,r,d⟩::k,o,a)
  else if h=56 then([],b,a)
  else cX a λy a=>oJ c p b (if y=0 then ε else β (y/2 - 1,if y%2=1 then ζ else θ)) a
def oK(c:List iF):Nat->Nat->Φ->dV×Nat×Φ
 |0,b,a=>(.skip,b,a)
 |d+1,b,a=>jh a λr a=>match r with
  |0=>(.skip,b,a)
  |1=>match oJ c d b ε a with|(h,b,a)=>(.plain h,b,a)
  |2=>match oJ c d b ε a with|(h,b,a)=>(.draw h ((χ (α h)).map bj),b,a)
  |3=>match oK c d b a with|(k,b,a)=>match oK c d b a with|(o,b,a)=>(.seq k o,b,a)
  |4=>bO b a λx a=>match oK c d b a with|(k,b,a)=>match oK c d b a with|(o,b,a)=>(.cond x k o,b,a)
  |5=>cX a λp a=>match oK c d b a with|(k,b,a)=>(.block p k,b,a)
  |6=>match oK c d b a with|(k,b,a)=>(.loop k,b,a)
  |7=>cX a λp a=>(.exit p,b,a)
  |8=>(.ret,b,a)
  |9=>(.refuse,b,a)
  |10=>match oJ c d b ε a with|(h,b,a)=>cX a λy a=>pT Lx y a λz a=>(.draw h z,b,a)
  |_=>match oJ c d b ε a with|(h,b,a)=>match oK c d b a with|(o,b,a)=>(.seq (.plain h) o,b,a)
def LH(h:List iF)(b:List Char):ar:=
 cX (b.map λc=>Lr c.toNat) λk a=>cX a λd a=>jh a λb a=>pT Ly b a λo a=>match oK h 999 d a with|(c,_,_)=>⟨k,d,c,o⟩
abbrev ax(a b:Nat)(c:ar):Prop:=dz γ a b=β c
variable{e i v O e0 j6:Nat}
def ay{a:ar}(b:dz γ e i=β a:=by kernel_rfl):ax e i a:=b
abbrev az(s:String){a:List Char}{b:Ψ->Ψ->Ψ->Ψ->Ψ->Ψ->Ψ->Ψ->Ψ->Ψ->Ψ->Ψ->Ψ->Ψ->Ψ->Ψ->Ψ->Ψ->Ψ->Ψ->Ψ->Ψ->Ψ->Ψ->Ψ->Ψ->Ψ->Ψ->Ψ->Ψ->ar}(_:String.ofList a=s:=by rfl)(_:∀c d h k o p r x y z C D E F G L P S T V W e f g i j l m n q:Ψ,LH [c,d,h,k,o,p,r,x,y,z,C,D,E,F,G,L,P,S,T,V,W,e,f,g,i,j,l,m,n,q] a=b c d h k o p r x y z C D E F G L P S T V W e f g i j l m n q:=by intros;conv=>lhs;cbv):ar:=
 b (((δ 32 (.v (.int .u8 0))):Ψ)++([(.J [] .nil),(.J [] .nil)]:Ψ)++([(.v (.int .i64 0)),(.v (.int .i64 0))]:Ψ)++([(.J [] .nil)]:Ψ)) [(.J [] .nil),(.J [] .nil)] [(.v (.int .u8 0)),(.J [] .nil),(.J [] .nil)] (([(.v (.string ⟨#[]⟩))]:Ψ)++([(.J [] .nil)]:Ψ)++((δ 32 (.v (.int .u8 0))):Ψ)++([(.J [] .nil),(.J [] .nil)]:Ψ)++([(.v (.int .i64 0)),(.v (.int .i64 0))]:Ψ)++([(.J [] .nil)]:Ψ)++((δ 32 (.v (.int .u8 0))):Ψ)++([(.J [] .nil),(.J [] .nil)]:Ψ)++([(.v (.int .i64 0)),(.v (.int .i64 0))]:Ψ)++([(.J [] .nil)]:Ψ)) [(.v (.int .u64 0)),(.v (.int .u64 0))] (δ 32 (.v (.int .u8 0))) [(.J [] .nil),(.v (.bool θ))] [(.v (.bool θ)),(.J [] .nil),(.J [] .nil)] [(.v (.pointer ε)),(.v (.int .i64 0))] [(.J [] .nil),(.v (.int .i64 0))] [(.J [] .nil)] (δ 8 (.v (.int .u32 0))) (δ 64 (.v (.int .u32 0))) [(.J [] .nil),(.v (.bool θ)),(.v (.pointer ε)),(.v (.pointer ε))] [(.v (.int .u8 0)),(.v (.string ⟨#[]⟩)),(.J [] .nil),(.J [] .nil)] [(.v (.pointer ε)),(.J [] .nil)] [(.v (.string ⟨#[]⟩)),(.J [] .nil),(.J [] .nil),(.v (.pointer ε)),(.v (.pointer ε))] (δ 5 (.v .nilFunc)) (((δ 32 (.v (.int .u8 0))):Ψ)++([(.J [] .nil),(.J [] .nil)]:Ψ)++([(.v (.int .i64 0)),(.v (.int .i64 0))]:Ψ)++([(.J [] .nil)]:Ψ)++([(.v (.int .u64 0)),(.v (.int .u64 0))]:Ψ)++([(.v (.int .i64 0)),(.v (.int .i64 0))]:Ψ)) [(.v (.int .i64 0))] [(.v (.pointer ε)),(.J [] .nil),(.J [] .nil),(.v (.int .i64 0)),(.v (.int .i64 0))] [(.v (.map ε)),(.J [] .nil),(.J [] .nil),(.v (.bool θ))] [(.v (.int .u8 0)),(.v (.int .i64 0)),(.J [] .nil)] [(.J [] .nil),(.v (.map ε))] (((δ 32 (.v (.int .u8 0))):Ψ)++([(.J [] .nil),(.J [] .nil)]:Ψ)++([(.v (.int .i64 0)),(.v (.int .i64 0))]:Ψ)++([(.J [] .nil)]:Ψ)++((δ 32 (.v (.int .u8 0))):Ψ)++([(.J [] .nil),(.J [] .nil)]:Ψ)++([(.v (.int .i64 0)),(.v (.int .i64 0))]:Ψ)++([(.J [] .nil)]:Ψ)) (((δ 8 (.v (.int .u32 0))):Ψ)++([(.J [] .nil)]:Ψ)++([(.v (.int .u64 0))]:Ψ)) [(.J [] .nil),(.J [] .nil),(.v (.int .u8 0)),(.v (.int .i64 0)),(.J [] .nil),(.v (.int .i64 0)),(.v (.bool θ))] [(.v (.pointer ε)),(.J [] .nil),(.J [] .nil),(.v (.int .u8 0)),(.v (.int .i64 0)),(.J [] .nil),(.v (.int .i64 0)),(.v (.bool θ)),(.v (.int .i64 0)),(.J [] .nil),(.v (.int .i64 0)),(.v (.int .i64 0)),(.v (.int .i64 0)),(.J [] .nil)] [(.v (.int .u8 0))] [(.v (.int .u32 0))]
def rb:ar:=az "+cmfbkalmyb3laL4dl3Adgarcu4eul3laL4iadl3Caadhbuau58acguwu,+p85alxOu4eul3laO4ial3JdiaqkamHu3mawa,K4dl3Malamaadjdwvurcu4eul3laO4ial3SaldlbualdmbudkdwuP3Rau3XhuahAb3oava,X4l30aldlbualdmbudnadkdxvu3Zau36huahBb3qava,64dl38aosuMau5+b1aqsuK5alwOuau5+b9apMauP5alwOu4eul3laL4ial3+baapdobu3+a,au3+bchuahxb3sava,+bc4l3+beamdpcNugu3uau4dl3+bhasatouK2aau5+cwarMauPas2b5alyOuau5+cIapdqcuKguwuK5alyOuau5+cUapdqcuUguwuK5alyOu4eul3laL4ial3+bDaldmbu3vau4dl3+bFadCuKau5+c?ada,ugunwu5alyuLau5+diaesuZ5alwuL4eula,uada,uadibvubuaeDvuibBA3afbuv4l3+b1aldlbua,udnadkdwvu3+b0au3+b6huahAb3wava,+b64l3+b8ausu?au5+d2a,udrbualdlbu2c5alzuL4eul3laL4iaadk3+b,eGgacdnadkdwvu3+b+au3+cdhuahzb3yava,+cd4jaaabaacabadaaeaafaagaahaaiaadk3+cfauou?au5+eoacdrbueGg2d5alyOu3lau4jaaabaacaadaafaaeabfgaahaaiaai"
def LI:ax 0 3 rb:=ay
def LJ:ar:=az "+bjabaal3baL4l3jdia3cai4l3labdlbkabdmbmdnadkdlno3kap3rhjahjb3daqar4dl3tadssKat5QacMauP5alwOuau5Yacdwburcu5alxOu4eul3baL4ial3Eabubb,+p9qodabVbb,+oScbudCcwu4labubcM<qodabWbb,+oSdbudCcwu4l3Nabdlbuabdmbudnadkdxvu3Mau3ThuahBb3fava,T4l3Wqfaabdmbudnadkdxvu3Vau31huahAb3hava,14l33afouKau5+bSaeMbuP5alwuLau5+b0aedwburcu5alxuLau5+b:aedxbuouS5alxuLau5+cbaedqcuMguouM5alyuLau5+cnahou?5alwuL3bau4i"
def LK:ax 0 6 LJ:=ay
def LL:ar:=az "7bbcalaL4dl3gaagfwg,+p:4ehl3daO4iadlaK4fagdl3jadaagjnik4elahadfbdl3paaadieopcbqbrTswt,+oTau5Saaadievuccubuguwu,+oU5alBOuau5:aaadievucdubuguwu,+p;5alBOu4eul3daO4ial3faK4fcgdl3OaeaaadievuccubugunAu4euahcdfdl3YaaadievuccubuaeibvubuTuwu,+oT4eul3daO4iab3WaekuM3fau4b3nadkmM3ean4l3daL4i"
def LM:ax 0 7 LL:=ay
def LN:ar:=az "eabaal3baP4ldnaqpbabbm+brc3bad4i"
def LO:ax 0 8 LN:=ay
def LP:ar:=az "Qdbgal3haL4dlaK4fagdl3mahacgmnlnao5Hahnq,+oV5alprL4esahadfbl3waaacahievueeudCcyu4babacahievueeudDcyu4b3uahktM3iau4l3JaadEbudFbu3Iau3Mhuahybhzc3jawa,Ma,N4l3Pakrcu3hau4i"
def LQ:ax 0 9 LP:=ay
def LR:ar:=az "Ndcgahal3emya3haPaK4l3oabdKbn3nao3qhmahmb3japaq4dfadk3tabdrbseGd2eau5UajsuK5alwOu3sau4jaaacaababcdaaeaafaagaahaaiaaerl3haPa?4il3CacMauP3Bau4eul3haPaM4ial3Eacaiqucabvbbum+bvu3lau4dl3IakdLbu3mau4l3KalsuK4eulal3haPa,L4ial3Nak3hauaK4i"
def uJ:ax 0 10 LR:=ay
def LS:ar:=az "gbbccGlpyf4laadmbddrbe3afGcf4i"
def LU:ax 0 11 LS:=ay
def LV:ar:=az "obbcalaN4l3haajgcbhbidtbj3gak3mhfahfb3ealam4l3oad3dan4i"
def Cy:ax 0 12 LV:=ay
def LW:ar:=az "eabaal3baP4l2fqvbabbm+bzc3bad4i"
def LX:ax 0 13 LW:=ay
def LY:ar:=az "ybccadalaPaL4dl3haadwbgrch4eil3daPaL4iadc3laajkcalbmaajocbpbqdMcnr3kas3uhjahjb3fata,u4l3waeafouK3dawa,x4i"
def Cz:ax 0 14 LY:=ay
def LZ:ar:=az "Ncbeal3faN4dlaK4fagdlafabjhcaibjgkngl4emahadfbk3qaaabjqcarbsafibtubujucdubudOcpuabjucaubuafibvubujuceubudNcEu3bau4yaaabaacaadaaeaafaagaahaaiaajaakaamaanaaoaapaaqaaraasaataauaavaaladpsvwaaxaab3oafknM3gao4l3Naa3fau4i"
def M0:ax 1 15 LZ:=ay
def M1:ar:=az "tcbeal3faN4dcaajfccgbhabObdjKaajlccmbngoOadkpEGiabqdPbr3fas4i"
def M3:ax 0 16 M1:=ay
def M4:ar:=az "gbbccGlpyf4laadRbddQbe3afGcf4i"
def M5:ax 0 17 M4:=ay
def M6:ar:=az "9bccadalaNaK4dl3kaadSbjrck4ell3daNaM4ial3nqjam+bPm3fan4l3paeaagpveqdTcor4dlaagtaK4faglnuv4deuahadfbli+bftve+bfu3hp8d3af+bfg,y4l3Aaecagbu2gdUcxu4laecbgbuguveudTcyu4dlcbgbuguaK4fcglnuv4deuahcdfdlibxvbu3jau4b3Saeai2hdUcwu4bkBM3Oau4l3XaeccgeLudVcwu4baecNgeLudVcwu4bk,vM3wau4l36aedWbuaedXbu3dawa,84i"
def M7:ax 0 19 M6:=ay
def M8:ar:=az "qbbcalaL4laajdceebfogKah5taajjcckblgmonK5alioL3dap4i"
def M9:ax 0 22 M8:=ay
def Ma:ar:=az "ibbcalaK4laajdccebfgg3dah4i"
def Mb:ax 0 23 Ma:=ay
def Mc:ar:=az "rcbealm+bgbaK4dl3heedd6bgrch4eil3faM4ial3kqrebb,+p<cb,+p=db,+p>eb,+p?3gp+b2r3afffj4dc3lcadbkAbfflbmaaeedJncop3faq4i"
def Md:ax 0 28 Mc:=ay
def Me:ar:=az "+edcbealm+bgbaK4dl3teedd;bsrct4eul3faM4ial3waacbdbud<cwu3gau4dl3AcadbuouV4eudlafCuK4eul3faR4iadl3Faajucaubuguwu44eul3fa84ial3haN4laL4dk3Lcbdbuubaccdbuxbqwuqqcabybbum+bIu3jau4jaaabaadaaeaacaafabbgaahaaiaadlaK4fagdl3Tajaajucaubugunzu4euahadfbddc32ahrcuau5+bQaijucaubuaajucaubuajibvubujucaubunEu5alJuL4eulagaiubbuxbiwu3hau4baO4ab3+bgagaajucaubuajibvubuubbuxbiCu3hau4b30ajkuM3kau4dl3+bqahrcu4eubagaiubbuxbiwu3hau4al3+bwaaagjvcau3afbuw4l3faK4iadl3+bAafnuK4eul3faY4iadl3+bCcadbuouT4eul3laN4dlaK4fcgdl3+bFalaajucaubugunzu4euahcdfdl3+bOalafsvu4eubakaajucaubualibvubuubbuxbiCu3lau4ab3+bMalkuM3mau4l3+b1aaakjvcau3afbuw4l3faK4ial3+b5aajucaubuafibvubu3nau4ddc3+b<cddbuguamjucbubugukuMsAu4eul3fa:4ial3oaN4laL4dlaK4fegdl3+cdapamjuccubugunzu4euahedffddc3+cmamjuccubuapibvubuibuKbucddbuibuKbuoyu4eudlcadbuouW4eul3faQ4iadc3+cDamjuccubuapibvubucddbud=cwu4eul3paO4hfaab3+cNanamjuccubuapibvubuubbuxbyCu3oau4b3+ckapkuM3qau4dc3+cXamjucaubuamjucbubuqqcabybbum+bIu3rau4dl3+c7cadbuou+4eudlaorcu4eul3fa54ial3+c<aqanjvccu3afbuw4dc3+c+aqamjucdubucddbud>cwu3+c*au3+dghuahDbjDcdu3afbux4c3+dlaqamjuceubucddbud?cwu3+dkau3+dthuahDbjDceu3afbux4laqqwaanubacddbuxbiwuubbuxbyzud*cBujDccu3afbuw4dc3+dKaqamjucdubucddbud+a+dwuK3+dJau3+dShuahDbjDcdu3afbux4c3+dXaqamjuceubucddbud+a,cwu3+dWau3+d5huahDbjDceu3afbux4lBbaaajucaubuzbiyu3sau4l3+d?arafaqibwv3afbuv4laaarjvcau3afbuw4l3faK4i"
def Mf:ax 0 29 Me:=ay
def Mg:ar:=az "hbbcalaP4laajdcaebf3dag4i"
def Mh:ax 0 30 Mg:=ay
def Mi:ar:=az "tbdcadaealaNaNaL4dkaajfcbgbhd+babiaajkcclbmd+babnaajpcdqbr3dajaoas4raaabaacaadaafaagaahaaiaakaalaamaanaaeacinjabnoaapaaqaai"
def Mj:ax 0 31 Mi:=ay
def Mk:ar:=az "rcbealmybaL4dc3jaajicajbkeGd2k3ian3phhahhb3gaoap4l3rag3faq4i"
def Ml:ax 0 34 Mk:=ay
def Mm:ar:=az "NbccadalaNaK4l3jaad+bnbi3faj4laN4dl3laed+bobkvdlOadm5aK4faglnon4depahadfbbafaed+bpbru+bfbsx+bf+d?qt3gau4b3wkoM3pau4dl3xaed+bqbusuK4eul3daNa04iadl3Bafdtbu3Aau3Dhuahxb3hava,D4l3FahsuKau5>agaad+brcvurcu5alyOu4eul3daNa04ial3Naf3dauaK4i"
def CA:ax 0 36 Mm:=ay
def Mn:ar:=az "HbbcalaK4dc3faaaaaajgcahbiaajkcblbmd+bscjn3eao3qhdahdbjeccr3afbspjfcet3afbuq4dlaajuceubusuK4eubaajuccu3afbuN4alaajuceubu3dau4i"
def Mo:ax 0 37 Mn:=ay
def Mp:ar:=az "Fcceafal3faPaK4l3labdtbk3kal3nhjahjb3haman4dl3pahsoKap5IaaMarP5alqOs4etl3faPaM4ial3wagdKbu3vau3yhuahxb3jav3ia,y4dl3AahsuK4eul3faPaM4ial3Caaaiqpcabvbbum+bru3fauaK4i"
def Mq:ax 0 38 Mp:=ay
def Mr:ar:=az "Hcbeal3faN4dl3habMagP4ehlaa3fai4ial3kaaabd+bubk2ld+btcjm3ban4dl3gaK4fagdl3pafabjpcbqbrgsnot4euahadfbb3yaaabjucbubuafibvubudNcBu3bau4b3wafkuM3gau4l3Haa3fau4i"
def xM:ax 1 39 Mr:=ay
def Ms:ar:=az "ycbeal3faN4dlabMafP4eglaa3fah4ial3jaaabd+bvbj2md+btcil3bam4dk3oaaabjoccpbqdOcnrabjtcdubudOcsu3fau4maaabaacaadaaeaagaahaaiaajaafabjkaalaai"
def CB:ax 1 40 Ms:=ay
def Mt:ar:=az "ibbcalaN4dlaaQad4eel3daN4ial3guGaaaxGGfg3dah4i"
def Mu:ax 0 41 Mt:=ay
def Mv:ar:=az "kbbccGlpyf4l3fd+bwa3eae4l3gadaad+bxcfg4ladd+bybi3afGcj4i"
def Mw:ax 0 42 Mv:=ay
def Mx:ar:=az "gbbcalaN4laaubbdd+bzc,+p*e3daf4i"
def My:ax 0 43 Mx:=ay
def Mz:ar:=az "IbbcalaL4dl3gaagfaK4faglnhg4deiahadfblahi+bffhe+bfk3fp8d3eaj3af+bfel4dc3ne+bfed+bAbmrcnao5GadwqKar5NaaadyuMi+bftucaubucaebuCwu5GlsuL5alpOu4eul3daL4iab3FkhM3iau4l3GaaguHuQ3dau4i"
def MA:ax 0 44 Mz:=ay
def MB:ar:=az "icab3faaabubbfd+bBdeOg4"
def MC:ax 0 45 MB:=ay
def MD:ar:=az "rcadl3fabgewf14eglaajhcbi3afbj84ialaaabgld+bCckm4baaabd+bBdoOp4"
def ME:ax 0 46 MD:=ay
def MF:ar:=az "Kcalm5b4l3haacadeGhd+bDcgi4laacIdbld+bCckm4laacJdbpd+bCcoq4lcGdcasbtcGdcbubucKdbuubdzwuguaK4faglnuv4deuahadfblibxvbu3gau4b3Haaafd+bEcvu4bkAM3Dau4"
def MG:ax 0 47 MF:=ay
def MH:ar:=az "nbbcalaN4dlaajdcbebfsgK4ehl3daN4ial3jaajicajbkd+bFbl3dam4i"
def CC:ax 0 48 MH:=ay
def MI:ar:=az "hbbcalaK4laajdcbebf3dag4i"
def MJ:ax 0 49 MI:=ay
def MK:ar:=az "vcceafalmybaNaK4dc3kaajjcakbleGd2n3jao3qhiahib3hapaq4dl3sahrcr4esl3faNa54ial3uagd+babt3fauaK4i"
def ML:ax 0 50 MK:=ay
def MM:ar:=az "gbbccGlpyf4laad+bHbddQbe3afGcf4i"
def MN:ax 0 52 MM:=ay
def MO:ar:=az "2cbecGl3fpyf4l3jabd0bi3gpyf3afGfj4ddc3maajlcambneGf2o3laq3shkahkb3haras4fal3vahrcu3uau4etk3xaajucaubueGfabd+babu3a2p4iaaabaacaadaaeaafaagacdehaal3Faajucduburcuau5+bcagabd+bIcvurcu5alyuL3Eau4eub3Qaaaaaaagabd+babujzcbu3afbuyjAccu3afbuyjBcdu3afbuO4aleGf3afGeu4i"
def MP:ax 0 53 MO:=ay
def MQ:ar:=az "ibbcalaN4dlaaQad4eel3daN4ial3gB+bfaaaz+bf+d?fg3dah4i"
def MR:ax 6 57 MQ:=ay
def MS:ar:=az "Zbbcal3cm+bgaaL4dlcbbbdd+bVbercf4egl3daL4iadl3icabbh4fal3loiV3kak4ejl3mccbbld+bWbman5FcdbbpgqorK5alosL3dat4il3woiT3vau4eul3xccbbuguouKau53cdbbuguouK5alyuL3dau4idl3IoiW3Hau4euab3Joi+3Hau4eul3KccbbuguouKau5+bkcdbbuguCuS5alyuLau5+bwcdbbuguHuQ5alyuL3dau4ial3daL4i"
def MT:ax 0 58 MS:=ay
def MU:ar:=az "Ccbealm+bgbaK4dk3jaajicbjbkcbdbmccdbod+bYbpqdcabnbbqd+bXclr3ias3uhhahhb3gata,u4qaaabaacaadaaeaafaagaahaaiacdfjaakaalaamaanaaoaapaadl3wagouK4eubaaafjvcbu3afbuw4alag3fau4i"
def MV:ax 0 59 MU:=ay
def MW:ar:=az "ycbealm+bgbaK4dc3jaajicbjbkcbdbmd+bZcln3iao3qhhahhb3gapaq4dl3sagorK4esbaaafjtcbu3afbuw4alag3fau4i"
def MX:ax 0 60 MW:=ay
def MY:ar:=az "Pcbealm+bgbaK4l3laaeedd+b0ckl3kam3ohjahjb3gp8d3af+bffnao4dl3qagspK4eqlag3far4iadc3uaacbdbucddbuibuKbud+b1dtyu3tau3Chsahsbhsc3iawa,C3ha,D4dfal3GagsuK3Fau4eul3Iag3fau4il3Kai3Jau4eul3faQ4ial3Laae+bffcddbud+b2fxwu,+p,,+qa3fau4i"
def MZ:ax 0 61 MY:=ay
def N0:ar:=az "vcbealm+bgbaK4l3jaaeedd+b0cij3iak3mhhahhb3gp8d3af+bfflam4dl3oagsnK4eolag3fap4ial3raae+bffcddbsd+b2fqrt,+qb,+qc3fau4i"
def N1:ax 0 62 N0:=ay
def N2:ar:=az "+bGbbcal3cm+bgaaL4dl3gcbbbfd+b7bgrch4eil3daL4iadl3kcabbjokV4eldl3eaK4fagdl3nadccbbngonmp4eqahadfbdl3uccbbtadibvubud+b7burcuau52ccbbuadibvubuou,+oX5alAOu4eul3daL4ial3faK4fcgdl3Jaeadnvu4euahcdfddc3Occbbuaeibvubuccbbuadibvubuozu4eul3daL4iab3MaekuM3fau4b3sadkrM3eas4l3ZccbbuguwuKau5+bOccbbugunuQ5alyuLau5+b0cdbbuguouK5alyuL3dau4iadl3?cabbuouT4eulccbbugucdbbugukxuouK3dau4ial3+bhcabbuouWau5+cucabbuou+5alxOuau5+cFccbbuguouK5alyuLau5+cRcdbbuguwuM5alyuLau5+c3cdbbugunu55alyuL3dau4i"
def N3:ax 1 63 N2:=ay
def N4:ar:=az "Ccbeal3faK4dlaK4fagdlafaajhcaibjgkngl4emahadfbl3qaajpcaqbrafibstbujucaubuabovu4eulaf3fau4iab3oafknM3gao4l3faU4i"
def N5:ax 0 64 N4:=ay
def N6:ar:=az "Acbeal3faL4dl3haaggabgishj4ekl3faL4iadlaK4fagdl3mafaagmnln4eoahadfbdc3saaafibrsbtabafibvubusyu4eul3faL4iab3qafkpM3gaq4l3faO4i"
def N7:ax 0 65 N6:=ay
def N8:ar:=az "Dcceafal3faPaL4l3kaaabd+b8djkK3jal3nhiahib3haman4dl3pahao5Hagd+b9bqgrFSsagd+b:buntu5alpuL4eubagd+b9bud+b;cuK3hau4al3Cagah3fava,C4i"
def N9:ax 0 66 N8:=ay
def Na:ar:=az "Pcceafal3faPaL4dl3iaad+b=bhabd+b<cijrck4ellaa3famaL4ial3oaaabd+b>cno3hap4dl3ragjqcbrbsgtouM4eulagjucbubuibuKbu3fauaO4iaddc3DagjucbubuguagjucaubugukzuouK4eul3faPaO4ial3Pag3fauaO4i"
def Nb:ax 0 67 Na:=ay
def Nc:ar:=az "+blcbeal3dm+a+a3faN4laN4dlaK4fagdl3lagabglnkm4enahadfbdc3redcabagibrsbtgud+b?cqurcuau5YabagibvubuguabibuKbugusyu5alEOu4eul3faN4iab3pagkoM3hap4dlaK4fcgdl3Lahabgunwu4euahcdfdl3jaN4laK4dfegddc3Rajafgunwuau5+byedcabahibvubuafajibvubud+b*dCyurcu5alFuL4euahefflaiafajibvubuubbuxbyzu3jau4b3?ajkuM3kau4l3+a+aiabahibvubuubbuxbyzu3jau4l3+bfaiafajEbvbuaxbyxu3jau4b3+bkai3gau4b3PahkuM3iau4l3+blaf3fau4i"
def Nd:ax 0 68 Nc:=ay
def Nf:ar:=az "+bvdcgahal3haPaL4dl3laaMakP4ellabqncabmbbOm+czn3haoaO4iadc3qaajpcaqbraajtcbubuaajuccubuaajucdubuqneabsbbCcbydbum+czu3jau4dl3Iaajucaubuabd=cvu4eulaijucbu3afbuO4dkaiacd+b+cvuaajucbuburcu3haza,X4kaaabaadaaeaafaagaahaacabgiaajaaial3kaL4ddc3ZabaajucaubuacabguLwud+b,dCyu4eub3:aiaajuccubuabackuMd+a+dxwu39au3+bahuahEbjEccu3afbux3kaw4b3+bfaiaajucdubuabackuMd+a+dxwu3+beau3+bohuahEbjEcdu3afbux3kaw4l3+bsaiacd+b+cvuaj3hava,+bu4i"
def CD:ax 0 69 Nf:=ay
def Ng:ar:=az "vcceafal3faPaL4dlaaMagP4ehlabubbiqbbabjm+cxk3falaO4iadl3naad+b=bmabd+b<cno4eplaa3faqaL4ial3saaabd+cbcrsd+cabt3fauaO4i"
def CE:ax 0 70 Ng:=ay
def Nh:ar:=az "ibbcalaN4dlaaQad4eel3daN4ial3gubaaaxbbfg3dah4i"
def Ni:ax 0 71 Nh:=ay
def Nj:ar:=az "eabaal3baP4l2fqxbbbbm+cac3bad4i"
def Nk:ax 0 72 Nj:=ay
def Nl:ar:=az "Sebial3jaK4dl3qacgpaK4faglnrq4desahadfbli+bfpre+bft3lp8d3af+bfk,u4l3we+bfkd+ccbu3mau4dl3yalwuQ4eul3jaM4ial3AcckeLucNkeLuqycaLwLLuaK4fcglnuS4deuahcdfdl2q3op5a3afLn,G4l3IadaaabeLnalJyexwvu3pau4l3OaosuK4eulao3jau4iab3Rk,EM3Fau4b3SkrM3sau4l3jaK4i"
def Nn:ax 0 73 Nl:=ay
def No:ar:=az "hbbcalaP4laad+bFbdqjbabem+dmf3dag4i"
def Np:ax 0 84 No:=ay
def Nq:ar:=az "pbbcalaZ4l3haad+cmcgM3gah3jhfahfb3eaiaj4dl3laerck4ell3daZ4ial3nadibmKbn3dao4i"
def Nr:ax 0 85 Nq:=ay
def Ns:ar:=az "Ebbcc+bflp8d4l3faad+cnce2Vfqdbabg3ep8d3af+bfdh4dl3jaad+bobivdjOadkQaK4faglnml4denahadfbkcbdboaad+cncq2Vrubbsxbqptcbd3afbuv4jaaabaacaadabbeaafaagaahaaiaabkmM3nau4l3yaad+cobuccd3afLuv4laad+cobucNd3afLuv4le+bfd3af+bfcu4i"
def CF:ax 0 86 Ns:=ay
def Nt:ar:=az "pbbcalaK4dlaajdcaebfggwhK4eibaad+cpcj,+qd4alaajlcbmbn3dao4i"
def Nu:ax 0 87 Nt:=ay
def Nv:ar:=az "Acbeal3faL4dl3haaggabgishj4ekl3faL4iadl3maaglaK4faglnnm4deoahadfblan3gap4dc3raaafibqrbsabafibvubustu4eul3faL4iab3AknM3oau4l3faO4i"
def Nx:ax 0 88 Nv:=ay
def Ny:ar:=az "ucceafal3faNaK4l3jd+bba3hai4dl3kagaaabd+bcejkl,+oW3iam4l3oahsnK4eolah3faNap4ial3ragjqcarbs3fataK4i"
def Nz:ax 0 89 Ny:=ay
def NA:ar:=az "xcbealmybaN4dlaK4fagdlafaaghngi4ejahadfbdc3naaafiGmneGoeGd2r4erlaa3fas4iab3lafkkM3gal4l3uaaeGdBGbuzGGtu3fau4i"
def NB:ax 1 90 NA:=ay
def NC:ar:=az "pbbccLlp5a4dl3gaaMafP4eglqaa3afLch4ial3kaad+crbjd+cqbk3jal3nhiahib3ep5a3afLdman4l3peLd3afLco4i"
def ND:ax 0 91 NC:=ay
def NF:ar:=az "pbbccLlp5a4dl3gaaMafP4eglqaa3afLch4ial3kaad+csbjd+cqbk3jal3nhiahib3ep5a3afLdman4l3peLd3afLco4i"
def CG:ax 0 92 NF:=ay
def NG:ar:=az "eabaal3baP4ld+ctaqzbaibm+dCc3bad4i"
def NH:ax 0 93 NG:=ay
def NI:ar:=az "Zcadl3gaajfcjgbhoi34ejbaad+ctajkcam3afinl4alaajocjpbqabgsvhtkrujocju3afbuw4lubaaajuciubuxbbyuabxbbvu3fau4dfagdl3HaeguCuX4euahafbdcaaaajucaueiuaeEbuabXd+cucwujBcau3afiuw4baeEbubXa3fau4b3Waaaejvciu3afbuw4"
def NJ:ax 0 94 NI:=ay
def NK:ar:=az "+bmbbccGlpyf4l3jaajicajeik3ep+dyl3afidl4dl3naajmcjnboop34eqbd+cta3afidr4alubaaajtciubuxbbsuubb,+oYxbbvu3fau4dfagdl3BaeguLuXsu;4euahafbbaeubbZxbbvu3fau4l3IaeaajucjubuF6ud+cvbuxbbAu3fau4dfcgdl3QaeguwuK4euahcdfdc3VeidaeEbuabXd+cucwu3afidu4b3TaeEbubXa3fau4lpyf4dl3ZeidaK4feglnuQ4deuahedfflav2s3hava,24b34agFRuagFRukuMagFRukuSagFRukuYahGu,+oZveuahGu=veuahGu6veuahveuAbGf,43afbuDAbGf,73afbuBAbGf,:3afbuzAbGfI3afbuy4bk,ZM30au4l3+bmeGf3afGcu4i"
def NL:ax 0 95 NK:=ay
def NM:ar:=az "Acbeal3faN4l3jaaubbi3gaj4dl3labgkaK4faglnml4denahadfblibkmbo3iap4b3rafahgrvhsd+cvbtxbbquahxbbvu3gau4b3zkmM3nau4l3Aaf3fau4i"
def NN:ax 0 96 NM:=ay
def NO:ar:=az ";bbcal3cm8aaL4l3fe+bfbd+ccbe3eaf4dfal3icabbhcbbbjqodabVbbicbkd6blrcm3han4egl3daL4il3qccbeLpadd+cwcqrrcsat5QcNbeLuadd+cwcvurcu5alzOuau54ccbcIubucNbcIubusxu5alBOuau5+bdccbcKubuguwuK5alzOu3pau4eol3daL4ial3ScNbeLud+cxbuau5+bxcNbcKubuguadovuau5+bMcNbcJubucNbcIubuoxu5+bxlBuL5alJOu3dau4i"
def NP:ax 0 97 NO:=ay
def NQ:ar:=az "udadl3habrcg4ehlaajicbj3afbk84iabaaaajmcanboacxbbpqjlcas3afbtr4"
def NR:ax 0 98 NQ:=ay
def NS:ar:=az "vcab3faaabCfKag5rabHi15alhjLabGl=vemabGo6vepabverubdnqsd+bBdekt4"
def NT:ax 0 99 NS:=ay
def NU:ar:=az "hcal2t4baa2ud+bBdeOf4"
def NV:ax 0 100 NU:=ay
def NW:ar:=az "Bcadl3habggwh,+qe4eilaajjcbk3afbl84ialaaabgnveodTcmp4labgraK4faglnts4deuahadfblibrtbu3gau4b3yaaafd+cycvu4bktM3uau4"
def NX:ax 0 101 NW:=ay
def NY:ar:=az "ibbcalaN4dlaaQad4eel3daN4ial3gubaaaxbbfg3dah4i"
def NZ:ax 0 102 NY:=ay
def O0:ar:=az "ibbcalaN4dlaaQad4eel3daN4ial3gBbaaazbbfg3dah4i"
def O1:ax 6 102 O0:=ay
def O2:ar:=az "gbbcalaN4laaubbdd+bzc,+o0e3daf4i"
def O3:ax 0 104 O2:=ay
def O4:ar:=az "kcbeal3faL4laaVfabVhogi3faj4i"
def O5:ax 0 105 O4:=ay
def O6:ar:=az "rcbeal3dmda3faL4lbcCfMag5rbcHiQ5alhjLak5zabK+cAabcd+czcmnrco5allpL3faq4i"
def O7:ax 0 106 O6:=ay
def O8:ar:=az "ibbcalaN4dlaaQad4eel3daN4ial3gubaaaxbyfg3dah4i"
def O9:ax 0 107 O8:=ay
def Oa:ar:=az "ibbcalaN4dlaaQad4eel3daN4ial3gBbaaazbyfg3dah4i"
def Ob:ax 6 107 Oa:=ay
def Oc:ar:=az "ncbeal3faK4dfal3haaabd+cDcgh3gai4efl3faU4il3labaad+cDckl3kam4ejl3faM4ial3faK4i"
def Od:ax 0 109 Oc:=ay
def Oe:ar:=az "Acbeal3faL4dl3haaggabgishj4ekl3faL4iadl3maaglaK4faglnnm4deoahadfblan3gap4dc3raaafibqrbsabafibvubustu4eul3faL4iab3AknM3oau4l3faO4i"
def Of:ax 0 110 Oe:=ay
def Og:ar:=az "Gcceafal3faNaK4laN4dl3maaglaK4faglnnm4deoahadfbliblnbp3jaq4l3tabaiJsbt3sau3whrahrb3kp5a3afLj,va,w4dl3yaksuK4eulak3faNa,z4iab3BageLjBLbuzL+bXwu3hau4b3FknM3oau4l3Gag3fauaK4i"
def Oh:ax 1 111 Og:=ay
def Oi:ar:=az "Ncbeal3faN4laN4dl3jabaK4faglnji4dekahadfblaj3hal4l3naagmabagyopNnq3iar4dl3taagsabagyvuLtuwuK4eubahkuM3iau4al3CafaaahEbvabud+bKbuubbuxbyzu3gau4b3JaaahEbvbua3bau4b3MkjM3kau4l3Naf3fau4i"
def Oj:ax 0 112 Oi:=ay
def Ol:ar:=az "hbbcalaK4laakdRyeMNfR3dag4i"
def Om:ax 0 113 Ol:=ay
def On:ar:=az "GccecLfal3dm+cOa3fp5aaK4l3kqcbabT3hp+dvc3afdgj4dl3labgkaK4faglnml4denahadfblibkmbo3jap4b3rcbgbqaiqgcabsbbOucbtxcGrucbg3afbuv4bkmM3nau4l3zcacbuedgcbcbud+cEdxwuhuahvb3afLev3gau4i"
def Oo:ax 0 114 On:=ay
def Oq:ar:=az "IccecLfal3dm+cOa3fp5aaK4dfagdl3jabgiwjM4ekahafbdk3nababgnd+bQbod+cGcmpeccK+cHbrad+cFcqs3mat3vhlahlb3hava,v4naaabaacaafaagaadabfeabfhaaiaajaakaalaamaadl3xahsuK4eulqaaah3afLev3gau4iab3Bag3cau4dl3CabguouK4eulqaa3afLeu3gaK4ial3GabiLuKeLu3afLeu3gaK4i"
def Ot:ax 0 115 Oq:=ay
def Ou:ar:=az "oebial3fm+b;amPbm5c3jaK4lbfeLgadK+cIacfed+cdejklm3jan4i"
def Ov:ax 0 117 Ou:=ay
def Ow:ar:=az "SbbcalaL4dl3haa2v4fagl2whia4dejahafblhibhic3eakal4l3naeCm,+qfan5FaeHp,+qg5aloqL3gar4l3tafrcsat5RadouKau5Waenu,+qhau52aewu,+qi5WlwOuau5;aesu,+qj5WlwuL5RlEOu5alIuL4eul3daL4ial3LaaTuCuMau5+bkaaTuHu25alxuL3dau4i"
def Ox:ax 0 118 Ow:=ay
def Oy:ar:=az "JbbcalaL4dl3gaagfaK4faglnhg4deiahadfblahibfhbk3eajal4l3naed+bVbmrcnao5Gaeoq,+oX5alpOras5OaaadEbvabuaed+cJcvu5altOu4eul3daL4iab3BkhM3iau4l3CaaguCuMau5;aaguHu45alxuL3dau4i"
def Oz:ax 0 119 Oy:=ay
def OA:ar:=az "Jcceafalm8baNaK4dl3jaadSbircjak5ye+bfdd+bAbmrcn5allOo4epl3faNaM4ial3saacadbsd+cKcrt3rau3whqahqb3hava,w4dfal3zah3yau4eul3faNaR4il3BaaguCuQ3Aau4eul3faNa84iadk3Eaad5buage+bfdB+bfbud+cLdxwu3fauaK4iaaacaadaabbebdeaafaagaahaai"
def OB:ax 6 120 OA:=ay
def OC:ar:=az "ibbcalaN4dlaaQad4eel3daN4ial3gubaaaxbqfg3dah4i"
def OD:ax 0 121 OC:=ay
def OE:ar:=az "zcceafal3faNaK4dl3jaadSbircj4ekl3faNaM4ial3naaabd+cKcmn3mao3qhlahlb3hapaq4dl3sahrcr4esl3faNaY4ial3uaad5btagagkuMd+cMdxwu3fauaK4i"
def OF:ax 0 122 OE:=ay
def OG:ar:=az "Fccec+bffalm+bgbp8daK4dk3kaajjcbkblcbdbnd+chcmo3jap3rhiahib3hp8d3af+bfgqar4naaabaacaadaaeaafaagbkahaaiaajaakaalaamaadfal3uahrct3tau4esl3we+bfg3af+bfeu3gaY4idk3ycddbugue+bfgd+ccbuswu3xau4haaabaacaadaaeabbfaagaaeul3Ee+bfg3af+bfeu3ga:4ial3Fe+bfg3af+bfeu3gaK4i"
def OH:ax 0 123 OG:=ay
def OI:ar:=az "=ddgahaial3haNaLaK4l3raajqcbrbsabd+chctu3qau3xhpahpb3kp8d3af+bfj,wa,x4dl3zakrcu4eul3haNaLaY4ial3Be+bfjd+ccbud+cNbu3mp3b3afcl,C4dk3EcalbucblbuacacibyK3afbuwibxK3afbuw4kaaabaacaadaaeaafaagaahabdiaajaadk3NaajucaubuccjeLueclqAcacufbMe+bfjd+ccbud+ckeAywu3Mau3YhuahGbhHc3np+cij3afcm,Xa,Ya,Z4taaabaacaadaaeaafaagaahaaiaajbpddfgkbpalaamaanaaoaapaaqaaraasaadl31aosuKau5+bNcambuguouK5alyOu4eulao3haNaLa,84ial3:cambuibuKbu3hauaOaK4i"
def OJ:ax 0 124 OI:=ay
def OK:ar:=az "+a,fbkalm8b3laK4l3re+bfgd+ccbq3mar4dk3uadaajucaubuccgeLuacalJteywvu3tau3Ehsahsb3np5a3afLm,Da,E4qaaabaacaadaaeaafaagaahaaiaajbnakaalaamaanaaoaapaadl3GansuK4eulan3lau4iadk3KaeaajucaubucNgeLuacalJCeywvu3Jau3UhuahFb3pp5a3afLo,T3oa,U4qaaabaacaadaaeaafaagaahaaiaajbnakaalaamaanaaoaapaadl3WansuK4eulan3lau4iadk3ZeLmeLoccg3afLuwcNg3afLuw4gaaabaacaadabbeaafaadc34aajucbubue+bfgd+cOcvu33au3:huahBb3qav3oa,:4dl3<anouK4eubaaapjvcbu3afbuw4alan3lau4i"
def OL:ax 0 125 OK:=ay
def OM:ar:=az "yecicLjalm5b3jp5aaK4dladacubbld+cPckmrcn4eolqaa3afLip3kaM4ial3raaadqicabqbbreLfacd+cQestuKhuahvb3afLiv3kau4i"
def ON:ax 0 126 OM:=ay
def OO:ar:=az "UecicLjalm5b3jp5aaK4dl3oadacubbod+bJcnprcq4erlqaa3afLis3kaM4ial3uaaadqicabtbbu3lp+cOi3afck,v4dl3xeLfd+cxbu4euleckacubbud+bRcwuhuahvb3afLiv3kau4ial3GeckeLfacd+cRdwvu3Fau3Khuahzb3mava,K4dl3MamsuK4eulqaaam3afLiv3kau4ial3Qeckald+bScvuhuahvb3afLiv3kau4i"
def OP:ax 0 127 OO:=ay
def OQ:ar:=az "TecicLjalm5b3jp5aaK4dl3nadacubbnd+cPcmorcp4eqlqaa3afLir3kaM4ial3taaadqicabsbbt3lp+dZi3afck,u4l3xeckeLfacd+cSewvuK3wau3Bhuahzb3afLfv3mau4dl3DalouKau5;cIfbuFSucJfbunwu5alAuL4euleckeLfd+cTdvuKhuahvb3afLiv3kau4ial3SeLfal3afLiv3kau4i"
def OR:ax 0 128 OQ:=ay
def OS:ar:=az ">ecicLjalm5b3jp5aaK4dl3oadacubbod+bJcnprcq4erlqaa3afLis3kaM4iadl3ueLfd+cxbt4eulqaa3afLiu3ka54ial3xaaadqicabvbbu3lp+cOi3afck,y4l3BeckeLfacd+cUdwvu3Aau3Fhuahzb3mp+d4h3afdl,Ea,F4dfal3IamsuK3Hau4eul3Kqaaam3afLiv3kau4il3Ncalbuau5+bmcblbuguouK5alyuL3Mau4eul3Vqaa3afLiu3kaK4il3Xcalburcuau5+bIcclbuguouM5alyuL3Wau4eul36cclbuiLuKeLu3afLiu3kaK4ial3:eckedld+cVcvuhuahvb3afLiv3kau4i"
def OT:ax 0 129 OS:=ay
def OU:ar:=az "YbbcalaL4dlaK4fagdl3iadaaTinhj4ekahadfbl3oaaad2x3fap4l3raeCq,+qkar5NaeHt,+ql5alsuL3gau4l3xaeCu,+qmau5ZaeHu,+qn5alwuL3hau4l3Dafrcuau5;adouKau5*agrcuau5+beaesu,+qo5*lwuL5;lAOu5alEuL4eul3daL4iab3madklM3eam4l3RaaTuwuKau5+bwaaTunu,+qp5alxuL3dau4i"
def OV:ax 1 130 OU:=ay
def OW:ar:=az "+bndcgahal3haPaL4dl3laaMakP4ell3haPaL4iadc3naajmcanboaajqcbrbsaajuccubuaajucdubuqneabpbbtcbydbum+czu3jau4dl3Faajucaubuabd=cvu4eulaijucbu3afbuL4dcaiaajucbubu3haya,R4ial3kaL4ddc3TabaajucaubuacabguLwud+b,dCyu4eub34aiaajuccubuabackuMd+b8dxwu33au3=huahEbjEccu3afbux3kaw4b3+a,aiaajucdubuabackuMd+b8dxwu3+a+au3+bihuahEbjEcdu3afbux3kaw4l3+bmaiaj3hava,+bm4i"
def CH:ax 0 131 OW:=ay
def OX:ar:=az "DbbcalaN4dl3faaMaeP4efl3daN4iadk3haajgcchbid+b9bjaajlcdmbnd+b9boxbykp3eaq4maaabaacaadaafaagaahaaiaaeabijaakaalaadl3saajrcbsbt4eubadaajucaubuubbuxbyzu3eau4al3Dad3dau4i"
def CI:ax 0 132 OX:=ay
def OY:ar:=az "rbbcalaK4dlaaMadP4eel3daK4iadk3gaajfccgbhd+b:bikMjaajlcdmbnd+b:bokkp3daq4naaabaacaadaagaahaaiaajaaeabjfaakaalaamaai"
def CJ:ax 0 133 OY:=ay
def OZ:ar:=az "Ocbeal3faP4dl3iaaghoiK4ejl3faP4ial3laaabaaibmKbngoLlpd+cWckq3gar4l3tafgsNtS3hau4dk3wafagibvubuafagEbvabuabkuMd+b;cwuafagkuMEbwbuaabkuMd+b;cwuqneabHbbOcbBdbum+czu3fau4uaaabaacaadaaeaafaagaahaaiaakaalaamaanaaoaapaajabdqabdraasaataai"
def xN:ax 0 134 OZ:=ay
def P0:ar:=az "scbeal3faL4dlaK4fagdlafaaghngi4ejahadfbl3naaafibmnboabd=cpq4erl3faO4iab3lafkkM3gal4l3faL4i"
def P1:ax 0 135 P0:=ay
def P2:ar:=az "HbbcalaN4dl3gaaMafP4egl3daN4ial3iubaaajicajbkxbyhl3eam4dlaK4fagdl3oaeaajocbpbqgrnns4etahadfbb3xadaajucbubuaeibvubud+b=buxbyCu3eau4b3vaekuM3fau4l3Had3dau4i"
def xO:ax 0 136 P2:=ay
def P3:ar:=az "+cxcbeal3faP4dl3paajocbpbqgrosK4etlqbam+cxu3gau4dlaK4fagdl3xagaajucaubugunzu4euahadfbl3Gaajucaubuagibvubuabd=cvurcu4eucafafjucaubuaajucaubuagibvubuBbbuzbyCujHcau3afbuw4ab3EagkuM3hau4l36af3fau4ial37aaabd+cXcvu3iau4l3:Bbaaajucbubuzbiyu3jau4l3*aiahaajucbubuahibvubuabd+b>cvuibED3afbuv4ddcaiahibvubujucaubuguaiahibvubujucbubugukCuwuM4eulaiqbbbbum+cxu3fau4ial3+bEahyuM3kau4dl3+bGahouK4eub3kaK4adc3+bIaiajibvubuaiajkuMibwubu3laza,+bP4laN4dl3+bRaajucbubuahibvubujucbubuguouK4eukBbaakjucaubuzbyyualjucaubuzbyyud+cYbu3nau4nbaacaadaaeaagaahaaiaajaaaaafabjkaalaamaak3+b?Bbaakjucbubuzbiyualjucbubuzbiyud+cZbu3nau4nbaacaadaaeaagaahaaiaajaaaaafabjkaalaamaalaN4l3+cianaiajtbvabuazbixu3oau4l3+cnanamzbivu3oau4l3+cqanaiajkuStbwbuaazbiyuqbbbbum+cxu3fau4i"
def CK:ax 6 137 P3:=ay
def P4:ar:=az "+bgcbeal3dm+a+a3faL4dlabnfMag5qabwiQ5alhOj4ekl3faL4iadl3mcacblomZ4enlcbcboopKaq5LcccbsgtouK5alruL3fau4iadl3ycacbuouVau52cacbuouT5alxOu4eulcbcbuwuKau5+a,cbcbuouKau5+bicacbuouT5+a,lxuL5alCOuau5+bucbcbuabyuMHwu5alzuLau5+bIcccbuguouK5alyuL3fau4ial36cacbuouWau5+b0cbcbuouK5alxuLau5+b:abwuM5alwuLau5+b,cccbuguabyuMowu5alAuL3fau4i"
def P5:ax 0 138 P4:=ay
def P6:ar:=az "Xdbgal3em+a+a3haL4l3neddabd+c0cmn3mao3qhlahlb3ip+d=e3afchpaq4l3teddacd+c0cst3sau3whrahrb3kp+d=e3afcj,va,w4dl3yaircuau50akrcu5alwOuau58abguacguswu5alzOu4eul3haL4iadl3Lechecj2y4eulechecjd+c1cvu3hau4iadc3RabibuKbuacibuKbunxu3hau4i"
def P7:ax 0 139 P6:=ay
def P8:ar:=az "Dcbeal3faP4dk3haajgcchbid+b:bjaajlcdmbnd+b:boObdkp3gaq4maaabaacaadaafaagaahaaiaaeabijaakaalaadl3safaad+b:bsFStNuYkuMwru4eulaad+b9buabd+b;cvu3fau4ial3Daa3fau4i"
def P9:ax 0 140 P8:=ay
def Pa:ar:=az "Ydbgal3haL4ddc3jaaacibijbkabacibmnboslp4eqdcaaacibrsbtabacibvubunyu3hau4iadlaK4fagdl3Bahaagunwu4euahadfbdc3Haaahibvubuabahibvubusyu4eudcaaahibvubuabahibvubunyu3hau4iab3FahkuM3iau4l3haL4i"
def Pb:ax 0 141 Pa:=ay
def Pc:ar:=az "obbcalaP4dfagdlaagdweM4efahafbbaad+cZbg3bah4dl3jaagiojK4ekl3daP4ial3maaiblKbm3dan4i"
def Pd:ax 0 142 Pc:=ay
def Pe:ar:=az "0cbeal3faN4dl3iaajhcbibjgkolK4emlaajncaobpabd+c2cqrd+cYbs3fat4ial3vaaabd+cXcvu3gau4laN4l3yagaajucbubuafEbvabuxbiAu3hau4l3Gagaajucbubuafibvubuabd+cbcvuxbiDu3hau4l3RagaajucbubuafkuMEbwbuaxbiBud+cZbu3fau4i"
def CL:ax 0 143 Pe:=ay
def Pf:ar:=az "hbbcal3cm8aaK4lcbbbdgekfM3dag4i"
def Pg:ax 0 144 Pf:=ay
def Ph:ar:=az "Webialm5b3jaK4dl3peLfd+cxboap5IadeLfJrbsrct5alqOu4eul3jaK4ial3yaaeLfacd+c3dwvu3xau3Chuahzb3kp+dvc3afdj,Ba,C4dl3EaksuK4eulak3jau4iadl3HccjbuguaK4faglnuv4deuahadfbliLxveLu3np5a3afLm,M4l3OaaeLmacadd+cdexwvu3oau4l3TansuK4eulan3jau4iab3Wk,JM3Kau4l3jaK4i"
def Pj:ax 0 145 Ph:=ay
def Pk:ar:=az "AcbealmybaL4ddcaajfcbgbheGd2z4ekl3faL4iadc3maajlcbmbneGd3a2A4dcaaaajrcasbteGduGbuxGGwujqcau3afbuw4l3faO4i"
def Pl:ax 0 147 Pk:=ay
def Pm:ar:=az "vccec+bffal3fp8daL4dl3jaagiaK4faglnkj4delahadfbli+bfike+bfm3ip8d3af+bfhn4l3pcahboabopq4erle+bfh3af+bfes3gaO4iab3ukkM3lat4l3vqda3af+bfeu3gaL4i"
def Pn:ax 0 149 Pm:=ay
def Po:ar:=az "Qcbeal3dm3a3faL4dl3habngMah5sabwjQ5aliOkal5Acacbngoabspq5almOras5Ocbcbuguabsvu5altOu4eul3faL4iadlaK4fagdl3Bafabnvu4euahadfbdc3Gcacbuafibvubucbcbuafibvubuwzu4eul3faL4iab3EafkuM3gau4l3faO4i"
def Pp:ax 0 151 Po:=ay
def Pq:ar:=az "+bQediccjakalm5bm+bac3jp+cijaKaK4dl3uehgadd+c8cturcu4eulqja3afciu3kaKaM4ial3zaaehgadqBdabwbhvibum+egu3mau4dl3EaleLfd+c9cvu4fagdlaljucnubuguwuK4euahafblaljucnubud+c:cu,+qr4laljucnubuiPuKcaueLu3np5a3afLm,X4l3ZalaljucnubutPubMaajzcnu3afbuw4dlaleLmd+c<cvu4euhbal3;aaeLmadd+c3dwvu3:au3?huahzb3op+dvc3afdn,>a,?4dl3+a+aosuK4eulqja3afciu3kaKa04ial3+bbaljuclubukuMjyclu3afbuw4dlcbnbuguaK4fcglnuv4deuahcdfdlicxvecu3rp+dNg3afcq,+bn4b3+bpalecqd+c=cvu4bkAM3+blau4l3+btccnbuguaK4feglnuv4deuahedffliLxveLu3tp5a3afLs,+by4b3+bAaleLsd+c9cvu4bkAM3+bwau4dk3+bEaljucjubualjuckubuqjcabybbualjuclubu3afciy3kauaK4qaaabaacaadaaeaafaagaahaaiaajaakaalaamaanabmoaapaai"
def Pr:ax 6 152 Pq:=ay
def Ps:ar:=az "Scceafal3faNaL4dl3iaajhcbibjokKal5Babaajocapbqgrwns5almtL4eubaad+cpcu,+oU4adlaajucbubusuK4eul3faNaL4ial3DaajucaubuabEbvabu3hau4l3JaaaajucaubuabEbvbuajAcau3afbuw4lag3fauaO4i"
def Pt:ax 0 154 Ps:=ay
def Pu:ar:=az "rcbeal3faN4l3jaaaaabd+c>cjkd+cmcil3iam3ohhahhb3ganao4l3qafd+bFbp3faq4i"
def Pv:ax 0 155 Pu:=ay
def Pw:ar:=az "GbbccLlp5a4l3haad+c?bgqabaGh3ep5a3afLdi4l3kaad+c>cj1cId3afblk4laad+c>cm1cJd3afbon4dlcGdcapcGdcbrcKdubdqstguaK4faglnuv4deuahadfblibxvbu3gau4b3Bafaad+c*cuQjw3afbuv4bkBM3xau4l3GeLd3afLcu4i"
def CM:ax 0 156 Pw:=ay
def Px:ar:=az "ncal3faajecbfbgohK4eibaaabjjcbl3afbmk4a"
def Py:ax 0 157 Px:=ay
def Pz:ar:=az "+bMbcccLdal3cm+dvap5aaL4l3iedbd+c,bhd+c+biqabaGj3fp5a3afLek4dlaK4fagdl3mafcbbbmgnnlo4epahadfbl3tcJebsktMcJe3afbuv4lcbbbuaficvucbubu4eulcIebukuMcIe3afbuv4ccGeecucbbbuaficvucaubucbbbuaficvucaubuqbcabAbbud+dacHucGe3afcuv4ab3rafkqM3gar4dlaK4fcgdl3Yagccbbugunxu4euahcdfddc35cJebuccbbuagiLvucJubukAucJe3afbuv4dccIebuccbbuagiLvucIubukAucIe3afbuv4ccGeecuccbbuagiLvucGuecud+dacAucGe3afcuv4b33agkuM3hau4dl3+bqcabbuouT4eubcbbbuicuKcaubucKe3afbuv4adlcabbuouW4eubccbbuiLuKcKubucKe3afbuv4adlcJebuwu14eulqaa3afLcu3eaL4ial3+bMeLe3afLcu3eaO4i"
def PA:ax 1 158 Pz:=ay
def PC:ar:=az "1bbccdlp+dvc4l3hqcbabT3ep+dvc3afddg4dlaK4fagdl3iaeaajicajbkglnhm4enahadfbc3rcbdbqaajscatbuaeibvubuqgcabubbOucbuxcGrucbd3afbuv4b3paekoM3fap4dlaK4fcgdl3Eafaajucbubugunzu4euahcdfdl3Ncad3afbuW4kccdbuaajucbubuafibvubud+bubuuLbuxL+bXDuccd3afbuv4oaaabaacaadaaeaafaagaahaaiaajabbkaalaamaanaab3LafkuM3gau4l31edd3afdcu4i"
def CN:ax 0 159 PC:=ay
def PD:ar:=az "zbbccdlp+dvc4dkaajdcaebfaajhcbibjqgcabgbbkucblaajnccobpd+bvbqaajscdtbud+bvbuuLcruqcdabVbbmcbu3afdcu4xaaabaacaadaaeaafaagaahaaiaakaalaamaanaapaaqaaraasaaobjddhstbjcdhjbuauaavaawaai"
def PE:ax 0 160 PD:=ay
def PF:ar:=az "cabacil3bp+dyl4lqliab,+o1bb,+o2cb,+o3db,+o4eb,+o5fb,+o6gb,+o7hb,+o83afiab4i"
def PG:ax 0 161 PF:=ay
def PH:ar:=az "+bYcbecil3dm+dya3fp+dyl4dk3pabd+dbbod+dcaeic3gp+esmp+esmp+dyl3af<fp3af<gq3afihr4kaaadaabdefgbdcdefgbdecfgafbgagaahabdiabdjaadl3taK4faglnsX4detahadfblas3jau4dk3wAbihRbud+ddcu,+qsAbihRbud+ddcu,+qtDxuAbihRbud+ddcu,+quDxu3kau4maaabaadaaeaahaaiaacaceifabigaajaakaalaadc3HAbih4buajkvuAbihRbuAbih<buPwuAbihRburbuAbih:buPwuDAukGuaiAb<gubukxuaiAb<fubukxu3lau4dk36AbihKbud+ddcu,+qvAbihKbud+ddcu,+qwDxuAbihKbud+ddcu,+qxDxu3mau4maaabaadaaeaahaaiaacaceifabigaajaakaalaal3+a+alAbihKbuAbihMbuPwuAbihKbuAbihSbuPwuDzuAbihMbuAbihSbuPwuDzuk,*u3nau4b3+brakamkvuAbihKbuAbihMbuAbihSbuAbihYbuakkvuAbihRbuAbih<buAbih:buqliab,+bsbbIcbGdbEebAfbygbwhbu3afihu4bksM3tau4dl3+bMaK4fcglnuQ4deuahcdfdlav3oau4c3+bPanAbihubuanAbicubukxuAbihA3afbuv4bkEM3+bMau4l3+bYeih3afieu4i"
def PI:ax 0 162 PH:=ay
def PJ:ar:=az "rbbcalaN4laN4dla;4fagdlaeCfK4egahadfbb3kadaaaeGklvemubbnxbbjo3eap4b3iaeyhQ3fai4l3rad3daq4i"
def PK:ax 0 163 PJ:=ay
def PL:ar:=az "Xcbeal3dm5a3faL4dfal3heLcd+cxbg3gah4efl3faO4il3kcJcbjnkMal5AcJcbnwo15almOpaq5KcIcbsntK5alrOuau5UcIcbucJcbuwwu5alzOu3jau4eil3faL4il3FcIcbuouK3Eau4eul3IcGccaubuguouKau5+bicGccbubuguouK5alzuL3fau4ial3UcGcecuabd+decvu3fau4i"
def PM:ax 0 164 PL:=ay
def PN:ar:=az "gbbcal3cm5aaL4leLbqaad+dfcde3daf4i"
def PO:ax 0 165 PN:=ay
def PQ:ar:=az "tcal3habvhgDh93fai4la;4fagdl3kafCjK4ekahadfbb3oaaaeafGopveqdTcnr4b3mafylQ3gam4"
def PR:ax 0 166 PQ:=ay
def PT:ar:=az "jcbeal3faL4laaabd+dgcfgChK3fai4i"
def PU:ax 0 167 PT:=ay
def PV:ar:=az "ibbdal3eaL4laagebbsfg3eah4i"
def PW:ax 0 168 PV:=ay
def PX:ar:=az "6cbeal3faL4dl3kaagjd+drbkrclam5Cabgoaagqspr5alnOs4etl3faL4ialaKa34dl3vaaguaK4faglnuv4deuahadfblav3iau4dk3Aaaahibvubud+dsbuabahibvubud+dsbuDzu3jau4maaabaacaadaafaagaahaaiaaeabijaakaalaal3Lagainvuau5+bkagagaiDvunxu5alzuL4eubahai3gava,V4ab3Xk,wM3xau4dc3Yaaafibvubuabafibvubunyu3fau4i"
def PY:ax 0 171 PX:=ay
def PZ:ar:=az "GdcgcLhalm+dvb3hp5aaK4l3oedeacd+dtcno3nap3rhmahmb3jp5a3afLiqar4dl3tajssK4etlqaaaj3afLgv3iau4ial3yedeacd+ducvu3xau3Bhuahyb3lava,B4l3Daaakd1cvu4leLi3afLgu3iaK4i"
def Q0:ax 0 172 PZ:=ay
def Q1:ar:=az "Gcceafal3faNaK4laN4dl3maaglaK4faglnnm4deoahadfbliblnbp3jaq4l3tabaiJsbt3sau3whrahrb3kp5a3afLj,va,w4dl3yaksuK4eulak3faNa,z4iab3BageLjBLbuzL+bXwu3hau4b3FknM3oau4l3Gag3fauaK4i"
def Q2:ax 1 173 Q1:=ay
def Q3:ar:=az "Ncbeal3faN4laN4dl3jabaK4faglnji4dekahadfblaj3hal4l3naagmabagyopNnq3iar4dl3taagsabagyvuLtuwuK4eubahkuM3iau4al3CafaaahELvabud+dvbuubbuxbyzu3gau4b3JaaahELvbua3bau4b3MkjM3kau4l3Naf3fau4i"
def Q4:ax 0 174 Q3:=ay
def Q5:ar:=az "pccecLfal3dm+cOa3fp5aaK4lcacbgabqccabWcbicbcbkd+cEdhjlhmahmb3afLen3gao4i"
def Q6:ax 0 175 Q5:=ay
def Q7:ar:=az "obbeal3em5aaL4dlbbcadeGgdIcfhrci4ejlbccadeGld+cfckm4l3faL4ial3faO4i"
def Q8:ax 0 176 Q7:=ay
def Q9:ar:=az "jcbeal3faL4laaabd+dwcfgChK3fai4i"
def Qa:ax 0 177 Q9:=ay
def Qb:ar:=az "lcceafal3faKaL4laaabd+dxdgh,+qzhiahib3fajak4i"
def Qc:ax 0 178 Qb:=ay
def Qd:ar:=az "+bydbgal3haN4l3laaabt+bfkblaa4lacgn3iao4dl3qahopK4eqlaa3har4ial3taags3jat4dl3vabaiovu4eulaaacz+bf+d?vu3hau4iadl3BaiahkvuaaUuwwu4eulaaabt+bfvabuaaiahkvuabyvuY+bf+d?dzu3kau4l3Qajabt+bfvbuaaacI+bfvu4dcajabahkvut+bfxbuaaaaabt+bfvbuaaI+bfxu4laj3hau4ial35aaaiahkvut+bfxabua3bau4dl3:acaaabahkvut+bfxbuaaZzurcu4eudcaaabahkvut+bfxbuaaaaabt+bfvbuaaI+bfxu4laaabt+bfvbuaaacI+bfvu4laa3hau4ial3+boaaait+bfvbuaaacI+bfvu4laaabt+bfvbuaaahd+dAcvu4laa3hau4i"
def CO:ax 6 179 Qd:=ay
def Qe:ar:=az "Hdbgal3haN4l3jaaabacaaglt+bfibjbkbm4dlabacoop4eqlaa3har4ial3taags3iat4dc3vaaabt+bfvabuaaaact+bfvbuaaz+bf+d?xu3bau4l3Caaaaguaht+bfxbvbua3a0+bfdu4laa3hau4i"
def Qf:ax 6 180 Qe:=ay
def Qg:ar:=az "rbbccclp3b4dlaandMae5maawgQ5alfOh4eilqba3afccj4ialubb,+qAaad+dBcklubb,+qBaad+dBcnoqbcabmbbp3afccq4i"
def Qh:ax 0 181 Qg:=ay
def Qi:ar:=az "Hcceafalm8baNaK4dl3kaadSbjrckal5Ae+bfdd+bAbnrco5almOp4eql3faNaM4ial3taacadbtd+cKcsu3sau3xhrahrb3hava,x4dl3zahrcu4eul3faNaY4ial3Baad5bu3jau4l3Daiage+bfdi+bfwv3af+bfuv4lai3fauaK4i"
def Qj:ax 0 182 Qi:=ay
def Qk:ar:=az "rcbeal3dmda3faL4lbcCfMag5rbcHiQ5alhjLak5zabK+dCabcd+czcmnrco5allpL3faq4i"
def Ql:ax 0 183 Qk:=ay
def Qm:ar:=az "+bTecicLjal3fm+dZam5b3jp5aaK4dl3peLfd+cxbo4epleceacqgcabrbbOeLfeLfd+dDeqstuhuahvb3afLiv3kau4ial3AeceeLfd+dEcvu3zau3Dhuahybhzc3lp+dNg3afck,Ca,Da,E4dfal36amsuK35au4eul38qaaam3afLiv3kau4il3;cakbuacd+bNcvuau5+b<cbkbu5alwuL3:au4eul3+baqaa3afLiu3kaQ4il3+bccakbuacd+bNcvu3+bbau4eub3+bgcbk3afbuO4l3Geceaccakbuadd+dFeyxvu3oau4dc3NalanecealaniLvueLuacadkuMd+cQeBxwu3Mau3YhuahGbiLGF3afLuw3nav4l31amsuK4eulqaaam3afLiv3kau4iadc3+bieceeckaliLuKeLualiLuMeLud+dDeBAxu3+bhau3+brhuahEb3afLfv3nau4ddc3+btamouKau5+cRaliLuKcJubualiLuMcJubuObdyucJfbuFSuNuYkuMwzu5alJuL4euleceeLfadd+cTdwvuhuahvb3afLiv3kau4ial3+bSeLfam3afLiv3kau4i"
def Qn:ax 0 184 Qm:=ay
def Qo:ar:=az "+bddcgahal3em+cOam5b3haNaK4l3qecdeLed+dGcpq3par3thoahob3jp+dvc3afdisat4dl3vajsuK4eulaj3haNa,w4iadl3ycaibuouT4eul3Cedid+dIbuacd+dHdvu,+oO3Bau3Ghuahzb3lava,G4dl3Ial4eul3haNaQ4iadk3Jedid+dIbuakacBbbud+dKdxwuecdK+bRbuad+dJcwuhuahvb3hava,S4naaacaadaagaahaabbebgeaafabgiaajaakaalaamaaial3Uediacd+dLcvu3nau4dc3YecdccibuamiLvueLuacd+cRdAvu3Xau36huahDb3oav3ka,64dl38ajsuK4eulaj3haNa,94iadk3;ccibuamamkuMand+dNeyxvuecdK+cHbuad+dMcwuhuahvb3hava,+bc4oaaabaacaadaaeaafaahaaiaagabhjaakaalaamaanaai"
def Qp:ax 1 185 Qo:=ay
def Qq:ar:=az "+blecicLjal3fm+dZam5b3jp5aaK4dl3peLfd+cxbo4epleLf3afLiq3ka54ial3teceeLfd+dEcst3sau3whrahrbhrc3lp+dNg3afck,va,wa,x4dfal3ZamsuK3Yau4eul31qaaam3afLiv3kau4il34cakbuacd+bNcvuau5+bYcbkburcu5alxuL33au4eul3=qaa3afLiu3ka54il3?cakbuacd+bNcvu3>au4eub3+bacbk3afbuL4l3zeceaccakbuadd+dFeyxvu3oau4dc3GalanecealaniLvueLuacadkuMd+cSeBxwu3Fau3RhuahGbiLGF3afLuw3nav4l3UamsuK4eulqaaam3afLiv3kau4iadc3+bbeceeckaliLuKeLualiLuMeLud+dDeBAxuhuahvb3afLiv3kau4i"
def Qr:ax 0 186 Qq:=ay
def Qs:ar:=az "AdcgcLhal3em+dZam5b3hp5aaK4l3mecdeLed+c5clm3lan3phkahkb3jaoap4dl3rajsqK4erlqaaaj3afLgs3iat4ial3vecdaiacd+dOdwvuhuahvb3afLgv3iau4i"
def Qt:ax 0 187 Qs:=ay
def Qu:ar:=az "+bgdcgcdhal3em+cOam5b3hp+d4haK4l3recdeLed+dGcqr3qas3uhpahpb3jp+dvc3afdita,u4dl3wajsuK4eulqhaaj3afdgv3iau4ial3Aedid+dPbu3lp+d4h3afdk,A4dl3Ccakbu4eul3Fcbkbuacd+dHdvu,+oO3Eau3Jhuahzb3mava,J4dl3Lamrcu4eulqha3afdgu3ia54ial3OcbkbualalkuMd+dQdxwucbk3afbuv4ledk3afdgu3iaK4ial3Wediacd+dLcvu3oau4dk30ecdcckbuaniLvueLuacd+cUdAvu3Zau38huahDb3pp+d4h3afdo,73ka,84oaaabaacaadaaeaafaagaahblaiaajaakaalaamaanaadl3:ajsuK4eulqhaaj3afdgv3iau4ial3?ecdcckbuanedod+dReywvu3>au3+bchuahBbcck3afbuw3kav4l3+bfedkaj3afdgv3iau4i"
def Qv:ax 1 188 Qu:=ay
def Qw:ar:=az "uccecLfal3dm+cOam+d4bp5aaK4dlcadbg4ehlecccbdbjd+bRcikhlahlb3afLem3gan4ial3peccccdbpd+cHcoqhrahrb3afLes3gat4i"
def Qx:ax 0 189 Qw:=ay
def Qy:ar:=az "1cbeal3faN4laN4dlaK4fagdl3kagaagknjl4emahadfbl3iaN4laK4dfcgddc3qaiafgqnpras5Pafaiibvubuaaagibvubuabd+b,dzvu5altuL4euahcfdlahafaiibvubuubbuxbyzu3iau4b3NaikuM3jau4l3Pahaaagibvubuubbuxbyzu3iau4b3WahafaiEbvbuaxbyxu3gau4b3oagknM3hao4l31af3fau4i"
def Qz:ax 0 190 Qy:=ay
def QA:ar:=az "Dcbeal3faK4laK4dlaK4fagdlagaajicbjbkglnhm4enahadfbl3rabaajrcbsbtagibvubud+dTbud+dScqurcu4eubag3gau4ab3pagkoM3hap4l3Daf3fau4i"
def QB:ax 0 191 QA:=ay
def QC:ar:=az "NbbcalaN4laN4laK4l3iaaghd+dUbi3gaj4dlaK4fagdl3lagafglnkm4enahadfbl3radubaaaaeaeafagibvubukyuEbsbtbuxbyruqbbabum+cxuubbuxbiqu3eau4b3Haeafagibvubukyu3fau4b3pagkoM3hap4l3Nad3dau4i"
def QD:ax 0 192 QC:=ay
def QE:ar:=az "NbbcalaN4laN4laK4l3iaaghd+dUbi3gaj4dlaK4fagdl3lagafglnkm4enahadfbl3radubaaaaeaeafagibvubukyuEbsbtbuxbiruqbbbbum+cxuubbuxbiqu3eau4b3Haeafagibvubukyu3fau4b3pagkoM3hap4l3Nad3dau4i"
def QF:ax 0 193 QE:=ay
def QG:ar:=az "Lcceccfal3dm+a+a3fp+d=eaL4dl3iedcabgid+b?chjrck4ellqea3afcem3gaL4iadl3ocacbnooW4epdcabEbqbMacccbsd+dVcrthuahvb3afcev3gau4ial3yabcbcbuibwubuvhuku93hau4dl3FcacbuouT4eubagy,+qCu3hau4al3Kagqebbbu3afceu3gaO4i"
def QH:ax 0 194 QG:=ay
def QI:ar:=az "ucbeal3dm+d=am+d=baL4dlcacbfcadbhsgi4ejlcacbkcadbmnln3fao4ial3qcbcbpcbdbrnqs3fat4i"
def QJ:ax 1 195 QI:=ay
def QK:ar:=az "Lcbeal3faN4laN4laK4dfagdlagaaginhjak5zaaagibmnboabd+dScpq5allrL4esahafblafaaagibvubuubbuxbytu3gau4b3BagkuM3hau4l3Dafabubbuxbywu3gau4l3HafaaagEbvbuaxbyxu3fau4i"
def QL:ax 0 196 QK:=ay
def QM:ar:=az "Wdcgcdhalm5b3hp+dvcaK4l3paacaeeGpdYcoq3oar3thnahnb3jasat4dl3vajsuK4eulqca3afdgu3ia04ial3zaiacd+dWcvu3yau3Chuahyb3lp+dvc3afdk,B3ka,C4dl3EajsuK4eulqca3afdgu3ia04iadl3Iedkacd+dtcvu3Hau3Lhuahyb3mp5a3afLl,Ka,L4l3NamsuKau5+bleLleLed+dfcvurcu5alyOu4eulqca3afdgu3ia04ial3Wedk3afdgu3iaK4i"
def QN:ax 0 197 QM:=ay
def QO:ar:=az "2cceafal3dm+dZam5baNaK4dl3pcIdboopK4eql3faNaK4ial3tecceLdd+dEcst3sau3whrahrbhrc3hp+dNg3afcg,va,wa,x4dl3zaisuK4eulai3faNa,A4ial3kaN4dl3Ccbgbu4eubajcagbuBbbuzbyxu3kau4adl3JahguaK4faglnuv4deuahadfbliLxveLu3mp5a3afLl,N4l3QecceLld+c5cvu3Pau3Thuahyb3nava,T4dl3VansuK4eulan3faNa,W4iab3Yajamzbyvu3kau4b31k,KM3Lau4l32aj3fauaK4i"
def QP:ax 6 199 QO:=ay
def QQ:ar:=az "Kcbeal3faK4dl3kaagjaK4faglnlk4demahadfblalibjlbo3ganap4dl3rafabgrCqs4etl3faM4ial3vabafibvubu3iau4l3zagahd+dYcvu3jau4l3CaisuK4eulai3fau4iab3FklM3mau4dl3Gaaguabgunwu4eul3faU4ial3faK4i"
def QR:ax 0 201 QQ:=ay
def QS:ar:=az "6cbeal3dm+baa3faL4dfal3habngMah5sabwjQ5aliOkal5Acacecnabd+decoprcq5almOr3gas4efl3faL4il3vcgcbu3uau4etl3xcfcbuouKau51ccccaubuouZ5alyuLau5=ccccbubuouK5alyuLau5+bgcccccubuguouK5alzuL3fau4ial3Tccceduabd+dZcvuau5+bCcfcbuCuU5alxuLau5+bMcfcbuHu,+qD5alxuL3fau4i"
def QT:ax 6 202 QS:=ay
def QU:ar:=az "+bCcalm5b4ddc3iaajhcbicgjbkal5BcIdbnwoK5almpLaq5LaajscbtcauecucGdecud+d0cwu5alruL4eucaajuckubucIdbukwujAcku3afbuw4addcaajucbuehueLdd+d1cvurcu4euialaajucmubukuMjycmu3afbuw4dceLdaajucmubuqscaLyObu3fp+eks3afPe,34ddk36aajucbucauecucGdecud+d2cwu35au3>huahDb3gp3b3afcf,=a,>4oaaabaacaadaaeaafaagaahblaiaajaakaalaamaanaal3*agau5+b*aajucbucguburcu5alAuL4euc3+bhaajucbuccueduecfd+d3cvu3+bgau3+bohuahCbhDccLe3afcuxcNe3afbux4acaaaajucnubuePeBPbuzP+ckwujBcnu3afbuw4"
def QV:ax 6 203 QU:=ay
def QW:ar:=az "Fcbeal3dm+ekam+ekbaK4dl3hcLcecgcLdecid+d5chj3gak4fal3nafsmK3man4ell3paf3fao4il3rcNcbqcNdbssrt3qau4epdl3wcNcbucNdbunwu4eul3faU4ial3faM4ial3BcOcbucOdbuywu3fau4i"
def QX:ax 6 205 QW:=ay
def QY:ar:=az ":cbealm5baL4dc3haajgcbhcgibjrckal5BaajncbocfpbqCrK5almsLat5Raajucjubuguaajucbucfubuozu5alFuL3gau4dc3Iafau5+baaajucbucfubuouKau5+bnaajucbuehueLdaajucjubuaajucjubuguyuMibAubud+d6dHGu5+bal,POu5al,IuL3fau4i"
def QZ:ax 6 206 QY:=ay
def R0:ar:=az "0calm+dNb4ddccbdbercfag5qaajicbjcakeclcadbnd+d7cmorcp5alhOq4eriadlaajscbtcgubu4eulaajuckubukuMjycku3afbuw4iakaaaajucbuccueduaajucjubucadbuBbbuzbyxud+d9cCuaajucbuehud+d8cyuj,Ecju3afbuw4xaaabaacaadaaeaafaagaahaaiaajaakaalaapaaqaaraasaamaanacfsoabstaauaavaawaa"
def R1:ax 6 207 R0:=ay
def R2:ar:=az "Mcbeal3faK4l3kaad+cmcjY3jak3mhiahib3galam4dl3oagrcn4eol3faK4iadc3qafibpKbqvdrRs=afibuMbuvduRu6StuafibuSbuvduSyu3iau4dl3GahabOadu1wwu4eulaad+cpcu84l3faK4ial3Mah3fau4i"
def R3:ax 0 208 R2:=ay
def R4:ar:=az "pbbccGlpyf4lpyf4l3iaad+cmch,+oP3hai3khgahgb3fajak4l3m2Cae2D4leGd3afGco4i"
def R5:ax 0 209 R4:=ay
def R6:ar:=az "Lcbeal3faN4l3jaad+bobivdj3gak4dl3mafabwlm4enbaad+cpco84al3haN4dl3rafaK4faglnrq4desahadfblaad+d:bt3iau4l3waajucbubuouK4eubagahubbuxbiwu3hau4ab3FkrM3sau4dl3GaajucbubusuK4eul3faN4ial3Lag3fau4i"
def R7:ax 0 210 R6:=ay
def R8:ar:=az "hbbccGlpyf4laaBbbdd+d<c,+o0ed+d;bf3afGcg4i"
def R9:ax 1 211 R8:=ay
def Ra:ar:=az "+btbbcal3cm+dvaaN4l3icabbhcbbbjgkvelBbcim3ean4dlaK4fagdl3paecbbbpgqnor4esahadfbl3wadcbbbuaeicvucbubud+d=buzbbBu3eau4b3Fadcbbbuaeicvucaubud+d>buzbbBu3eau4b3uaektM3fau4l3OadccbbuguveuBbbuzbbzu3eau4dl3gaK4fcgdl3Vafccbbugunxu4euahcdfdl32ccbbuafiLvueLu3hp5a3afLg,54l37adcag2Ezbbwu3eau4l3;adcIgbud+d?buzbbxu3eau4l3*adcJgbud+d?buzbbxu3eau4l3+bcadcGgcaubud+d>buzbbyu3eau4l3+biadcGgcbubud+d>buzbbyu3eau4b3+boadcKgbud+d>buzbbxu3eau4b30afkuM3gau4l3+btad3dau4i"
def Rb:ax 1 212 Ra:=ay
def Rc:ar:=az "+bmcbeccl3dm3am3bp3b4dk3kecccacbkgld+cjcjmecdcadbpgqd+cjcor3ganas4maaabaacaadaafaagaahaaiaaeacfhjaakaalaadl3uafat5Ragrcu5alwuL4eulecc3afceu4iadlagau53afrcu5alwuL4eulecd3afceu4iadlafrcuau5*cacbugucadbugusxu5alBOu4eulqba3afceu4ial3ip3b4dlaK4fagdl3Saicacbugunxu4euahadfbdc3ZcahbucacbuaiibvubucadbuaiibvubuOadzuubbuxbiGucah3afbuv4ccbhbucbcbuaiibvubucbdbuaiibvubuObdzuubbuxbiGucbh3afbuv4b3XaikuM3jau4l3+bmech3afceu4i"
def Re:ax 0 213 Rc:=ay
def Rf:ar:=az "+bwbbcc<lp+esm4lp+esm4dl3laK4faglnk24delahadfblak3fam4c3oaeaaaeFRpiboqbrvgsRt,+oZaaaeFRukuMibxubuvguRu=SCuaaaeFRukuSibxubuvguRu6SCuaaaeFRukuYibxubuvguSBuAb<dn3afbuv4bkkM3lau4dl3ga24fcgdl3YafnuX4euahcdfddc32afyu,+o9Ab<dubuafyuSAb<dubu3haya,84l3:agd+ddcu,+qEagd+ddcu,+qFDwuagGu,+qGDwu3jau4l3+a,ahd+ddcu,+qHahd+ddcu,+qIDwuahGu,+qJDwu3kau4c3+bhafafyu2Ab<dubuaikvuafyu4Ab<dubukyuajkvuAb<dH3afbuv4b30afkuM3gau4l3+bwe<d3af<cu4i"
def Rg:ax 0 214 Rf:=ay
def Rh:ar:=az "cabac<l3bp+esm4lqm<ab,+o:bb,+o;cb,+o<db,+o=eb,+o>fb,+o?gb,+o*hb,+o+ib,+o,jb,+pakb,+pblb,+pcmb,+pdnb,+peob,+pfpb,+pgqb,+phrb,+pisb,+pjtb,+pkub,+plvb,+pmwb,+pnxb,+poyb,+ppzb,+pqAb,+prBb,+psCb,+ptDb,+puEb,+pvFb,+pwGb,+pxHb,+pyIb,+pzJb,+pAKb,+pBLb,+pCMb,+pDNb,+pEOb,+pFPb,+pGQb,+pHRb,+pISb,+pJTb,+pKUb,+pLVb,+pMWb,+pNXb,+pOYb,+pPZb,+pQ0b,+pR1b,+pS2b,+pT3b,+pU4b,+pV5b,+pW6b,+pX7b,+pY8b,+pZ9b,+p0:b,+p1;b,+p23af<ab4i"
def Ri:ax 0 215 Rh:=ay
def Rj:ar:=az "rcbeal3fa,+p34l3habvhgPh,+qK3gai4l3kaaafRjkaaafy7nGmoSlp3faq4i"
def Rk:ax 0 216 Rj:=ay
def Rl:ar:=az "Ccbeal3dm3a3faL4dlabnfMag5qabwiQ5alhOjak5ycacbmgnabsop5allOqar5Mcbcbtguabsvu5alsOu4eul3faL4ial3AabK+d+abcd+d*cvu3fau4i"
def Rm:ax 0 217 Rl:=ay
def Rn:ar:=az "Mcbeal3dm5am5baL4lcaceGfcadeGh2Baj5xcIcblcIdbnomo5alkpLaq5LcJcbscJdbuotu5alruLau5ZcGcecucGdecud+d,cwu5alzuLau5=cKcbucKdbud+bNcwu5alzuL3fau4i"
def Ro:ax 0 218 Rn:=ay
def Rp:ar:=az "tcbeal3faK4dl3haaggaK4faglnih4dejahadfblai3gak4l3mabaaafibmnboJlbp4eqlaf3far4iab3tkiM3jas4l3faU4i"
def Rq:ax 0 219 Rp:=ay
def Rr:ar:=az "jbbcalaL4laaCdMae5naaHgQ5alfhL3dai4i"
def Rs:ax 0 230 Rr:=ay
def Rt:ar:=az "gbbcala34laavhdDe93daf4i"
def Ru:ax 0 231 Rt:=ay
def Rv:ar:=az "+bEccecLfal3dm+dva3fp5aaK4l3pedcabd+ducop3oaq3shnahnb3haras4dl3uahstK4eulqaaah3afLev3gau4iadk3yagd0bucbcbuguqacaGxJbu3jp5a3afLi,C4iaaacaadaaeaabbgbdfaagaahaadl3EcbcbuguaK4faglnuv4deuahadfblicxvecu3lp+dNg3afck,J4l3Lcbkbu4eulcIibukuMcIi3afbuv4kcGiecucakbud+egbud+efcxucGi3afcuv4iaaabaacaadaaeabbfaagaahaaabk,GM3Hau4dl3ZcccbuguaK4fcglnuv4deuahcdfdliLxveLu3np5a3afLm,44l36cIibucImbukwucIi3afbuv4lcJibucJmbukwucJi3afbuv4bcGiecucGmecud+efcwucGi3afcuv4bk,1M32au4dl3+bgcJibuwu14eulqaa3afLeu3gaM4iadl3+bkcacbu4fel3+bnouT3+bmau4eub3+bocbcbuicuKcaubud+ehbucKi3afbuv4l3+bwoDW3+bvau4eub3+bxcccbuiLuKcKubud+ehbucKi3afbuv4aleLi3afLeu3gaK4i"
def Rw:ax 0 232 Rv:=ay
def Rx:ar:=az "+bqcceafal3dm+dva3faNaK4dl3medcabd+eiclmrcn4eol3faNaM4ial3qqjam+bPp3haq4l3sagcacbsdTcrt4lagcbcbuguveudTcyu4dlcbcbuguaK4faglnuv4deuahadfblicxvecu3jp+dNg3afci,H4l3Jagcbibud+ejcwu4bagcaibud+bEcwu4bkFM3Fau4l3SagcccbuguveudTcyu4dlcccbuguaK4fcglnuv4deuahcdfdliLxveLu3lp5a3afLk,34l35agcakeGud+bDcwu4lagcIkbud+bCcwu4lagcJkbud+bCcwu4lagcGkcaubud+bEcxu4lagcGkcbubud+bEcxu4bagcKkbud+bEcwu4bk,0M31au4l3+bnagdWbuagdXbu3fawa,+bp4i"
def Ry:ax 0 233 Rx:=ay
def Rz:ar:=az "ibbcalaN4dlaaQad4eel3daN4ial3guLaaaxL+bXfg3dah4i"
def RA:ax 0 234 Rz:=ay
def RB:ar:=az "tcbeal3faK4dl3haaggaK4faglnih4dejahadfblai3gak4l3mabaaafibmnboolp4eqlaf3far4iab3tkiM3jas4l3faU4i"
def RC:ax 0 235 RB:=ay
def RD:ar:=az "odcgahal3gm+eNcaKaL4laaabK+elabfd+ekdijkhlahlb3haman4i"
def RE:ax 0 236 RD:=ay
def RF:ar:=az "fbbcal3cm8aa,+qN4lcabbd3dae4i"
def RG:ax 0 237 RF:=ay
def RH:ar:=az "Wcbeal3faN4dl3kabnjK4ekbWj,+oQ3aXl4al3oaagnvhoabvhqd+eocpr3nas3uhmahmb3gata,u4dl3wafwu3au5Wagwu,+qO5alwOu4eubWj,+qP3aXu4alagvdu1bituu3iau4l3GahaaIbvu3jau4dfagdl3Jaiahgunwu4euahafbcaiahaitbvbuaaahaitbvabuaIbxukBu3jau4l3Wah3fau4i"
def RI:ax 6 240 RH:=ay
def RJ:ar:=az "ibbdal3eaL4laagebbsfg3eah4i"
def CP:ax 0 241 RJ:=ay
def RK:ar:=az "xecicLjal3fm+dZam+dNbm5cm5dp5aaK4lcaebkecfucbmeLgeLhuLcopqcdabVbbncbqcbebsd+cEdlrthuahvb3afLiv3kau4i"
def RL:ax 0 242 RK:=ay
def RM:ar:=az "Gcdeccfagal3dm+dZam5bp+dNgaNaK4l3lcacbkeLdcbcbnd+c3dlmo3kap3rhjahjb3ip+dvc3afdhqar4dl3taissKat5QcahbusuV5alxOu4eulqga3afceu3gaNa04iadk3BcbhbuicuKecucchbu3afcew3gauaK4jaaabaacaadaaeaafaagabfhaaiaai"
def RN:ax 0 243 RM:=ay
def RO:ar:=az "qebial3fm+dZa3jaK4dleceadd+epcjkabacJlcmnnoK4epl3jaK4ial3jaM4i"
def RP:ax 0 244 RO:=ay
def RQ:ar:=az "Fccecdfal3dm+cOam5bp+dvcaK4l3kcacbjeLdcbcbmd+c3dkln3jao3qhiahib3hp+dvc3afdgpaq4dl3sahsrKas5OcagbusuTau5XcagbusuW5OlxuL5altOu4eulqca3afdeu3ga04ial3Fedg3afdeu3gaK4i"
def RR:ax 0 245 RQ:=ay
def RS:ar:=az "Xdcgahal3haKaL4l3naagm3jan4l3pai3kaKao4dfagdl3qajaknpq4erahafblajakkstvhuGu,+p4vdu3mau4l3zacaaalibvubuabJzcvunuK4eubalkuM3kau4b3Jal3lau4l3Kajajainvuau5+bkacaaajibvubuabJzcvuouK5alCuL3haHa,W4i"
def RT:ax 0 246 RS:=ay
def RU:ar:=az "ubbcal3cm+dvaaN4laN4dl3hcbbbgghaK4faglnji4dekahadfblichjecl3gp+dNg3afcfm4b3oadcafboBbbpzbynq3ear4b3tkjM3kas4l3uad3dat4i"
def RV:ax 1 247 RU:=ay
def RW:ar:=az "pcceafal3faNaK4laaaaghd+bQbid+bPcgjabd+bOcklhmahmb3fanao4i"
def RX:ax 0 248 RW:=ay
def RY:ar:=az "+bydbgal3haN4l3laaabtbkblaa4lacgn3iao4dl3qahopK4eqlaa3har4ial3taags3jat4dl3vabaiovu4eulaaaczbyvu3hau4iadl3BaiahkvuaaUuwwu4eulaaabtbvabuaaiahkvuabyvuYbykzu3kau4l3QajabtbvbuaaacIbvu4dcajabahkvutbxbuaaaaabtbvbuaaIbxu4laj3hau4ial35aaaiahkvutbxabua3bau4dl3:acaaabahkvutbxbuaaZzurcu4eudcaaabahkvutbxbuaaaaabtbvbuaaIbxu4laaabtbvbuaaacIbvu4laa3hau4ial3+boaaaitbvbuaaacIbvu4laaabtbvbuaaahd+ercvu4laa3hau4i"
def RZ:ax 6 249 RY:=ay
def S0:ar:=az "Bcbeal3dm+dva3faK4laK4dfagdlafkgMcccbigjnhkal5BabcccboafkqMiLprcKsbtd+cDcnurcu5almuL4euahafbbafkuM3gau4l3Baf3fau4i"
def S1:ax 0 250 S0:=ay
def S2:ar:=az "pcceafal3faNaK4laaaaghd+bQbid+cGcgjabd+cFcklhmahmb3fanao4i"
def S3:ax 0 251 S2:=ay
def S4:ar:=az "+dlebial3jaN4l3qaaabactLpbqbra4dlabacotu4eulaaabadd+esdwvu3jau4iadl3Bacaaguowu4eulaaabtLvabuaadzL+bXvu3kau4dl3Kajguaagunwu4eubaaajgutLwbuaa3a0Lau4alaj3jau4iadc3UaaabtLvabuaguadgukwuaaactLvbuaagukyu3lau4dl36akaaUuwwu4eulaaabtLvabuaakabyvuYL+bXaxu3mau4l3+a+alabtLvbuaaadILvu4dcalabadgukwutLybuaaaaactLvbuaaILxu4lal3jau4ial3+boaaaktLvabua3nau4dl3+brabadgukwuacHvu4eulamabtLvbuaaadILvu4dcamabadgukwutLybuaaaaactLvbuaaILxu4laaaktLvbuaa3a0Lau4lam3jau4iadl3+bQamabadgukwutLybuaaadZvurcu4eudcamabadgukwutLybuaaaaactLvbuaaILxu4lamabtLvbuaaadILvu4lam3jau4ial3+b?adguacabyvuyxu3oau4dl3+ccamabactLwbvbuaadZvurcu4eudcamabactLwbvbuaadantLvbuaaILxu4dcamaagutLwbuaaadantLvabuaILxu4lamabtLvbuaaand+eucvu4lam3jau4iadl3+cFamaagutLwbuaaadZvurcu4eudcamaagutLwbuaaadantLvabuaILxu4dcamabactLwbvbuaadantLvbuaaILxu4lamabtLvbuaaand+eucvu4lam3jau4ial3+c8adaaactLvbuaad+evcxu3pau4l3+c=amabtLvbuaaadILvu4dcamabadgukwutLybuaaamabaokvutLxbuaaILzu4lam3jau4i"
def CQ:ax 6 252 S4:=ay
def S5:ar:=az ">dcgcLhal3em+dZa3hp5aaK4dl3nabgmonK4eolqaa3afLgp3iaK4ial3rabd+bKbq3car4l3tabecdacd+epctud+bLcsu4labguNuS3jau4dk3CecdabaitbvabuaackuMd+dOdzwu3Bau3JhuahCb3kp5a3afLj,Ia,J4naaabaacaadaaeaafaagbkahaaiaajaakaalaamaadl3LaksuK4eulqaaak3afLgv3iau4iadk3QecdabaikuMtbwbuaaackuMd+dOdAwu3Pau3YhuahDb3mp5a3afLl,X3la,Y4oaaabaacaadaaeaafaagaahblaiaajaakaalaamaanaadl30aksuK4eulqaaak3afLgv3iau4iadc34ecdabaiibvubuqgcabubbOeLjeLld+dDeBwvuhuahvb3afLgv3iau4i"
def CR:ax 6 253 S5:=ay
def S6:ar:=az "lbbccdl3cm+dvap+d4h4dkcabbdoeTedbd+dIbgccbbiqhdabfbbhcbj3afdck4jaaabaacaadaafaagaaeacbghaaiaai"
def S7:ax 0 254 S6:=ay
def S8:ar:=az "Hdbgal3haN4l3jaaabacaagltbibjbkbm4dlabacoop4eqlaa3har4ial3taags3iat4dc3vaaabtbvabuaaaactbvbuaazbyxu3bau4l3Caaaaguahtbxbvbua3a0bku4laa3hau4i"
def S9:ax 6 255 S8:=ay
def Sa:ar:=az "+bfeciajal3fm+cOa3im+d4daNaK4dl3uedhd+ewbtrcu4eul3yeceedhd+cVcvu3xau3Bhuahyb3lp5a3afLk,Aa,B4l3DabaceLkiLwv3afLuv4labal3java,H4ial3JacyuMObduK3nau4l3Mam3oau4dl3NacouK4eub3oaM4adk3QeceabaniLvueLud+dGcyu3Pau3WhuahBb3pp+dvc3afdo,Va,W4maaabaacaadaaeaafbjagaahaaiaajaakaalaadl3YapsuK4eulap3jaNa,Z4iadk31edod+dPbuedh3rp+d4hp+d4h3afdq,13afdr,24haaacaabcdebcdbeaeaafabcgaadl34acouK4eukedhedod+dPbu3afdqw3afdru4faaabaacabadaaeaaal3:eceedqedrd+exdwvu39au3>huahzb3tav3qa,>4dl3*apsuK4eulap3jaNa,+a+4ial3+baabamamkuSasd+dNeyxvu3jauaK4i"
def Sc:ax 1 256 Sa:=ay
def Sd:ar:=az "kcbeal3faL4laad+ezbfabd+ezbhd+eycgi3faj4i"
def Se:ax 0 257 Sd:=ay
def Sf:ar:=az "hbbcalaN4laad+b=bdibeKbf3dag4i"
def Sg:ax 0 258 Sf:=ay
def Sh:ar:=az "JbbcalaN4l3iaaNhR3eai4dl3kadFRjaankl4embadknM3eao4alaN4dlaK4fagdl3qafadnpq4erahadfbl3vaaadNvu3hau4dl3yafaaadLvunxu4eubagkuM3hau4ab3Faeagubbuxbiwu3fau4b3tafksM3gat4l3Jae3dau4i"
def Si:ax 0 259 Sh:=ay
def Sj:ar:=az "+bdccecdfal3fp+dvcaK4l3maad+bnbl3ham4l3oagd+bobnqcbabo3ip+dvc3afdhp4dl3ragd+bobqvdraK4faglnts4deuahadfblagd+eCbu3jau4k3ycbhbuagabd+c*cvuaiqgcabvbbuBcbuzcGAucbh3afbuv4laaabaacaadaafaaeabbgaahaaiaajaakaabktM3uau4dl3Jagd+bobuvduaK4fcglnuv4deuahcdfdkcchbuagabd+eDcvuBLbuzL+bXyucch3afbuv4jaaabaacaadaaeabbfaagaahaaiaabkDM3Mau4dl3Xagd+bqbusuKau5+bHedhabd+eicvurcu5alyOu4eulqca3afdeu3ga04iadl38edhabd+ducvu37au3;huahyb3kava,;4l3=aksuKau5+b;ajaad+brcvurcu5alyOu4eulqca3afdeu3ga04ial3+bdedh3afdeu3gaK4i"
def Sk:ax 1 261 Sj:=ay
def Sl:ar:=az "ucbeal3faK4l3iaad+eEbh3gai4l3kabd+eEbj3hak4dl3maf4eldlag4eml3faK4ial3faU4iadl3oag4enl3faM4iadl3paaabnop4eql3faU4iadl3saaabwrs4etl3faM4ial3faK4i"
def Sm:ax 0 263 Sl:=ay
def Sn:ar:=az "+becbeal3dm+a+a3faL4dlabnfMag5qabwiQ5alhOj4ekl3faL4iadl3mcacbl4fal3pomZ3oao4enl3qcbcbpoqKar5NcccbtguouK5alsuL3fau4il3AomV3zau4eul3BcbcbuCuMau59cbcbuabnvu5alyuLau5+bccccbuguouK5alyuL3fau4il3RomT3Qau4eul3ScbcbuCuKau5+bycbcbuabnvu5alyuLau5+bKcccbuguouK5alyuL3fau4il38omW37au4eul39cbcbuouKau5+b6abCuS5alwuLau5+b>cccbuguabyuMowu5alAuL3fau4ial3faL4i"
def Sp:ax 0 264 Sn:=ay
def Sq:ar:=az "Bcbeal3dm+baam5baL4dlcIdbfogKah5scacecjcGdecld+eHckmrcn5aliOo4epl3faL4iadl3rcgcbq4erlcacecscGdecud+d0cturcu3fau4ial3zcfcbusuK3fau4i"
def Sr:ax 6 266 Sq:=ay
def Ss:ar:=az "1cceccfal3dm3am3bp3baL4dl3jeccecdd+eHcijrck4ellqba3afcem3gaL4ial3oeccd+eIbn3hp3b3afcgo4dl3qcagbpgqaK4faglnsr4detahadfblas3iau4k3wcagbuahcbgbuahcacbuahibvubucadbuahibvubuObdzucbcbuahibvubucbdbuahibvubuOadzuib,w,x3afbuGib,z,A3afbuw4GaaabaacaadaaeaafaagaahaaiaajaakaalaamaanaaoaapaaqaaraasaataauaavaawaaxaayaazaaAaaBaaCaaDabeEaaFaabksM3tau4l31ecg3afceu3gaO4i"
def St:ax 0 267 Ss:=ay
def Su:ar:=az "9cdeccfagal3dm+a+am3bp+d=eaKaK4dl3jecdcadbjgkd+decilrcman5Eedccadbqgrd+dZcpsrct5aloOu4eulqea3afceu3gaKaM4ial3ycadbucbcbuibwubud+eJbu3ip+d=e3afch,D4dl3Fcacbu4fal3IouT3Hau4eub3Jcbdbucbcbuibwubud+eKbu3afchu4l3RoDW3Qau4euc3TcccbucadbuEbubMacbdbuEbubMaqbcabxbbud+eLcBu3Sau33huahFb3afchv4adkechcadbuibuKbu3afcey3gauaK4iaaabaacaadaaeaafaccegaahaai"
def Sv:ax 0 268 Su:=ay
def Sw:ar:=az "Dcbeal3dm+d=am+d=baK4dfal3heccecd2G3gai4efl3faK4il3lcacbkcadbmnlnao5Gcacbqcadbsortau5Tcbcbucbdbunwu5GlzuL5alpOu3kau4ejl3faU4ial3faM4i"
def Sx:ax 0 270 Sw:=ay
def Sy:ar:=az "zdbgal3em+baam5b3haL4l3lcadeckcGeecmd+d2cln3kao3qhjahjb3ip3b3afchpaq4l3saiar5Nccdedtechacd+eOdwvu5alsuL3hau4i"
def Sz:ax 6 271 Sy:=ay
def SA:ar:=az "pcbeal3dm3am1baL4leccbdggd+decfhai5vbdgkK+ePaccdd+d*clm5aljnL3fao4i"
def SB:ax 0 272 SA:=ay
def SC:ar:=az "ucbealm+babaN4dlcfdbfCgKah5taagjcfdblwkm5alinL4eolaacfdbqtbpabra3fas4ial3uaa3fat4i"
def SD:ax 6 273 SC:=ay
def SE:ar:=az "Mcbeal3dm+a+a3faN4laN4dl3jabgiaK4faglnkj4delahadfblibikbm3ian4dl3pedcahgpd+dZcoqrcras5OahguabibuKbugusyu5altOu4eul3faN4iab3Dafahd+ehbuBbbuzbyxu3gau4b3IkkM3lau4l3JafK+eRabcd+eQcvu4laf3fau4i"
def SF:ax 6 274 SE:=ay
def SG:ar:=az "EbbcalaK4l3kaad+cmcjQ3jak3mhiahib3ealam4dl3oaercn4eol3daK4ial3ga34dl3qadgpaK4faglnrq4desahadfblibprbt3iau4b3wafRu6ahvhuSwu3gau4b3BkrM3sau4l3CafDu9vdu3dau4i"
def SH:ax 0 275 SG:=ay
def SI:ar:=az "gbbccGlpyf4laad+eUad+eTcde3afGcf4i"
def SJ:ax 1 276 SI:=ay
def SK:ar:=az "Tcbeal3faN4l3kaaBbbj3gak4dlaK4fagdl3magabgmnln4eoahadfbl3sabagibrsbtguvhu3iau4dlaK4fcgdl3yainuQ4euahcdfdb3CafahaiFQuy;uvhuGyuLu>veuBbbuzbbDu3gau4b3AaikuM3jau4b3Nafabagibvubuzbbyu3gau4b3qagkpM3haq4l3Taf3fau4i"
def SL:ax 1 277 SK:=ay
def SM:ar:=az "gbbcalaN4dlaa4edlBbbV3dae4ial3gBbbZ3daf4i"
def SN:ax 1 278 SM:=ay
def SO:ar:=az "xbbcalaN4l3gaagfvegBbbh3eai4dlaK4fagdl3kaeaagknjl4emahadfbb3qadaaaeibqrbsd+eVbtzbbpu3eau4b3oaeknM3fao4l3xad3dau4i"
def SP:ax 1 279 SO:=ay
def SQ:ar:=az "pbbcalaN4laaNd,+qQLe*vefaaNh*Li*vejaaLl*vemBbdgkn3dao4i"
def SR:ax 1 280 SQ:=ay
def SS:ar:=az "pcbeal3faL4dl3haaaK4faglnhg4deiahadfblah3gaj4l3labafJkblrcm4enl3faL4iab3pkhM3iao4l3faO4i"
def SU:ax 0 281 SS:=ay
def SV:ar:=az "pbbdal3eaL4dccabbeaaibfgbhcbbbjaaibklbmHin3eao4i"
def SX:ax 0 282 SV:=ay
def SY:ar:=az "rcbeal3dm3am3baL4lcacbfcadbhd+bNcgiaj5xcbcblcbdbnd+bNcmo5alkpL3faq4i"
def SZ:ax 0 283 SY:=ay
def T0:ar:=az "+brcbeccl3dm3am3bp3b4dk3kecccacbkgld+decjmecdcadbpgqd+decor3ganas4maaabaacaadaafaagaahaaiaaeacfhjaakaalaadfal3vafau5Tagrcu5alwuL3uau4etl3Aeccd+eIbu3afceu4il3Dagau59afrcu5alwuL3Cau4eul3Iecdd+eIbu3afceu4il3Lafrcuau5+bhcacbugucadbugusxu5alBOu3Kau4eul3Wqba3afceu4ialeccd+eIbu3ip3b3afch,X4dl3ZcahbuguaK4fbglnuv4deuahbdfclav3jau4k35cahbuaicbhbuaicacbuaiibvubucadbuaiibvubuOadzucbcbuaiibvubucbdbuaiibvubuObdzuib,5,63afbuGib,8,93afbuw4GaaabaacaadaaeaafaagaahaaiaajaakaalaamaanaaoaapaaqaaraasaataauaavaawaaxaayaazaaAaaBaaCaaDabeEaaFaabk,1M32au4l3+brech3afceu4i"
def T1:ax 1 289 T0:=ay
def T2:ar:=az "rbbccclp3b4dlaagdneMaf5oaaghwiQ5algOj4eklqba3afccl4ialaad+ehbmaad+ehboqbcabnbbp3afccq4i"
def T3:ax 0 290 T2:=ay
def T4:ar:=az "ibbcalaN4dlaaQad4eel3daN4ial3gBbaaazbifg3dah4i"
def T5:ax 1 291 T4:=ay
def T6:ar:=az "+bucbeal3dm+dvamdbaL4dlbdnfMag5qbdwiQ5alhOjak5ycbcbmK+eYabdd+eXcnorcp5allOqar5McccbtK+e0abdd+eZcvurcu5alsOu4eul3faL4iadl3Acacbu4fal3DouV3Cau4eul3EcbcbuguouMau5+a+cccbuguouS5alyuLau5+bkcccbud+eZcu,+qR5alxuL3fau4il3Uo,AT3Tau4eul3VcbcbuguCuMau5+bGcbcbuguHuR5alyuLau5+bScccbuguouK5alyuLau5+b4cbcbud+eXcu,+qS5alxuL3fau4il3+a+o,AW3*au4eul3+a,cbcbuguouKau5+chcccbuguCuS5alyuLau5+ctcccbuguHuR5alyuLau5+cFcccbuK+e3abdd+eZcvu5alyuL3fau4ial3faL4i"
def T7:ax 0 292 T6:=ay
def T8:ar:=az "jcadl3fab4eelaadTcfV4iabaadTchZ4"
def T9:ax 0 293 T8:=ay
def Ta:ar:=az "Xdcgahal3haKaL4l3naagm3jan4l3pai3kaKao4dfagdl3qajaknpq4erahafblajakkstvhuGu,+p4vdu3mau4l3zacaaali+bfvue+bfuabJzcvunuK4eubalkuM3kau4b3Jal3lau4l3Kajajainvuau5+bkacaaaji+bfvue+bfuabJzcvuouK5alCuL3haHa,W4i"
def Tb:ax 0 294 Ta:=ay
def Tc:ar:=az "lcbfalm8a3gaK4lbce+bfdJgbhabd+emcij3gak4i"
def Td:ax 0 295 Tc:=ay
def Te:ar:=az "ucbeal3faK4l3iaad+e4bh3gai4l3kabd+e4bj3hak4dl3maf4eldlag4eml3faK4ial3faU4iadl3oag4enl3faM4iadl3paaabnop4eql3faU4iadl3saaabwrs4etl3faM4ial3faK4i"
def Tf:ax 0 296 Te:=ay
def Tg:ar:=az "Ecceafal3fa3a34deLl3maavglabvgnd+e6cmo3lap3rhkahkb3haqar4l3tagvhsahvhu3fata,v4ial3yaaabd+e7cvu3xau3Bhuahyb3java,B4l3Daiaj3fava,D4i"
def Th:ax 0 298 Tg:=ay
def Ti:ar:=az "lcbeal3dm+dZa3fa,+qT4l3habcbcbhLgi3gpdt3afbfj4l3lK+e8abf3fak4i"
def Tj:ax 0 299 Ti:=ay
def Tk:ar:=az "lbbcal3cm+d4aaL4lcbbbdgeccbbgghkfinjS3dak4i"
def Tl:ax 0 306 Tk:=ay
def Tm:ar:=az "Gdcgahal3em+cOam+d4bm+d4caNaK4dlcaebi4ejdkcbebkcbfbmubclnd+e;boecdK+bRbqad+dJcprhsahsb3hata,u4naaabaacaadaagaahaaeaafabgiaajaakaalaamaaiadk3wccebuccfbuubcwud+e<buecdK+cHbuad+dMcwuhuahvb3hava,F4naaabaacaadaagaahaaeaafabgiaajaakaalaamaai"
def Tn:ax 0 307 Tm:=ay
def To:ar:=az "ucbeal3faL4dlaagfabghsgi4ejlaagkabgmnln3fao4ial3qaaVpabVrnqs3fat4i"
def Tp:ax 0 308 To:=ay
def Tq:ar:=az "gbbcalaN4laad+e>bdd+e=be3daf4i"
def Tr:ax 0 309 Tq:=ay
def Ts:ar:=az "mbbcalaL4l3faad+bobe3eaf4dl3hadwgV4ehbaad+cpci04aladokV3dal4i"
def Tt:ax 0 312 Ts:=ay
def Tu:ar:=az "EcbecLl3fp5a4l3haad+c?bgqabaGh3gp5a3afLfi4l3kaad+c>cj1cIf3afblk4laad+c>cm1cJf3afbon4laaabd+c*cpqcGfcas3afbtr4laaabd+c*cvucGfcbu3afbuw4laaabd+c*cvucKf3afbuv4leLf3afLeu4i"
def Tv:ax 0 313 Tu:=ay
def Tw:ar:=az "gbbcalaL4laaaasde3daf4i"
def Tx:ax 0 314 Tw:=ay
def Ty:ar:=az "rcbeal3dm3am3baL4lecccacbgghd+decfiaj5xecdcacbmgnd+declo5alkpL3faq4i"
def Tz:ax 0 315 Ty:=ay
def TA:ar:=az "pcbeal3dm3am3baL4leccecdd+eFcfgah5tcacbjgkK+e?accdd+d*clm5alinL3fao4i"
def TB:ax 0 317 TA:=ay
def TC:ar:=az "kbbcccl3cm3ap3b4dkcabbdd+ehbecbbbgd+ehbhqbcabfbbi3afccj4iaaabaadaaeaacabefaagaahaai"
def TD:ax 1 318 TC:=ay
def TE:ar:=az "hbbccclp+d=e4laavhdDe9qebbbf3afccg4i"
def TF:ax 0 319 TE:=ay
def TG:ar:=az "Wdbgal3em+a+am3b3haL4l3oeddeced+d3cno3nap3rhmahmbhmc3ip+d=e3afchqaras4l3veddacd+fccvu3uau3yhtahtb3lp+d=e3afck,xa,y4dc3AajouKau55alouK5alwuLau5=acgucaebuguoxu5alAuLau5+bkeckacibuKbuechaid+fdezwvu5alBuL3hau4i"
def TH:ax 0 324 TG:=ay
def TI:ar:=az "Bbbeal3faL4dccabbfaaibghbibcaaibklbmHjnao5HbcaaibqrbscbbbuaaibvubuHtu5alpuL3fau4i"
def TJ:ax 0 325 TI:=ay
def TK:ar:=az "qcbfal3gaK4dfal3iedcaaabd+eSdhij3hak4egl3gaU4il3nedcabaad+eSdmno3map4ell3gaM4ial3gaK4i"
def TL:ax 0 327 TK:=ay
def TM:ar:=az "Vdbgal3em+a+a3haL4l3neddabd+fccmn3mao3qhlahlb3ip+d=e3afchpaq4l3teddacd+fccst3sau3whrahrb3kp+d=e3afcj,va,w4dc3yaiouKau51akouK5alwuLau59abguacguowu5alzuLau5+beechabibuKbuecjacibuKbud+fdeByxu5alDuL3hau4i"
def TN:ax 0 328 TM:=ay
def TO:ar:=az "+bhcbecGl3fpyf4l3nBbaaazbbmnBbb,+oYzbbop3gaq4dfagdl3safgrLsXst;4euahafbbafBbbZzbbvu3gau4l3zaaguvhuF6u3hau4dlaK4fcgdl3DahnuQ4euahcdfdb3HafagahFQuy;uvhuGyuLu>veuBbbuzbbDu3gau4b3FahkuM3iau4l3SBbi,+o1,+o2,+o3,+o4,+o5,+o6,+o7,+o83jau4dlaK4fegdl3Tajafgunwu4euahedffb3ZaiafajajkuXEbxbwbuabd+ffdAvu3jau4b3XajkuX3kau4lpyf4dlaK4fggdl37alnu,+oP4euahgdfhb3;alaialNuRibwubualLuRFQuy,+qUuvhuGzuLu,+p5veuAbGkH3afbuv4b39alkuM3mau4l3+bheGk3afGeu4i"
def TP:ax 1 329 TO:=ay
def TQ:ar:=az "cabaal3baN4lBb<,+o:,+o;,+o<,+o=,+o>,+o?,+o*,+o+,+o,,+pa,+pb,+pc,+pd,+pe,+pf,+pg,+ph,+pi,+pj,+pk,+pl,+pm,+pn,+po,+pp,+pq,+pr,+ps,+pt,+pu,+pv,+pw,+px,+py,+pz,+pA,+pB,+pC,+pD,+pE,+pF,+pG,+pH,+pI,+pJ,+pK,+pL,+pM,+pN,+pO,+pP,+pQ,+pR,+pS,+pT,+pU,+pV,+pW,+pX,+pY,+pZ,+p0,+p1,+p23bab4i"
def TR:ax 1 330 TQ:=ay
def TS:ar:=az "xbbcalaN4l3haavhgkh93eai4l3k1bbCQQ3faj4dla44fagdl3lafCkK4elahadfbl3paeafadLq>veribop3afbts4badNu>3eau4b3nafymM3gan4l3xae3dau4i"
def TT:ax 1 331 TS:=ay
def TU:ar:=az "jcbealm+fXbaL4laaK+fhabdd+fgcfgrch3fai4i"
def TV:ax 0 333 TU:=ay
def TW:ar:=az "jbbdalm+dNaaL4lcacbegfbbogh3eai4i"
def TX:ax 0 334 TW:=ay
def TY:ar:=az "jcbealm+ddbaL4laaK+fjabdd+ficfgrch3fai4i"
def TZ:ax 0 335 TY:=ay
def U0:ar:=az "hbbdalm5aaL4leLcbbd+cwcef3eag4i"
def U1:ax 0 336 U0:=ay
def U2:ar:=az "hbbcal3cm5aaL4lcKbbdgeofK3dag4i"
def U3:ax 0 337 U2:=ay
def U4:ar:=az "fbbcal3cm+dNaaL4lcbbbd3dae4i"
def U5:ax 0 338 U4:=ay
def U6:ar:=az "obbdalm5aaL4lcKcbegfbboghai5veLcd+cxbkrcl5aljmL3ean4i"
def U7:ax 0 339 U6:=ay
def U8:ar:=az "gbbcalaL4laaaasde3daf4i"
def U9:ax 0 340 U8:=ay
def Ua:ar:=az "Zcceafal3fa3a34l3paaPo,+oR3hap4l3raaGq73iar4l3tabPs,+oR3jat4l3vabGu73kau4l3xagaiFvu3lau4l3AahaiFvuakGu7kwu3mau4l3GalPu,+oR3nau4l3IalGu73oau4l3KamagajFvukxu3nau4l3PahajFvuankvuamGu7kwu3fau4l3XaaabFvu3gau4i"
def Ub:ax 0 343 Ua:=ay
def Uc:ar:=az "wcbfal3gaK4ddc3iaabcibhibjabbciblmbnd+dYcko3hap4l3ragsqK4erlag3gas4ial3uaaabd+c7ctu3gau4i"
def Ud:ax 0 344 Uc:=ay
def Ue:ar:=az "KbbcalaN4laK4dl3kaagjaK4faglnlk4demahadfblibjlbn3gao4l3qadafgqkpr3eas4l3uadntK4eubWj,+p63aXu4abklM3mau4l3yadd+fmcNu3hau4dl3AaaguaK4fcglnuv4deuahcdfdlibxvbu3jau4b3Gagaizbyvu3hau4b3Jk,BM3Cau4l3Kag3dau4i"
def Uf:ax 1 347 Ue:=ay
def Ug:ar:=az "KbbcalaN4laK4dl3kaagjaK4faglnlk4demahadfblibjlbn3gao4l3qadafgqkpr3eas4l3uadntK4eubWj,+p63aXu4abklM3mau4l3yadd+fncNu3hau4dl3AaaguaK4fcglnuv4deuahcdfdlibxvbu3jau4b3GagaizL+bXvu3hau4b3Jk,BM3Cau4l3Kag3dau4i"
def Uh:ax 1 348 Ug:=ay
def Ui:ar:=az "GbbcalaN4laN4dlaK4fagdl3iaekh4aagjnik4elahadfbl3gaZ4dlaK4fcgdl3pagnoQ4epahcdfdb3tafFTsaaaeagkvuibxubuktu3gau4b3ragkqM3har4b3Cadafubbuxbbwu3eau4b3naekmQ3fan4l3Gad3dau4i"
def Uj:ax 0 349 Ui:=ay
def Uk:ar:=az "HbbcalaN4laN4dla,+qV4fagdl3iaeChK4eiahadfbl3gaK4fcgdl3mafaagmnln4eoahcdfdl3saaafibrsbtvhuku93hau4b3yadagaevhuGwuLu,+p7veuubbuxbbBu3eau4b3qafkpM3gaq4b3kaeyjM3fak4l3Had3dau4i"
def Ul:ax 0 350 Uk:=ay
def Um:ar:=az "Dbbeal3faL4dccabbfaaibghbicbcbkaaiblmbnHjoap5JcacbraaibstbucbbbuaaibvubuHzu5alquL3fau4i"
def Un:ax 0 351 Um:=ay
def Uo:ar:=az "Lcceccfal3dm+a+a3fp+d=eaK4dledcabghd+dZcgircj4eklqea3afcel3gaM4iadl3ncacbm4fal3qonT3pap4eol3rabcbcbribqsbtd+eKbu3afceu3gaK4il3yonW3xau4eudc3zabEbubMacccbud+frcwuhuahvb3afcev3gau4ial3Gabcbcbuibwubud+eJbu3afceu3gaK4i"
def Up:ax 0 357 Uo:=ay
def Uq:ar:=az "uebial3fm+d=a3hm+d=c3jaL4dl3leceecgd+d5ckl3kam4l3oajsnK4eolajnpK3jaq4ial3sabadnrs3jat4i"
def Ur:ax 0 358 Uq:=ay
def Us:ar:=az "+dpdbgal3haN4l3v1beDXX3iau4dlaK4fagdl3wainu24euahadfbl3kaK4fcgdl3AajnuR4euahcdfdc3EahaiahaiibvubuF,+p5uabaiFRuajkvuibyubuvgukCuibJI3afbuv4b3CajkuM3kau4b3yaikuM3jau4dl3la24fegdl3VaknuX4euahedffdc3Zahakyu,+o9ibwubuahakyuSibwubu3maza,74k39ahakahakyu2ibwubuald+ftcu,+qWald+ftcu,+qXDwualNu,+qYDwukCuahakyu4ibwubukzuamd+ftcu,+qZamd+ftcu,+q0DwuamNu,+q1DwukCuib,8,93afbuv4HaaabaacaadaaeaafaagaahaajaamaanaaqaaraasaataauaawaayaaBaaCaaiacgukacgulaaoaapaavaaxacguzacguAaaDaaEaaFaaGaab3XakkuM3lau4l3+bwBbaaazbevu3oau4dlaK4fggdl3+bzaonuX4euahgdfhdc3+bDanibuRbuanibu<buPxuanibuRbuy,+q2uanibu:buPxuDCu3qau4dk3+bTanibu4buanibuRbud+ftcu,+q3anibuRbud+ftcu,+q4DyuanibuRbud+ftcu,+q5DyukIuapkvuacaoibvubukyuahaoibvubukyu3rau4FaaabaacaadaaeaafaahaaiaajaamaanaaoaasaauaavaawaaxaazaaAaaBaaCaagafcjoxCkaecoxClaapadcxCqaaraataayaaDaaEaadc3+ceanibuKbuanibuMbuPxuanibuKbuanibuSbuPxuDBuanibuMbuanibuSbuPxuDBu3sau4dk3+cBanibuKbud+ftcu,+p7anibuKbud+ftcu,+q6DyuanibuKbud+ftcu,+q7Dyuarkvu3tau4raaabaacaaeaafaagaajaakaalaaoaadacglhabliaamaanaapaaqaac3+cRaqaskvuanibuKbuanibuMbuanibuSbuanibuYbuaqkvuanibuRbuanibu<buanibu:buBbi,+cS,+cV,+cYIDAxu3oau4b3+bBaokuM3pau4dl3uaK4figdl3+c,atnuQ4euahidfjc3+ddanatanatibvubuaaatibvubukyuibED3afbuv4b3+dbatkuM3uau4l3+dpan3hau4i"
def Ut:ax 1 360 Us:=ay
def Uu:ar:=az "jcbeal3faL4laaabd+fucfgChK3fai4i"
def Uv:ax 0 361 Uu:=ay
def Uw:ar:=az "ibbdalm+dNaaL4lbbeccJebfrcg3eah4i"
def Ux:ax 0 362 Uw:=ay
def Uy:ar:=az "jcbeal3faL4laaabd+fvcfgChK3fai4i"
def Uz:ax 0 363 Uy:=ay
def UA:ar:=az "ibbdalm5aaL4lbbeLcJebfrcg3eah4i"
def UB:ax 0 364 UA:=ay
def UC:ar:=az "Bcbeal3faN4dlabnfK4egbWj,+oQ3aXh4adlabaaUjaaglykmyin3cao4l3qabwpK4eqbaaaaUstbrabtaabYbykvuaagutbwabua3bau4al3Baa3fau4i"
def UD:ax 6 367 UC:=ay
def UE:ar:=az "Bcbeal3faN4dlabnfK4egbWj,+oQ3aXh4adlabaaUjaaglykmyin3cao4l3qabwpK4eqbaaaaUstLrabtaabYL+bXavuaagutLwabua3bau4al3Baa3fau4i"
def UF:ax 6 368 UE:=ay
def UG:ar:=az "ncbeal3fa,+p34laaabGfgaaaby7jRikShl3fam4i"
def UH:ax 1 374 UG:=ay
def UI:ar:=az "tcbeal3faK4dl3haaggaK4faglnih4dejahadfblai3gak4l3mabaaaficmnecoJlbp4eqlaf3far4iab3tkiM3jas4l3faU4i"
def UJ:ax 0 375 UI:=ay
def UK:ar:=az "tcbeal3faK4dl3haaggaK4faglnih4dejahadfblai3gak4l3mabaaafiLmneLoJlbp4eqlaf3far4iab3tkiM3jas4l3faU4i"
def UL:ax 0 376 UK:=ay
end Go.Proofs.YtkafjfkjahgihaaGreat
namespace Go.bD
open Go
abbrev cC.{a}{b:Sort a}(_:b):Type:=Unit
variable{b2:Type}
def bV(a:b2->Prop)(_:cC a)(b:b2):Prop:=a b
def bR{a:Type}(b:b2->a->Prop)(_:cC b)(c:b2)(d:a):Prop:=b c d
def cy(a:Prop)(_:cC a):Prop:=a
def hU{a:b2->Prop}{c:cC a}{b:b2}:bV a c b=a b:=rfl
def UM{b:Type}{a:b2->b->Prop}{h:cC a}{c:b2}{d:b}:bR a h c d=a c d:=rfl
variable{Q b7 h7 j7 k1:Prop}
def CS{a:cC Q}:cy Q a=Q:=rfl
def ji(b:U)(c:Nat->Prop):Prop:=∀a,b a=ε->c a
def gU(a b:Prop):Prop:=a/\b
def sJ{a:cC Q}(b:b7):gU b7 (cy Q a)=Q:=by simp[gU,cy,b]
def sK{a:cC Q}:gU True (cy Q a)=Q:=by simp[gU,cy]
variable{j2:dV}{e3:cc}{n b6:R}{q Y:R -> U -> Prop}{I:Bool}{K:Ctx}{e9:gi -> Fr -> U -> Prop}{j:Fr}{k2:Fr -> U -> Prop}{b5:FuncId}{f s e5:U}{b3:Int}{e2:IntKind}{g B e1:Ψ}{e i v O e0 j6:Nat}{k0:Nat -> Prop}{Z:bt}{N e4:Operand}{M e7 j0:Own}{m:Program}{b0:TypeId}{e6:Value}
section
def UN:bW K .skip e9 j f=e9 .norm j f:=rfl
def UO:bW K .ret e9 j f=e9 .ret j f:=rfl
def UP:bW K (.exit e) e9 j f=e9 (.exit e) j f:=rfl
def UQ{a:dV}:bW K (.seq j2 a) e9 j f=bW K j2 (eY (bW K a e9) e9) j f:=rfl
def UR:bW K (.block e j2) e9 j f=bW K j2 (lB e e9) j f:=rfl
def US{a:List ca}:bW K (.plain a) e9 j f=je K a (e9 .norm) j f:=rfl
def UT{a:List ca}{b:List dj}:bW K (.draw a b) e9 j f=can K (nth a) (e9 .norm) b j f:=rfl
def kF(b:R)(c d:Prop):Prop:=
 match b with
 |.v (.bool a)=>(a=ζ->c)/\(a=θ->d)
 |_=>False
def xP{a:dV}:bW K (.cond N j2 a) e9 j f=kF (ak j N) (cy (bW K j2 e9 j f) ()) (cy (bW K a e9 j f) ()):=rfl
def CT{a:cC Q}:kF (.v (.bool ζ)) (cy Q a) b7=Q:=by simp[kF,cy]
def CU{a:cC Q}:kF (.v (.bool θ)) b7 (cy Q a)=Q:=by simp[kF,cy]
def UU:bW K (.loop j2) e9 j f=cy (bW K (.loop j2) e9 j f) ():=rfl
def UW:eY k2 e9 .norm j f=k2 j f:=rfl
def UX:eY k2 e9 .ret j f=e9 .ret j f:=rfl
def UY:eY k2 e9 (.exit e) j f=e9 (.exit e) j f:=rfl
def UZ:lB e e9 .norm j f=e9 .norm j f:=rfl
def V0:lB e e9 .ret j f=e9 .ret j f:=rfl
def V1:lB i e9 (.exit e) j f=(if e=i then e9 .norm j f else e9 (.exit e) j f):=by simp only[lB];split<;>rfl
def V2:lB e e9 (.exit e) j f=e9 .norm j f:=by simp[lB]
def V3:je K [] k2 j f=k2 j f:=rfl
def V4{a:Option Nat}{b:List ca}:je K (⟨a,e3,ε⟩::b) k2 j f=G K e3 j f (λc d=>je K b k2 (dp j a c) d):=rfl
def hV(b:R)(c:Bool)(d a:Prop):Prop:=
 match b with
 |.v (.bool h)=>if h=c then d else a
 |.aJ []=>a
 |_=>False
def V5{a:Option Nat}{b:List ca}:
  je K (⟨a,e3,β (e,I)⟩::b) k2 j f=hV (j e) I (cy (G K e3 j f (λc d=>je K b k2 (dp j a c) d)) ()) (cy (je K b k2 (dp j a (.aJ [])) f) ()):=rfl
def V6{a:cC Q}:hV (.v (.bool ζ)) ζ (cy Q a) b7=Q:=by simp[hV,cy]
def V7{a:cC Q}:hV (.v (.bool θ)) θ (cy Q a) b7=Q:=by simp[hV,cy]
def V8{a:cC Q}:hV (.v (.bool ζ)) θ b7 (cy Q a)=Q:=by simp[hV,cy]
def V9{a:cC Q}:hV (.v (.bool θ)) ζ b7 (cy Q a)=Q:=by simp[hV,cy]
def Va{a:cC Q}:hV (.aJ []) I b7 (cy Q a)=Q:=rfl
def Vb{a:Bool}:hV (.v (.bool I)) a Q b7=((I=a->Q)/\(I=(!a)->b7)):=by cases I<;>cases a<;>simp[hV]
def Vc{a:Nat->ca}:can K a k2 [] j f=k2 j f:=rfl
def mx(a:ca)(b:ca->Prop):Prop:=b a
def Vd{a:Option Nat}{b:Option (Nat×Bool)}{c:ca->Prop}:mx ⟨a,e3,b⟩ c=c ⟨a,e3,b⟩:=rfl
def Ve{a:Nat->ca}{b:List dj}:can K a k2 (⟨e,[],[]⟩::b) j f=mx (a e) (bV (λc=>T K c (λd h=>can K a k2 b d h) j f) ()):=by simp only[can,a9n,false_implies,implies_true,true_and,mx,bV]
def Vf{a:Nat->ca}{b c:Φ}{d:List dj}:can K a k2 (⟨e,i::b,c⟩::d) j f=gU (mx (a i) (bV (λh=>Def K h j) ())) (cy (can K a k2 (⟨e,b,c⟩::d) j f) ()):=by simp only[can,a8E,forall_eq_or_imp,gU,mx,bV,cy];exact propext and_assoc
def sL(c:Ctx)(a:ca)(b:Fr)(d:U):Prop:=
 match a.dst with
 |some h=>E c a b d λk _=>k=b h
 |none=>True
def oL(b:Ctx)(c:Nat->ca)(d:Fr)(h:U):Φ->Prop->Prop
 |[],a=>a
 |k::o,a=>gU (mx (c k) (bV (λp=>sL b p d h) ())) (cy (oL b c d h o a) ())
def Vg{a:Nat->ca}:oL K a j f [] Q=Q:=rfl
def Vh{a:Nat->ca}{b:Φ}:oL K a j f (e::b) Q=gU (mx (a e) (bV (λc=>sL K c j f) ())) (cy (oL K a j f b Q) ()):=rfl
theorem CV{a:Nat->ca}{b:Prop}:∀c,oL K a j f c b=((∀d∈c,hs K a d j f)/\b)
 |[]=>by simp[oL]
 |d::h=>by simp only[oL,CV h,gU,mx,bV,cy,a8E,forall_eq_or_imp,hs,sL];grind
def Vi{a:Nat->ca}{b:Φ}{c:List dj}:can K a k2 (⟨e,[],i::b⟩::c) j f=mx (a e) (bV (λk=>T K k (λd h=>oL K a d h (i::b) (can K a k2 c d h)) j f) ()):=by simp only[can,a9n,false_implies,implies_true,true_and,mx,bV,CV]
def Vj{a:Option Nat}:Def K ⟨a,e3,ε⟩ j=G K e3 j U.emp (λ_ _=>True):=rfl
def Vk:sL K ⟨β e,e3,ε⟩ j f=G K e3 j f (λa _=>a=j e):=rfl
def Vl{a:cC (λ_:Nat=>True)}:ji f (bV (λ_=>True) a)=True:=by simp[ji,bV]
def Vm{a:ca}{b:List ca}:nth (a::b) 0=a:=rfl
def Vn{b:ca}{a:List ca}:nth (b::a) (e+1)=nth a e:=rfl
def Vo{a:Option Nat}:T K ⟨a,e3,ε⟩ k2 j f=G K e3 j f (λb c=>k2 (dp j a b) c):=rfl
def Vp{a:Option Nat}:T K ⟨a,e3,β (e,I)⟩ k2 j f=hV (j e) I (cy (G K e3 j f (λb c=>k2 (dp j a b) c)) ()) (cy (k2 (dp j a (.aJ [])) f) ()):=rfl
def Vq:dp j (β i) n e=if e=i then n else j e:=rfl
def Vr:dp j ε n e=j e:=rfl
def dq(a:Option R)(b:R->Prop):Prop:=
 match a with
 |some a=>b a
 |none=>False
def iG[Decidable Q]{a:R->Prop}:dq (if Q then β n else ε) a=(Q/\a n):=by split<;>simp[dq, *]
def Vs{a:R->Prop}:dq (β n) a=a n:=rfl
def nz(a:R)(b:R->Prop):Prop:=b a
def Vt{a:R->Prop}:nz n a=a n:=rfl
def pU(a:Option Ψ)(b:Ψ->Prop):Prop:=
 match a with
 |some a=>b a
 |none=>False
def Vu{a:Ψ->Prop}:pU (β g) a=a g:=rfl
section
def Vv:G K (.fi N) j f q=nz (ak j N) (bV (λa=>q a f) ()):=rfl
def uK(a b c:R):Option R:=
 match a with
 |.v (.bool d)=>β (if d then b else c)
 |_=>ε
def Vw:uK (.v (.bool ζ)) n b6=β n:=rfl
def Vx:uK (.v (.bool θ)) b6 n=β n:=rfl
def Vy{a:Operand}:G K (.pick e4 N a) j f q=dq (uK (ak j e4) (ak j N) (ak j a)) (bV (λb=>q b f) ()):=by simp only[G,uK];generalize ak j e4=N;cases N<;>first|rfl|(rename_i v;cases v<;>rfl)
def Vz:G K (.alloc b0 g) j f q=ji f (bV (λa=>q (.ptr a 0) (f.set a (.cells g))) ()):=rfl
def VA:G K (.box b0 N) j f q=nz (ak j N) (bV (λa=>gU (0<α a.cells) (cy (ji f (bV (λb=>q (.ptr b 0) (f.set b (.cells a.cells))) ())) ())) ()):=rfl
def VB:G K (.lp b0 N) j f q=nz (ak j N) (bV (λa=>gU (0<α a.cells) (cy (ji f (bV (λb=>q (.ptr b 0) (f.set b (.ro a.cells))) ())) ())) ()):=rfl
def du(b:Bool)(a:Nat)(c:U)(d:R):Option R:=
 match d with
 |.ptr h off=>match c.read h with
  |some cs=>if off+a<=α cs then β (aQ b a (cs.drop off))else ε
  |none=>ε
 |.bZ cs=>if a<=α cs then β (aQ b a cs)else ε
 |_=>ε
def re(d:Bool)(b c:Nat)(a:Option Ψ):Option R:=
 match a with
 |some a=>if c+b<=α a then β (aQ d b (a.drop c))else ε
 |none=>ε
def VC:du I e f (.ptr i v)=re I e v (f.read i):=rfl
def CW(a:i+e<=α g):re I e i (β g)=β (aQ I e (g.drop i)):=by simp[re,a]
def VD(a:e<=α g):du I e f (.bZ g)=β (aQ I e g):=by simp[du,a]
def VE:G K (.load I e N) j f q=dq (du I e f (ak j N)) (bV (λa=>q a f) ()):=by
 simp only[G,du];generalize ak j N=b;cases b<;>first
  |rfl
  |(simp only[iG,hU];done)
  |(rename_i c h;simp only[];generalize f.read c=d;cases d<;>first|rfl|(simp only[iG,hU]))
def ep(a:U)(b:Nat):Option Ψ:=
 match a b with
 |some (.cells cs)=>β cs
 |_=>ε
def xQ(a:U)(b:Nat)(k:R)(c:Ψ)(o:U->Prop):Prop:=
 match k with
 |.ptr d off=>pU (ep a d) λh=>gU (α c=b/\off+b<=α h) (o (a.set d (.cells (putAt h off c))))
 |_=>False
def VF{a:U->Prop}:xQ f e (.ptr i v) g a=pU (ep f i) (bV (λb=>gU (α g=e/\v+e<=α b) (cy (pU (β (putAt b v g)) (bV (λc=>a (f.set i (.cells c))) ())) ())) ()):=rfl
def VG:G K (.store e N e4) j f q=xQ f e (ak j N) (ak j e4).cells (bV (λa=>q (.aJ []) a) ()):=by
 simp only[G,xQ];generalize ak j N=b;cases b<;>first
  |rfl
  |(
    rename_i c h;simp only[ep];cases f c with
    |none=>rfl
    |some d=>cases d with
     |cells cs=>exact propext and_assoc.symm
     |_=>rfl)
def sM(a:R):Option R:=
 match a with
 |.ptr b off=>β (.ptr b off)
 |.bZ cs=>β (.bZ cs)
 |.bL c cM cs=>β (.bL c cM cs)
 |_=>ε
def VH:sM (.ptr e i)=β (.ptr e i):=rfl
def VI:sM (.bZ g)=β (.bZ g):=rfl
def VJ:G K (.qS N) j f q=dq (sM (ak j N)) (bV (λa=>q a f) ()):=by simp only[G,sM];generalize ak j N=b;cases b<;>first|rfl|(rename_i v;cases v<;>rfl)
def sN(a:Nat)(b:R):Option R:=
 match b with
 |.ptr c d=>β (.ptr c (d+a))
 |.bZ cs=>β (.bZ (cs.drop a))
 |_=>ε
def VK:sN e (.ptr i v)=β (.ptr i (v+e)):=rfl
def VL:sN e (.bZ g)=β (.bZ (g.drop e)):=rfl
def VM:G K (.lq e N) j f q=dq (sN e (ak j N)) (bV (λa=>q a f) ()):=by simp only[G,sN];generalize ak j N=b;cases b<;>first|rfl|(rename_i v;cases v<;>rfl)
def my(b c:Nat)(d h:R):Option R:=
 match d,h with
 |.ptr k o,.v (.int _ a)=>if 0<=a/\a<c then β (.ptr k (o+a.toNat*b))else ε
 |.bZ cs,.v (.int _ a)=>if 0<=a/\a<c then β (.bZ (cs.drop (a.toNat*b)))else ε
 |_,_=>ε
def sO(a:0<=b3)(b:b3<i):my e i (.ptr v O) (.v (.int e2 b3))=β (.ptr v (O+b3.toNat*e)):=by simp[my,a,b]
def VN(a:0<=b3)(b:b3<i):my e i (.bZ g) (.v (.int e2 b3))=β (.bZ (g.drop (b3.toNat*e))):=by simp[my,a,b]
def VO:G K (.qT e i N e4) j f q=dq (my e i (ak j N) (ak j e4)) (bV (λa=>q a f) ()):=by
 simp only[G,my];generalize ak j N=b;generalize ak j e4=c;cases b<;>first
  |rfl
  |(cases c<;>first
    |rfl
    |(rename_i d;cases d<;>first
      |rfl
      |(simp only[iG,hU];exact propext and_assoc.symm)))
def eG(b:Nat)(a:Option R):Option R:=
 match a with
 |some a=>if α a.cells=b then β (.bZ a.cells)else ε
 |none=>ε
def lC(a:α n.cells=e):eG e (β n)=β (.bZ n.cells):=by simp[eG,a]
def cO(b:Nat)(h k:R):Option R:=
 match h,k with
 |.J xs _,.v (.int _ a)=>if 0<=a then eG b xs[a.toNat]? else ε
 |.bE c off len _ d,.v (.int _ a)=>if d=b/\0<=a/\a<len then β (.ptr c (off+a.toNat*b))else ε
 |.aq c len _ d,.v (.int _ a)=>if d=b/\0<=a/\a<len then β (.ptr c (a.toNat*b))else ε
 |_,_=>ε
def hX(a:0<=b3):cO e (.J g M) (.v (.int e2 b3))=eG e g[b3.toNat]? :=by simp[cO,a]
theorem jj{b c d h:Nat}{k:IntKind}{a:Int}(o:0<=a)(p:a<d):cO b (.aq c d h b) (.v (.int k a))=β (.ptr c (a.toNat*b)):=by simp[cO,o,p]
theorem uL(a:0<=b3)(b:b3<O):cO e (.bE i v O e0 e) (.v (.int e2 b3))=β (.ptr i (v+b3.toNat*e)):=by simp[cO,a,b]
theorem VP:G K (.dU e N e4) j f q=dq (cO e (ak j N) (ak j e4)) (bV (λc=>q c f) ()):=by
 simp only[G,cO];generalize ak j N=d;generalize ak j e4=h;cases d<;>first
  |rfl
  |(cases h<;>first
    |rfl
    |(rename_i k;cases k<;>first
      |rfl
      |(
        simp only[iG,hU];apply propext;constructor
        .rintro⟨o,p,r,x⟩;exact⟨⟨o,p,r⟩,x⟩
        simp_all)
      |(
        rename_i y C D a;by_cases b:0<=a
        .simp only[b,true_and,if_true,eG];generalize y[a.toNat]?=z;cases z<;>first|rfl|(simp only[iG,hU])
        .simp[b,dq])))
def uM(c:Bool)(a b:Nat)(d:R):Option R:=
 match d with
 |.agg cs=>if a+b<=α cs then β (aQ c b (cs.drop a))else ε
 |_=>ε
def VQ(a:e+i<=α g):uM I e i (.agg g)=β (aQ I i (g.drop e)):=by simp[uM,a]
def VR:G K (.pJ I e i N) j f q=dq (uM I e i (ak j N)) (bV (λa=>q a f) ()):=by simp only[G,uM];generalize ak j N=b;cases b<;>first|rfl|(simp only[iG,hU])
def uN(a:U)(b:R):Option R:=
 match b with
 |.ey c=>match a c with
  |some (.mp us _)=>β (.v (.int .i64 (α us)))
  |_=>ε
 |_=>ε
def VS{a:List (R×R×Nat)}(b:f e=β (.mp a i)):uN f (.ey e)=β (.v (.int .i64 (α a))):=by simp[uN,b]
def VT:G K (.pI N) j f q=dq (uN f (ak j N)) (bV (λa=>q a f) ()):=by simp only[G,uN];generalize ak j N=b;cases b<;>first|rfl|(rename_i c;simp only[];cases f c with|none=>rfl|some d=>cases d<;>rfl)
def uO(c:Bool)(a d:Nat)(h k:R):Option R:=
 match h,k with
 |.agg cs,.v (.int _ b)=>if 0<=b/\b<d/\b.toNat*a+a<=α cs then β (aQ c a (cs.drop (b.toNat*a)))else ε
 |_,_=>ε
def VU(a:0<=b3)(b:b3<i)(c:b3.toNat*e+e<=α g):uO I e i (.agg g) (.v (.int e2 b3))=β (aQ I e (g.drop (b3.toNat*e))):=by simp[uO,a,b,c]
theorem VV:G K (.pG I e i N e4) j f q=dq (uO I e i (ak j N) (ak j e4)) (bV (λa=>q a f) ()):=by
 simp only[G,uO];generalize ak j N=b;generalize ak j e4=c;cases b<;>first
  |rfl
  |(cases c<;>first
    |rfl
    |(rename_i d;cases d<;>first
      |rfl
      |(simp only[iG,hU];grind)))
def pV(c:Fr)(a:Ψ):List (Nat×Nat×Operand)->(Ψ->Prop)->Prop
 |[],b=>b a
 |(off,ch,h)::k,b=>nz (ak c h) λd=>gU (α d.cells=ch/\off+ch<=α a) (pU (β (putAt a off d.cells)) λo=>pV c o k b)
def VW{a:Ψ->Prop}:pV j g [] a=a g:=rfl
def VX{a:List (Nat×Nat×Operand)}{b:Ψ->Prop}:pV j g ((e,i,N)::a) b=nz (ak j N) (bV (λc=>gU (α c.cells=i/\e+i<=α g) (cy (pU (β (putAt g e c.cells)) (bV (λd=>pV j d a b) ())) ())) ()):=rfl
theorem CX{b:Ψ->Prop}:∀(c:List (Nat×Nat×Operand))(a:Ψ),kC j a c b=pV j a c b
 |[],_=>rfl
 |(off,ch,h)::d,a=>by
  simp only[kC,pV,nz,gU,pU,CX d];grind
def VY{a:List (Nat×Nat×Operand)}:G K (.mh g a) j f q=pV j g a λb=>q (.agg b) f:=CX a g
def fk(b:R):Option R:=
 match b with
 |.J xs _=>β (.v (.int .i64 (α xs)))
 |.bE _ _ a _ _=>β (.v (.int .i64 a))
 |.aq _ a _ _=>β (.v (.int .i64 a))
 |_=>ε
def VZ:fk (.aq i e v O)=β (.v (.int .i64 e)):=rfl
def W0:fk (.J g M)=β (.v (.int .i64 (α g))):=rfl
def W1:fk (.bE i v e O e0)=β (.v (.int .i64 e)):=rfl
def W2:G K (.len N) j f q=dq (fk (ak j N)) (bV (λa=>q a f) ()):=by simp only[G,fk];generalize ak j N=b;cases b<;>rfl
def jk(c:BinOp)(a b:R):Option R:=
 match a,b with
 |.v a,.v b=>(br c a b).map .v
 |_,_=>ε
theorem sP{a:BinOp}{b:Value}:jk a (.v e6) (.v b)=(br a e6 b).map .v:=rfl
def W3{a:BinOp}:G K (.bin a N e4) j f q=dq (jk a (ak j N) (ak j e4)) (bV (λb=>q b f) ()):=by
 simp only[G,jk];generalize ak j N=c;generalize ak j e4=d;cases c<;>first
  |rfl
  |(cases d<;>first
    |rfl
    |(rename_i v h;simp only[];generalize br a v h=k;cases k<;>rfl))
def xR(b:UnOp)(a:R):Option R:=
 match a with
 |.v a=>(oB b a).map .v
 |_=>ε
def W4{a:UnOp}:xR a (.v e6)=(oB a e6).map .v:=rfl
def W5{a:UnOp}:G K (.un a N) j f q=dq (xR a (ak j N)) (bV (λb=>q b f) ()):=by simp only[G,xR];generalize ak j N=c;cases c<;>first|rfl|(rename_i v;simp only[];generalize oB a v=d;cases d<;>rfl)
def xS(a:IntKind)(b:R):Option R:=
 match b with
 |.v (.int _ c)=>β (.v (.int a (a.wrap c)))
 |_=>ε
def W6{a:IntKind}:xS e2 (.v (.int a b3))=β (.v (.int e2 (e2.wrap b3))):=rfl
def W7:G K (.jb e2 N) j f q=dq (xS e2 (ak j N)) (bV (λa=>q a f) ()):=by simp only[G,xS];generalize ak j N=b;cases b<;>first|rfl|(rename_i v;cases v<;>rfl)
def oM(a:Ctx)(b:FuncId)(c:Ψ)(d:U)(h:R->U->Prop):Prop:=hQ a.p b c d h (up a.k)
def W8{a:List Operand}:G K (.fZ b5 a) j f q=oM K b5 (a.map (ak j)) f (bR q ()):=rfl
def xT(a:Nat)(b:R):Option R:=
 match b with
 |.aJ c=>c[a]?
 |_=>ε
def W9:xT e (.aJ g)=g[e]? :=rfl
def Wa:G K (.ext N e) j f q=dq (xT e (ak j N)) (bV (λa=>q a f) ()):=by simp only[G,xT];generalize ak j N=b;cases b<;>first|rfl|(rename_i c;cases c[e]? <;>rfl)
def xU(c:Bool)(a b:R):Option R:=
 match a,b with
 |.v (.bool a),.v (.bool b)=>β (.v (.bool (xor c (a==b))))
 |_,_=>ε
def Wb{a b:Bool}:xU I (.v (.bool a)) (.v (.bool b))=β (.v (.bool (xor I (a==b)))):=rfl
def Wc:G K (.pK I N e4) j f q=dq (xU I (ak j N) (ak j e4)) (bV (λd=>q d f) ()):=by
 simp only[G,xU];generalize ak j N=h;generalize ak j e4=c;cases h<;>first
  |rfl
  |(rename_i v;cases v<;>first
    |rfl
    |(cases c<;>first|rfl|(rename_i b;cases b<;>first|rfl|(rename_i a;cases a<;>rfl)))
    |(rename_i a;cases a<;>first|rfl|(cases c<;>first|rfl|(rename_i b;cases b<;>first|rfl|(rename_i a;cases a<;>rfl)))))
  |(cases c<;>first|rfl|(rename_i b;cases b<;>first|rfl|(rename_i a;cases a<;>rfl)))
def sQ(a:Bool)(b c:R):Option R:=
 match b,c with
 |.ptr _ _,.v (.pointer ε)=>β (.v (.bool a))
 |.bZ _,.v (.pointer ε)=>β (.v (.bool a))
 |.v (.pointer ε),.v (.pointer ε)=>β (.v (.bool (!a)))
 |_,_=>ε
def Wd:sQ I (.ptr e i) (.v (.pointer ε))=β (.v (.bool I)):=rfl
def We:sQ I (.bZ g) (.v (.pointer ε))=β (.v (.bool I)):=rfl
def Wf:sQ I (.v (.pointer ε)) (.v (.pointer ε))=β (.v (.bool (!I))):=rfl
def Wg:G K (.qV I N e4) j f q=dq (sQ I (ak j N) (ak j e4)) (bV (λd=>q d f) ()):=by
 simp only[G,sQ];generalize ak j N=h;generalize ak j e4=c;cases h<;>first
  |rfl
  |(rename_i v;cases v<;>first
    |rfl
    |(cases c<;>first|rfl|(rename_i b;cases b<;>first|rfl|(rename_i a;cases a<;>rfl)))
    |(rename_i a;cases a<;>first|rfl|(cases c<;>first|rfl|(rename_i b;cases b<;>first|rfl|(rename_i a;cases a<;>rfl)))))
  |(cases c<;>first|rfl|(rename_i b;cases b<;>first|rfl|(rename_i a;cases a<;>rfl))|(simp only[iG,hU];done))
def intOf(a:R):Option Int:=
 match a with
 |.v (.int _ b)=>β b
 |_=>ε
end
def oN(a:List (Nat×Option (Bool×Nat)))(b:R->U->Prop):gi->Fr->U->Prop:=r8 ⟨0,0,.skip,a⟩ b
def bg(c:m.follows .mixedOrders=ζ){a:List (Nat×Option (Bool×Nat))}(d:dz m O i=β ⟨e,v,j2,a⟩)(h:α g<=e)
  (k:bW (Ctx.of m) j2 (oN a q) (mv g) f):AC m i g f q:=by
 refine KQ c d h ?_;have b:r8 ⟨e,v,j2,a⟩ q=oN a q:=by funext b j f;rfl
 rw[b];exact k
def Wh:mv g e=g.getD e (.aJ []):=rfl
theorem Wi{c:ar}:r8 c q .ret j f=dq (jg j f c.results) λd=>∃b,b.sub f/\q d b:=by
 apply propext;simp only[r8];constructor
 .rintro⟨d,b,a,h,k⟩;rw[a];exact⟨b,h,k⟩
 .intro a;cases o:jg j f c.results with
  |none=>rw[o]at a;exact a.elim
  |some d=>rw[o]at a;obtain⟨b,h,k⟩:=a;grind
def Wj{a:List (Nat×Option (Bool×Nat))}:oN a q .ret j f=dq (jg j f a) (bV (λc=>∃b,b.sub f/\q c b) ()):=Wi
def Wk{a:List (Nat×Option (Bool×Nat))}:oN a q .norm j f=oN a q .ret j f:=rfl
def Wl:jg j f []=β (.aJ []):=rfl
def Wm{a:Nat×Option (Bool×Nat)}:jg j f [a]=gj j f a:=by simp only[jg,fC];cases gj j f a<;>rfl
def Wn:gj j f (e,ε)=β (j e):=rfl
def CY(a:Bool)(b:Nat)(c:U)(d:R):Option R:=
 match d with
 |.ptr h off=>re a b off (c.read h)
 |_=>ε
def Wo:CY I e f (.ptr i v)=re I e v (f.read i):=rfl
def Wp:gj j f (e,β (I,i))=CY I i f (j e):=by rfl
def U.uP:(f.set i Z) e=if e=i then β Z else f e:=rfl
def U.CZ:(f.set e (.cells g)).read e=β g:=by simp[U.read,U.set]
def U.Wq:(f.set e (.ro g)).read e=β g:=by simp[U.read,U.set]
def U.Wr(a:e≠i):(f.set i Z).read e=f.read e:=by simp[U.read,U.set,a]
def U.Ws:ep (f.set e (.cells g)) e=β g:=by simp[ep,U.set]
def U.Wt(a:e≠i):ep (f.set i Z) e=ep f e:=by simp[ep,U.set,a]
def U.ad(a:f e=β (.cells g)):f.read e=β g:=by simp[U.read,a]
def U.Wu(a:f e=β (.ro g)):f.read e=β g:=by simp[U.read,a]
def U.aI(a:f e=β (.cells g)):ep f e=β g:=by simp[ep,a]
theorem U.gG(a:(f.set i Z) e=ε):e≠i/\f e=none:=by grind[U.set]
def U.D0{b a:bt}(c:i≠e):((f.set e b).set i a).set e Z=((f.set e Z).set i a):=by rw[U.dL _ c,ς]
def U.D1{c a b:bt}(d:i≠e)(h:v≠e):(((f.set e c).set i a).set v b).set e Z=(((f.set e Z).set i a).set v b):=by rw[U.dL _ h,D0 d]
def U.D2{d a b c:bt}(h:i≠e)(k:v≠e)(o:O≠e):((((f.set e d).set i a).set v b).set O c).set e Z=((((f.set e Z).set i a).set v b).set O c):=by rw[U.dL _ o,D1 h k]
def U.D3{h a b c d:bt}(k:i≠e)(o:v≠e)(p:O≠e)(r:e0≠e):(((((f.set e h).set i a).set v b).set O c).set e0 d).set e Z=(((((f.set e Z).set i a).set v b).set O c).set e0 d):=by rw[U.dL _ r,D2 k o p]
def U.D4{k a b c d h:bt}(o:i≠e)(p:v≠e)(r:O≠e)(x:e0≠e)(y:j6≠e):((((((f.set e k).set i a).set v b).set O c).set e0 d).set j6 h).set e Z=((((((f.set e Z).set i a).set v b).set O c).set e0 d).set j6 h):=by rw[U.dL _ y,D3 o p r x]
def U.D5{a:Nat}{p b c d h k o:bt}(r:i≠e)(x:v≠e)(y:O≠e)(z:e0≠e)(C:j6≠e)(D:a≠e):(((((((f.set e p).set i b).set v c).set O d).set e0 h).set j6 k).set a o).set e Z=(((((((f.set e Z).set i b).set v c).set O d).set e0 h).set j6 k).set a o):=by rw[U.dL _ D,D4 r x y z C]
def U.D6{a b:Nat}{x c d h k o p r:bt}(y:i≠e)(z:v≠e)(C:O≠e)(D:e0≠e)(E:j6≠e)(F:a≠e)(G:b≠e):((((((((f.set e x).set i c).set v d).set O h).set e0 k).set j6 o).set a p).set b r).set e Z=((((((((f.set e Z).set i c).set v d).set O h).set e0 k).set j6 o).set a p).set b r):=by rw[U.dL _ G,D5 y z C D E F]
def U.Wv{a b c:Nat}{z d h k o p r x y:bt}(C:i≠e)(D:v≠e)(E:O≠e)(F:e0≠e)(G:j6≠e)(L:a≠e)(P:b≠e)(S:c≠e):(((((((((f.set e z).set i d).set v h).set O k).set e0 o).set j6 p).set a r).set b x).set c y).set e Z=(((((((((f.set e Z).set i d).set v h).set O k).set e0 o).set j6 p).set a r).set b x).set c y):=by rw[U.dL _ S,D6 C D E F G L P]
def aN{b:cC k0}(c:∀a,f a=ε->k0 a):ji f (bV k0 b):=c
def cv{h:cC (bW K (.loop j2) e9 j f)}(a:Fr->U->Prop)(b:Fr->U->Nat)(k:a j f)(o:∀j f,a j f->bW K j2 (eY (λc d=>a c d/\b c d<b j f) e9) j f):
  cy (bW K (.loop j2) e9 j f) h:=⟨a,b,k,o⟩
theorem ag{c:cC q}(d:AC K.p b5 g f Y)(h:∀a b,Y a b->q a b):oM K b5 g f (bR q c):=(d.mono h).p
theorem U.a1:f.sub f:=λ_ _ a=>a
theorem U.ae(a:s.sub f)(c:s e=ε):s.sub (f.set e Z):=λd h b=>by
 rw[U.uP];split;simp_all
 .exact a _ _ b
theorem U.lD(b:s.sub f):(s.set e Z).sub (f.set e Z):=λd h a=>by
 rw[U.uP]at a|-;split;simp_all
 .rename_i c;rw[if_neg c]at a;exact b _ _ a
end
theorem wrap_i64(c: -9223372036854775808<=b3)(d:b3<9223372036854775808):IntKind.i64.wrap b3=b3:=by have a:((2:Int)^IntKind.i64.bits)=18446744073709551616:=rfl;have b:((2:Int)^(IntKind.i64.bits - 1))=9223372036854775808:=rfl;simp only[IntKind.wrap,a,b,IntKind.signed,a9N,decide_eq_true_eq];omega
theorem kG:IntKind.u64.wrap b3=b3%18446744073709551616:=by have a:((2:Int)^IntKind.u64.bits)=18446744073709551616:=rfl;rfl
def xV:IntKind.u32.wrap b3=b3%4294967296:=by have a:((2:Int)^IntKind.u32.bits)=4294967296:=rfl;rfl
def sR:IntKind.u8.wrap b3=b3%256:=by have a:((2:Int)^IntKind.u8.bits)=256:=rfl;rfl
theorem wrap_u64(a:0<=b3)(b:b3<18446744073709551616):IntKind.u64.wrap b3=b3:=by rw[kG];omega
def wrap_u32(a:0<=b3)(b:b3<4294967296):IntKind.u32.wrap b3=b3:=by rw[xV];omega
theorem wrap_u8(a:0<=b3)(b:b3<256):IntKind.u8.wrap b3=b3:=by rw[sR];omega
def Ww(a:UInt8):IntKind.u32.wrap (a.toNat:Int)=(a.toUInt32.toNat:Int):=by have:=a.toNat_lt;rw[wrap_u32 acq acq];simp
def Wx(a:UInt8):IntKind.u64.wrap (a.toNat:Int)=(a.toUInt64.toNat:Int):=by have:=a.toNat_lt;rw[wrap_u64 acq acq];simp
def Wy(a:UInt32):IntKind.u8.wrap (a.toNat:Int)=(a.toUInt8.toNat:Int):=by rw[sR];simp
def Wz(a:UInt64):IntKind.u8.wrap (a.toNat:Int)=(a.toUInt8.toNat:Int):=by rw[sR];simp
section
variable(a b:Int)
def WA:br .add (.int .i64 a) (.int .i64 b)=β (.int .i64 (IntKind.i64.wrap (a+b))):=rfl
def WB:br .sub (.int .i64 a) (.int .i64 b)=β (.int .i64 (IntKind.i64.wrap (a - b))):=rfl
def WC:br .mul (.int .i64 a) (.int .i64 b)=β (.int .i64 (IntKind.i64.wrap (a*b))):=rfl
def WD(c:b≠0):br .quo (.int .i64 a) (.int .i64 b)=β (.int .i64 (IntKind.i64.wrap (a.tdiv b))):=by simp[br,fB,hR,c]
def WE(c:b≠0):br .rem (.int .i64 a) (.int .i64 b)=β (.int .i64 (a.tmod b)):=by simp[br,fB,hR,c]
variable(k:IntKind)
def WG:br .eql (.int k a) (.int k b)=β (.bool (decide (a=b))):=by simp[br,fB,hR]
def WH:br .neq (.int k a) (.int k b)=β (.bool (decide (a≠b))):=by simp[br,fB,hR]
def WI:br .lss (.int k a) (.int k b)=β (.bool (decide (a<b))):=by simp[br,fB,hR]
def WJ:br .leq (.int k a) (.int k b)=β (.bool (decide (a<=b))):=by simp[br,fB,hR]
def WK:br .gtr (.int k a) (.int k b)=β (.bool (decide (b<a))):=by simp[br,fB,hR]
def WL:br .geq (.int k a) (.int k b)=β (.bool (decide (b<=a))):=by simp[br,fB,hR]
def WM(c:Bool):oB .not (.bool c)=β (.bool !c):=rfl
end
def WN(a b:Int):br .add (.int .u64 a) (.int .u64 b)=β (.int .u64 (IntKind.u64.wrap (a+b))):=rfl
def WO(a b:Int):br .sub (.int .u64 a) (.int .u64 b)=β (.int .u64 (IntKind.u64.wrap (a - b))):=rfl
def WQ(a b:Int):br .mul (.int .u64 a) (.int .u64 b)=β (.int .u64 (IntKind.u64.wrap (a*b))):=rfl
theorem sS(c:Nat)(d:IntKind)(b:Int)(k:0<=b)(o:b<64):br .shr (.int .u64 c) (.int d b)=β (.int .u64 (c>>>b.toNat:Nat)):=by
 obtain⟨a,rfl⟩:∃a:Nat,b=a:=⟨b.toNat,acq⟩;have h:min a IntKind.u64.bits=a:=by simp[IntKind.bits];omega
 have p:(2)^a=((2^a:Nat):Int):=acr;simp only[br,fB,if_true,oA,if_neg (show¬(a:Int)<0 by omega),a8N,h,a9l];grind
def iH(a:Nat):IntKind.u8.wrap (a:Int)=((ν a).toNat:Int):=by rw[sR];simp
variable{w j8:Υ}
theorem WR(a:0<=b3)(b:b3.toNat<α w):cO 1 (.J (w.map ah) M) (.v (.int e2 b3))=β (.bZ [.v (.int .u8 (w.getD b3.toNat 0).toNat)]):=by
 rw[hX a,a8H,Μ b];have:w.getD b3.toNat 0=w[b3.toNat]:=by simp_all
 rw[this];rfl
def WS(a:Decidable True):@decide True a=true:=acr
def WT(a:Decidable False):@decide False a=false:=acr
def D7:aQ ζ e g=.agg (g.take e):=rfl
def D8:ρ (.J g M)=[.J g M]:=rfl
def D9:ρ (.v e6)=[.v e6]:=rfl
def Da:ρ (.ptr e i)=[.ptr e i]:=rfl
def Db:ρ (.bZ g)=[.bZ g]:=rfl
def Dc:ρ (.iface b0 n)=[.iface b0 n]:=rfl
def hY:ρ (.agg g)=g:=rfl
theorem rf(a:α g=α B):putAt B 0 g=g:=by simp[putAt,a]
def WU:aQ θ 1 (n::g)=n:=rfl
section
variable(x y:UInt32)
def WV:br .add (.int .u32 x.toNat) (.int .u32 y.toNat)=β (.int .u32 (x+y).toNat):=by rfl
def Dd:br .sub (.int .u32 x.toNat) (.int .u32 y.toNat)=β (.int .u32 (x - y).toNat):=by have:=x.toNat_lt;have:=y.toNat_lt;simp only[br,fB,hR,xV,UInt32.toNat_sub];simp;omega
def De:br .mul (.int .u32 x.toNat) (.int .u32 y.toNat)=β (.int .u32 (x*y).toNat):=by rfl
theorem rh(a:Nat)(b:a<4294967296):IntKind.u32.wrap (a:Int)=a:=wrap_u32 acq acq
def ofInt_u32:π 32 (x.toNat:Int)=x.toBitVec:=by simp
def WW:br .and (.int .u32 x.toNat) (.int .u32 y.toNat)=β (.int .u32 (x&&&y).toNat):=by have a:br .and (.int .u32 x.toNat) (.int .u32 y.toNat)=β (.int .u32 (IntKind.u32.wrap (π 32 (x.toNat)&&&π 32 (y.toNat)).toNat)):=rfl;rw[a,ofInt_u32,ofInt_u32,rh _ (abV _)];rfl
def WX:br .or (.int .u32 x.toNat) (.int .u32 y.toNat)=β (.int .u32 (x|||y).toNat):=by have a:br .or (.int .u32 x.toNat) (.int .u32 y.toNat)=β (.int .u32 (IntKind.u32.wrap (π 32 (x.toNat)|||π 32 (y.toNat)).toNat)):=rfl;rw[a,ofInt_u32,ofInt_u32,rh _ (abV _)];rfl
def WY:br .xor (.int .u32 x.toNat) (.int .u32 y.toNat)=β (.int .u32 (x^^^y).toNat):=by have a:br .xor (.int .u32 x.toNat) (.int .u32 y.toNat)=β (.int .u32 (IntKind.u32.wrap (π 32 (x.toNat)^^^π 32 (y.toNat)).toNat)):=rfl;rw[a,ofInt_u32,ofInt_u32,rh _ (abV _)];rfl
def WZ:oB .xor (.int .u32 x.toNat)=β (.int .u32 (~~~x).toNat):=by
 have a:oB .xor (.int .u32 x.toNat)=β (.int .u32 (IntKind.u32.wrap (π 32 4294967295^^^π 32 (x.toNat)).toNat)):=rfl;rw[a,ofInt_u32,rh _ (abV _)];have:(π 32 4294967295^^^x.toBitVec)= ~~~x.toBitVec:=by rw[BitVec.not_def];rfl
 rw[this];rfl
theorem X0(c:IntKind)(a:Int)(h:0<=a)(k:a<32):br .shl (.int .u32 x.toNat) (.int c a)=β (.int .u32 (x<<<UInt32.ofNat a.toNat).toNat):=by
 obtain⟨b,rfl⟩:∃b:Nat,a=b:=⟨a.toNat,acq⟩;have hm:b<32:=acq;have d:min b IntKind.u32.bits=b:=by simp[IntKind.bits];omega
 simp only[br,fB,if_true,oA,if_neg (show¬(b:Int)<0 by omega),a8N,d,xV,UInt32.toNat_shiftLeft,UInt32.toNat_ofNat',aaq];grind
theorem X1(c:IntKind)(a:Int)(h:0<=a)(k:a<32):br .shr (.int .u32 x.toNat) (.int c a)=β (.int .u32 (x>>>UInt32.ofNat a.toNat).toNat):=by
 obtain⟨b,rfl⟩:∃b:Nat,a=b:=⟨a.toNat,acq⟩;have hm:b<32:=acq;have d:min b IntKind.u32.bits=b:=by simp[IntKind.bits];omega
 simp only[br,fB,if_true,oA,if_neg (show¬(b:Int)<0 by omega),a8N,d,UInt32.toNat_shiftRight,UInt32.toNat_ofNat',a9l];grind
end
def aW(a:Nat)(b:Ψ):Prop:=∀c∈b,α c.cells=a
def X2:aW e []=True:=by simp[aW]
def Df:aW e (n::g)=(α n.cells=e/\aW e g):=by simp[aW]
theorem X3:aW e (g++B)=(aW e g/\aW e B):=by grind[aW]
theorem uQ:aW 1 (w.map ah)=True:=by simp[aW,ah,ρ]
def bf(a b:U)(h:Nat)(c:Ψ)(k:Own):Prop:=
 a.sub b/\match k with
  |.buf d o=>a d=ε/\b d=β (.buf h (α c) o)
  |.any=>False
  |_=>c=[]
theorem U.ao(c:f.sub s)(d:s.sub e5):f.sub e5:=λa b h=>d a b (c a b h)
def U.bJ(b:f.sub s)(a:s e=ε):f e=none:=by
 cases c3:f e with
 |none=>rfl
 |some c=>rw[b e c c3]at a;cases a
theorem bf.nil(a:s.sub f){b:Nat}:bf s f b [] .nil:=⟨a,rfl⟩
def bf.zero(a:s.sub f){b:Nat}:bf s f b [] .zero:=⟨a,rfl⟩
def bf.sub{a:Nat}{b:Ψ}{c:Own}(d:bf s f a b c):s.sub f:=d.1
theorem bf.base{o:Own}(b:bf s f e g o)(c:e5.sub s):bf e5 f e g o:=by
 refine⟨U.ao c b.1,?_⟩;have a:=b.2;cases o with
 |buf d h=>exact⟨U.bJ c a.1,a.2⟩
 |_=>exact a
def bf.mono(b:bf s f e g M)(c:f.sub e5):bf s e5 e g M:=by
 refine⟨U.ao b.1 c,?_⟩;have a:=b.2;cases M with
 |buf d h=>exact⟨a.1,c _ _ a.2⟩
 |_=>exact a
theorem bf.set{c a:Nat}{d:Ψ}{b:Own}{ob p:bt}(h:bf s f c d b)(k:s a=β p):bf (s.set a ob) (f.set a ob) c d b:=by
 refine⟨U.lD h.1,?_⟩;have o:=h.2;cases b with
 |buf r x=>
  have y:r≠a:=by rintro rfl;rw[o.1]at k;cases k
  grind[ξ]
 |_=>exact o
theorem bf.new{ob:bt}(a:bf s f i g M)(b:f e=ε):bf (s.set e ob) (f.set e ob) i g M:=by
 refine⟨U.lD a.1,?_⟩;have c:=a.2;cases M with
 |buf d h=>
  have k:d≠e:=by rintro rfl;rw[c.2]at b;cases b
  grind[ξ]
 |_=>exact c
def mz(d x:Nat)(c:U)(y z:R)(k:R->U->Prop):Prop:=
 match y,z with
 |.J xs r,.J a _=>(∀o∈xs,α o.cells=d)/\(∀o∈a,α o.cells=d)/\(α xs+α a)*x<=140737488355328/\α xs+α a<=9223372036854775807/\
   match r with
   |.buf p C=>c p=β (.buf d (α xs) C)/\∀b h,(b=p\/c b=ε)->k (.J (xs++a) (.buf b h)) ((c.del p).set b (.buf d (α xs+α a) h))
   |.any=>False
   |_=>xs=[]/\(if a=[]then k (.J [] r) c else∀b h,c b=ε->k (.J a (.buf b h)) (c.set b (.buf d (α a) h)))
 |_,_=>False
def X4:G K (.app e i N e4) j f q=mz e i f (ak j N) (ak j e4) (bR q ()):=rfl
theorem dW{C:cC q}(a:bf s f e g M)(D:aW e g)(E:aW e B)(F:(α g+α B)*i<=140737488355328)(G:α g+α B<=9223372036854775807)
  (c:∀p r,bf s r e (g++B) p->q (.J (g++B) p) r):mz e i f (.J g M) (.J B e7) (bR q C):=by
 have d:=a.2;refine⟨D,E,F,G,?_⟩;cases M with
 |any=>trivial
 |nil=>
  obtain rfl:g=[]:=d;refine⟨rfl,?_⟩;split
  .rename_i h;subst h;exact c _ _ ⟨a.1,rfl⟩
  .intro k x b;refine c _ _ ⟨U.ae a.1 (U.bJ a.1 b),U.bJ a.1 b,?_⟩;rw[μ];simp
 |zero=>
  obtain rfl:g=[]:=d;refine⟨rfl,?_⟩;split
  .rename_i h;subst h;exact c _ _ ⟨a.1,rfl⟩
  .intro k x b;refine c _ _ ⟨U.ae a.1 (U.bJ a.1 b),U.bJ a.1 b,?_⟩;rw[μ];simp
 |buf L T=>
  refine⟨d.2,λk x b=>c _ _ ?_⟩;have y:s k=none:=by rcases b with rfl|b;exact d.1;exact U.bJ a.1 b
  refine⟨U.ae (λz P o=>?_) y,y,?_⟩
  .have S:z≠L:=by rintro rfl;rw[d.1]at o;cases o
   rw[U.eO _ S];exact a.1 z P o
  .rw[μ,Ρ]
def jV(d:Nat)(b:U)(a:Ψ)(h:R->U->Prop):Prop:=
 (∀k∈a,α k.cells=d)/\(if α a=0 then h (.J [] .zero) b else∀c,b c=ε->h (.J a (.buf c (α a))) (b.set c (.buf d (α a) (α a))))
def X5{a:List Operand}:G K (.kt e a) j f q=jV e f (a.map (ak j)) (bR q ()):=by simp only[G,jV,bR,a8o]
def dD{k:cC q}(a:s.sub f)(o:aW e g)(b:∀c d,bf s d e g c->q (.J g c) d):jV e f g (bR q k):=by
 refine⟨o,?_⟩;split
 .rename_i p;obtain rfl:=a8q p;exact b _ _ ⟨a,rfl⟩
 .intro r h;exact b _ _ ⟨U.ae a (U.bJ a h),U.bJ a h,by rw[μ]⟩
def cJ(a:Option R)(b:Nat):Option Int:=
 match a with
 |none=>β b
 |some c=>intOf c
def fE(a:Own)(b c:Option R):Own:=
 match b,c with
 |none,ε=>a
 |_,_=>.any
def dX(c:Nat)(a:R)(d h:Option R):Option R:=
 match a with
 |.J xs p=>match cJ d 0,cJ h (α xs) with
  |some a,β b=>if 0<=a/\a<=b/\b<=α xs/\xs.all (λr=>decide (α r.cells=c))then β (.J ((xs.take b.toNat).drop a.toNat) (fE p d h))else ε
  |_,_=>ε
 |.bE k off len cap o=>match cJ d 0,cJ h len with
  |some a,β b=>if o=c/\0<=a/\a<=b/\b<=len/\a<len then β (.bE k (off+a.toNat*c) (b.toNat - a.toNat) (cap - a.toNat) c)else ε
  |_,_=>ε
 |.aq k len cap o=>match cJ d 0,cJ h len with
  |some a,β b=>if o=c/\0<=a/\a<=b/\b<=len/\(d.isSome=ζ->a<len)then β (qZ d.isSome k a.toNat b.toNat cap c)else ε
  |_,_=>ε
 |_=>ε
def xW(a:Option Operand)(b:Nat):dd j a b=cJ (a.map (ak j)) b:=by
 cases a with
 |none=>rfl
 |some a=>simp only[dd,cJ,a9q,intOf];rfl
def X6(a b:Option Operand):x6 M a b=fE M (a.map (ak j)) (b.map (ak j)):=by cases a<;>cases b<;>rfl
theorem X7{a d:Option Operand}:G K (.pH e N a d) j f q=dq (dX e (ak j N) (a.map (ak j)) (d.map (ak j))) (bV (λo=>q o f) ()):=by
 have p:a.isSome=(a.map (ak j)).isSome:=acr;simp only[G,dX,xW,X6 (j:=j) a d,p];generalize ak j N=r;generalize a.map (ak j)=h;generalize d.map (ak j)=k;cases r<;>try rfl
 .rename_i x D;simp only[];generalize cJ h 0=b;generalize cJ k (α x)=c;cases b<;>cases c<;>try rfl
  simp only[iG,hU,a8A,decide_eq_true_eq];grind
 .rename_i y E len z C;simp only[];generalize cJ h 0=b;generalize cJ k len=c;cases b<;>cases c<;>try rfl
  simp only[iG,hU];grind
 .rename_i y len z C;simp only[];generalize cJ h 0=b;generalize cJ k len=c;cases b<;>cases c<;>try rfl
  simp only[iG,hU];grind
def X8(a:0<=b3)(b:b3<=v):dX e (.aq i v O e) ε (β (.v (.int e2 b3)))=β (.aq i b3.toNat O e):=by simp[dX,cJ,intOf,a,b,qZ]
def X9(a:aW e g):dX e (.J g M) ε ε=β (.J g M):=by
 have:(g.all λb=>decide (α b.cells=e))=true:=by simpa[aW] using a
 simp[dX,cJ,fE,this]
theorem ri(a:0<=b3)(b:b3<=α g)(c:aW e g):dX e (.J g M) (β (.v (.int e2 b3))) ε=β (.J (g.drop b3.toNat) .any):=by
 have:(g.all λd=>decide (α d.cells=e))=true:=by simpa[aW] using c
 simp[dX,cJ,fE,intOf,this,a,b]
theorem oO(a:0<=b3)(b:b3<=α g)(c:aW e g):dX e (.J g M) ε (β (.v (.int e2 b3)))=β (.J (g.take b3.toNat) .any):=by grind[decide,aW,dX,cJ,fE,intOf]
theorem Dg{b:IntKind}{a:Int}(c:0<=b3)(d:b3<=a)(h:a<=α g)(k:aW e g):dX e (.J g M) (β (.v (.int e2 b3))) (β (.v (.int b a)))=β (.J ((g.take a.toNat).drop b3.toNat) .any):=by grind[decide,aW,dX,cJ,fE,intOf]
def uR(b:Bool)(a:List (Nat×c6))(c d:R)(h:R->Prop):Prop:=
 match c,d with
 |.agg cs,.agg cM=>di a cs/\di a cM/\h (.v (.bool (xor b (peq (.agg cs) (.agg cM)))))
 |_,_=>False
variable{j4:List (Nat × c6)}
def Xa:G K (.eqv I j4 N e4) j f q=uR I j4 (ak j N) (ak j e4) (bV (λa=>q a f) ()):=rfl
theorem Xb{a:R->Prop}:uR I j4 (.agg g) (.agg B) a=gU (di j4 g/\di j4 B) (cy (a (.v (.bool (xor I (peq (.agg g) (.agg B)))))) ()):=by simp only[uR,gU,cy];grind
def Xc:(w.map ah).drop e=(w.drop e).map ah:=acr
def Xd:(w.map ah).take e=(w.take e).map ah:=acr
def bf.Xe(a:s.sub f):bf s f 1 (([]:Υ).map ah) .nil:=⟨a,rfl⟩
theorem nA{c:cC q}(d:bf s f 1 (w.map ah) M)(h:α w+α j8<=140737488355328)
  (k:∀a b,bf s b 1 ((w++j8).map ah) a->q (.J ((w++j8).map ah) a) b):mz 1 1 f (.J (w.map ah) M) (.J (j8.map ah) e7) (bR q c):=by
 grind[dW,uQ]
def xX{a:UInt8}{d:cC q}(h:bf s f 1 (w.map ah) M)(k:α w+1<=140737488355328)
  (o:∀b c,bf s c 1 ((w++[a]).map ah) b->q (.J ((w++[a]).map ah) b) c):mz 1 1 f (.J (w.map ah) M) (.J [ah a] e7) (bR q d):=
 nA (j8:=[a]) h k o
def sT{a:UInt8}{d:cC q}(h:s.sub f)(k:∀b c,bf s c 1 [ah a] b->q (.J [ah a] b) c):jV 1 f [.v (.int .u8 a.toNat)] (bR q d):=
 dD (g:=[a].map ah) h (by rw[uQ];trivial) k
def xY(a:e<α w):(w.map ah)[e]?=β (.v (.int .u8 (w.getD e 0).toNat)):=by
 rw[a8H,Μ a];have:w.getD e 0=w[e]:=by simp[a]
 rw[this];rfl
def Dh{b c:Fr->U->Prop}(d:∀j f,b j f->c j f):∀(h:List ca)(j:Fr)(f:U),je K h b j f->je K h c j f
 |[],j,f,a=>d j f a
 |_::k,j,f,a=>sB (λj f a=>Dh d k j f a) a
def Di{b:Nat->ca}{c d:Fr->U->Prop}(h:∀j f,c j f->d j f):∀(k:List dj)(j:Fr)(f:U),can K b c k j f->can K b d k j f
 |[],j,f,a=>h j f a
 |_::o,j,f,a=>⟨a.1,sB (λj f a=>⟨a.1,Di h o j f a.2⟩) a.2⟩
theorem jl:∀(o:dV) {h k:gi->Fr->U->Prop} (_:∀c j f,h c j f->k c j f) (j:Fr) (f:U),bW K o h j f->bW K o k j f
 |.skip,_,_,b,j,f,a=>b _ j f a
 |.ret,_,_,b,j,f,a=>b _ j f a
 |.exit _,_,_,b,j,f,a=>b _ j f a
 |.plain ops,_,_,b,j,f,a=>Dh (b _) ops j f a
 |.draw _ y,_,_,b,j,f,a=>Di (b _) y j f a
 |.seq d p,h,k,b,j,f,a=>jl d (λc j f a=>by
   cases c with
   |norm=>exact jl p b j f a
   |exit x=>exact b _ j f a
   |ret=>exact b _ j f a) j f a
 |.block x d,h,k,b,j,f,a=>jl d (λc j f a=>by
   cases c with
   |norm=>exact b _ j f a
   |exit G=>simp only[lB]at a|-;grind
   |ret=>exact b _ j f a) j f a
 |.cond o d p,h,k,b,j,f,a=>by
   simp only[xP,CS,kF]at a|-;split at a
   .exact⟨λr=>jl d b j f (a.1 r),λr=>jl p b j f (a.2 r)⟩
   .trivial
 |.loop d,h,k,b,j,f,a=>by
   obtain⟨z,C,D,E⟩:=a;exact⟨z,C,D,λj f F=>jl d (λc j f a=>by
    cases c with
    |norm=>exact a
    |exit x=>exact b _ j f a
    |ret=>exact b _ j f a) j f (E j f F)⟩
def Dj{b c:dV}{k:cC (bW K b (eY (bW K j2 e9) e9) j f)}{o:cC (bW K c (eY (bW K j2 e9) e9) j f)}(d:Fr->U->Prop)
  (p:I=ζ->bW K b (eY d e9) j f) (r:I=θ->bW K c (eY d e9) j f) (x:∀j f,d j f->bW K j2 e9 j f):
  kF (.v (.bool I)) (cy (bW K b (eY (bW K j2 e9) e9) j f) k) (cy (bW K c (eY (bW K j2 e9) e9) j f) o):=by
 have hm:∀h j f,eY d e9 h j f->eY (bW K j2 e9) e9 h j f:=λh j f a=>by
  cases h with
  |norm=>exact x j f a
  |exit y=>exact a
  |ret=>exact a
 exact⟨λa=>jl b hm j f (p a),λa=>jl c hm j f (r a)⟩
def sU(b c:R):Option R:=
 match b,c with
 |.v (.string d),.v (.int _ a)=>if 0<=a then(match d.data[a.toNat]? with|some h=>β (.v (.int .u8 h.toNat))|none=>ε)else ε
 |_,_=>ε
def Xf:G K (.mg N e4) j f q=dq (sU (ak j N) (ak j e4)) (bV (λc=>q c f) ()):=by
 simp only[G,sU];generalize ak j N=d;generalize ak j e4=h;cases d<;>first
  |rfl
  |(rename_i v;cases v<;>first
    |rfl
    |(cases h<;>first
      |rfl
      |(rename_i k o;cases o<;>first
        |rfl
        |(
          rename_i r a;simp only[];by_cases b:0<=a
          .simp only[b,true_and,if_true];generalize k.data[a.toNat]?=p;cases p<;>rfl
          .simp[b,dq]))))
def sV(a b:Nat)(c:U)(d:R):Option R:=
 match d with
 |.ptr h off=>match c h with
  |some (.ro cs)=>if off+b*a<=α cs then β (.J (eo a b (cs.drop off)) .any)else ε
  |_=>ε
 |_=>ε
def Xg:G K (.kv e i N ε ε) j f q=dq (sV e i f (ak j N)) (bV (λa=>q a f) ()):=by
 simp only[G,sV,dd];generalize ak j N=b;cases b<;>first
  |rfl
  |(
    rename_i c k;simp only[];generalize f c=d;cases d with
    |none=>simp[dq]
    |some h=>cases h with
     |ro cs=>simp only[iG,hU];simp
     |_=>simp[dq])
def Xh(a:f i=β (.ro g))(b:α g=e):sV 1 e f (.ptr i 0)=β (.J g .any):=by simp[sV,a,b,eo,Ο]
theorem xZ(a:e<64):br .shl (.int .i64 b3) (.int e2 (e:Int))=β (.int .i64 (IntKind.i64.wrap (b3*2^e))):=by
 have b:min e IntKind.i64.bits=e:=by simp[IntKind.bits];omega
 simp_all [br,fB,oA]
def Dk(a b:Option R):Option R:=
 match a,b with
 |some a,β b=>β (.aJ [a,b])
 |_,_=>ε
def Xi:Dk (β n) (β b6)=β (.aJ [n,b6]):=rfl
def Xj{a b:Nat×Option (Bool×Nat)}:jg j f [a,b]=Dk (gj j f a) (gj j f b):=by simp only[jg,fC];cases gj j f a<;>cases gj j f b<;>rfl
def Dl(a b c:Option R):Option R:=
 match a,b,c with
 |some a,β b,β c=>β (.aJ [a,b,c])
 |_,_,_=>ε
def Xk{a:R}:Dl (β n) (β b6) (β a)=β (.aJ [n,b6,a]):=rfl
def Xl{a b c:Nat×Option (Bool×Nat)}:jg j f [a,b,c]=Dl (gj j f a) (gj j f b) (gj j f c):=by simp only[jg,fC];cases gj j f a<;>cases gj j f b<;>cases gj j f c<;>rfl
def Xm:((0:Nat):Int)=0:=rfl
def Xn:((1:Nat):Int)=1:=rfl
def Xo:((e:Int).tmod (i:Int))=((e%i:Nat):Int):=rfl
def Dm:((e:Int).tmod 64)=((e%64:Nat):Int):=Xo (i:=64)
def sW:=
 σ @UN<|
 σ @UO<|
 σ @UP<|
 σ @UQ<|
 σ @UR<|
 σ @US<|
 σ @UT<|
 σ @xP<|
 σ @UU<|
 σ @hU<|
 σ @UM<|
 σ @UW<|
 σ @UX<|
 σ @UY<|
 σ @UZ<|
 σ @V0<|
 σ @V2<|
 σ @V1<|
 σ @V3<|
 σ @V4<|
 σ @V5<|
 σ @Vc<|
 σ @Ve<|
 σ @Vf<|
 σ @Vi<|
 σ @Vg<|
 σ @Vh<|
 σ @Vj<|
 σ @Vk<|
 σ @Vo<|
 σ @Vp<|
 σ @Vm<|
 σ @Vn<|
 σ @Vv<|
 σ @Vy<|
 σ @Vz<|
 σ @VA<|
 σ @VB<|
 σ @VE<|
 σ @VG<|
 σ @VJ<|
 σ @VM<|
 σ @VO<|
 σ @VP<|
 σ @VV<|
 σ @VY<|
 σ @W2<|
 σ @VR<|
 σ @VT<|
 σ @W3<|
 σ @W5<|
 σ @W7<|
 σ @W8<|
 σ @Wa<|
 σ @X4<|
 σ @X5<|
 σ @X7<|
 σ @Xf<|
 σ @Xg<|
 σ @Xa<|
 σ @Wc<|
 σ @Wg<|
 σ @Vq<|
 σ @Vr<|
 σ @Wh<|
 σ @VW<|
 σ @VX<|
 σ @Wj<|
 @Wk
def sX:=
 σ @CT<|
 σ @CU<|
 σ @V6<|
 σ @V7<|
 σ @V8<|
 σ @V9<|
 σ @Va<|
 σ @Vl<|
 σ @eq_self.{1}<|
 σ @Vd<|
 σ @a8Q.{0}<|
 σ @a8V.{0}<|
 σ @Xb<|
 σ @Option.map_none.{0,0}<|
 σ @X9<|
 σ @ri<|
 σ @oO<|
 σ @Dg<|
 σ @Xc<|
 σ @Xd<|
 σ @Vs<|
 σ @Vt<|
 σ @Vu<|
 σ @sK<|
 σ @sJ<|
 σ @Vw<|
 σ @Vx<|
 σ @VC<|
 σ @VD<|
 σ @CW<|
 σ @VF<|
 σ @VH<|
 σ @VI<|
 σ @VK<|
 σ @VL<|
 σ @sO<|
 σ @VN<|
 σ @WR<|
 σ @uL<|
 σ @lC<|
 σ @VU<|
 σ @W0<|
 σ @VQ<|
 σ @VS<|
 σ @W1<|
 σ @sP<|
 σ @W4<|
 σ @W6<|
 σ @W9<|
 σ @Wb<|
 σ @Wd<|
 σ @We<|
 σ @Wf<|
 σ @a9q.{0,0}<|
 σ @Wm<|
 σ @Wn<|
 σ @Wl<|
 σ @Wp<|
 σ @Wo<|
 σ @rf<|
 σ @a8C.{0,0}<|
 σ @a9z.{0,0}<|
 σ @WA<|
 σ @WB<|
 σ @WC<|
 σ @WD<|
 σ @WE<|
 σ @WG<|
 σ @WH<|
 σ @WI<|
 σ @WJ<|
 σ @WK<|
 σ @WL<|
 σ @WM<|
 σ @WV<|
 σ @Dd<|
 σ @De<|
 σ @WW<|
 σ @WX<|
 σ @WY<|
 σ @WZ<|
 σ @X0<|
 σ @X1<|
 σ @wrap_i64<|
 σ @Ww<|
 σ @Wx<|
 σ @Wy<|
 σ @Wz<|
 σ @WN<|
 σ @WO<|
 σ @WQ<|
 σ @sS<|
 σ @wrap_u64<|
 σ @WU<|
 σ @D7<|
 σ @a8o.{0,0}<|
 σ @a8m.{0}<|
 σ @a8s.{0}<|
 σ @U.CZ<|
 σ @U.Wq<|
 σ @U.Wr<|
 σ @U.Ws<|
 σ @U.Wt<|
 σ @ς<|
 σ @U.D0<|
 σ @U.D1<|
 σ @U.D2<|
 σ @U.D3<|
 σ @U.D4<|
 σ @U.D5<|
 σ @U.D6<|
 σ @U.Wv<|
 σ @D8<|
 σ @D9<|
 σ @Da<|
 σ @Db<|
 σ @Dc<|
 σ @hY<|
 σ @a9I.{0}<|
 σ @and_self<|
 σ @a8J<|
 σ @a8Y<|
 σ @aaW<|
 σ @a8N<|
 σ @true_and<|
 σ @and_true<|
 σ @aab<|
 σ @a8P<|
 σ @WS<|
 @WT
def fl:=
 σ @Xm<|
 σ @Xn<|
 σ @Xj<|
 σ @Xi<|
 σ @Xl<|
 @Xk
def aX:=
 σ @a8m.{0}<|
 σ @a8s.{0}<|
 σ @a8o.{0,0}<|
 σ @Ρ.{0}<|
 σ @aa4.{0}<|
 σ @List.length_range<|
 σ @a8l.{0}<|
 σ @a8z.{0}<|
 σ @D8<|
 σ @D9<|
 σ @Da<|
 σ @Db<|
 σ @Dc<|
 σ @hY<|
 σ @uQ<|
 σ @X2<|
 σ @Df<|
 σ @X3<|
 σ @and_true<|
 σ @true_and<|
 σ @a8J<|
 σ @eq_self.{1}<|
 @and_self
def bc(a:Υ):R:=.v (.string ⟨a.toArray⟩)
theorem toList_mk(a:Υ):(⟨a.toArray⟩:ByteArray).toList=a:=acr
theorem Dn(a b:Υ):br .eql (.string ⟨a.toArray⟩) (.string ⟨b.toArray⟩)=β (.bool (decide (a=b))):=by grind[br,qQ,toList_mk]
theorem Dp(a b:Υ):br .neq (.string ⟨a.toArray⟩) (.string ⟨b.toArray⟩)=β (.bool (decide (a≠b))):=by grind[br,qQ,toList_mk]
def oP(a:Υ):(⟨a.toArray⟩:ByteArray).size=α a:=by rfl
variable{u:bk}{l j3:World}
section
def Xp:sL K ⟨β e,e3,β (i,I)⟩ j f=hV (j i) I (cy (G K e3 j f (λa _=>a=j e)) ()) (cy ((.aJ []:R)=j e) ()):=rfl
def Xq{a:Option Nat}:Def K ⟨a,e3,β (e,I)⟩ j=hV (j e) I (cy (G K e3 j U.emp (λ_ _=>True)) ()) (cy True ()):=rfl
def nB(a:R):Option R:=
 match a with
 |.J xs _=>match bytesOf xs with
  |some b=>β (.v (.string ⟨b.toArray⟩))
  |none=>ε
 |_=>ε
def Dq:nB (.J (w.map ah) M)=β (.v (.string ⟨w.toArray⟩)):=by simp[nB,sq]
def Xr:G K (.qW N) j f q=dq (nB (ak j N)) (bV (λa=>q a f) ()):=by simp only[G,nB];generalize ak j N=b;cases b<;>first|rfl|(rename_i c h;simp only[];generalize bytesOf c=d;cases d<;>rfl)
def rj(d:Bool)(a b:R):Option R:=
 match a,b with
 |.v (.int c a),.v (.int h b)=>if c=h then β (.v (.int c (if d then max a b else min a b)))else ε
 |_,_=>ε
def Xs{a:Int}:rj ζ (.v (.int e2 b3)) (.v (.int e2 a))=β (.v (.int e2 (max b3 a))):=by simp[rj]
def Xt{a:Int}:rj θ (.v (.int e2 b3)) (.v (.int e2 a))=β (.v (.int e2 (min b3 a))):=by simp[rj]
def Xu:G K (.mi I e2 N e4) j f q=dq (rj I (ak j N) (ak j e4)) (bV (λa=>q a f) ()):=by
 simp only[G,rj];generalize ak j N=b;generalize ak j e4=c;cases b<;>first
  |rfl
  |(rename_i v;cases v<;>first
    |rfl
    |(cases c<;>first
      |rfl
      |(rename_i d;cases d<;>first|rfl|(simp only[iG,hU]))))
def sY(a:R):Option R:=
 match a with
 |.v (.string b)=>β (.v (.int .i64 b.size))
 |_=>ε
def y0:sY (.v (.string ⟨w.toArray⟩))=β (.v (.int .i64 (α w))):=by rfl
def Xv:G K (.qU N) j f q=dq (sY (ak j N)) (bV (λa=>q a f) ()):=by simp only[G,sY];generalize ak j N=b;cases b<;>first|rfl|(rename_i v;cases v<;>rfl)
def rk(a:R)(d h:Option R):Option R:=
 match a with
 |.v (.string b)=>match cJ d 0,cJ h b.size with
  |some a,β c=>if 0<=a/\a<=c/\c<=b.size then β (.v (.string (b.extract a.toNat c.toNat)))else ε
  |_,_=>ε
 |_=>ε
def y1(a:Υ)(b c:Nat):(⟨a.toArray⟩:ByteArray).extract b c=⟨((a.take c).drop b).toArray⟩:=by apply ByteArray.ext;simp only[ByteArray.data_extract];simp[a9F]
def Xw(a:0<=b3)(b:b3<=α w):rk (.v (.string ⟨w.toArray⟩)) (β (.v (.int e2 b3))) ε=β (.v (.string ⟨(w.drop b3.toNat).toArray⟩)):=by simp[rk,cJ,intOf,oP,a,b,y1]
def Xx(a:0<=b3)(b:b3<=α w):rk (.v (.string ⟨w.toArray⟩)) ε (β (.v (.int e2 b3)))=β (.v (.string ⟨(w.take b3.toNat).toArray⟩)):=by simp[rk,cJ,intOf,oP,a,b,y1]
def Xy{b:IntKind}{a:Int}(c:0<=b3)(d:b3<=a)(h:a<=α w):rk (.v (.string ⟨w.toArray⟩)) (β (.v (.int e2 b3))) (β (.v (.int b a)))=β (.v (.string ⟨((w.take a.toNat).drop b3.toNat).toArray⟩)):=by simp[rk,cJ,intOf,oP,c,d,h,y1]
theorem Dr(a:0<=b3)(b:b3<α w):sU (.v (.string ⟨w.toArray⟩)) (.v (.int e2 b3))=β (.v (.int .u8 (w.getD b3.toNat 0).toNat)):=by grind[List.getD,sU]
def Ds(c:Nat)(h:U)(r x:R)(p:R->U->Prop):Prop:=
 match r,x with
 |.bE d off a _ k,.J b _=>k=c/\(∀o∈b,α o.cells=c)/\match h d with
  |some (.cells cs)=>off+a*c<=α cs/\p (.v (.int .i64 (min (α b) a))) (h.set d (.cells (putAt cs off (flat (b.take a)))))
  |_=>False
 |.aq d a _ k,.J b _=>k=c/\(∀o∈b,α o.cells=c)/\match h d with
  |some (.cells cs)=>a*c<=α cs/\p (.v (.int .i64 (min (α b) a))) (h.set d (.cells (putAt cs 0 (flat (b.take a)))))
  |_=>False
 |_,_=>False
def Xz:G K (.nj e N e4) j f q=Ds e f (ak j N) (ak j e4) (bR q ()):=rfl
def Dt{a:cC q}(b:aW e g)(c:f v=β (.cells B))(d:O+i*e<=α B)
  (h:q (.v (.int .i64 (min (α g) i))) (f.set v (.cells (putAt B O (flat (g.take i)))))):Ds e f (.bE v O i e0 e) (.J g M) (bR q a):=by
 refine⟨rfl,b,?_⟩;rw[c];trivial
def uS(c b:Nat)(k:U)(a:R)(o p:Option R):Option R:=
 match a with
 |.ptr h off=>match cJ o 0,cJ p b with
  |some a,β d=>match k.read h with
   |some cs=>if 0<=a/\a<=d/\d<=b/\off+b*c<=α cs/\a<b then β (.bE h (off+a.toNat*c) (d.toNat - a.toNat) (b - a.toNat) c)else ε
   |none=>ε
  |_,_=>ε
 |_=>ε
def y2(a:f.read v=β g)(b:O+e*i<=α g)(c:0<e):uS i e f (.ptr v O) ε ε=β (.bE v O e e i):=by simp[uS,cJ,a,b,c]
theorem XA{a b:Option Operand}:G K (.ku i e N a b θ) j f q=dq (uS i e f (ak j N) (a.map (ak j)) (b.map (ak j))) (bV (λc=>q c f) ()):=by
 simp only[G,uS,xW];generalize ak j N=d;generalize a.map (ak j)=h;generalize b.map (ak j)=k;cases d<;>try rfl
 rename_i o y;simp only[];generalize cJ h 0=p;generalize cJ k e=r;generalize f.read o=x;cases p<;>cases r<;>cases x<;>first
  |rfl
  |(simp[dq];done)
  |(
    simp only[iG,hU,a9m,if_false];grind)
def oQ(d:Nat)(b:U)(a:Ψ)(h:R->U->Prop):Prop:=
 (∀k∈a,α k.cells=d)/\(if α a=0 then h (.J [] .zero) b else∀c,b c=ε->h (.aq c (α a) (α a) d) (b.set c (.cells (flat a))))
def XB{a:List Operand}:G K (.ky e a) j f q=oQ e f (a.map (ak j)) (bR q ()):=by simp only[G,oQ,bR,a8o]
def nC{a:cC q}:oQ e f [] (bR q a)=q (.J [] .zero) f:=by simp[oQ,bR]
def eP{b:cC q}(c:aW e g)(d:g≠[])(h:∀a,f a=ε->q (.aq a (α g) (α g) e) (f.set a (.cells (flat g)))):oQ e f g (bR q b):=by refine⟨c,?_⟩;rw[if_neg (λk=>d (a8q k))];exact h
def Du(d h:Nat)(k:Ψ)(c:U)(o p:R)(r:R->U->Prop):Prop:=
 match o,p with
 |.v (.int _ a),.v (.int _ x)=>a=x/\0<=a/\a<=9223372036854775807/\a*h<=281474976710656/\∀b,c b=ε->r (.aq b a.toNat a.toNat d) (c.set b (.cells (δ a.toNat k).flatten))
 |_,_=>False
def XC:G K (.kx e i g N e4) j f q=Du e i g f (ak j N) (ak j e4) (bR q ()):=rfl
theorem y3{b:IntKind}{c:cC q}(d:e*v<=281474976710656)(h:e<=9223372036854775807)(k:∀a,f a=ε->q (.aq a e e i) (f.set a (.cells (δ e g).flatten))):
  Du i v g f (.v (.int e2 (e:Int))) (.v (.int b (e:Int))) (bR q c):=⟨rfl,acq,acq,acq,λa o=>by
 grind[bR,Int.toNat_natCast]⟩
def jW(c z:Nat)(d:U)(E F:R)(x:R->U->Prop):Prop:=
  match nu d c F with
  |some (b,y)=>match E with
    |.J xs D=>xs=[]/\(D=.nil\/D=.zero)/\b*z<=140737488355328/\b<=9223372036854775807/\
      (if b=0 then x (.J [] D) d else∀h k p,d h=ε->b<=k->k<=maxLen->α p=(k - b)*c->x (.aq h b k c) (d.set h (.cells (y++p))))
    |.aq r a k C=>match d r with
      |some (.cells cs)=>C=c/\α cs=k*c/\(a+b)*z<=140737488355328/\a+b<=9223372036854775807/\
        (if a+b<=k then x (.aq r (a+b) k c) (d.set r (.cells (putAt cs (a*c) y)))
         else∀h o p,d h=ε->a+b<=o->o<=maxLen->α p=(o -(a+b))*c->x (.aq h (a+b) o c) (d.set h (.cells (cs.take (a*c)++y++p))))
      |some (.eW cs)=>C=c/\α cs=k*c/\(a+b)*z<=140737488355328/\a+b<=9223372036854775807/\
        (if a+b<=k then x (.aq r (a+b) k c) (d.set r (.eW (putAt cs (a*c) y)))
         else∀h o p,d h=ε->a+b<=o->o<=maxLen->α p=(o -(a+b))*c->x (.aq h (a+b) o c) (d.set h (.cells (cs.take (a*c)++y++p))))
      |_=>False
    |.bE r off a k C=>match d r with
      |some (.cells cs)=>C=c/\off+k*c<=α cs/\(a+b)*z<=140737488355328/\a+b<=9223372036854775807/\
        (if a+b<=k then x (.bE r off (a+b) k c) (d.set r (.cells (putAt cs (off+a*c) y)))
         else∀h o p,d h=ε->a+b<=o->o<=maxLen->α p=(o -(a+b))*c->x (.aq h (a+b) o c) (d.set h (.cells ((cs.drop off).take (a*c)++y++p))))
      |_=>False
    |_=>False
  |none=>False
def XD:G K (.mj e i N e4) j f q=jW e i f (ak j N) (ak j e4) (bR q ()):=rfl
def av(p r:U)(a:Nat)(d:Ψ)(h:R):Prop:=
 p.sub r/\((d=[]/\(h=.J [] .nil\/h=.J [] .zero))\/∃k b c o,h=.aq k b c a/\p k=ε/\r k=β (.cells o)/\α o=c*a/\o.take (b*a)=d/\α d=b*a/\b<=c/\c<=maxLen)
theorem av.nil{a b:U}{c:Nat}(d:a.sub b):av a b c [] (.J [] .nil):=⟨d,.inl ⟨rfl,.inl rfl⟩⟩
def av.zero{a b:U}{c:Nat}(d:a.sub b):av a b c [] (.J [] .zero):=⟨d,.inl ⟨rfl,.inr rfl⟩⟩
def av.mono{a:R}(d:av f s e g a)(c:s.sub e5):av f e5 e g a:=by
 obtain⟨h,b⟩:=d;refine⟨U.ao h c,?_⟩;rcases b with b|⟨k,o,p,r,x,y,z,C⟩
 .exact .inl b
 .exact .inr ⟨k,o,p,r,x,y,c _ _ z,C⟩
theorem av.base(c:av f e5 e g n)(b:s.sub f):av s e5 e g n:=by
 obtain⟨d,a⟩:=c;refine⟨U.ao b d,?_⟩;rcases a with a|⟨h,k,o,p,r,x,y⟩
 .exact .inl a
 .exact .inr ⟨h,k,o,p,r,U.bJ b x,y⟩
def av.new{ob:bt}(h:av s f i g n)(k:f e=ε):av (s.set e ob) (f.set e ob) i g n:=by
 obtain⟨o,a⟩:=h;refine⟨U.lD o,?_⟩;rcases a with a|⟨c,p,r,x,y,z,b,C⟩
 .exact .inl a
 .have d:c≠e:=by rintro rfl;rw[k]at b;cases b
  exact .inr ⟨c,p,r,x,y,by rw[ξ _ _ d];exact z,by rw[ξ _ _ d];exact b,C⟩
theorem av.src(b:av s f e g n):∃a,α g=a*e/\bT f e n=β (a,g)/\fk n=β (.v (.int .i64 a)):=by
 obtain⟨h,c⟩:=b;rcases c with⟨rfl,rfl|rfl⟩|⟨k,a,o,p,rfl,r,x,y,z,d,C,D⟩
 .exact⟨0,acr,rfl,rfl⟩
 .exact⟨0,acr,rfl,rfl⟩
 .refine⟨a,d,?_,rfl⟩;simp_all [a8x,bT,U.ad]
theorem eZ{l:cC q}(m:av s f e B n)(G:0<e)(t:bT f e b6=β (i,g))(h:α g=i*e)(u:(α B+α g)*v<=140737488355328*e)(w:α B+α g<=9223372036854775807)
  (r:∀L P,av s P e (B++g) L->q L P):jW e v f n b6 (bR q l):=by
 obtain⟨b,A⟩:=m;unfold jW;rw[x7 t];simp only[bR];have dd:∀a,α B=a*e->(a+i)*v<=140737488355328/\a+i<=9223372036854775807:=by
  intro a H;have x:α B+α g=(a+i)*e:=by rw[H,h,a9s]
  rw[x]at u w;constructor
  .have:(a+i)*v*e<=140737488355328*e:=by grind
   exact Nat.le_of_mul_le_mul_right this G
  .have:(a+i)*1<=(a+i)*e:=acf _ G;omega
 rcases A with⟨rfl,Y⟩|⟨I,a,c,y,rfl,S,K,z,T,V,Z,M⟩
 .obtain⟨C,W⟩:=dd 0 acr;have k3:∀k,(k=.nil\/k=.zero)->(([]:Ψ)=[]/\(k=.nil\/k=.zero)/\i*v<=140737488355328/\i<=9223372036854775807/\
   (if i=0 then q (.J [] k) f else∀d c o,f d=ε->i<=c->c<=maxLen->α o=(c - i)*e->q (.aq d i c e) (f.set d (.cells (g++o))))):=by
   intro k N;refine⟨rfl,N,by simpa using C,acq,?_⟩;split
   .rename_i hm;subst hm;have:g=[]:=a8q (by simpa using h);subst this;refine r _ _ ⟨b,.inl ⟨rfl,?_⟩⟩;simp_all
   .intro d c o p D E F;refine r _ _ ⟨U.ae b (U.bJ b p),.inr ⟨d,i,c,g++o,rfl,U.bJ b p,μ _ _ _,?_,?_,by trivial,D,E⟩⟩
    .rw[Ρ,h,F,<-a9s];congr 1;omega
    .rw[<-h,aaL];rfl
  grind
 .obtain⟨C,W⟩:=dd a V;simp only[K];refine⟨trivial,z,C,W,?_⟩;have O:(y.take (a*e)).length=a*e:=by rw[T,V]
  split
  .rename_i j;have Q:a*e+α g<=α y:=by rw[h,z,<-a9s];exact a8x _ j
   refine r _ _ ⟨U.ae b S,.inr ⟨I,a+i,c,_,rfl,S,μ _ _ _,?_,?_,by grind,j,M⟩⟩
   .rw[eF _ _ _ Q,z]
   .have x:(a+i)*e=(y.take (a*e)++g).length:=by grind
    rw[putAt,x,aaL,T]
  .intro d X o p D E F;refine r _ _ ⟨U.ae b (U.bJ b p),.inr ⟨d,a+i,X,_,rfl,U.bJ b p,μ _ _ _,?_,?_,by grind,D,E⟩⟩
   .rw[Ρ,Ρ,O,h,F,<-a9s,<-a9s];congr 1;omega
   .have x:(a+i)*e=(y.take (a*e)++g).length:=by grind
    grind
theorem y4:bT f 1 (.J (w.map ah) M)=β (α w,w.map ah):=by grind[ah,decide,ρ,bT,su]
def y5(a:U)(b:R):Option R:=
 match bT a 1 b with
 |some (_,xs)=>match bytesOf xs with
  |some c=>β (.v (.string ⟨c.toArray⟩))
  |none=>ε
 |none=>ε
def XE(a:bT f 1 n=β (e,w.map ah)):y5 f n=β (.v (.string ⟨w.toArray⟩)):=by simp[y5,a,sq]
def uT(a:R):Option R:=
 match a with
 |.v (.string b)=>β (.J (b.data.toList.map ah) .any)
 |_=>ε
def XF:uT (.v (.string ⟨w.toArray⟩))=β (.J (w.map ah) .any):=by rfl
def XG:G K (.pL N) j f q=dq (uT (ak j N)) (bV (λa=>q a f) ()):=by simp only[G,uT];generalize ak j N=b;cases b<;>first|rfl|(rename_i v;cases v<;>rfl)
theorem bb.frozen{v:Value}(h:Holds u f l)(k:f O=β (.ro g))(o:e*i<=α g)(p:bb u v (.aq O e e0 i)):bb u v (.J (eo i e g) .any):=by
 obtain⟨r,x,T,L,P,c,S⟩:=h.cx O _ k;have V:=c.1;cases p with
 |aq O e e0 i hk y=>
  obtain⟨z,C,d⟩:=xf hk o r;by_cases D:e=0
  .subst D;have:=a8q d;rw[this];exact .dn _ _ _ (λE=>by cases E) trivial
  .refine .J O 0 e e0 i (λa=>x.getD a Go.undef) _ .any hk d.symm y z ?_ ?_ ?_ trivial;grind;grind
   .intro a F b;rw[C]at b;have G:a<e*i:=by grind
    rw[a9j G]at b;exact c.2 a F b
end
def sZ:=
 σ @XB<|
 σ @XD<|
 σ @XC<|
 σ @XG<|
 σ @Xr<|
 σ @Xu<|
 σ @Xv<|
 σ @Xz<|
 σ @XA<|
 σ @Xp<|
 @Xq
def ta:=
 σ @XF<|
 σ @jj<|
 σ @VZ<|
 σ @X8<|
 σ @Dq<|
 σ @Xs<|
 σ @Xt<|
 σ @y0<|
 σ @Xw<|
 σ @Xx<|
 σ @Xy<|
 σ @y2<|
 σ @Dp<|
 σ @Dn<|
 σ @Dr<|
 σ @ite_true.{1}<|
 σ @ite_false.{1}<|
 σ @a8U<|
 σ @a9d<|
 σ @aaM<|
 σ @Bool.true_xor<|
 σ @a9N<|
 σ @aar<|
 σ @decide_true<|
 @decide_false
section
def XH{a b:List Operand}:G K (.bL b5 a b) j f q=nz (.bL b5 (a.map (ak j)) (b.map (ak j))) (bV (λc=>q c f) ()):=rfl
def y6(a:Ctx)(b:R)(c:Ψ)(d:U)(h:R->U->Prop):Prop:=
 match b with
 |.bL fn cM cs=>fH a.p fn=ζ/\hQ a.p fn (cM++c++cs) d h (up a.k)
 |_=>False
def XI{a:List Operand}:G K (.jc N a) j f q=y6 K (ak j N) (a.map (ak j)) f (bR q ()):=rfl
def fm{c:cC q}(d:fH K.p b5=ζ)(h:AC K.p b5 (g++e1++B) f Y)(k:∀a b,Y a b->q a b):y6 K (.bL b5 g B) e1 f (bR q c):=⟨d,(h.mono k).p⟩
def XJ:G K (.qX b0 N) j f q=nz (.iface b0 (ak j N)) (bV (λa=>q a f) ()):=rfl
def pW(d:TypeId)(a:Bool)(b:R)(h:R):Option R:=
 match h with
 |.iface k c=>if k=d then β (if a then .aJ [c,.v (.bool ζ)]else c)else if a=ζ then β (.aJ [b,.v (.bool θ)])else ε
 |.v .nilIface=>if a=ζ then β (.aJ [b,.v (.bool θ)])else ε
 |_=>ε
def XK:pW b0 ζ b6 (.iface b0 n)=β (.aJ [n,.v (.bool ζ)]):=by simp[pW]
def XL{a:TypeId}(b:a≠b0):pW b0 ζ n (.iface a b6)=β (.aJ [n,.v (.bool θ)]):=by simp[pW,b]
def XM:pW b0 ζ n (.v .nilIface)=β (.aJ [n,.v (.bool θ)]):=by rfl
def XN:pW b0 θ b6 (.iface b0 n)=β n:=by simp[pW]
def Dv(a:Bool)(b:R):Option R:=
 match b with
 |.iface _ _=>β (.v (.bool a))
 |.v .nilIface=>β (.v (.bool (!a)))
 |_=>ε
def XO:Dv I (.iface b0 n)=β (.v (.bool I)):=rfl
def XP:Dv I (.v .nilIface)=β (.v (.bool (!I))):=rfl
def Dw(a:Bool)(b:R):Option R:=
 match b with
 |.bL _ _ _=>β (.v (.bool a))
 |.v .nilFunc=>β (.v (.bool (!a)))
 |_=>ε
def XQ:Dw I (.bL e g B)=β (.v (.bool I)):=rfl
def XR:Dw I (.v .nilFunc)=β (.v (.bool (!I))):=rfl
def XS(a:Ctx)(b:R)(c:U):Prop:=
 match b with
 |.iface d h=>up a.k (.iface d h) c
 |_=>False
def XT:G K (.nm N) j f q=XS K (ak j N) f:=rfl
def y7(b:R)(c:U)(d:Nat->ByteArray->Prop):Prop:=
 match b with
 |.v (.string h)=>∀a,c a=ε->d a h
 |_=>False
def XU:G K (.kz N) j f q=y7 (ak j N) f (bR (λa b=>q (.ptr a 0) (f.set a (.it b 0))) ()):=rfl
def Dx{a:Nat->ByteArray->Prop}{b:cC a}:y7 (.v (.string ⟨w.toArray⟩)) f (bR a b)=ji f (bV (λc=>a c ⟨w.toArray⟩) ()):=rfl
def y8(h:R)(b:U)(c:R->U->Prop):Prop:=
 match h with
 |.ptr d off=>off=0/\match b d with
  |some (.it a pos)=>if pos<a.size then c (.aJ [.v (.bool ζ),.v (.int .i64 pos),.v (.int .i32 (Utf8.decode a pos).1)]) (b.set d (.it a (pos+(Utf8.decode a pos).2)))else c (.aJ [.v (.bool θ)]) b
  |_=>False
 |_=>False
def XV:G K (.nn N) j f q=y8 (ak j N) f (bR q ()):=rfl
def XW{a:cC q}(b:f i=β (.it ⟨w.toArray⟩ e))(c:e<α w)
  (d:q (.aJ [.v (.bool ζ),.v (.int .i64 e),.v (.int .i32 (Utf8.decode ⟨w.toArray⟩ e).1)]) (f.set i (.it ⟨w.toArray⟩ (e+(Utf8.decode ⟨w.toArray⟩ e).2)))):y8 (.ptr i 0) f (bR q a):=by
 refine⟨rfl,?_⟩;rw[b];simp only[oP,if_pos c];exact d
def XX{a:cC q}(b:f e=β (.it ⟨w.toArray⟩ i))(c:¬i<α w)(d:q (.aJ [.v (.bool θ)]) f):y8 (.ptr e 0) f (bR q a):=by refine⟨rfl,?_⟩;rw[b];simp only[oP,if_neg c];exact d
def y9(a:R):Option R:=
 match a with
 |.J [] .nil=>β (.v (.pointer ε))
 |.aq b _ cap _=>if 0<cap then β (.ptr b 0)else ε
 |_=>ε
def XY:y9 (.J [] .nil)=β (.v (.pointer ε)):=rfl
def XZ(a:0<i):y9 (.aq e v i O)=β (.ptr e 0):=by simp[y9,a]
def Y0:bW K .refuse e9 j f=False:=rfl
def U.Y1:(f.set e (.pB b0 g)).read e=β g:=by simp[U.read,U.set]
def Y2:(R.bL e g B).cells=[.bL e g B]:=rfl
def Y3:sM (.bL e g B)=β (.bL e g B):=rfl
def pX(a:Bool)(b:U)(h k:R):Option R:=
 match h,k with
  |.ptr _ _,.v (.pointer ε)=>β (.v (.bool a))
  |.v (.pointer ε),.ptr _ _=>β (.v (.bool a))
  |.v (.pointer ε),.v (.pointer ε)=>β (.v (.bool (!a)))
  |.ptr c o,.ptr d p=>if lu b c=ζ/\lu b d=ζ then β (.v (.bool (xor a (decide (c=d/\o=p)))))else ε
  |_,_=>ε
def Y4:G K (.ni I N e4) j f q=dq (pX I f (ak j N) (ak j e4)) (bV (λd=>q d f) ()):=by
 simp only[G,pX];generalize ak j N=h;generalize ak j e4=c;cases h<;>first
  |rfl
  |(rename_i v;cases v<;>first
    |rfl
    |(rename_i k;cases k<;>first|rfl|(cases c<;>first|rfl|(rename_i a;cases a<;>first|rfl|(rename_i b;cases b<;>rfl)))))
  |(cases c<;>first|rfl|(rename_i a;cases a<;>first|rfl|(rename_i b;cases b<;>rfl))|(simp only[iG,hU];done))
def Y5(a:lu f e=ζ):pX I f (.ptr e i) (.ptr e i)=β (.v (.bool (!I))):=by simp[pX,a]
def Y6:pX I f (.ptr e i) (.v (.pointer ε))=β (.v (.bool I)):=rfl
def Y7:pX I f (.v (.pointer ε)) (.ptr e i)=β (.v (.bool I)):=rfl
def Y8:pX I f (.v (.pointer ε)) (.v (.pointer ε))=β (.v (.bool (!I))):=rfl
end
def Y9:(ζ==ζ)=true:=rfl
def Ya:(ζ==θ)=false:=rfl
def Yb:(θ==ζ)=false:=rfl
def Yc:(θ==θ)=true:=rfl
def Dy:=
 σ @XH<|
 σ @XI<|
 σ @XJ<|
 σ @XT<|
 σ @XU<|
 σ @XV<|
 σ @Y4<|
 @Y0
def Dz:=
 σ @Y9<|
 σ @Ya<|
 σ @Yb<|
 σ @Yc<|
 σ @XK<|
 σ @XL<|
 σ @XM<|
 σ @XN<|
 σ @XO<|
 σ @XP<|
 σ @XQ<|
 σ @XR<|
 σ @Dx<|
 σ @XY<|
 σ @XZ<|
 σ @U.Y1<|
 σ @Y2<|
 σ @Y3<|
 σ @Y5<|
 σ @Y6<|
 σ @Y7<|
 @Y8
noncomputable def jm (b:R->Option R) (c v:R):R->Option R:=λa=>@ite _ (a=c) (Classical.propDecidable _) (β v) (b a)
def tb{a:R->Option R}{v:R}:jm a n v n=β v:=by simp[jm]
def pY{a:R->Option R}{v:R}(b:n≠b6):jm a b6 v n=a n:=by simp[jm,b]
def ya(b:R):∀(a:List (R×R×Nat))(c:Nat),dx a b c=(dx a b 0).map λd=>(d.1+c,d.2)
 |[],_=>rfl
 |h::a,c=>by
  unfold dx;split
  .simp
  .rw[ya b a (c+1),ya b a (0+1)];cases dx a b 0<;>simp[abG,Nat.add_left_comm,abw]
theorem kH(b:R×R×Nat)(d:List (R×R×Nat))(a:R):dx (b::d) a 0=@ite _ (a=b.1) (Classical.propDecidable _) (β (0,b.2.1)) ((dx d a 0).map λh=>(h.1+1,h.2)):=by
 conv=>lhs;unfold dx
 rw[ya a d (0+1)];by_cases c:a=b.1
 .rw[if_pos ((qR _ _).2 c),if_pos c]
 .rw[if_neg (λk=>c ((qR _ _).1 k)),if_neg c]
theorem DA(b v:R)(o:Nat)(a:R):∀c:List (R×R×Nat),dx c b 0=ε->(dx (c++[(b,v,o)]) a 0).map (·.2)=jm (λa=>(dx c a 0).map (·.2)) b v a
 |[],_=>by
  grind[kH,jm,dx]
 |p::c,h=>by
  rw[kH]at h;split at h
  .cases h
  .next r=>
   have x:dx c b 0=none:=by simp_all
   have ih:=DA b v o a c x;rw[a9v,kH];by_cases d:a=p.1
   .have k:a≠b:=λy=>r (by rw[<-y];exact d);rw[if_pos d,pY k];rw[kH,if_pos d]
   .rw[if_neg d];by_cases k:a=b;simp_all [tb]
    .rw[pY k]at ih|-;rw[kH,if_neg d,abr,abr];exact ih
theorem DB(c v k:R)(b:R):∀(d:List (R×R×Nat))(o:Nat),dx d c 0=β (o,v)->(dx (d.modify o λh=>(h.1,k,h.2.2)) b 0).map (·.2)=jm (λb=>(dx d b 0).map (·.2)) c k b
 |[],_,a=>by trivial
 |h::d,o,a=>by
  rw[kH]at a;split at a
  .next p=>
   simp only[a8t,a9u]at a;obtain⟨rfl,_⟩:=a;rw[abZ,kH];by_cases a:b=c
   .subst a;rw[tb];simp[p]
   simp_all [pY,kH]
  .next p=>
   cases r:dx d c 0 with
   |none=>rw[r]at a;cases a
   |some y=>
    rw[r]at a;simp only[a9q,a8t,a9u]at a;obtain⟨rfl,rfl⟩:=a;have ih:=DB c y.2 k b d y.1 r;rw[ac0,kH];by_cases a:b=h.1
    .have x:b≠c:=λz=>p (by rw[<-z];exact a);rw[if_pos a,pY x];rw[kH,if_pos a]
    .rw[if_neg a];by_cases x:b=c;simp_all [tb]
     .rw[pY x]at ih|-;rw[kH,if_neg a,abr,abr];exact ih
structure kI(rs:List (Nat×c6))(us:List (R×R×Nat))(a:Nat)(b:R->Option R):Prop where
 val:∀k,(dx us k 0).map (·.2)=b k
 keys:pF rs us
 born:(us.map (·.2.2)).Nodup
 lt:∀c∈us,c.2.2<a
 uU:(us.map (·.1)).Nodup
def kI.new:kI j4 [] 0 λ_=>none:=⟨λ_=>rfl,λb a=>by simp at a,acr,λb a=>by simp at a,acr⟩
theorem Yd(a:List (R×R×Nat))(c:Nat)(v:R):(a.modify c λb=>(b.1,v,b.2.2)).map (·.2.2)=a.map (·.2.2):=by
 induction a generalizing c with
 |nil=>simp
 |cons b a ih=>grind
theorem Ye(a:List (R×R×Nat))(c:Nat)(v:R):(a.modify c λb=>(b.1,v,b.2.2)).map (·.1)=a.map (·.1):=by
 induction a generalizing c with
 |nil=>simp
 |cons b a ih=>grind
theorem DC{h:R}:∀ {a:List (R×R×Nat)},dx a h 0=ε->∀b∈a,b.1≠h
 |[],_,_,k=>(a9n k).elim
 |r::a,c,b,d=>by
  rw[kH]at c;split at c
  .cases c
  .next o=>
   rcases a8E.1 d with rfl|d
   .exact λp=>o p.symm
   .exact DC (by simp_all) b d
theorem mem_modify{b:List (R×R×Nat)}{v:R}{a:R×R×Nat}(d:a∈b.modify e λa=>(a.1,v,a.2.2)):∃c∈b,a.1=c.1/\a.2.2=c.2.2:=by
 induction b generalizing e with
 |nil=>simp at d
 |cons c b ih=>grind
theorem kI.set{b:List (R×R×Nat)}{p:R->Option R}(a:kI j4 b i p){v:R}(r:dx b n 0=β (e,v)):kI j4 (b.modify e λc=>(c.1,b6,c.2.2)) i (jm p n b6) where
 val:=λx=>by
  rw[DB n v b6 x b e r];simp only[jm];rw[a.val]
 keys:=λc d=>by
  obtain⟨h,k,o,_⟩:=mem_modify d;rw[o];exact a.keys h k
 born:=by rw[Yd];exact a.born
 lt:=λc d=>by
  obtain⟨h,k,_,o⟩:=mem_modify d;rw[o];exact a.lt h k
 uU:=by rw[Ye];exact a.uU
theorem kI.push{h:List (R×R×Nat)}{o:R->Option R}(c:kI j4 h e o){v:R}(z:di j4 g)(p:dx h (.agg g) 0=ε):kI j4 (h++[(.agg g,v,e)]) (e+1) (jm o (.agg g) v) where
 val:=λr=>by
  rw[DA _ v e r h p];simp only[jm];rw[c.val]
 keys:=λb a=>by
  rcases a8u.1 a with a|a
  .exact c.keys b a
  simp_all
 born:=by rw[a9i,abA];refine⟨c.born,acr,?_⟩;intro x k y d;obtain⟨b,a,rfl⟩:=a8D.1 k;simp at d;subst d;exact Nat.ne_of_lt (c.lt b a)
 lt:=λb a=>by
  rcases a8u.1 a with a|a
  .exact Nat.lt_succ_of_lt (c.lt b a)
  simp_all
 uU:=by rw[a9i,abA];refine⟨c.uU,acr,?_⟩;intro x k y d;obtain⟨b,a,rfl⟩:=a8D.1 k;simp at d;subst d;exact DC p b a
noncomputable def a7N (b:R->Option R) (c:R):R->Option R:=λa=>@ite _ (a=c) (Classical.propDecidable _) ε (b a)
def nD(c:U)(d:Nat)(h:List (Nat×c6))(k:R->Option R):Prop:=∃a b,c d=β (.mp a b)/\kI h a b k
def a7O(h:U)(k:Nat)(o:List (Nat×c6))(p:R->Option R)(r:R)(x:Nat):Prop:=
 ∃a b,h k=β (.mp a b)/\∀v,∃c,IU a (x:Int)=β c/\kI o (a.modify c λd=>(d.1,v,d.2.2)) b (jm p r v)
section
def Yf:G K .kA j f q=ji f (bV (λa=>q (.ey a) (f.set a (.mp [] 0))) ()):=rfl
def uV(a:Bool)(b:List (Nat×c6))(c:R)(h:U)(k o:R)(d:R->Prop):Prop:=
 match k,o with
 |.ey p,.agg cs=>match h p with
  |some (.mp us _)=>di b cs/\pF b us/\(match dx us (.agg cs) 0 with
   |some (_,v)=>d (if a then .aJ [v,.v (.bool ζ)]else v)
   |none=>d (if a then .aJ [c,.v (.bool θ)]else c))
  |_=>False
 |_,_=>False
def Yg:G K (.kB I j4 n N e4) j f q=uV I j4 n f (ak j N) (ak j e4) (bV (λa=>q a f) ()):=by simp only[G,uV];generalize ak j N=b;generalize ak j e4=c;rfl
def uW{c:R->Option R}{a:R->Prop}{k:cC a}(o:nD f e j4 c)(p:di j4 g)
  (r:∀v,c (.agg g)=β v->a (if I then .aJ [v,.v (.bool ζ)]else v)) (x:c (.agg g)=ε->a (if I then .aJ [n,.v (.bool θ)]else n)):uV I j4 n f (.ey e) (.agg g) (bV a k):=by
 obtain⟨y,C,z,d⟩:=o;simp only[uV,z];refine⟨p,d.keys,?_⟩;have b:=d.val (.agg g);cases h:dx y (.agg g) 0 with
 |none=>rw[h]at b;exact x b.symm
 |some D=>rw[h]at b;exact r _ b.symm
def uX(a:List (Nat×c6))(b:U)(d h v:R)(k:U->Prop):Prop:=
 match d,h with
 |.ey c,.agg cs=>match b c with
  |some (.mp us clock)=>di a cs/\pF a us/\k (b.set c (.mp (lo us (.agg cs) v clock).1 (lo us (.agg cs) v clock).2))
  |_=>False
 |_,_=>False
def Yh{v:Operand}:G K (.lr j4 N e4 v) j f q=uX j4 f (ak j N) (ak j e4) (ak j v) (bV (λa=>q (.aJ []) a) ()):=by simp only[G,uX];generalize ak j N=b;generalize ak j e4=c;rfl
def DD{v:R}{c:R->Option R}{a:U->Prop}{o:cC a}(p:nD f e j4 c)(d:di j4 g)
  (r:∀h,nD (f.set e h) e j4 (jm c (.agg g) v)->a (f.set e h)):uX j4 f (.ey e) (.agg g) v (bV a o):=by
 obtain⟨x,z,y,b⟩:=p;simp only[uX,y];refine⟨d,b.keys,r _ ⟨_,_,μ _ _ _,?_⟩⟩;unfold lo;cases k:dx x (.agg g) 0 with
 |none=>exact b.push d k
 |some C=>exact b.set k
def Yi(d:R)(a:U)(h:R->U->Prop):Prop:=
 match d with
 |.ey c=>match a c with
  |some (.mp _ clock)=>∀b,a b=ε->h (.ptr b 0) (a.set b (.jQ (β c) clock [] clock))
  |_=>False
 |_=>False
def Yj:G K (.oC N) j f q=Yi (ak j N) f (bR q ()):=rfl
def Yk(k:R)(b:U)(c:R->U->Prop):Prop:=
 match k with
 |.ptr d off=>off=0/\match b d with
  |some (.jQ (β h) since seen last)=>match b h with
   |some (.mp us clock)=>(seen=[]\/us=[]\/∃a∈us,a.2.2<last)/\
     ((∀a∈us,a.2.2∉seen->¬a.2.2<since)->c (.aJ [.v (.bool θ)]) b)/\
     ∀a∈us,a.2.2∉seen->c (.aJ [.v (.bool ζ),a.1,a.2.1]) (b.set d (.jQ (β h) since (seen++[a.2.2]) clock))
   |_=>False
  |_=>False
 |_=>False
def Yl:G K (.oD N) j f q=Yk (ak j N) f (bR q ()):=rfl
def Ym(c:R)(b:U)(d:R->U->Prop):Prop:=
 match c with
 |.ptr h off=>off=0/\match b h with
  |some (.jQ (β k) _ seen last)=>match b k,seen.getLast? with
   |some (.mp us clock),β o=>clock=last/\match us.find? (λa=>a.2.2==o)with
    |some a=>d (.aJ [a.1,a.2.1]) b
    |none=>False
   |_,_=>False
  |_=>False
 |_=>False
def Yn:G K (.oE N) j f q=Ym (ak j N) f (bR q ()):=rfl
def DE(a:List (Nat×c6))(b:U)(d h:R)(k:U->Prop):Prop:=
 match d,h with
 |.ey c,.agg cs=>match b c with
  |some (.mp us clock)=>di a cs/\pF a us/\k (b.set c (.mp (x5 us (.agg cs)) clock))
  |_=>False
 |_,_=>False
def Yo:G K (.oF j4 N e4) j f q=DE j4 f (ak j N) (ak j e4) (bV (λa=>q (.aJ []) a) ()):=by simp only[G,DE];generalize ak j N=b;generalize ak j e4=c;rfl
end
theorem DF{a b:Υ}:jk .neq (bc a) (bc b)=β (.v (.bool (!decide (a=b)))):=by grind[bc,sP,Dp]
def rl{a b:Υ}:jk .eql (bc a) (bc b)=β (.v (.bool (decide (a=b)))):=by simp only[bc,sP,Dn a b];rfl
def Yp:y5 f (.J (w.map ah) M)=β (bc w):=XE y4
def nE{a:Υ}{b:Own}:nB (.J (a.map ah) b)=β (bc a):=Dq
def kJ(k:(∀a,R.J a .nil∈g->a=[])->AC m b5 g f q):AC m b5 g f q:=λb o p c r=>by
 refine k (λa x=>?_) b o p c r;obtain⟨d,y,z⟩:=a8S x;have h:=c.2 d _ (by rw[Μ y,z]);generalize b.getD d undef=v at h;cases h with
 |dn=>rfl
 |J C off len cap D E a F hk hlen G L P hH S T=>trivial
def Yq:=
 σ @Yf<|
 σ @Yg<|
 σ @Yj<|
 σ @Yl<|
 σ @Yn<|
 σ @Yo<|
 @Yh
def Yr:=
 σ @DF<|
 σ @rl<|
 σ @Yp<|
 @nE
def rm:=σ sW (σ sZ (σ Dy Yq))
def Ys:=σ sX<|σ fl<|σ ta<|σ Dz Yr
attribute [go_sem ↓] rm
attribute [go_sem] Ys a9A ne_eq not_true_eq_false not_false_eq_true a9V aa8 ak ofConst cV
def al(a:Q)(b:h7)(c:Q->b7=h7:=by intro d;simp -dsimp -implicitDefEqProofs (disch:=first|omega|assumption|(simp only[aX,Nat.reduceAdd];try omega)) only[go_sem,simprocAttr,-List.reduceReplicate,d];rfl):b7:=(c a).mpr b
def bX(a:b7)(b:Q=b7:=by simp -dsimp -implicitDefEqProofs (disch:=first|omega|assumption|(simp only[aX,Nat.reduceAdd];try omega)) only[go_sem,simprocAttr,-List.reduceReplicate];rfl):Q:=b.mpr a
def aF(a:Q)(b:h7)(c:Q->b7=h7:=by intro d;simp -dsimp -implicitDefEqProofs (disch:=first|omega|assumption|(simp only[aX,Nat.reduceAdd];try omega)) only[go_sem,simprocAttr,d];rfl):b7:=(c a).mpr b
def eH(a:b7)(b:Q=b7:=by simp -dsimp -implicitDefEqProofs (disch:=first|omega|assumption|(simp only[aX,Nat.reduceAdd];try omega)) only[go_sem,simprocAttr];rfl):Q:=b.mpr a
def ch(a:Q)(b:Q->b7=True:=by intro c;simp -dsimp -implicitDefEqProofs (disch:=first|omega|assumption|(simp only[aX,Nat.reduceAdd];try omega)) only[go_sem,simprocAttr,-List.reduceReplicate,c]):b7:=of_eq_true (b a)
def nF(a:Q=True:=by simp -dsimp -implicitDefEqProofs (disch:=first|omega|assumption|(simp only[aX,Nat.reduceAdd];try omega)) only[go_sem,simprocAttr,-List.reduceReplicate]):Q:=of_eq_true a
def gH(a:Q)(b:Q->b7=True:=by intro c;simp -dsimp -implicitDefEqProofs (disch:=first|omega|assumption|(simp only[aX,Nat.reduceAdd];try omega)) only[go_sem,simprocAttr,c]):b7:=of_eq_true (b a)
def rn(a:Q=True:=by simp -dsimp -implicitDefEqProofs (disch:=first|omega|assumption|(simp only[aX,Nat.reduceAdd];try omega)) only[go_sem,simprocAttr]):Q:=of_eq_true a
def c2(a:Q)(b:b7):Q/\b7:=⟨a,b⟩
def aD(a:Q)(b:b7)(c:h7):Q/\b7/\h7:=⟨a,b,c⟩
def aP(a:Q)(b:b7)(c:h7)(d:j7):Q/\b7/\h7/\j7:=⟨a,b,c,d⟩
def bl(a:Q)(b:b7)(c:h7)(d:j7)(h:k1):Q/\b7/\h7/\j7/\k1:=⟨a,b,c,d,h⟩
def bx{a:Prop}(b:Q)(c:b7)(d:h7)(h:j7)(k:k1)(o:a):Q/\b7/\h7/\j7/\k1/\a:=⟨b,c,d,h,k,o⟩
def cb{a b:Prop}(c:Q)(d:b7)(h:h7)(k:j7)(o:k1)(p:a)(r:b):Q/\b7/\h7/\j7/\k1/\a/\b:=⟨c,d,h,k,o,p,r⟩
def bz{a b c:Prop}(d:Q)(h:b7)(k:h7)(o:j7)(p:k1)(r:a)(x:b)(y:c):Q/\b7/\h7/\j7/\k1/\a/\b/\c:=⟨d,h,k,o,p,r,x,y⟩
def de{a b c d:Prop}(h:Q)(k:b7)(o:h7)(p:j7)(r:k1)(x:a)(y:b)(z:c)(C:d):Q/\b7/\h7/\j7/\k1/\a/\b/\c/\d:=⟨h,k,o,p,r,x,y,z,C⟩
def cj{a b c d h:Prop}(k:Q)(o:b7)(p:h7)(r:j7)(x:k1)(y:a)(z:b)(C:c)(D:d)(E:h):Q/\b7/\h7/\j7/\k1/\a/\b/\c/\d/\h:=⟨k,o,p,r,x,y,z,C,D,E⟩
def gk{a b c d h k:Prop}(o:Q)(p:b7)(r:h7)(x:j7)(y:k1)(z:a)(C:b)(D:c)(E:d)(F:h)(G:k):Q/\b7/\h7/\j7/\k1/\a/\b/\c/\d/\h/\k:=⟨o,p,r,x,y,z,C,D,E,F,G⟩
def gV{a b c d h k o:Prop}(p:Q)(r:b7)(x:h7)(y:j7)(z:k1)(C:a)(D:b)(E:c)(F:d)(G:h)(L:k)(P:o):Q/\b7/\h7/\j7/\k1/\a/\b/\c/\d/\h/\k/\o:=⟨p,r,x,y,z,C,D,E,F,G,L,P⟩
def lE{a b c d h k o p:Prop}(r:Q)(x:b7)(y:h7)(z:j7)(C:k1)(D:a)(E:b)(F:c)(G:d)(L:h)(P:k)(S:o)(T:p):Q/\b7/\h7/\j7/\k1/\a/\b/\c/\d/\h/\k/\o/\p:=⟨r,x,y,z,C,D,E,F,G,L,P,S,T⟩
def gl{a b c d h k o p r:Prop}(x:Q)(y:b7)(z:h7)(C:j7)(D:k1)(E:a)(F:b)(G:c)(L:d)(P:h)(S:k)(T:o)(V:p)(W:r):Q/\b7/\h7/\j7/\k1/\a/\b/\c/\d/\h/\k/\o/\p/\r:=⟨x,y,z,C,D,E,F,G,L,P,S,T,V,W⟩
def pZ{a b c d h k o p r x:Prop}(y:Q)(z:b7)(C:h7)(D:j7)(E:k1)(F:a)(G:b)(L:c)(P:d)(S:h)(T:k)(V:o)(W:p)(e:r)(f:x):Q/\b7/\h7/\j7/\k1/\a/\b/\c/\d/\h/\k/\o/\p/\r/\x:=⟨y,z,C,D,E,F,G,L,P,S,T,V,W,e,f⟩
def oR{a b c d h k o p r x y:Prop}(z:Q)(C:b7)(D:h7)(E:j7)(F:k1)(G:a)(L:b)(P:c)(S:d)(T:h)(V:k)(W:o)(e:p)(f:r)(g:x)(i:y):Q/\b7/\h7/\j7/\k1/\a/\b/\c/\d/\h/\k/\o/\p/\r/\x/\y:=⟨z,C,D,E,F,G,L,P,S,T,V,W,e,f,g,i⟩
def oS{a b c d h k o p r x y z:Prop}(C:Q)(D:b7)(E:h7)(F:j7)(G:k1)(L:a)(P:b)(S:c)(T:d)(V:h)(W:k)(e:o)(f:p)(g:r)(i:x)(j:y)(l:z):Q/\b7/\h7/\j7/\k1/\a/\b/\c/\d/\h/\k/\o/\p/\r/\x/\y/\z:=⟨C,D,E,F,G,L,P,S,T,V,W,e,f,g,i,j,l⟩
def DG{a b c d h k o p r x y z C:Prop}(D:Q)(E:b7)(F:h7)(G:j7)(L:k1)(P:a)(S:b)(T:c)(V:d)(W:h)(e:k)(f:o)(g:p)(i:r)(j:x)(l:y)(m:z)(n:C):Q/\b7/\h7/\j7/\k1/\a/\b/\c/\d/\h/\k/\o/\p/\r/\x/\y/\z/\C:=⟨D,E,F,G,L,P,S,T,V,W,e,f,g,i,j,l,m,n⟩
def oT{a b c d h k o p r x y z C D E:Prop}(F:Q)(G:b7)(L:h7)(P:j7)(S:k1)(T:a)(V:b)(W:c)(e:d)(f:h)(g:k)(i:o)(j:p)(l:r)(m:x)(n:y)(q:z)(s:C)(t:D)(u:E):Q/\b7/\h7/\j7/\k1/\a/\b/\c/\d/\h/\k/\o/\p/\r/\x/\y/\z/\C/\D/\E:=⟨F,G,L,P,S,T,V,W,e,f,g,i,j,l,m,n,q,s,t,u⟩
section
def Yt:G K (.np N) j f q=dq (sr (ak j N)) (bV (λa=>q a f) ()):=by simp only[G];rfl
def Yu:sr (.aq i v e O)=β (.v (.int .i64 e)):=rfl
def Yv:sr (.J [] .nil)=β (.v (.int .i64 0)):=rfl
def ck(d:Nat)(x:R)(h k o:Option R):Option R:=
 match x with
 |.aq p len cap r=>match cJ h 0,cJ k len,cJ o cap with
  |some a,β c,β b=>if r=d/\0<=a/\a<=c/\c<=b/\b<=cap then
    β (if h.isSome=ζ then(if a<b then .bE p (a.toNat*d) (c.toNat - a.toNat) (b.toNat - a.toNat) d else .J [] .zero)else .aq p c.toNat b.toNat d)
   else ε
  |_,_,_=>ε
 |.bE p off len cap r=>match cJ h 0,cJ k len,cJ o cap with
  |some a,β c,β b=>if r=d/\0<=a/\a<=c/\c<=b/\b<=cap then
    β (if a<b then .bE p (off+a.toNat*d) (c.toNat - a.toNat) (b.toNat - a.toNat) d else .J [] .zero)
   else ε
  |_,_,_=>ε
 |.J [] .nil=>match cJ h 0,cJ k 0,cJ o 0 with
  |some a,β c,β b=>if a=0/\c=0/\b=0 then β (.J [] .nil)else ε
  |_,_,_=>ε
 |.J [] .zero=>match cJ h 0,cJ k 0,cJ o 0 with
  |some a,β c,β b=>if a=0/\c=0/\b=0 then β (.J [] .zero)else ε
  |_,_,_=>ε
 |_=>ε
def Yw{a b c:Option Operand}:ss j e n a b c=ck e n (a.map (ak j)) (b.map (ak j)) (c.map (ak j)):=by simp only[ss,ck,xW,Option.isSome_map];rfl
def Yx{a b c:Option Operand}:G K (.ml e N a b c) j f q=dq (ck e (ak j N) (a.map (ak j)) (b.map (ak j)) (c.map (ak j))) (bV (λd=>q d f) ()):=by simp only[G,Yw];rfl
theorem hZ(a:v<=i):ck e (.aq O e0 i e) ε (β (.v (.int e2 (v:Int)))) ε=β (.aq O v i e):=by grind[ck,cJ,intOf]
theorem gm(a:e<=v)(b:v<=O)(c:e<O):ck i (.aq e0 v O i) (β (.v (.int e2 (e:Int)))) ε ε=β (.bE e0 (e*i) (v - e) (O - e) i):=by grind[ck,cJ,intOf]
def uY(a:e=v):ck i (.aq O e v i) (β (.v (.int e2 (e:Int)))) ε ε=β (.J [] .zero):=by subst a;simp[ck,cJ,intOf]
theorem DH{a:IntKind}(b:e<=O)(c:O<=v)(d:e<v):ck i (.aq e0 j6 v i) (β (.v (.int e2 (e:Int)))) (β (.v (.int a (O:Int)))) ε=β (.bE e0 (e*i) (O - e) (v - e) i):=by grind[ck,cJ,intOf]
def Yy:ck e (.J [] .zero) (β (.v (.int e2 0))) ε ε=β (.J [] .zero):=by rfl
def Yz:ck e (.J [] .nil) (β (.v (.int e2 0))) ε ε=β (.J [] .nil):=by rfl
def yb:ck e (.J [] .nil) ε (β (.v (.int e2 0))) ε=β (.J [] .nil):=by rfl
def DI(a:Option U)(b:U->Prop):Prop:=
 match a with
 |some c=>b c
 |none=>False
def YA{a:U->Prop}{b:cC a}:DI (β f) (bV a b)=a f:=rfl
def DJ(a:Option (R×U))(b:R->U->Prop):Prop:=
 match a with
 |some (c,d)=>b c d
 |none=>False
def YB{a:cC q}:DJ (β (n,f)) (bR q a)=q n f:=rfl
def YC:G K (.nq e g N) j f q=DI (lv e g (ak j N) f) (bV (λa=>q (.aJ []) a) ()):=by simp only[G];rfl
def YD:G K (.nr e N e4) j f q=DJ (mm e (ak j N) (ak j e4) f) (bR q ()):=by simp only[G];rfl
def YE:G K (.nt N e4) j f q=dq (lx (ak j N) (ak j e4) f) (bV (λa=>q a f) ()):=by simp only[G];rfl
def YF{a:Operand}:G K (.qY N e4 a) j f q=dq (x8 (ak j N) (ak j e4) (ak j a)) (bV (λb=>q b f) ()):=by simp only[G];rfl
def yc(a:f i=β (.cells g))(b:v+O*e<=α g):lv e B (.bE i v O e0 e) f=β (f.set i (.cells (putAt g v (δ O B).flatten))):=by simp[lv,a,b]
def YG:lv e g (.J [] M) f=β f:=rfl
def ht(a:bT f e n=β (e0,B))(b:f v=β (.cells g))(c:O+i*e<=α g):mm e (.bE v O i j6 e) n f=β (.v (.int .i64 (min e0 i:Nat)),f.set v (.cells (putAt g O (B.take (i*e))))):=by simp[mm,a,b,c]
def yd(a:cN n=β e)(b:cN b6=β i)(c:e≠i)(d:kD f e=ζ)(h:kD f i=ζ):lx n b6 f=β (.v (.bool θ)):=by simp[lx,a,b,c,d,h]
def rp(a:f e=β (.cells g))(b:g≠[]):kD f e=true:=by
 cases g with
 |nil=>trivial
 |cons c g=>simp[kD,a]
def tc(c p:Nat)(r:Ψ)(k:U)(y z:R)(x:R->U->Prop):Prop:=
 match y,z with
  |.aq C d cap D,.v (.int .i64 a)=>match k.read C with
   |some cs=>D=c/\α cs=cap*c/\0<=a/\cap<d+a.toNat/\(d+a.toNat)*p<=140737488355328/\d+a.toNat<=9223372036854775807/\
    ∀h b o,k h=ε->d+a.toNat<=b->b<=maxLen->α o=(b -(d+a.toNat))*c->x (.aq h (d+a.toNat) b c) (k.set h (.cells (cs.take (d*c)++(δ a.toNat r).flatten++o)))
   |none=>False
  |.J xs E,.v (.int .i64 a)=>xs=[]/\E=.nil/\0<a/\a.toNat*p<=140737488355328/\a<=9223372036854775807/\
    ∀h b o,k h=ε->a.toNat<=b->b<=maxLen->α o=(b - a.toNat)*c->x (.aq h a.toNat b c) (k.set h (.cells ((δ a.toNat r).flatten++o)))
  |_,_=>False
def YH:G K (.ns e i g N e4) j f q=tc e i g f (ak j N) (ak j e4) (bR q ()):=rfl
def ye{d:cC q}(h:f j6=β (.cells g))(k:α g=O*v)(o:O<e+i)(p:(e+i)*e0<=140737488355328)(r:e+i<=9223372036854775807)
  (x:∀b a c,f b=ε->e+i<=a->a<=maxLen->α c=(a -(e+i))*v->q (.aq b (e+i) a v) (f.set b (.cells (g.take (e*v)++(δ i B).flatten++c)))):tc v e0 B f (.aq j6 e O v) (.v (.int .i64 (i:Int))) (bR q d):=by
 simp only[tc,U.ad h,a8N];exact⟨trivial,k,acq,o,p,r,x⟩
def DK{d:cC q}(o:0<e)(h:e*v<=140737488355328)(p:e<=9223372036854775807)
  (k:∀b a c,f b=ε->e<=a->a<=maxLen->α c=(a - e)*i->q (.aq b e a i) (f.set b (.cells ((δ e g).flatten++c)))):tc i v g f (.J [] .nil) (.v (.int .i64 (e:Int))) (bR q d):=by
 simp only[tc,a8N];exact⟨trivial,trivial,acq,h,acq,k⟩
def View(c:U)(h:R)(k:U)(o:R):Prop:=∀(a:bk)(b:World)(v:Value),Holds a c b->bb a v h->∃d,Step a c b d k b/\bb d v o
def AC.view(k:AC m b5 g f q)(o:∀a b,q a b->∃c d,View b a d c/\Y c d):AC m b5 g f Y:=
 λp r x y z=>(k p r x y z).mono λ_ _ C=>by
  obtain⟨v,a,D,b,E,h,F,G⟩:=C;obtain⟨c,d,L,P⟩:=o a b G;obtain⟨S,T,V⟩:=L D _ v h.holds F;exact⟨v,c,S,d,E,h.trans T,V,P⟩
def View.refl{a:U}{b:R}:View a b a b:=λc k v d h=>⟨c,.refl d,h⟩
theorem View.J{s:U}{a:Ψ}{o:Own}:View s (.J a o) s (.J a .any):=λb E v c d=>by
 refine⟨b,.refl c,?_⟩;cases d with
 |dn h cap dy c3 k=>exact .dn h cap .any c3 trivial
 |J p off len cap r x a dy hk hlen y z C hH D k=>exact .J p off len cap r x a .any hk hlen y z C hH D trivial
theorem View.aq{b:U}{c n cap k:Nat}{a:Ψ}(h:b c=β (.cells a))(o:n*k<=α a):View b (.aq c n cap k) (b.set c (.ro a)) (.J (eo k n a) .any):=λy z v p r=>by
 obtain⟨x,d⟩:=Step.freeze p h;exact⟨x,d,bb.frozen d.holds (μ _ _ _) o (r.mono d.le)⟩
theorem jX:eo 1 e g=g.take e:=by rfl
theorem YI(c:i<=v):eo e i (g.take (v*e))=eo e i g:=by
 unfold eo;by_cases hk:e=1;grind
 .simp only[hk,if_false];refine a9R λa b=>?_;have b:a<i:=by simpa using b
  have d:a*e+e<=v*e:=by have:(a+1)*e<=v*e:=a8x _ acq;grind
  rw[a9F,a9B,a9T acq]
theorem View.dA(o:av s f e g n):∃a d,α g=a*e/\s.sub d/\View f n d (.J (eo e a g) .any):=by
 obtain⟨b,p⟩:=o;rcases p with⟨rfl,rfl|rfl⟩|⟨h,a,F,r,rfl,x,y,G,z,C,L,P⟩
 .refine⟨0,f,acr,b,?_⟩;grind[eo,View.J]
 .refine⟨0,f,acr,b,?_⟩;grind[eo,View.J]
 .refine⟨a,f.set h (.ro r),C,λk D c=>?_,?_⟩
  .have E:k≠h:=by rintro rfl;rw[x]at c;cases c
   rw[ξ _ _ E];exact b k D c
  .rw[<-z,YI (a8P a)];exact View.aq y (by grind)
theorem View.trans{a b c:U}{d h k:R}(r:View a d b h)(x:View b h c k):View a d c k:=λy o v z C=>by
 obtain⟨D,p,E⟩:=r y o v z C;obtain⟨F,G,L⟩:=x D o v p.holds E;exact⟨F,p.trans G,L⟩
theorem View.aJ{c d:U}{b h:R}{a k:Ψ}(x:View c b d h):View c (.aJ (a++b::k)) d (.aJ (a++h::k)):=λy z v C D=>by
 cases D with
 |aJ E cs F o=>
  have G:=o (α a) b acr;obtain⟨L,p,S⟩:=x y z _ C G;refine⟨L,p,.aJ E _ (by simpa using F) λr P T=>?_⟩;by_cases V:r=α a;simp_all
  .refine(o r P ?_).mono p.le;grind
theorem View.agg{d h:U}{b c:R}{a k:Ψ}(S:c.one=ζ)(x:View d b h c):View d (.agg (a++b::k)) h (.agg (a++c::k)):=λy z v C D=>by
 cases D with
 |agg E cs T F o=>
  have G:=o (α a) b acr;obtain⟨L,p,V⟩:=x y z _ C G;refine⟨L,p,.agg E _ (λW e=>?_) (by simpa using F) λr P f=>?_⟩;grind;by_cases g:r=α a;simp_all
  .refine(o r P ?_).mono p.le;grind
end
def eQ:=
 σ @Yt<|
 σ @Yx<|
 σ @YC<|
 σ @YD<|
 σ @YE<|
 σ @YF<|
 σ @YH<|
 σ @YA<|
 σ @YB<|
 σ @Yu<|
 σ @Yv<|
 @yb
def dM(a:Q)(b:h7)(c:Q->b7=h7:=by intro d;simp -dsimp -implicitDefEqProofs (disch:=first|omega|assumption|(simp only[aX,Nat.reduceAdd];try omega)) only[go_sem,simprocAttr,-List.reduceReplicate,↓eQ,d];rfl):b7:=(c a).mpr b
def DL(a:b7)(b:Q=b7:=by simp -dsimp -implicitDefEqProofs (disch:=first|omega|assumption|(simp only[aX,Nat.reduceAdd];try omega)) only[go_sem,simprocAttr,-List.reduceReplicate,↓eQ];rfl):Q:=b.mpr a
end Go.bD
