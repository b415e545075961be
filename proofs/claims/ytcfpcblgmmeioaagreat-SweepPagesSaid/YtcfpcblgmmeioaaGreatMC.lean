import Derived.Test.YtcfpcblgmmeioaaGreatProg
import Derived.Test.YtcfpcblgmmeioaaGreatMB
import Derived.KernelRfl
set_option linter.all false
set_option maxRecDepth 100000
namespace Go.Proofs.YtcfpcblgmmeioaaGreat
open Go Go.bD
theorem hm:Tryz.prog.follows .mixedOrders=true:=aaZ
abbrev iC:=List R
def JS:Nat->Operand
 |0=>(.const (.int .i64 0))
 |1=>(.const (.bool false))
 |2=>(.const (.int .i64 1))
 |3=>(.const (.slice none 0 0))
 |4=>(.const (.bool true))
 |5=>(.const (.int .i64 8))
 |6=>(.const (.pointer none))
 | _=>(.const (.int .i64 4))
def JT:Nat->Operand
 |0=>(.const (.int .i64 2))
 |1=>(.const (.int .u8 2))
 |2=>(.const (.int .i64 (-1)))
 |3=>(.const (.int .i64 64))
 |4=>(.const (.int .u8 1))
 |5=>(.const (.int .u8 3))
 |6=>(.const (.int .i64 3))
 | _=>(.const (.int .i64 21))
def JU:Nat->Operand
 |0=>(.const (.int .i64 1048576))
 |1=>(.const (.int .u8 0))
 |2=>(.const (.int .i64 16))
 |3=>(.const (.int .u64 0))
 |4=>(.const (.int .i64 9))
 |5=>(.const (.int .i64 7))
 |6=>(.const (.int .u64 8))
 | _=>(.const (.int .u64 32))
def JV:Nat->Operand
 |0=>(.const (.int .i64 10))
 |1=>(.const (.int .u64 9223372036854775808))
 |2=>(.const (.int .i64 6))
 |3=>(.const (.int .i64 56))
 |4=>(.const (.int .u64 16))
 |5=>(.const (.int .u64 256))
 |6=>(.const (.int .i64 256))
 | _=>(.const (.int .i64 5))
def JW:Nat->Operand
 |0=>(.func 47)
 |1=>(.const (.int .u8 4))
 |2=>(.const (.int .i64 32))
 |3=>(.const (.string ⟨#[99,97,110,110,111,116,32,98,101,32,110,101,103,97,116,105,118,101]⟩))
 |4=>(.const (.int .u64 4294967295))
 |5=>(.const (.int .i64 100))
 |6=>(.const (.int .i64 20))
 | _=>(.func 32)
def JX:Nat->Operand
 |0=>(.func 39)
 |1=>(.const (.string ⟨#[105,100]⟩))
 |2=>(.const (.int .u8 80))
 |3=>(.const (.int .u8 128))
 |4=>(.const (.int .u64 24))
 |5=>(.const (.int .u32 1779033703))
 |6=>(.const (.int .u32 3144134277))
 | _=>(.const (.int .u32 1013904242))
def JY:Nat->Operand
 |0=>(.const (.int .u32 2773480762))
 |1=>(.const (.int .u32 1359893119))
 |2=>(.const (.int .u32 2600822924))
 |3=>(.const (.int .u32 528734635))
 |4=>(.const (.int .u32 1541459225))
 |5=>(.const (.int .u64 1))
 |6=>(.const (.int .u32 256))
 | _=>(.const (.int .u32 1116352408))
def JZ:Nat->Operand
 |0=>(.const (.int .u32 1899447441))
 |1=>(.const (.int .u32 3049323471))
 |2=>(.const (.int .u32 3921009573))
 |3=>(.const (.int .u32 961987163))
 |4=>(.const (.int .u32 1508970993))
 |5=>(.const (.int .u32 2453635748))
 |6=>(.const (.int .u32 2870763221))
 | _=>(.const (.int .u32 3624381080))
def K0:Nat->Operand
 |0=>(.const (.int .u32 310598401))
 |1=>(.const (.int .u32 607225278))
 |2=>(.const (.int .u32 1426881987))
 |3=>(.const (.int .u32 1925078388))
 |4=>(.const (.int .u32 2162078206))
 |5=>(.const (.int .u32 2614888103))
 |6=>(.const (.int .u32 3248222580))
 | _=>(.const (.int .u32 3835390401))
def K1:Nat->Operand
 |0=>(.const (.int .u32 4022224774))
 |1=>(.const (.int .u32 264347078))
 |2=>(.const (.int .u32 604807628))
 |3=>(.const (.int .u32 770255983))
 |4=>(.const (.int .u32 1249150122))
 |5=>(.const (.int .u32 1555081692))
 |6=>(.const (.int .u32 1996064986))
 | _=>(.const (.int .u32 2554220882))
def K2:Nat->Operand
 |0=>(.const (.int .u32 2821834349))
 |1=>(.const (.int .u32 2952996808))
 |2=>(.const (.int .u32 3210313671))
 |3=>(.const (.int .u32 3336571891))
 |4=>(.const (.int .u32 3584528711))
 |5=>(.const (.int .u32 113926993))
 |6=>(.const (.int .u32 338241895))
 | _=>(.const (.int .u32 666307205))
def K3:Nat->Operand
 |0=>(.const (.int .u32 773529912))
 |1=>(.const (.int .u32 1294757372))
 |2=>(.const (.int .u32 1396182291))
 |3=>(.const (.int .u32 1695183700))
 |4=>(.const (.int .u32 1986661051))
 |5=>(.const (.int .u32 2177026350))
 |6=>(.const (.int .u32 2456956037))
 | _=>(.const (.int .u32 2730485921))
def K4:Nat->Operand
 |0=>(.const (.int .u32 2820302411))
 |1=>(.const (.int .u32 3259730800))
 |2=>(.const (.int .u32 3345764771))
 |3=>(.const (.int .u32 3516065817))
 |4=>(.const (.int .u32 3600352804))
 |5=>(.const (.int .u32 4094571909))
 |6=>(.const (.int .u32 275423344))
 | _=>(.const (.int .u32 430227734))
def K5:Nat->Operand
 |0=>(.const (.int .u32 506948616))
 |1=>(.const (.int .u32 659060556))
 |2=>(.const (.int .u32 883997877))
 |3=>(.const (.int .u32 958139571))
 |4=>(.const (.int .u32 1322822218))
 |5=>(.const (.int .u32 1537002063))
 |6=>(.const (.int .u32 1747873779))
 | _=>(.const (.int .u32 1955562222))
def K6:Nat->Operand
 |0=>(.const (.int .u32 2024104815))
 |1=>(.const (.int .u32 2227730452))
 |2=>(.const (.int .u32 2361852424))
 |3=>(.const (.int .u32 2428436474))
 |4=>(.const (.int .u32 2756734187))
 |5=>(.const (.int .u32 3204031479))
 |6=>(.const (.int .u32 3329325298))
 | _=>(.const (.int .i64 15))
def K7:Nat->Operand
 |0=>(.const (.int .u32 0))
 |1=>(.const (.int .u64 2))
 |2=>(.const (.string ⟨#[108,101,110,32,111,117,116,32,111,102,32,114,97,110,103,101]⟩))
 |3=>(.const (.int .i64 300))
 |4=>(.const (.int .i64 50))
 |5=>(.const (.int .i64 30))
 |6=>(.func 55)
 | _=>(.func 56)
def K8:Nat->Operand
 |0=>(.func 57)
 |1=>(.func 58)
 |2=>(.func 105)
 |3=>(.func 106)
 |4=>(.func 107)
 |5=>(.func 108)
 |6=>(.const (.int .i64 22))
 | _=>(.const (.int .i64 12))
def K9:Nat->Operand
 |0=>(.const (.int .i32 97))
 |1=>(.const (.int .i32 122))
 |2=>(.const (.int .i32 48))
 |3=>(.const (.int .i32 57))
 |4=>(.const (.int .i32 95))
 |5=>(.const (.int .u8 97))
 |6=>(.const (.int .u8 122))
 | _=>(.const (.int .u8 48))
def Ka:Nat->Operand
 |0=>(.const (.int .u8 57))
 |1=>(.const (.int .u8 95))
 |2=>(.const (.int .i64 17))
 |3=>(.const (.int .i64 255))
 |4=>(.const (.int .u64 4294967296))
 |5=>(.const (.int .u64 65536))
 |6=>(.func 209)
 | _=>(.const (.int .i64 (-9223372036854775808)))
def Kb:Nat->Operand
 |0=>(.const (.int .i64 9223372036854775807))
 |1=>(.func 216)
 |2=>(.const (.int .u64 18446744073709551615))
 |3=>(.const (.int .i64 65536))
 |4=>(.const (.int .i64 (-6)))
 |5=>(.const (.int .i64 (-11)))
 |6=>(.const (.int .i64 (-25)))
 | _=>(.const (.int .i64 (-2)))
def Kc:Nat->Operand
 |0=>(.const (.int .i64 (-13)))
 |1=>(.const (.int .i64 (-22)))
 |2=>(.func 257)
 |3=>(.func 258)
 |4=>(.const (.string ⟨#[]⟩))
 |5=>(.const (.int .u64 9223372036854775807))
 |6=>(.const (.string ⟨#[116,104,101,32,114,101,115,117,108,116,32,111,102,32,40,108,101,110,40,120,41,32,42,32,99,111,117,110,116,41,32,111,118,101,114,102,108,111,119,115]⟩))
 | _=>(.const (.int .i64 1000))
def Kd:Nat->Operand
 |0=>(.const (.int .i64 24))
 |1=>(.const (.int .i64 (-7)))
 |2=>(.const (.int .i64 (-18)))
 |3=>(.const (.int .u64 3))
 |4=>(.const (.int .i64 (-17)))
 |5=>(.const (.int .i64 (-19)))
 |6=>(.const (.int .u64 10))
 | _=>(.const (.int .u64 31))
def Ke:Nat->Operand
 |0=>(.const .nilFunc)
 |1=>(.const (.int .u64 7))
 |2=>(.const (.int .u64 18))
 |3=>(.const (.int .u32 8))
 |4=>(.const (.int .u64 17))
 |5=>(.const (.int .u64 19))
 |6=>(.const (.int .u32 1024))
 | _=>(.const (.int .u32 4294967295))
def Kf:Nat->Operand
 |0=>(.const (.int .u64 6))
 |1=>(.const (.int .u64 11))
 |2=>(.const (.int .u64 25))
 |3=>(.const (.int .u64 13))
 |4=>(.const (.int .u64 22))
 | _=>(.const (.int .i64 63))
def Kg (a:Nat):Operand:=
 match a/8%8 with
 |0=>JS (a%8)
 |1=>JT (a%8)
 |2=>JU (a%8)
 |3=>JV (a%8)
 |4=>JW (a%8)
 |5=>JX (a%8)
 |6=>JY (a%8)
 | _=>JZ (a%8)
def Kh (a:Nat):Operand:=
 match a/8%8 with
 |0=>K0 (a%8)
 |1=>K1 (a%8)
 |2=>K2 (a%8)
 |3=>K3 (a%8)
 |4=>K4 (a%8)
 |5=>K5 (a%8)
 |6=>K6 (a%8)
 | _=>K7 (a%8)
def Ki (a:Nat):Operand:=
 match a/8%8 with
 |0=>K8 (a%8)
 |1=>K9 (a%8)
 |2=>Ka (a%8)
 |3=>Kb (a%8)
 |4=>Kc (a%8)
 |5=>Kd (a%8)
 |6=>Ke (a%8)
 | _=>Kf (a%8)
def BO (a:Nat):Operand:=
 match a/64 with
 |0=>Kg a
 |1=>Kh a
 | _=>Ki a
def Kj:Nat->cc
 |0=>(.eqv false [(32,(.int .u8))] (.tmp 59) (.tmp 61))
 |1=>(.eqv false [(32,(.int .u8))] (.tmp 72) (.tmp 74))
 |2=>(.eqv true [(32,(.int .u8))] (.tmp 20) (.tmp 24))
 |3=>(.pd true 0 32 (.tmp 10))
 |4=>(.pd true 0 32 (.tmp 11))
 |5=> .kn
 |6=>(.ko true [(32,(.int .u8))] (.J [] .nil) (.tmp 12) (.tmp 13))
 | _=>(.ko true [(32,(.int .u8))] (.J [] .nil) (.tmp 14) (.tmp 15))
def Kk:Nat->cc
 |0=>(.lf [(32,(.int .u8))] (.tmp 25) (.tmp 26) (.tmp 28))
 |1=>(.ko true [(32,(.int .u8))] (.J [] .nil) (.tmp 11) (.tmp 12))
 |2=>(.pa true 37 2 (.tmp 29) (.tmp 30))
 |3=>(.pe (.tmp 27))
 |4=>(.pe (.tmp 44))
 |5=>(.eqv false [(32,(.int .u8))] (.tmp 15) (.tmp 16))
 |6=>(.ko false [(32,(.int .u8))] (.v (.bool false)) (.tmp 8) (.tmp 9))
 | _=>(.lf [(32,(.int .u8))] (.tmp 14) (.tmp 15) (.const (.bool true)))
def Kl:Nat->cc
 |0=>(.km (.tmp 6))
 |1=>(.mS (.tmp 7))
 |2=>(.lV (.tmp 13) (.tmp 14))
 |3=>(.eqv true [(2,(.int .u64))] (.tmp 36) (.tmp 37))
 |4=>(.la 42 (.tmp 1))
 |5=>(.kj 1 32 (.tmp 3) none none)
 |6=>(.ki 1 32 (.tmp 59) none none true)
 | _=>(.pa false 1 8 (.tmp 50) (.tmp 51))
def Km:Nat->cc
 |0=>(.lV (.const (.string ⟨#[0,1,2,2,3,3,3,3,4,4,4,4,4,4,4,4,5,5,5,5,5,5,5,5,5,5,5,5,5,5,5,5,6,6,6,6,6,6,6,6,6,6,6,6,6,6,6,6,6,6,6,6,6,6,6,6,6,6,6,6,6,6,6,6,7,7,7,7,7,7,7,7,7,7,7,7,7,7,7,7,7,7,7,7,7,7,7,7,7,7,7,7,7,7,7,7,7,7,7,7,7,7,7,7,7,7,7,7,7,7,7,7,7,7,7,7,7,7,7,7,7,7,7,7,7,7,7,7,8,8,8,8,8,8,8,8,8,8,8,8,8,8,8,8,8,8,8,8,8,8,8,8,8,8,8,8,8,8,8,8,8,8,8,8,8,8,8,8,8,8,8,8,8,8,8,8,8,8,8,8,8,8,8,8,8,8,8,8,8,8,8,8,8,8,8,8,8,8,8,8,8,8,8,8,8,8,8,8,8,8,8,8,8,8,8,8,8,8,8,8,8,8,8,8,8,8,8,8,8,8,8,8,8,8,8,8,8,8,8,8,8,8,8,8,8,8,8,8,8,8,8,8,8,8,8,8]⟩)) (.tmp 21))
 |1=>(.eqv false [(32,(.int .u8))] (.tmp 6) (.tmp 8))
 |2=>(.ki 1 32 (.tmp 3) none none false)
 |3=>(.mP 1 (.tmp 11) (.tmp 12))
 | _=>(.eqv false [(2,(.int .u64))] (.tmp 6) (.tmp 7))
def Kn (a:Nat):cc:=
 match a/8 with
 |0=>Kj (a%8)
 |1=>Kk (a%8)
 |2=>Kl (a%8)
 | _=>Km (a%8)
def Ko (a:Nat):Nat:=if 96<a then a - 97 else if 64<a then a - 39 else if 47<a then a+4 else a+26
def Kp (a:List iC) (b:Nat):iC:=a.getD b []
variable{b0:Type}
section
def cS (k:List Nat) (b:Nat->List Nat->b0):b0:=
 match k with
 |c::a=>if c<69 then b c a else if c=69 then(match a with|d::h::a=>b (d*71+h) a| _=>b 0 [])else(match a with|d::h::o::a=>b ((d*71+h)*71+o) a| _=>b 0 [])
 | []=>b 0 []
def Kq (a b:Nat) (c:Operand->List Nat->b0) (d:List Nat):b0:=
 match a - b with
 |h=>c (.tmp h) d
def bP (h:Nat) (k:List Nat) (b:Operand->List Nat->b0):b0:=
 match k with
 |c::a=>if c<20 then b (.tmp c) a else if c<36 then Kq h (c - 20) b a else if c<70 then b (BO (c - 36)) a else cS a λd a=>if d<1000 then b (.tmp d) a else b (BO (d - 1000)) a
 | []=>b JR []
def jf (b:List Nat) (a:Nat->List Nat->b0):b0:=
 match b with
 |c::d=>a c d
 | []=>a 0 []
def x6 (a:List Nat) (b:Bool->List Nat->b0):b0:=jf a λc a=>if c=0 then b false a else b true a
def sa (b:List iC) (a:List Nat) (c:iC->List Nat->b0):b0:=jf a λd a=>c (Kp b d) a
def pq {c:Type} (d:List Nat->(c->List Nat->b0)->b0):Nat->List Nat->(List c->List Nat->b0)->b0
 |0,a,b=>b [] a
 |h+1,a,b=>d a λk a=>pq d h a λo a=>b (k::o) a
def qJ (b:Nat) (a:List Nat) (c:List Operand->List Nat->b0):b0:=jf a λd a=>pq (bP b) d a c
def sb (c:Nat) (a:List Nat) (b:Option Operand->List Nat->b0):b0:=jf a λd a=>if d=0 then b none a else bP c a λh a=>b (some h) a
def Kr (b:Nat) (a:List Nat) (c:Nat×Nat×Operand->List Nat->b0):b0:=cS a λd a=>cS a λh a=>bP b a λk a=>c (d,h,k) a
def Ks (b:Nat) (a:List Nat) (c:List (Nat×Nat×Operand)->List Nat->b0):b0:=jf a λd a=>pq (Kr b) d a c
def Kt (a:List Nat) (b:UnOp->List Nat->b0):b0:=jf a λc a=>b (match c with|0=> .neg|1=> .xor|2=> .not| _=> .plus) a
def BP (a:List Nat) (b:IntKind->List Nat->b0):b0:=jf a λc a=>b (match c with|0=> .i8|1=> .i16|2=> .i32|3=> .i64|4=> .u8|5=> .u16|6=> .u32| _=> .u64) a
def Ku (a:List Nat) (b:dd->List Nat->b0):b0:=cS a λc a=>jf a λd a=>pq cS d a λh a=>jf a λk a=>pq cS k a λo a=>b ⟨c,h,o⟩ a
def Kv (a:List Nat) (b:Nat×Option (Bool×Nat)->List Nat->b0):b0:=cS a λc a=>jf a λd a=>if d=0 then b (c,none) a else cS a λh a=>b (c,some (if d=1 then false else true,h)) a
end
def Kw (k:List iC) (c:Nat):Nat->List Nat->cc×List Nat
 |0=>λa=>bP c a λb a=>(.eY b,a)
 |1=>λa=>bP c a λb a=>(.load false 1 b,a)
 |2=>λa=>cS a λb a=>bP c a λd a=>(.lb b d,a)
 |3=>λa=>cS a λb a=>qJ c a λd a=>(.fW b d,a)
 |4=>λa=>cS a λb a=>bP c a λd a=>(.load true b d,a)
 |5=>λa=>cS a λb a=>bP c a λd a=>bP c a λh a=>(.store b d h,a)
 |6=>λa=>bP c a λb a=>(.len b,a)
 | _=>λa=>cS a λb a=>bP c a λd a=>bP c a λh a=>(.dN b d h,a)
def Kx (h:List iC) (d:Nat):Nat->List Nat->cc×List Nat
 |0=>λa=>bP d a λb a=>cS a λc a=>(.ext b c,a)
 |1=>λa=>bP d a λb a=>bP d a λc a=>(.bin .add b c,a)
 |2=>λa=>bP d a λb a=>(.qt b,a)
 |3=>λa=>bP d a λb a=>bP d a λc a=>bP d a λk a=>(.pick b c k,a)
 |4=>λa=>cS a λb a=>bP d a λc a=>(.box b c,a)
 |5=>λa=>bP d a λb a=>bP d a λc a=>(.bin .lss b c,a)
 |6=>λa=>bP d a λb a=>bP d a λc a=>(.bin .eql b c,a)
 | _=>λa=>cS a λb a=>sa h a λc a=>(.alloc b c,a)
def Ky (o:List iC) (d:Nat):Nat->List Nat->cc×List Nat
 |0=>λa=>sa o a λb a=>Ks d a λc a=>(.lW b c,a)
 |1=>λa=>Kt a λb a=>bP d a λc a=>(.un b c,a)
 |2=>λa=>bP d a λb a=>bP d a λc a=>(.bin .neq b c,a)
 |3=>λa=>cS a λb a=>bP d a λc a=>sb d a λh a=>sb d a λk a=>sb d a λp a=>(.lZ b c h k p,a)
 |4=>λa=>BP a λb a=>bP d a λc a=>(.iY b c,a)
 |5=>λa=>cS a λb a=>qJ d a λc a=>(.kh b c,a)
 |6=>λa=>bP d a λb a=>bP d a λc a=>(.bin .gtr b c,a)
 | _=>λa=>cS a λb a=>cS a λc a=>bP d a λh a=>bP d a λk a=>(.app b c h k,a)
def Kz (o:List iC) (b:Nat):Nat->List Nat->cc×List Nat
 |0=>λa=>bP b a λc a=>bP b a λd a=>(.bin .sub c d,a)
 |1=>λa=>cS a λc a=>cS a λd a=>bP b a λh a=>bP b a λk a=>(.lY c d h k,a)
 |2=>λa=>cS a λc a=>cS a λd a=>bP b a λh a=>bP b a λk a=>(.qu c d h k,a)
 |3=>λa=>cS a λc a=>qJ b a λd a=>(.kl c d,a)
 |4=>λa=>bP b a λc a=>bP b a λd a=>(.bin .geq c d,a)
 |5=>λa=>bP b a λc a=>bP b a λd a=>(.bin .xor c d,a)
 |6=>λa=>bP b a λc a=>bP b a λd a=>(.bin .mul c d,a)
 | _=>λa=>cS a λc a=>bP b a λd a=>sb b a λh a=>sb b a λk a=>(.pb c d h k,a)
def KA (k:List iC) (b:Nat):Nat->List Nat->cc×List Nat
 |0=>λa=>bP b a λc a=>bP b a λd a=>(.bin .shr c d,a)
 |1=>λa=>bP b a λc a=>bP b a λd a=>(.bin .leq c d,a)
 |2=>λa=>cS a λc a=>bP b a λd a=>bP b a λh a=>(.mV c d h,a)
 |3=>λa=>cS a λc a=>qJ b a λd a=>qJ b a λh a=>(.bG c d h,a)
 |4=>λa=>bP b a λc a=>qJ b a λd a=>(.iZ c d,a)
 |5=>λa=>bP b a λc a=>bP b a λd a=>(.bin .rem c d,a)
 |6=>λa=>bP b a λc a=>bP b a λd a=>(.bin .quo c d,a)
 | _=>λa=>bP b a λc a=>bP b a λd a=>(.bin .and c d,a)
def KB (o:List iC) (c:Nat):Nat->List Nat->cc×List Nat
 |0=>λa=>x6 a λb a=>BP a λd a=>bP c a λh a=>bP c a λk a=>(.lX b d h k,a)
 |1=>λa=>x6 a λb a=>bP c a λd a=>bP c a λh a=>(.qw b d h,a)
 |2=>λa=>x6 a λb a=>bP c a λd a=>(.mQ b d,a)
 |3=>λa=>bP c a λb a=>bP c a λd a=>(.bin .shl b d,a)
 |4=>λa=>bP c a λb a=>bP c a λd a=>(.bin .or b d,a)
 |5=>λa=>bP c a λb a=>(.qv b,a)
 |6=>λa=>bP c a λb a=>(.mT b,a)
 | _=>λa=>bP c a λb a=>(.qx b,a)
def KC (k:List iC) (c:Nat):Nat->List Nat->cc×List Nat
 |0=>λa=>cS a λb a=>bP c a λd a=>(.qy b d,a)
 |1=>λa=>bP c a λb a=>(.mR b,a)
 |2=>λa=>cS a λb a=>cS a λd a=>sa k a λh a=>bP c a λo a=>bP c a λp a=>(.mW b d h o p,a)
 |3=>λa=>bP c a λb a=>bP c a λd a=>(.mX b d,a)
 |4=>λa=>cS a λb a=>sa k a λd a=>bP c a λh a=>(.mU b d h,a)
 |5=>λa=>cS a λb a=>cS a λd a=>sa k a λh a=>bP c a λo a=>bP c a λp a=>(.kk b d h o p,a)
 | _=>λa=>cS a λr a=>(Kn r,a)
def BQ (b:List iC) (c:Nat) (a:Nat):List Nat->cc×List Nat:=
 match a/8 with
 |0=>Kw b c (a%8)
 |1=>Kx b c (a%8)
 |2=>Ky b c (a%8)
 |3=>Kz b c (a%8)
 |4=>KA b c (a%8)
 |5=>KB b c (a%8)
 | _=>KC b c (a%8)
def o5 (c:List iC):Nat->Nat->Option (Nat×Bool)->List Nat->List ca×Nat×List Nat
 |0,b,_,a=>([],b,a)
 |p+1,b,d,a=>jf a λh a=>
  if h<55 then match BQ c b h a with|(r,a)=>match o5 c p (b+1) d a with|(k,o,a)=>(⟨some (b+1),r,d⟩::k,o,a)
  else if h=55 then cS a λx a=>jf a λh a=>match BQ c b h a with|(r,a)=>match x with
   |0=>match o5 c p b d a with|(k,o,a)=>(⟨none,r,d⟩::k,o,a)
   |x+1=>match o5 c p x d a with|(k,o,a)=>(⟨some x,r,d⟩::k,o,a)
  else if h=56 then([],b,a)
  else cS a λy a=>o5 c p b (if y=0 then none else some (y/2 - 1,if y%2=1 then true else false)) a
def o6 (c:List iC):Nat->Nat->List Nat->et×Nat×List Nat
 |0,b,a=>(.skip,b,a)
 |d+1,b,a=>jf a λr a=>match r with
  |0=>(.skip,b,a)
  |1=>match o5 c d b none a with|(h,b,a)=>(.plain h,b,a)
  |2=>match o5 c d b none a with|(h,b,a)=>(.draw h ((List.range h.length).map bg),b,a)
  |3=>match o6 c d b a with|(k,b,a)=>match o6 c d b a with|(o,b,a)=>(.seq k o,b,a)
  |4=>bP b a λx a=>match o6 c d b a with|(k,b,a)=>match o6 c d b a with|(o,b,a)=>(.cond x k o,b,a)
  |5=>cS a λp a=>match o6 c d b a with|(k,b,a)=>(.block p k,b,a)
  |6=>match o6 c d b a with|(k,b,a)=>(.loop k,b,a)
  |7=>cS a λp a=>(.exit p,b,a)
  |8=>(.ret,b,a)
  |9=>(.refuse,b,a)
  |10=>match o5 c d b none a with|(h,b,a)=>cS a λy a=>pq Ku y a λz a=>(.draw h z,b,a)
  | _=>match o5 c d b none a with|(h,b,a)=>match o6 c d b a with|(o,b,a)=>(.seq (.plain h) o,b,a)
def KD (h:List iC) (b:List Char):ar:=
 cS (b.map λc=>Ko c.toNat) λk a=>cS a λd a=>jf a λb a=>pq Kv b a λo a=>match o6 h 999 d a with|(c,_,_)=>⟨k,d,c,o⟩
abbrev aw (a b:Nat) (c:ar):Prop:=du Tryz.prog a b=some c
variable{e i v M b9 j2:Nat}
def ax {a:ar} (b:du Tryz.prog e i=some a:=by kernel_rfl):aw e i a:=b
abbrev ay (q:String) {a:List Char}{b:List R->List R->List R->List R->List R->List R->List R->List R->List R->List R->List R->List R->List R->List R->List R->List R->List R->List R->List R->List R->List R->List R->List R->List R->List R->List R->List R->List R->List R->ar} (_:String.ofList a=q:=by rfl) (_: ∀c d h k o p r x y z C D E F G L P S T V W e f g i j l m n:List R,KD [c,d,h,k,o,p,r,x,y,z,C,D,E,F,G,L,P,S,T,V,W,e,f,g,i,j,l,m,n] a=b c d h k o p r x y z C D E F G L P S T V W e f g i j l m n:=by intros;conv=>lhs;cbv):ar:=
 b (((List.replicate 32 (.v (.int .u8 0))):List R)++([(.J [] .nil),(.J [] .nil)]:List R)++([(.v (.int .i64 0)),(.v (.int .i64 0))]:List R)++([(.J [] .nil)]:List R)) [(.v (.int .u8 0)),(.J [] .nil),(.J [] .nil)] [(.J [] .nil),(.J [] .nil)] (([(.v (.string ⟨#[]⟩))]:List R)++([(.J [] .nil)]:List R)++((List.replicate 32 (.v (.int .u8 0))):List R)++([(.J [] .nil),(.J [] .nil)]:List R)++([(.v (.int .i64 0)),(.v (.int .i64 0))]:List R)++([(.J [] .nil)]:List R)++((List.replicate 32 (.v (.int .u8 0))):List R)++([(.J [] .nil),(.J [] .nil)]:List R)++([(.v (.int .i64 0)),(.v (.int .i64 0))]:List R)++([(.J [] .nil)]:List R)) [(.v (.int .u64 0)),(.v (.int .u64 0))] [(.J [] .nil),(.v (.bool false))] (List.replicate 32 (.v (.int .u8 0))) [(.v (.bool false)),(.J [] .nil),(.J [] .nil)] [(.v (.pointer none)),(.v (.int .i64 0))] [(.J [] .nil),(.v (.int .i64 0))] (List.replicate 8 (.v (.int .u32 0))) (List.replicate 64 (.v (.int .u32 0))) [(.J [] .nil)] [(.J [] .nil),(.v (.bool false)),(.v (.pointer none)),(.v (.pointer none))] (List.replicate 5 (.v .nilFunc)) [(.v (.string ⟨#[]⟩)),(.J [] .nil),(.J [] .nil),(.v (.pointer none)),(.v (.pointer none))] [(.v (.int .i64 0))] (((List.replicate 32 (.v (.int .u8 0))):List R)++([(.J [] .nil),(.J [] .nil)]:List R)++([(.v (.int .i64 0)),(.v (.int .i64 0))]:List R)++([(.J [] .nil)]:List R)++([(.v (.int .u64 0)),(.v (.int .u64 0))]:List R)++([(.v (.int .i64 0)),(.v (.int .i64 0))]:List R)) [(.v (.map none)),(.J [] .nil),(.J [] .nil),(.v (.bool false))] [(.v (.pointer none)),(.J [] .nil)] [(.v (.int .u8 0)),(.v (.int .i64 0)),(.J [] .nil)] [(.J [] .nil),(.v (.map none))] (((List.replicate 32 (.v (.int .u8 0))):List R)++([(.J [] .nil),(.J [] .nil)]:List R)++([(.v (.int .i64 0)),(.v (.int .i64 0))]:List R)++([(.J [] .nil)]:List R)++((List.replicate 32 (.v (.int .u8 0))):List R)++([(.J [] .nil),(.J [] .nil)]:List R)++([(.v (.int .i64 0)),(.v (.int .i64 0))]:List R)++([(.J [] .nil)]:List R)) [(.J [] .nil),(.J [] .nil),(.v (.int .u8 0)),(.v (.int .i64 0)),(.J [] .nil),(.v (.int .i64 0)),(.v (.bool false))] [(.v (.int .u8 0)),(.v (.string ⟨#[]⟩)),(.J [] .nil),(.J [] .nil)] (((List.replicate 8 (.v (.int .u32 0))):List R)++([(.J [] .nil)]:List R)++([(.v (.int .u64 0))]:List R)) [(.v (.pointer none)),(.J [] .nil),(.J [] .nil),(.v (.int .u8 0)),(.v (.int .i64 0)),(.J [] .nil),(.v (.int .i64 0)),(.v (.bool false)),(.v (.int .i64 0)),(.J [] .nil),(.v (.int .i64 0)),(.v (.int .i64 0)),(.v (.int .i64 0)),(.J [] .nil)] [(.v (.int .u8 0))] [(.v (.int .u32 0))]
def KE:ar:=ay "+b*bbcalaL4dl3qdgarcp4eql3daL4iadl3saadhbr4esl3daO4ial3vaadibu3uau3xitaitb3eava,x4dl3zadPauQ4eul3daO4ial3Caddkbuaddlbudjcwu3Bau3HiuaiAb3gava,H4dl3JagsuKau5+bdafaedncNudmcwurcu5alzOu4eul3daL4ial3Saddlbu3iau4dlaK4fagdl3Uaiahgunwu4euahadfbdk31addkbuahaih+bfvuccueLuahaih+bfvucbubugujuMdodGBu30au3*iuai,Zb3kava,*4uaaacaadaaeaafaagaahaaiaajaakaalaamaanaabacgloaapaaqaaraasaataadk3+baaddkbuahaih+bfvucNueLuahaih+bfvucbubugujuMdodGBu3+a,au3+bpiuai,+a+b3mava,+bp4uaaacaadaaeaafaagaahaaiaajaakaalaamaanaabacgloaapaaqaaraasaataal3+braksuKau5+cMamsuK5alwOuau5+cUajaekucaubuaihbvubukucdubudpcNudmcFurcu5alIOuau5+dhalaekucaubuaihbvubukuceubudqcNudmcFurcu5alIOu4eul3daL4iab3YaijuM3jau4l3+b4addkbuahdrcvu3+b3au3+b8iuaizb3oava,+b84l3+b:aoouKau5+d6anguouK5alxuL3dau4i"
def KF:aw 0 3 KE:=ax
def KG:ar:=ay "+blabaal3baL4l3ldsa3cak4l3nabvbbMvbbSvbcnodAdmpM3maq3silailb3dpWa3afLcras4l3vabeLcdodvuM3uau3yitaitb3fava,y4dk3BdsaeLcdwdvuM3Aau3Eiuaiyb3hava,E4ibaaaabbcaadaaeaafaagaahaal3HabeLcdwdvuM3Gau3Kiuaiyb3java,K4dc3MadouKau5+bkafouK5alwuLau5+bsahouK5alwuLau5+bAajouK5alwuLau5+bIaeguouM5alxuLau5+bSaehGuKeGucaceGu2a5alAuLau5+b8agguouM5alxuLau5+b,aghGuKeGucaceGu2b5alAuLau5+cpaiguouK5alxuL3bau4i"
def KH:aw 0 6 KG:=ax
def KI:ar:=ay "7bbcalaL4dl3gaagfwg,+p64ehl3daO4iadlaK4fagdl3jadaagjnik4elahadfbdl3paaadheopcbqbrTswt,+oRau5Saaadhevuccubuguwu,+oS5alBOuau5:aaadhevucdubuguwu,+p75alBOu4eul3daO4ial3faK4fcgdl3OaeaaadhevuccubugunAu4euahcdfdl3YaaadhevuccubuaehbvubuTuwu,+oR4eul3daO4iab3WaejuM3fau4b3nadjmM3ean4l3daL4i"
def KJ:aw 0 7 KI:=ax
def KK:ar:=ay "TbccadalaQaQ4l3ldzaqmam8l3fakam4dlaK4fagdl3oagaagonnpaq5Lagns,+p85alrtL4euahadfbl3yaeaaaghevueeudBcyu4bafaaaghevueeudCcyu4b3wagjuM3hau4dl3LaedkbudDbu3Kau3Oiuaiybizc3iawa,Oa,P4l3Raj4eul3daQaQ4ial3Saeaf3dava,S4i"
def KL:aw 0 8 KK:=ax
def KM:ar:=ay "ucceafal3faNaK4l3jdEa3hai4dl3kagaaabdFejkl,+oT3iam4l3oahsnK4eolah3faNap4ial3ragkqcarbs3fataK4i"
def KN:aw 0 9 KM:=ax
def KO:ar:=ay "hbbcalaQ4laakdcaebf3dag4i"
def KP:aw 0 10 KO:=ax
def KQ:ar:=ay "vbbcalaN4l3jaakicbjbkdHbl3iam3oihaihb3eanao4l3raddIbq3qar3tipaipb3gasat4l3vaf3dau4i"
def KR:aw 0 11 KQ:=ax
def KS:ar:=ay "Acbeal3faL4dl3haaggabgishj4ekl3faL4iadlaK4fagdl3mafaagmnln4eoahadfbdc3saaafhGrseGtabafhGvueGu2c4eul3faL4iab3qafjpM3gaq4l3faO4i"
def KT:aw 1 12 KS:=ax
def KU:ar:=ay "Ncbeal3faN4dlaK4fagdlafabkhcaibjgkngl4emahadfbk3qaaabkqcarbsafhbtubukucdubudpcpuabkucaubuafhbvubukuceubudqcEu3bau4yaaabaacaadaaeaafaagaahaaiaajaakaamaanaaoaapaaqaaraasaataauaavaaladpsvwaaxaab3oafjnM3gao4l3Naa3fau4i"
def KV:aw 1 13 KU:=ax
def KW:ar:=ay "odcgahalmWb3haNaK4laaeLeacdJeijk,+oTilailb3haman4i"
def KX:aw 0 14 KW:=ax
def KY:ar:=ay "ycbeal3faN4dlabPafQ4eglaa3fah4ial3jaaabdLbj2ddKcil3bam4dk3oaaabkoccpbqdpcnrabktcdubudpcsu3fau4maaabaacaadaaeaagaahaaiaajaafabjkaalaai"
def BR:aw 1 15 KY:=ax
def KZ:ar:=ay "Hcbeal3faN4dl3habPagQ4ehlaa3fai4ial3kaaabdMbk2edKcjm3ban4dl3gaK4fagdl3pafabkpcbqbrgsnot4euahadfbb3yaaabkucbubuafhbvubudqcBu3bau4b3wafjuM3gau4l3Haa3fau4i"
def x7:aw 1 16 KZ:=ax
def L0:ar:=ay "ucceafal3faNaK4l3jdEa3hai4dl3kagaaabdFejkl,+oU3iam4l3oahsnK4eolah3faNap4ial3ragkqcarbs3fataK4i"
def L1:aw 0 17 L0:=ax
def L2:ar:=ay "eabaal3baQ4l2fqsbabbm+bJc3bad4i"
def L3:aw 0 18 L2:=ax
def L4:ar:=ay "vcceafalmQbaNaK4dc3kaakjcakbleGd2g3jao3qiiaiib3hapaq4dl3sahrcr4esl3faNa44ial3uagdObt3fauaK4i"
def L5:aw 0 19 L4:=ax
def L6:ar:=ay "2cbecGl3fpQg4l3jabdPbi3gpQg3afGfj4ddc3maaklcambneGf2h3laq3sikaikb3haras4fal3vahrcu3uau4etk3xaakucaubueGfabdObu3a2i4iaaabaacaadaaeaafaagacdehaal3Faakucduburcuau5+bcagabdQcvurcu5alyuL3Eau4eub3QaaaaaaagabdObukzcbu3afbuykAccu3afbuykBcdu3afbuO4aleGf3afGeu4i"
def L7:aw 0 20 L6:=ax
def L8:ar:=ay "rcbealmQbaL4dc3jaakicajbkeGd2j3ian3pihaihb3gaoap4l3rag3faq4i"
def L9:aw 0 21 L8:=ax
def La:ar:=ay "odcgahalmWb3haNaK4laaeLeacdJeijk,+oUilailb3haman4i"
def Lb:aw 0 22 La:=ax
def Lc:ar:=ay "eabaal3baQ4ldsaqtbabbm+bvc3bad4i"
def Ld:aw 0 25 Lc:=ax
def Le:ar:=ay ":dcgcLhal3hpWaaK4dl3oacabdScnorcp4eqlqaa3afLgr3iaM4ial3tabdTbs3jat4l3vaidUcu*4dl3kaM4fagdl3xajaigunwu4euahadfbdc3DaiajhbvubuaiajyuMhbwubudWczu4eulqaa3afLgu3iaP4iab3BajjuM3kau4l3Oaaacqicabvbbu3lp+bUi3afck,P4dk3SaiaigudZbudYcxueckJ0buadXcwu3Rau30iuaiDb3mava,04naaabaacaafaagaadabfeabfhaaiaajaakaalaamaadl32amsuK4eulqaaam3afLgv3iau4ial36eckald1cvuiuaivb3afLgv3iau4i"
def Lf:aw 0 26 Le:=ax
def Lg:ar:=ay "rcbealm+bhbaK4dl3heedd2bgrch4eil3faM4ial3kqoebb,+p9cb,+p:db,+p;eb,+p<3gp+b5o3afffj4dc3lcadbkAbfflbmaaeedKncop3faq4i"
def Lh:aw 0 27 Lg:=ax
def Li:ar:=ay "+edcbealm+bhbaK4dl3teedd7bsrct4eul3faM4ial3waacbdbud8cwu3gau4dl3AcadbuouW4eudlafCuK4eul3faR4iadl3Faakucaubuguwu54eul3fa84ial3haN4laL4dk3Lcbdbuvbaccdbuxbqwuqpcabybbum4u3jau4jaaabaadaaeaacaafabbgaahaaiaadlaK4fagdl3Tajaakucaubugunzu4euahadfbddc32ahrcuau5+bQaikucaubuaakucaubuajhbvubukucaubunEu5alJuL4eulagaivbbuxbiwu3hau4baO4ab3+bgagaakucaubuajhbvubuvbbuxbiCu3hau4b30ajjuM3kau4dl3+bqahrcu4eubagaivbbuxbiwu3hau4al3+bwaaagkvcau3afbuw4l3faK4iadl3+bAafnuK4eul3faY4iadl3+bCcadbuouT4eul3laN4dlaK4fcgdl3+bFalaakucaubugunzu4euahcdfdl3+bOalafsvu4eubakaakucaubualhbvubuvbbuxbiCu3lau4ab3+bMaljuM3mau4l3+b1aaakkvcau3afbuw4l3faK4ial3+b5aakucaubuafhbvubu3nau4ddc3+b<cddbuguamkucbubugujuMsAu4eul3fa:4ial3oaN4laL4dlaK4fegdl3+cdapamkuccubugunzu4euahedffddc3+cmamkuccubuaphbvubuhbuKbucddbuhbuKbuoyu4eudlcadbuouX4eul3faP4iadc3+cDamkuccubuaphbvubucddbud9cwu4eul3paO4hfaab3+cNanamkuccubuaphbvubuvbbuxbyCu3oau4b3+ckapjuM3qau4dc3+cXamkucaubuamkucbubuqpcabybbum4u3rau4dl3+c7cadbuou+4eudlaorcu4eul3fa44ial3+c<aqankvccu3afbuw4dc3+c+aqamkucdubucddbud:cwu3+c*au3+dgiuaiDbkDcdu3afbux4c3+dlaqamkuceubucddbud;cwu3+dkau3+dtiuaiDbkDceu3afbux4laqquaanvbacddbuxbiwuvbbuxbyzud<cBukDccu3afbuw4dc3+dKaqamkucdubucddbud=dwuK3+dJau3+dSiuaiDbkDcdu3afbux4c3+dXaqamkuceubucddbud>cwu3+dWau3+d5iuaiDbkDceu3afbux4lBbaaakucaubuzbiyu3sau4l3+d?arafaqhbwv3afbuv4laaarkvcau3afbuw4l3faK4i"
def Lj:aw 0 28 Li:=ax
def Lk:ar:=ay "tbdcadaealaNaNaL4dkaakfcbgbhdObiaakkcclbmdObnaakpcdqbr3dajaoas4raaabaacaadaafaagaahaaiaakaalaamaanaaeacinjabnoaapaaqaai"
def Ll:aw 0 29 Lk:=ax
def Lm:ar:=ay "eabaal3baQ4l2fqvbbbbm+btc3bad4i"
def Ln:aw 0 30 Lm:=ax
def Lo:ar:=ay "Sebial3jaK4dl3qacgpaK4faglnrq4desahadfblh+bfpre+bft3lpYd3af+bfk,u4l3we+bfkd?bu3mau4dl3yalwuP4eul3jaM4ial3AcckeLucNkeLuqwcaLwLLuaK4fcglnuS4deuahcdfdl2k3opWa3afLn,G4l3IadaaabeLnalKyexwvu3pau4l3OaosuK4eulao3jau4iab3Rj,EM3Fau4b3SjrM3sau4l3jaK4i"
def Lp:aw 0 31 Lo:=ax
def Lq:ar:=ay "oebial3fm+bma3hmWc3jaK4labeLgadJ+a+abed*ejklm3jan4i"
def Lr:aw 0 32 Lq:=ax
def Ls:ar:=ay "9bccadalaNaK4dl3kaad+babjrck4ell3daNaM4ial3nqjam+cdm3fan4l3paeaagpueqd+bbcor4dlaagtaK4faglnuv4deuahadfblh+bftve+bfu3hpYd3af+bfg,y4l3Aaecagbu2ld+bccxu4laecbgbuguueud+bbcyu4dlcbgbuguaK4fcglnuv4deuahcdfdlhbxvbu3jau4b3Saeai2md+bccwu4bjBM3Oau4l3XaeccgeLud+bdcwu4baecNgeLud+bdcwu4bj,vM3wau4l36aed+bebuaed+bfbu3dawa,84i"
def Lt:aw 0 33 Ls:=ax
def Lu:ar:=ay "NbccadalaNaK4l3jaad+bgbi3faj4laN4dl3laed+bhbkudlOadm4aK4faglnon4depahadfbbafaed+bibrv+bfbsx+bf+d?qt3gau4b3wjoM3pau4dl3xaed+bjbusuK4eul3daNaZ4iadl3BafdHbu3Aau3Diuaixb3hava,D4l3FahsuKau5>agaad+bkcvurcu5alyOu4eul3daNaZ4ial3Naf3dauaK4i"
def Lv:aw 0 34 Lu:=ax
def Lw:ar:=ay "GeciajalmWb3jaNaK4dl3nacnmMan5EacwpP5aloOq4erl3jaNaM4ial3tdEa3las4dl3uadakaaeLfacKtexwvu3mau4l3AalsuK4eulal3jaNa,B4ial3Dakkucaubu3jauaK4i"
def Lx:aw 0 35 Lw:=ax
def Ly:ar:=ay "xcbealmQbaN4dlaK4fagdlafaaghngi4ejahadfbdc3naaafhGmneGoeGd2n4erlaa3fas4iab3lafjkM3gal4l3uaaeGdBGbuzGGtu3fau4i"
def Lz:aw 1 36 Ly:=ax
def LA:ar:=ay "pbbccLlpWa4dl3gaaPafQ4eglqaa3afLch4ial3kaad+bmbjd+blbk3jal3niiaiib3epWa3afLdman4l3peLd3afLco4i"
def BS:aw 0 37 LA:=ax
def LB:ar:=ay "pbbccLlpWa4dl3gaaPafQ4eglqaa3afLch4ial3kaad+bnbjd+blbk3jal3niiaiib3epWa3afLdman4l3peLd3afLco4i"
def LC:aw 0 38 LB:=ax
def LD:ar:=ay "oebial3fm+bmamHbmWc3jaK4lbfeLgadJ+boacfed*ejklm3jan4i"
def LF:aw 0 39 LD:=ax
def LG:ar:=ay "ibbcalaN4dlaaQad4eel3daN4ial3gvbaaaxbbfg3dah4i"
def LH:aw 0 40 LG:=ax
def LI:ar:=ay "gbbccGlpQg4laad+bqbdd+bpbe3afGcf4i"
def LJ:aw 0 41 LI:=ax
def LK:ar:=ay "kcbeal3faL4laaVfabVhogi3faj4i"
def LL:aw 0 42 LK:=ax
def LM:ar:=ay "rcbeal3dmda3faL4lbcCfMag5rbcHiP5alhjLak5zabJ+bsabcd+brcmnrco5allpL3faq4i"
def LN:aw 0 44 LM:=ax
def LO:ar:=ay "ibbcalaN4dlaaQad4eel3daN4ial3gvbaaaxbyfg3dah4i"
def LP:aw 0 45 LO:=ax
def LQ:ar:=ay "ibbcalaN4dlaaQad4eel3daN4ial3gBbaaazbyfg3dah4i"
def LR:aw 6 45 LQ:=ax
def LS:ar:=ay "ocal3gaagf3fag4b3iaaaeaeuhjd+bubkabd+btfhKilm4"
def LU:aw 0 46 LS:=ax
def LV:ar:=ay "ncbeal3faK4dfal3haaabd+bvcgh3gai4efl3faU4il3labaad+bvckl3kam4ejl3faM4ial3faK4i"
def LW:aw 0 47 LV:=ax
def LX:ar:=ay "Acbeal3faL4dl3haaggabgishj4ekl3faL4iadl3maaglaK4faglnnm4deoahadfblan3gap4dc3raaafhbqrbsabafhbvubustu4eul3faL4iab3AjnM3oau4l3faO4i"
def LY:aw 0 48 LX:=ax
def LZ:ar:=ay "Gcceafal3faNaK4laN4dl3maaglaK4faglnnm4deoahadfblhblnbp3jaq4l3tabaiKsbt3sau3wirairb3kpWa3afLj,va,w4dl3yaksuK4eulak3faNa,z4iab3BageLjBLbuzL+bXwu3hau4b3FjnM3oau4l3Gag3fauaK4i"
def M0:aw 1 49 LZ:=ax
def M1:ar:=ay "Ncbeal3faN4laN4dl3jabaK4faglnji4dekahadfblaj3hal4l3naagmabagyopMnq3iar4dl3taagsabagyvuLtuwuK4eubahjuM3iau4al3CafaaahFbvabudTbuvbbuxbyzu3gau4b3JaaahFbvbua3bau4b3MjjM3kau4l3Naf3fau4i"
def M3:aw 0 50 M1:=ax
def M4:ar:=ay "hbbcalaK4laajdRyeMMfR3dag4i"
def M5:aw 0 51 M4:=ax
def M6:ar:=ay "GccecLfal3dm+bUa3fpWaaK4l3kqbbabT3hp+crb3afdgj4dl3labgkaK4faglnml4denahadfblhbkmbo3jap4b3rcbgbqaiqfcabsbbOvcbtxcGrucbg3afbuv4bjmM3nau4l3zcacbuedgcbcbud+bwdxwuiuaivb3afLev3gau4i"
def M7:aw 0 52 M6:=ax
def M8:ar:=ay "IccecLfal3dm+bUa3fpWaaK4dfagdl3jabgiwjM4ekahafbdk3nababgndZbod+bycmpeccJ+bzbrad+bxcqs3mat3vilailb3hava,v4naaabaacaafaagaadabfeabfhaaiaajaakaalaamaadl3xahsuK4eulqaaah3afLev3gau4iab3Bag3cau4dl3CabguouK4eulqaa3afLeu3gaK4ial3GabhLuKeLu3afLeu3gaK4i"
def M9:aw 0 53 M8:=ax
def Ma:ar:=ay "Zbbcal3cm+bhaaL4dlcbbbdd+bAbercf4egl3daL4iadl3icabbh4fal3loiW3kak4ejl3mccbbld+bBbman5FcdbbpgqorK5alosL3dat4il3woiT3vau4eul3xccbbuguouKau53cdbbuguouK5alyuL3dau4idl3IoiX3Hau4euab3Joi+3Hau4eul3KccbbuguouKau5+bkcdbbuguCuS5alyuLau5+bwcdbbuguHuP5alyuL3dau4ial3daL4i"
def Mb:aw 0 54 Ma:=ax
def Mc:ar:=ay "Ccbealm+bhbaK4dk3jaakicbjbkcbdbmccdbod+bDbpqdcabnbbqd+bCclr3ias3uihaihb3gata,u4qaaabaacaadaaeaafaagaahaaiacdfjaakaalaamaanaaoaapaadl3wagouK4eubaaafkvcbu3afbuw4alag3fau4i"
def Md:aw 0 55 Mc:=ax
def Me:ar:=ay "ycbealm+bhbaK4dc3jaakicbjbkcbdbmd+bEcln3iao3qihaihb3gapaq4dl3sagorK4esbaaafktcbu3afbuw4alag3fau4i"
def Mf:aw 0 56 Me:=ax
def Mg:ar:=ay "Pcbealm+bhbaK4l3laaeedd+bFckl3kam3oijaijb3gpYd3af+bffnao4dl3qagspK4eqlag3far4iadc3uaacbdbucddbuhbuKbud+bGdtyu3tau3Cisaisbisc3iawa,C3ha,D4dfal3GagsuK3Fau4eul3Iag3fau4il3Kai3Jau4eul3faP4ial3Laae+bffcddbud+bHfxwu,+p=,+p>3fau4i"
def Mh:aw 0 57 Mg:=ax
def Mi:ar:=ay "vcbealm+bhbaK4l3jaaeedd+bFcij3iak3mihaihb3gpYd3af+bfflam4dl3oagsnK4eolag3fap4ial3raae+bffcddbsd+bHfqrt,+p?,+p*3fau4i"
def Mj:aw 0 58 Mi:=ax
def Mk:ar:=ay "+bGbbcal3cm+bhaaL4dl3gcbbbfd+bMbgrch4eil3daL4iadl3kcabbjokW4eldl3eaK4fagdl3nadccbbngonmp4eqahadfbdl3uccbbtadhbvubud+bMburcuau52ccbbuadhbvubuou,+oV5alAOu4eul3daL4ial3faK4fcgdl3Jaeadnvu4euahcdfddc3Occbbuaehbvubuccbbuadhbvubuozu4eul3daL4iab3MaejuM3fau4b3sadjrM3eas4l3ZccbbuguwuKau5+bOccbbugunuP5alyuLau5+b0cdbbuguouK5alyuL3dau4iadl3?cabbuouT4eulccbbugucdbbugujxuouK3dau4ial3+bhcabbuouXau5+cucabbuou+5alxOuau5+cFccbbuguouK5alyuLau5+cRcdbbuguwuM5alyuLau5+c3cdbbugunu45alyuL3dau4i"
def Ml:aw 1 59 Mk:=ax
def Mm:ar:=ay "Ccbeal3faK4dlaK4fagdlafaakhcaibjgkngl4emahadfbl3qaakpcaqbrafhbstbukucaubuabovu4eulaf3fau4iab3oafjnM3gao4l3faU4i"
def Mn:aw 0 60 Mm:=ax
def Mo:ar:=ay "Acbeal3faL4dl3haaggabgishj4ekl3faL4iadlaK4fagdl3mafaagmnln4eoahadfbdc3saaafhbrsbtabafhbvubusyu4eul3faL4iab3qafjpM3gaq4l3faO4i"
def Mp:aw 0 61 Mo:=ax
def Mq:ar:=ay "Dcceafal3faQaL4l3kaaabd+bNdjkK3jal3niiaiib3haman4dl3pahao5Hagd+bObqgrESsagd+bPbuntu5alpuL4eubagd+bObud+bQcuK3hau4al3Cagah3fava,C4i"
def Mr:aw 0 62 Mq:=ax
def Ms:ar:=ay "Pcceafal3faQaL4dl3iaad+bSbhabd+bRcijrck4ellaa3famaL4ial3oaaabd+bTcno3hap4dl3ragkqcbrbsgtouM4eulagkucbubuhbuKbu3fauaO4iaddc3DagkucbubuguagkucaubugujzuouK4eul3faQaO4ial3Pag3fauaO4i"
def Mt:aw 0 63 Ms:=ax
def Mu:ar:=ay "+blcbeal3dm+b=a3faN4laN4dlaK4fagdl3lagabglnkm4enahadfbdc3redcabaghbrsbtgud+bUcqurcuau5YabaghbvubuguabhbuKbugusyu5alEOu4eul3faN4iab3pagjoM3hap4dlaK4fcgdl3Lahabgunwu4euahcdfdl3jaN4laK4dfegddc3Rajafgunwuau5+byedcabahhbvubuafajhbvubud+bVdCyurcu5alFuL4euahefflaiafajhbvubuvbbuxbyzu3jau4b3?ajjuM3kau4l3+a+aiabahhbvubuvbbuxbyzu3jau4l3+bfaiafajFbvbuaxbyxu3jau4b3+bkai3gau4b3PahjuM3iau4l3+blaf3fau4i"
def Mv:aw 0 64 Mu:=ax
def Mw:ar:=ay "+bvdcgahal3haQaL4dl3laaPakQ4ellabqncabmbbOm+bDn3haoaO4iadc3qaakpcaqbraaktcbubuaakuccubuaakucdubuqneabsbbCcbydbum+bDu3jau4dl3Iaakucaubuabd9cvu4eulaikucbu3afbuO4dkaiacd+bWcvuaakucbuburcu3haza,X4kaaabaadaaeaafaagaahaacabgiaajaaial3kaL4ddc3ZabaakucaubuacabguLwud+bXdCyu4eub3:aiaakuccubuabacjuMd=dxwu39au3+baiuaiEbkEccu3afbux3kaw4b3+bfaiaakucdubuabacjuMd=dxwu3+beau3+boiuaiEbkEcdu3afbux3kaw4l3+bsaiacd+bWcvuaj3hava,+bu4i"
def BT:aw 0 65 Mw:=ax
def Mx:ar:=ay "vcceafal3faQaL4dlaaPagQ4ehlabvbbiqcbabjm+bGk3falaO4iadl3naad+bSbmabd+bRcno4eplaa3faqaL4ial3saaabd+bZcrsd+bYbt3fauaO4i"
def BU:aw 0 66 Mx:=ax
def My:ar:=ay "hbbcal3cmYaaK4lcbbbdgejfM3dag4i"
def Mz:aw 0 67 My:=ax
def MA:ar:=ay "WebialmWb3jaK4dl3peLfd+b0boap5IadeLfKrbsrct5alqOu4eul3jaK4ial3yaaeLfacd+b1dwvu3xau3Ciuaizb3kp+crb3afdj,Ba,C4dl3EaksuK4eulak3jau4iadl3HccjbuguaK4faglnuv4deuahadfblhLxveLu3npWa3afLm,M4l3OaaeLmacadd*exwvu3oau4l3TansuK4eulan3jau4iab3Wj,JM3Kau4l3jaK4i"
def MB:aw 0 68 MA:=ax
def MC:ar:=ay "ibbdalmWaaL4lbbcaceGfd+a,ceg3eah4i"
def MD:aw 0 69 MC:=ax
def ME:ar:=ay "AcbealmQbaL4ddcaakfcbgbheGd2o4ekl3faL4iadc3maaklcbmbneGd3a2p4dcaaaakrcasbteGdvGbuxGGwukqcau3afbuw4l3faO4i"
def MF:aw 0 70 ME:=ax
def MG:ar:=ay "IbbcalaL4dl3gaagfaK4faglnhg4deiahadfblahh+bffhe+bfk3fpYd3eaj3af+bfel4dc3ne+bfed+b2bmrcnao5GadwqKar5NaaadyuMh+bftucaubucaebuCwu5GlsuL5alpOu4eul3daL4iab3FjhM3iau4l3GaaguHuP3dau4i"
def MH:aw 0 71 MG:=ax
def MI:ar:=ay "icab3faaabvbbfd+b3deOg4"
def MJ:aw 0 72 MI:=ax
def MK:ar:=ay "rcadl3fabgewf04eglaakhcbi3afbj84ialaaabgld+b4ckm4baaabd+b3doOp4"
def ML:aw 0 73 MK:=ax
def MM:ar:=ay "KcalmWb4l3haacadeGhd+b5cgi4laacIdbld+b4ckm4laacJdbpd+b4coq4lcGdcasbtcGdcbubucKdbuvbdzwuguaK4faglnuv4deuahadfblhbxvbu3gau4b3Haaafd+b6cvu4bjAM3Dau4"
def MN:aw 0 74 MM:=ax
def MO:ar:=ay "nbbcalaN4dlaakdcbebfsgK4ehl3daN4ial3jaakicajbkd+b7bl3dam4i"
def MP:aw 0 75 MO:=ax
def MQ:ar:=ay "hbbcalaK4laakdcbebf3dag4i"
def MR:aw 0 76 MQ:=ax
def MS:ar:=ay "hbbcalaQ4laad+b7bdqjbabem+c6f3dag4i"
def MT:aw 0 77 MS:=ax
def MU:ar:=ay "pbbcala14l3haad+b8cgM3gah3jifaifb3eaiaj4dl3laerck4ell3da14ial3nadhbmKbn3dao4i"
def MV:aw 0 78 MU:=ax
def MW:ar:=ay "Ebbcc+bflpYd4l3faad+b9ce2Vfqdbabg3epYd3af+bfdh4dl3jaad+bhbiudjOadkPaK4faglnml4denahadfbkcbdboaad+b9cq2Vrvbbsxbqptcbd3afbuv4jaaabaacaadabbeaafaagaahaaiaabjmM3nau4l3yaad+b:buccd3afLuv4laad+b:bucNd3afLuv4le+bfd3af+bfcu4i"
def MX:aw 0 79 MW:=ax
def MY:ar:=ay "pbbcalaK4dlaakdcaebfggwhK4eibaad+b;cj,+p+4alaaklcbmbn3dao4i"
def MZ:aw 0 80 MY:=ax
def N0:ar:=ay "Acbeal3faL4dl3haaggabgishj4ekl3faL4iadl3maaglaK4faglnnm4deoahadfblan3gap4dc3raaafhbqrbsabafhbvubustu4eul3faL4iab3AjnM3oau4l3faO4i"
def N1:aw 0 81 N0:=ax
def N2:ar:=ay "+bMbcccLdal3cm+crapWaaL4l3iedbd+b=bhd+b<biqabaGj3fpWa3afLek4dlaK4fagdl3mafcbbbmgnnlo4epahadfbl3tcJebsjtMcJe3afbuv4lcbbbuafhcvucbubu4eulcIebujuMcIe3afbuv4ccGeecucbbbuafhcvucaubucbbbuafhcvucaubuqccabAbbud+b>cHucGe3afcuv4ab3rafjqM3gar4dlaK4fcgdl3Yagccbbugunxu4euahcdfddc35cJebuccbbuaghLvucJubujAucJe3afbuv4dccIebuccbbuaghLvucIubujAucIe3afbuv4ccGeecuccbbuaghLvucGuecud+b>cAucGe3afcuv4b33agjuM3hau4dl3+bqcabbuouT4eubcbbbuhcuKcaubucKe3afbuv4adlcabbuouX4eubccbbuhLuKcKubucKe3afbuv4adlcJebuwu04eulqaa3afLcu3eaL4ial3+bMeLe3afLcu3eaO4i"
def N3:aw 1 82 N2:=ax
def N4:ar:=ay "zbbccdlp+crb4dkaakdcaebfaakhcbibjqfcabgbbkvcblaaknccobpdLbqaakscdtbudLbuvLcruqbdabWbbmcbu3afdcu4xaaabaacaadaaeaafaagaahaaiaakaalaamaanaapaaqaaraasaaobjddhstbjcdhjbuauaavaawaai"
def N5:aw 0 83 N4:=ax
def N6:ar:=ay "1bbccdlp+crb4l3hqbbabT3ep+crb3afddg4dlaK4fagdl3iaeaakicajbkglnhm4enahadfbc3rcbdbqaakscatbuaehbvubuqfcabubbOvcbuxcGrucbd3afbuv4b3paejoM3fap4dlaK4fcgdl3Eafaakucbubugunzu4euahcdfdl3Ncad3afbuX4kccdbuaakucbubuafhbvubudMbuvLbuxL+bXDuccd3afbuv4oaaabaacaadaaeaafaagaahaaiaajabbkaalaamaanaab3LafjuM3gau4l31edd3afdcu4i"
def BV:aw 0 84 N6:=ax
def N7:ar:=ay "obbeal3emWaaL4dlbbcadeGgdvcfhrci4ejlbccadeGld+a,ckm4l3faL4ial3faO4i"
def N8:aw 0 85 N7:=ax
def N9:ar:=ay "kbbccGlpQg4l3fd+b?a3eae4l3gadaad+b*cfg4ladd+b+bi3afGcj4i"
def Na:aw 0 86 N9:=ax
def Nb:ar:=ay "gbbcalaN4laavbbdd+b,c,+oWe3daf4i"
def Nc:aw 0 87 Nb:=ax
def Nd:ar:=ay "jcbeal3faL4laaabd+cacfgChK3fai4i"
def Nf:aw 0 88 Nd:=ax
def Ng:ar:=ay "ibbdal3eaL4laagebbsfg3eah4i"
def Nh:aw 0 89 Ng:=ax
def Ni:ar:=ay "+cgfal3laO4laO4fagfbl3wacabyvu3nau4dl3zamHu,+p,4eulaaabacaed+cbexwvu4iadladouK4eulaaabacaed+ccexwvu4iadlakrcu4eulaaabacaed+cdexwvu4badyuM3eau4al3Xaaabacaed+ceexwvu3Wau32iuaiAb3oava,24dl34aoouS4eulaaabacaed+cfexwvu4lacyuManabyvuyxu3oau4baM4adl3+a+akau5+b,al5alvuLau5+cfaoouM5alwuL4eulaaabacaed+cgexwvu4euiaaddcabwuKau5+cBaeaaabyuMhbwubuaaanhbvubuKDcyunuKrcu5alHuL4eulaaabacanaed+chfyxwvu3qau4l3+bIap3cau4hbal3+bKaaabacanaed+cifyxwvu3+bJau3+bQiuaiBb3rava,+bQ4l3+bSar3mau4l3+bTaqabyvuacaqyvu3taxa,+bX4l3+bZamMuP3vau4l3+b1asatnvu4eulasa,uCvu3lau4l3+b7aaabaqadaed+btfyxwvu4baqjuM3cau4l3+b?ata,uCvu3lau4l3+b,aaaqjuMacadaed+btfzxwvu4baq3dau4"
def Nj:aw 0 90 Ni:=ax
def Nk:ar:=ay "ibbcalaK4deLlaaugdd+cjbe3daf4ial3haad+ckbg3dah4i"
def Nl:aw 0 91 Nk:=ax
def Nn:ar:=ay "6cbeal3faL4dl3kaagjd+clbkrclam5Cabgoaagqspr5alnOs4etl3faL4ialaKa34dl3vaaguaK4faglnuv4deuahadfblav3iau4dk3Aaaahhbvubud+cmbuabahhbvubud+cmbuDzu3jau4maaabaacaadaafaagaahaaiaaeabijaakaalaal3Lagainvuau5+bkagagaiDvunxu5alzuL4eubahai3gava,V4ab3Xj,wM3xau4dc3Yaaafhbvubuabafhbvubunyu3fau4i"
def No:aw 0 92 Nn:=ax
def Np:ar:=ay "GdcgcLhalm+crb3hpWaaK4l3oedeacd+cncno3nap3rimaimb3jpWa3afLiqar4dl3tajssK4etlqaaaj3afLgv3iau4ial3yedeacd+cocvu3xau3Biuaiyb3lava,B4l3Daaakducvu4leLi3afLgu3iaK4i"
def Nq:aw 0 93 Np:=ax
def Nr:ar:=ay "Gcceafal3faNaK4laN4dl3maaglaK4faglnnm4deoahadfblhblnbp3jaq4l3tabaiKsbt3sau3wirairb3kpWa3afLj,va,w4dl3yaksuK4eulak3faNa,z4iab3BageLjBLbuzL+bXwu3hau4b3FjnM3oau4l3Gag3fauaK4i"
def Ns:aw 1 94 Nr:=ax
def Nt:ar:=ay "Ncbeal3faN4laN4dl3jabaK4faglnji4dekahadfblaj3hal4l3naagmabagyopMnq3iar4dl3taagsabagyvuLtuwuK4eubahjuM3iau4al3CafaaahFLvabud+cpbuvbbuxbyzu3gau4b3JaaahFLvbua3bau4b3MjjM3kau4l3Naf3fau4i"
def Nu:aw 0 95 Nt:=ax
def Nv:ar:=ay "pccecLfal3dm+bUa3fpWaaK4lcacbgabqbcabXcbicbcbkd+bwdhjlimaimb3afLen3gao4i"
def Nw:aw 0 96 Nv:=ax
def Nx:ar:=ay "SbbcalaL4dl3haa2q4fagl2riia4dejahafbliibiic3eakal4l3naeCm,+qaan5FaeHp,+qb5aloqL3gar4l3tafrcsat5RadouKau5Waenu,+qcau52aewu,+qd5WlwOuau5;aesu,+qe5WlwuL5RlEOu5alIuL4eul3daL4ial3LaaTuCuMau5+bkaaTuHu25alxuL3dau4i"
def Ny:aw 0 97 Nx:=ax
def Nz:ar:=ay "JbbcalaL4dl3gaagfaK4faglnhg4deiahadfblahhbfhbk3eajal4l3naed+bAbmrcnao5Gaeoq,+oV5alpOras5OaaadFbvabuaed+cqcvu5altOu4eul3daL4iab3BjhM3iau4l3CaaguCuMau5;aaguHu55alxuL3dau4i"
def NA:aw 0 98 Nz:=ax
def NB:ar:=ay "JcceafalmYbaNaK4dl3jaad+babircjak5ye+bfdd+b2bmrcn5allOo4epl3faNaM4ial3saacadbsd+crcrt3rau3wiqaiqb3hava,w4dfal3zah3yau4eul3faNaR4il3BaaguCuP3Aau4eul3faNa84iadk3Eaad+ctbuage+bfdB+bfbud+csdxwu3fauaK4iaaacaadaabbebdeaafaagaahaai"
def NC:aw 6 99 NB:=ax
def ND:ar:=ay "ibbcalaN4dlaaQad4eel3daN4ial3gvbaaaxbqfg3dah4i"
def NF:aw 0 100 ND:=ax
def NG:ar:=ay "zcceafal3faNaK4dl3jaad+babircj4ekl3faNaM4ial3naaabd+crcmn3mao3qilailb3hapaq4dl3sahrcr4esl3faNaY4ial3uaad+ctbtagagjuMd+cudxwu3fauaK4i"
def NH:aw 0 101 NG:=ax
def NI:ar:=ay "Fccec+bffalm+bhbpYdaK4dk3kaakjcbkblcbdbnd+cvcmo3jap3riiaiib3hpYd3af+bfgqar4naaabaacaadaaeaafaagbkahaaiaajaakaalaamaadfal3uahrct3tau4esl3we+bfg3af+bfeu3gaY4idk3ycddbugue+bfgd?buswu3xau4haaabaacaadaaeabbfaagaaeul3Ee+bfg3af+bfeu3ga:4ial3Fe+bfg3af+bfeu3gaK4i"
def NJ:aw 0 102 NI:=ax
def NK:ar:=ay "=ddgahaial3haNaLaK4l3raakqcbrbsabd+cvctu3qau3xipaipb3kpYd3af+bfj,wa,x4dl3zakrcu4eul3haNaLaY4ial3Be+bfjd?bud+cwbu3mpUc3afcl,C4dk3EcalbucblbuacachbyK3afbuwhbxK3afbuw4kaaabaacaadaaeaafaagaahabdiaajaadk3NaakucaubuccjeLueclqxcacufbMe+bfjd?bud+cxeAywu3Mau3YiuaiGbiHc3np+dAj3afcm,Xa,Ya,Z4taaabaacaadaaeaafaagaahaaiaajbpddfgkbpalaamaanaaoaapaaqaaraasaadl31aosuKau5+bNcambuguouK5alyOu4eulao3haNaLa,84ial3:cambuhbuKbu3hauaOaK4i"
def NL:aw 0 103 NK:=ax
def NM:ar:=ay "+a,fbkalmYb3laK4l3re+bfgd?bq3mar4dk3uadaakucaubuccgeLuacalKteywvu3tau3Eisaisb3npWa3afLm,Da,E4qaaabaacaadaaeaafaagaahaaiaajbnakaalaamaanaaoaapaadl3GansuK4eulan3lau4iadk3KaeaakucaubucNgeLuacalKCeywvu3Jau3UiuaiFb3ppWa3afLo,T3oa,U4qaaabaacaadaaeaafaagaahaaiaajbnakaalaamaanaaoaapaadl3WansuK4eulan3lau4iadk3ZeLmeLoccg3afLuwcNg3afLuw4gaaabaacaadabbeaafaadc34aakucbubue+bfgd+cycvu33au3:iuaiBb3qav3oa,:4dl3<anouK4eubaaapkvcbu3afbuw4alan3lau4i"
def NN:aw 0 104 NM:=ax
def NO:ar:=ay "yecicLjalmWb3jpWaaK4dladacvbbld+czckmrcn4eolqaa3afLip3kaM4ial3raaadqicabqbbreLfacd+cAestuKiuaivb3afLiv3kau4i"
def NP:aw 0 105 NO:=ax
def NQ:ar:=ay "UecicLjalmWb3jpWaaK4dl3oadacvbbodScnprcq4erlqaa3afLis3kaM4ial3uaaadqicabtbbu3lp+bUi3afck,v4dl3xeLfd+b0bu4euleckacvbbud0cwuiuaivb3afLiv3kau4ial3GeckeLfacd+cBdwvu3Fau3Kiuaizb3mava,K4dl3MamsuK4eulqaaam3afLiv3kau4ial3Qeckald1cvuiuaivb3afLiv3kau4i"
def NR:aw 0 106 NQ:=ax
def NS:ar:=ay "TecicLjalmWb3jpWaaK4dl3nadacvbbnd+czcmorcp4eqlqaa3afLir3kaM4ial3taaadqicabsbbt3lp+dGi3afck,u4l3xeckeLfacd+cCewvuK3wau3Biuaizb3afLfv3mau4dl3DalouKau5;cIfbuESucJfbunwu5alAuL4euleckeLfd+cDdvuKiuaivb3afLiv3kau4ial3SeLfal3afLiv3kau4i"
def NT:aw 0 107 NS:=ax
def NU:ar:=ay ">ecicLjalmWb3jpWaaK4dl3oadacvbbodScnprcq4erlqaa3afLis3kaM4iadl3ueLfd+b0bt4eulqaa3afLiu3ka44ial3xaaadqicabvbbu3lp+bUi3afck,y4l3BeckeLfacd+cEdwvu3Aau3Fiuaizb3mp+dLh3afdl,Ea,F4dfal3IamsuK3Hau4eul3Kqaaam3afLiv3kau4il3Ncalbuau5+bmcblbuguouK5alyuL3Mau4eul3Vqaa3afLiu3kaK4il3Xcalburcuau5+bIcclbuguouM5alyuL3Wau4eul36cclbuhLuKeLu3afLiu3kaK4ial3:eckedld+cFcvuiuaivb3afLiv3kau4i"
def NV:aw 0 108 NU:=ax
def NW:ar:=ay "YbbcalaL4dlaK4fagdl3iadaaTinhj4ekahadfbl3oaaad2s3fap4l3raeCq,+qfar5NaeHt,+qg5alsuL3gau4l3xaeCu,+qhau5ZaeHu,+qi5alwuL3hau4l3Dafrcuau5;adouKau5*agrcuau5+beaesu,+qj5*lwuL5;lAOu5alEuL4eul3daL4iab3madjlM3eam4l3RaaTuwuKau5+bwaaTunu,+qk5alxuL3dau4i"
def NX:aw 1 109 NW:=ax
def NY:ar:=ay "+bndcgahal3haQaL4dl3laaPakQ4ell3haQaL4iadc3naakmcanboaakqcbrbsaakuccubuaakucdubuqneabpbbtcbydbum+bDu3jau4dl3Faakucaubuabd9cvu4eulaikucbu3afbuL4dcaiaakucbubu3haya,R4ial3kaL4ddc3TabaakucaubuacabguLwud+bXdCyu4eub34aiaakuccubuabacjuMd+bNdxwu33au3=iuaiEbkEccu3afbux3kaw4b3+a,aiaakucdubuabacjuMd+bNdxwu3+a+au3+biiuaiEbkEcdu3afbux3kaw4l3+bmaiaj3hava,+bm4i"
def BW:aw 0 110 NY:=ax
def NZ:ar:=ay "DbbcalaN4dl3faaPaeQ4efl3daN4iadk3haakgcchbid+bObjaaklcdmbnd+bOboxbykp3eaq4maaabaacaadaafaagaahaaiaaeabijaakaalaadl3saakrcbsbt4eubadaakucaubuvbbuxbyzu3eau4al3Dad3dau4i"
def BX:aw 0 111 NZ:=ax
def O0:ar:=ay "rbbcalaK4dlaaPadQ4eel3daK4iadk3gaakfccgbhd+bPbijMjaaklcdmbnd+bPbojkp3daq4naaabaacaadaagaahaaiaajaaeabjfaakaalaamaai"
def BY:aw 0 112 O0:=ax
def O1:ar:=ay "Ocbeal3faQ4dl3iaaghoiK4ejl3faQ4ial3laaabaahbmKbngoLlpd+cGckq3gar4l3tafgsMtS3hau4dk3wafaghbvubuafagFbvabuabjuMd+bQcwuafagjuMFbwbuaabjuMd+bQcwuqneabHbbOcbBdbum+bDu3fau4uaaabaacaadaaeaafaagaahaaiaakaalaamaanaaoaapaajabdqabdraasaataai"
def x8:aw 0 113 O1:=ax
def O2:ar:=ay "scbeal3faL4dlaK4fagdlafaaghngi4ejahadfbl3naaafhbmnboabd9cpq4erl3faO4iab3lafjkM3gal4l3faL4i"
def O3:aw 0 114 O2:=ax
def O4:ar:=ay "HbbcalaN4dl3gaaPafQ4egl3daN4ial3ivbaaakicajbkxbyhl3eam4dlaK4fagdl3oaeaakocbpbqgrnns4etahadfbb3xadaakucbubuaehbvubud+bSbuxbyCu3eau4b3vaejuM3fau4l3Had3dau4i"
def x9:aw 0 115 O4:=ax
def O5:ar:=ay "+cxcbeal3faQ4dl3paakocbpbqgrosK4etlqcam+bGu3gau4dlaK4fagdl3xagaakucaubugunzu4euahadfbl3Gaakucaubuaghbvubuabd9cvurcu4eucafafkucaubuaakucaubuaghbvubuBbbuzbyCukHcau3afbuw4ab3EagjuM3hau4l36af3fau4ial37aaabd+cHcvu3iau4l3:Bbaaakucbubuzbiyu3jau4l3*aiahaakucbubuahhbvubuabd+bTcvuhbED3afbuv4ddcaiahhbvubukucaubuguaiahhbvubukucbubugujCuwuM4eulaiqcbbbum+bGu3fau4ial3+bEahyuM3kau4dl3+bGahouK4eub3kaK4adc3+bIaiajhbvubuaiajjuMhbwubu3laza,+bP4laN4dl3+bRaakucbubuahhbvubukucbubuguouK4eukBbaakkucaubuzbyyualkucaubuzbyyud+cIbu3nau4nbaacaadaaeaagaahaaiaajaaaaafabjkaalaamaak3+b?Bbaakkucbubuzbiyualkucbubuzbiyud+cJbu3nau4nbaacaadaaeaagaahaaiaajaaaaafabjkaalaamaalaN4l3+cianaiajtbvabuazbixu3oau4l3+cnanamzbivu3oau4l3+cqanaiajjuStbwbuaazbiyuqcbbbum+bGu3fau4i"
def BZ:aw 6 116 O5:=ax
def O6:ar:=ay "+bgcbeal3dm+b=a3faL4dlabnfMag5qabwiP5alhOj4ekl3faL4iadl3mcacblom14enlcbcboopKaq5LcccbsgtouK5alruL3fau4iadl3ycacbuouWau52cacbuouT5alxOu4eulcbcbuwuKau5+a,cbcbuouKau5+bicacbuouT5+a,lxuL5alCOuau5+bucbcbuabyuMHwu5alzuLau5+bIcccbuguouK5alyuL3fau4ial36cacbuouXau5+b0cbcbuouK5alxuLau5+b:abwuM5alwuLau5+b,cccbuguabyuMowu5alAuL3fau4i"
def O7:aw 0 117 O6:=ax
def O8:ar:=ay "Xdbgal3em+b=a3haL4l3neddabd+cKcmn3mao3qilailb3ip+dUe3afchpaq4l3teddacd+cKcst3sau3wirairb3kp+dUe3afcj,va,w4dl3yaircuau50akrcu5alwOuau58abguacguswu5alzOu4eul3haL4iadl3Lechecj2t4eulechecjd+cLcvu3hau4iadc3RabhbuKbuachbuKbunxu3hau4i"
def O9:aw 0 118 O8:=ax
def Oa:ar:=ay "Dcbeal3faQ4dk3haakgcchbid+bPbjaaklcdmbnd+bPboObdkp3gaq4maaabaacaadaafaagaahaaiaaeabijaakaalaadl3safaad+bPbsEStMuYjuMwru4eulaad+bObuabd+bQcvu3fau4ial3Daa3fau4i"
def Ob:aw 0 119 Oa:=ax
def Oc:ar:=ay "Ydbgal3haL4ddc3jaaachbijbkabachbmnboslp4eqdcaaachbrsbtabachbvubunyu3hau4iadlaK4fagdl3Bahaagunwu4euahadfbdc3Haaahhbvubuabahhbvubusyu4eudcaaahhbvubuabahhbvubunyu3hau4iab3FahjuM3iau4l3haL4i"
def Od:aw 0 120 Oc:=ax
def Oe:ar:=ay "obbcalaQ4dfagdlaagdweM4efahafbbaad+cJbg3bah4dl3jaagiojK4ekl3daQ4ial3maahblKbm3dan4i"
def Of:aw 0 121 Oe:=ax
def Og:ar:=ay "0cbeal3faN4dl3iaakhcbibjgkolK4emlaakncaobpabd+cMcqrd+cIbs3fat4ial3vaaabd+cHcvu3gau4laN4l3yagaakucbubuafFbvabuxbiAu3hau4l3Gagaakucbubuafhbvubuabd+bZcvuxbiDu3hau4l3RagaakucbubuafjuMFbwbuaxbiBud+cJbu3fau4i"
def C0:aw 0 122 Og:=ax
def Oh:ar:=ay "gbbcal3cmWaaL4leLbqaad+cNcde3daf4i"
def Oi:aw 0 123 Oh:=ax
def Oj:ar:=ay "WdcgcdhalmWb3hp+crbaK4l3paacaeeGpdtcoq3oar3tinainb3jasat4dl3vajsuK4eulqba3afdgu3iaZ4ial3zaiacd+cOcvu3yau3Ciuaiyb3lp+crb3afdk,B3ka,C4dl3EajsuK4eulqba3afdgu3iaZ4iadl3Iedkacd+cncvu3Hau3Liuaiyb3mpWa3afLl,Ka,L4l3NamsuKau5+bleLleLed+cNcvurcu5alyOu4eulqba3afdgu3iaZ4ial3Wedk3afdgu3iaK4i"
def Ol:aw 0 124 Oj:=ax
def Om:ar:=ay ";bbcal3cmYaaL4l3fe+bfbd?be3eaf4dfal3icabbhcbbbjqydabWbbicbkd2blrcm3han4egl3daL4il3qccbeLpadd+cPcqrrcsat5QcNbeLuadd+cPcvurcu5alzOuau54ccbcIubucNbcIubusxu5alBOuau5+bdccbcKubuguwuK5alzOu3pau4eol3daL4ial3ScNbeLud+b0buau5+bxcNbcKubuguadovuau5+bMcNbcJubucNbcIubuoxu5+bxlBuL5alJOu3dau4i"
def On:aw 0 125 Om:=ax
def Oo:ar:=ay "udadl3habrcg4ehlaakicbj3afbk84iabaaaakmcanboacxbbpqklcas3afbtr4"
def Oq:aw 0 126 Oo:=ax
def Ot:ar:=ay "vcab3faaabCfKag5rabHi05alhjLabGl<uemabGo6uepabuervbdnqsd+b3dekt4"
def Ou:aw 0 127 Ot:=ax
def Ov:ar:=ay "hcal2u4baa2vd+b3deOf4"
def Ow:aw 0 128 Ov:=ax
def Ox:ar:=ay "Bcadl3habggwh,+ql4eilaakjcbk3afbl84ialaaabgnueod+bbcmp4labgraK4faglnts4deuahadfblhbrtbu3gau4b3yaaafd+cQcvu4bjtM3uau4"
def Oy:aw 0 129 Ox:=ax
def Oz:ar:=ay "ibbcalaN4dlaaQad4eel3daN4ial3gvbaaaxbbfg3dah4i"
def OA:aw 0 130 Oz:=ax
def OB:ar:=ay "Scceafal3faNaL4dl3iaakhcbibjokKal5Babaakocapbqgrwns5almtL4eubaad+b;cu,+oS4adlaakucbubusuK4eul3faNaL4ial3DaakucaubuabFbvabu3hau4l3JaaaakucaubuabFbvbuakAcau3afbuw4lag3fauaO4i"
def OC:aw 0 131 OB:=ax
def OD:ar:=ay "rcbeal3faN4l3jaaaaabd+cRcjkd+b8cil3iam3oihaihb3ganao4l3qafd+b7bp3faq4i"
def OE:aw 0 132 OD:=ax
def OF:ar:=ay "GbbccLlpWa4l3haad+cSbgqabaGh3epWa3afLdi4l3kaad+cRcj0cId3afblk4laad+cRcm0cJd3afbon4dlcGdcapcGdcbrcKdvbdqstguaK4faglnuv4deuahadfblhbxvbu3gau4b3Bafaad+cTcuPkw3afbuv4bjBM3xau4l3GeLd3afLcu4i"
def OG:aw 0 133 OF:=ax
def OH:ar:=ay "ncal3faakecbfbgohK4eibaaabkjcbl3afbmk4a"
def OI:aw 0 134 OH:=ax
def OJ:ar:=ay "hbbccGlpQg4laaBbbdd+cVc,+oWed+cUbf3afGcg4i"
def OK:aw 1 135 OJ:=ax
def OL:ar:=ay "+btbbcal3cm+craaN4l3icabbhcbbbjgkuelBbcim3ean4dlaK4fagdl3paecbbbpgqnor4esahadfbl3wadcbbbuaehcvucbubud+cWbuzbbBu3eau4b3Fadcbbbuaehcvucaubud+cXbuzbbBu3eau4b3uaejtM3fau4l3OadccbbuguueuBbbuzbbzu3eau4dl3gaK4fcgdl3Vafccbbugunxu4euahcdfdl32ccbbuafhLvueLu3hpWa3afLg,54l37adcag2wzbbwu3eau4l3;adcIgbud+cYbuzbbxu3eau4l3*adcJgbud+cYbuzbbxu3eau4l3+bcadcGgcaubud+cXbuzbbyu3eau4l3+biadcGgcbubud+cXbuzbbyu3eau4b3+boadcKgbud+cXbuzbbxu3eau4b30afjuM3gau4l3+btad3dau4i"
def OM:aw 1 136 OL:=ax
def ON:ar:=ay "+bmcbeccl3dmUamUbpUc4dk3kecccacbkgld+cZcjmecdcadbpgqd+cZcor3ganas4maaabaacaadaafaagaahaaiaaeacfhjaakaalaadl3uafat5Ragrcu5alwuL4eulecc3afceu4iadlagau53afrcu5alwuL4eulecd3afceu4iadlafrcuau5*cacbugucadbugusxu5alBOu4eulqca3afceu4ial3ipUc4dlaK4fagdl3Saicacbugunxu4euahadfbdc3ZcahbucacbuaihbvubucadbuaihbvubuOadzuvbbuxbiGucah3afbuv4ccbhbucbcbuaihbvubucbdbuaihbvubuObdzuvbbuxbiGucbh3afbuv4b3XaijuM3jau4l3+bmech3afceu4i"
def OO:aw 0 137 ON:=ax
def OP:ar:=ay "eabaal3baQ4ld+c0aqzbaibm+d<c3bad4i"
def OQ:aw 0 138 OP:=ax
def OR:ar:=ay "Zcadl3gaakfcjgbhoi34ejbaad+c0akkcam3afinl4alaakocjpbqabgsuhtjrukocju3afbuw4lvbaaakuciubuxbbyuabxbbvu3fau4dfagdl3HaeguCuV4euahafbdcaaaakucaueiuaeFbuabVd+c1cwukBcau3afiuw4baeFbubVa3fau4b3Waaaekvciu3afbuw4"
def OS:aw 0 139 OR:=ax
def OT:ar:=ay "+bmbbccGlpQg4l3jaakicajeik3ep+d9k3afidl4dl3naakmcjnboop34eqbd+c0a3afidr4alvbaaaktciubuxbbsuvbb,+oXxbbvu3fau4dfagdl3BaeguLuVsu;4euahafbbaevbb1xbbvu3fau4l3IaeaakucjubuE6ud+c2buxbbAu3fau4dfcgdl3QaeguwuK4euahcdfdc3VeidaeFbuabVd+c1cwu3afidu4b3TaeFbubVa3fau4lpQg4dl3ZeidaK4feglnuP4deuahedfflav2x3hava,24b34agERuagERujuMagERujuSagERujuYahGu,+oYueuahGu<ueuahGu6ueuahueuAbGf,43afbuDAbGf,73afbuBAbGf,:3afbuzAbGfI3afbuy4bj,ZM30au4l3+bmeGf3afGcu4i"
def OU:aw 0 140 OT:=ax
def OV:ar:=ay "Acbeal3faN4l3jaavbbi3gaj4dl3labgkaK4faglnml4denahadfblhbkmbo3iap4b3rafahgruhsd+c2btxbbquahxbbvu3gau4b3zjmM3nau4l3Aaf3fau4i"
def OW:aw 0 141 OV:=ax
def OX:ar:=ay "tcbeal3faK4dl3haaggaK4faglnih4dejahadfblai3gak4l3mabaaafhbmnboKlbp4eqlaf3far4iab3tjiM3jas4l3faU4i"
def OY:aw 0 142 OX:=ax
def OZ:ar:=ay "1eal3labjkM3jal4fagdl3naiacnmn4eoahadfbl3sai3kar4fcgddc3tajabwstau5TadaaajhbvubuaaajyuMhbwubuKDczunuK5alGuL4euahcdfdc3MaaajaaajyuMaaajyuMhbwubuaaajhbvubuhbHG3afbuzhbGE3afbuw4b3KajyuM3kau4b3qaijpM3jaq4"
def P0:aw 0 143 OZ:=ax
def P1:ar:=ay "zbbcalaK4dlaaCd,+qm4eelaaGf73bag4b3da,+oO4adl3iaaCh,+qn4eilaaGj<3bak4b3macjl23dam4adl3oaaCn=4eolaaGp63baq4b3sacjrP3das4al3uacaaueu2yudujtu3dau4i"
def P2:aw 0 152 P1:=ax
def P3:ar:=ay "jbbcalaL4laaCdMae5naaHgP5alfhL3dai4i"
def P4:aw 0 153 P3:=ax
def P5:ar:=ay "gbbcala34laauhdDe93daf4i"
def P6:aw 0 154 P5:=ax
def P7:ar:=ay "+bEccecLfal3dm+cra3fpWaaK4l3pedcabd+cocop3oaq3sinainb3haras4dl3uahstK4eulqaaah3afLev3gau4iadk3yagdPbucbcbuguqacaGxJbu3jpWa3afLi,C4iaaacaadaaeaabbgbdfaagaahaadl3EcbcbuguaK4faglnuv4deuahadfblhcxvecu3lp+czf3afck,J4l3Lcbkbu4eulcIibujuMcIi3afbuv4kcGiecucakbud+c9bud+c8cxucGi3afcuv4iaaabaacaadaaeabbfaagaahaaabj,GM3Hau4dl3ZcccbuguaK4fcglnuv4deuahcdfdlhLxveLu3npWa3afLm,44l36cIibucImbujwucIi3afbuv4lcJibucJmbujwucJi3afbuv4bcGiecucGmecud+c8cwucGi3afcuv4bj,1M32au4dl3+bgcJibuwu04eulqaa3afLeu3gaM4iadl3+bkcacbu4fel3+bnouT3+bmau4eub3+bocbcbuhcuKcaubud+c:bucKi3afbuv4l3+bwoDX3+bvau4eub3+bxcccbuhLuKcKubud+c:bucKi3afbuv4aleLi3afLeu3gaK4i"
def P8:aw 0 155 P7:=ax
def P9:ar:=ay "+bqcceafal3dm+cra3faNaK4dl3medcabd+c;clmrcn4eol3faNaM4ial3qqjam+cdp3haq4l3sagcacbsd+bbcrt4lagcbcbuguueud+bbcyu4dlcbcbuguaK4faglnuv4deuahadfblhcxvecu3jp+czf3afci,H4l3Jagcbibud+c<cwu4bagcaibud+b6cwu4bjFM3Fau4l3Sagcccbuguueud+bbcyu4dlcccbuguaK4fcglnuv4deuahcdfdlhLxveLu3lpWa3afLk,34l35agcakeGud+b5cwu4lagcIkbud+b4cwu4lagcJkbud+b4cwu4lagcGkcaubud+b6cxu4lagcGkcbubud+b6cxu4bagcKkbud+b6cwu4bj,0M31au4l3+bnagd+bebuagd+bfbu3fawa,+bp4i"
def Pa:aw 0 156 P9:=ax
def Pb:ar:=ay "ibbcalaN4dlaaQad4eel3daN4ial3gvLaaaxL+bXfg3dah4i"
def Pc:aw 0 157 Pb:=ax
def Pd:ar:=ay "jcbeal3faL4laaabd+c=cfgChK3fai4i"
def Pe:aw 0 158 Pd:=ax
def Pf:ar:=ay "lcceafal3faKaL4laaabd+c>dgh,+qoiiaiib3fajak4i"
def Pg:aw 0 159 Pf:=ax
def Ph:ar:=ay "+bydbgal3haN4l3laaabt+bfkblaa4lacgn3iao4dl3qahopK4eqlaa3har4ial3taags3jat4dl3vabaiovu4eulaaacz+bf+d?vu3hau4iadl3BaiahjvuaaUuwwu4eulaaabt+bfvabuaaiahjvuabyvuY+bf+d?dzu3kau4l3Qajabt+bfvbuaaacI+bfvu4dcajabahjvut+bfxbuaaaaabt+bfvbuaaI+bfxu4laj3hau4ial35aaaiahjvut+bfxabua3bau4dl3:acaaabahjvut+bfxbuaaZzurcu4eudcaaabahjvut+bfxbuaaaaabt+bfvbuaaI+bfxu4laaabt+bfvbuaaacI+bfvu4laa3hau4ial3+boaaait+bfvbuaaacI+bfvu4laaabt+bfvbuaaahd+c+cvu4laa3hau4i"
def C1:aw 6 160 Ph:=ax
def Pj:ar:=ay "ibbcalaN4dlaaQad4eel3daN4ial3gB+bfaaaz+bf+d?fg3dah4i"
def Pk:aw 6 161 Pj:=ax
def Pl:ar:=ay "Hdbgal3haN4l3jaaabacaaglt+bfibjbkbm4dlabacoop4eqlaa3har4ial3taags3iat4dc3vaaabt+bfvabuaaaact+bfvbuaaz+bf+d?xu3bau4l3Caaaaguaht+bfxbvbua3a0+bfdu4laa3hau4i"
def Pm:aw 6 162 Pl:=ax
def Pn:ar:=ay "vccec+bffal3fpYdaL4dl3jaagiaK4faglnkj4delahadfblh+bfike+bfm3ipYd3af+bfhn4l3pcahboabopq4erle+bfh3af+bfes3gaO4iab3ujkM3lat4l3vqda3af+bfeu3gaL4i"
def Po:aw 0 163 Pn:=ax
def Pp:ar:=ay "rbbccclpUc4dlaandMae5maawgP5alfOh4eilqca3afccj4ialvbb,+qpaad+c,cklvbb,+qqaad+c,cnoqccabmbbp3afccq4i"
def Pq:aw 0 164 Pp:=ax
def Pr:ar:=ay "+bQediccjakalmWbm+dEc3jp+dAjaKaK4dl3uehgadd+dacturcu4eulqja3afciu3kaKaM4ial3zaaehgadqAdabwbhvibum+equ3mau4dl3EaleLfd+dbcvu4fagdlalkucnubuguwuK4euahafblalkucnubud+dccu,+qr4lalkucnubuhPuKcaueLu3npWa3afLm,X4l3ZalalkucnubutPubMaakzcnu3afbuw4dlaleLmd+decvu4euhbal3;aaeLmadd+b1dwvu3:au3?iuaizb3op+crb3afdn,>a,?4dl3+a+aosuK4eulqja3afciu3kaKaZ4ial3+bbalkuclubujuMkyclu3afbuw4dlcbnbuguaK4fcglnuv4deuahcdfdlhcxvecu3rp+czf3afcq,+bn4b3+bpalecqd+dfcvu4bjAM3+blau4l3+btccnbuguaK4feglnuv4deuahedfflhLxveLu3tpWa3afLs,+by4b3+bAaleLsd+dbcvu4bjAM3+bwau4dk3+bEalkucjubualkuckubuqjcabybbualkuclubu3afciy3kauaK4qaaabaacaadaaeaafaagaahaaiaajaakaalaamaanabmoaapaai"
def Ps:aw 6 165 Pr:=ax
def Pt:ar:=ay "HcceafalmYbaNaK4dl3kaad+babjrckal5Ae+bfdd+b2bnrco5almOp4eql3faNaM4ial3taacadbtd+crcsu3sau3xirairb3hava,x4dl3zahrcu4eul3faNaY4ial3Baad+ctbu3jau4l3Daiage+bfdh+bfwv3af+bfuv4lai3fauaK4i"
def Pu:aw 0 166 Pt:=ax
def Pv:ar:=ay "rcbeal3dmda3faL4lbcCfMag5rbcHiP5alhjLak5zabJ+dgabcd+brcmnrco5allpL3faq4i"
def Pw:aw 0 167 Pv:=ax
def Px:ar:=ay "+bTecicLjal3fm+dGamWb3jpWaaK4dl3peLfd+b0bo4epleceacqfcabrbbOeLfeLfd+dheqstuiuaivb3afLiv3kau4ial3AeceeLfd+dicvu3zau3Diuaiybizc3lp+czf3afck,Ca,Da,E4dfal36amsuK35au4eul38qaaam3afLiv3kau4il3;cakbuacdWcvuau5+b<cbkbu5alwuL3:au4eul3+baqaa3afLiu3kaP4il3+bccakbuacdWcvu3+bbau4eub3+bgcbk3afbuO4l3Geceaccakbuadd+djeyxvu3oau4dc3NalanecealanhLvueLuacadjuMd+cAeBxwu3Mau3YiuaiGbhLGF3afLuw3nav4l31amsuK4eulqaaam3afLiv3kau4iadc3+bieceeckalhLuKeLualhLuMeLud+dheBAxu3+bhau3+briuaiEb3afLfv3nau4ddc3+btamouKau5+cRalhLuKcJubualhLuMcJubuObdyucJfbuESuMuYjuMwzu5alJuL4euleceeLfadd+cDdwvuiuaivb3afLiv3kau4ial3+bSeLfam3afLiv3kau4i"
def Py:aw 0 168 Px:=ax
def Pz:ar:=ay "+bddcgahal3em+bUamWb3haNaK4l3qecdeLed+dkcpq3par3tioaiob3jp+crb3afdisat4dl3vajsuK4eulaj3haNa,w4iadl3ycaibuouT4eul3Cedid+dmbuacd+dldvu*3Bau3Giuaizb3lava,G4dl3Ial4eul3haNaP4iadk3Jedid+dmbuakacBbbud+dodxwuecdJ0buad+dncwuiuaivb3hava,S4naaacaadaagaahaabbebgeaafabgiaajaakaalaamaaial3Uediacd+dpcvu3nau4dc3YecdccibuamhLvueLuacd+cBdAvu3Xau36iuaiDb3oav3ka,64dl38ajsuK4eulaj3haNa,94iadk3;ccibuamamjuMand+dreyxvuecdJ+bzbuad+dqcwuiuaivb3hava,+bc4oaaabaacaadaaeaafaahaaiaagabhjaakaalaamaanaai"
def PA:aw 1 169 Pz:=ax
def PC:ar:=ay "+blecicLjal3fm+dGamWb3jpWaaK4dl3peLfd+b0bo4epleLf3afLiq3ka44ial3teceeLfd+dicst3sau3wirairbirc3lp+czf3afck,va,wa,x4dfal3ZamsuK3Yau4eul31qaaam3afLiv3kau4il34cakbuacdWcvuau5+bYcbkburcu5alxuL33au4eul3=qaa3afLiu3ka44il3?cakbuacdWcvu3>au4eub3+bacbk3afbuL4l3zeceaccakbuadd+djeyxvu3oau4dc3GalanecealanhLvueLuacadjuMd+cCeBxwu3Fau3RiuaiGbhLGF3afLuw3nav4l3UamsuK4eulqaaam3afLiv3kau4iadc3+bbeceeckalhLuKeLualhLuMeLud+dheBAxuiuaivb3afLiv3kau4i"
def PD:aw 0 170 PC:=ax
def PE:ar:=ay "AdcgcLhal3em+dGamWb3hpWaaK4l3mecdeLed+dsclm3lan3pikaikb3jaoap4dl3rajsqK4erlqaaaj3afLgs3iat4ial3vecdaiacd+dtdwvuiuaivb3afLgv3iau4i"
def PF:aw 0 171 PE:=ax
def PG:ar:=ay "+bgdcgcdhal3em+bUamWb3hp+dLhaK4l3recdeLed+dkcqr3qas3uipaipb3jp+crb3afdita,u4dl3wajsuK4eulqhaaj3afdgv3iau4ial3Aedid+dubu3lp+dLh3afdk,A4dl3Ccakbu4eul3Fcbkbuacd+dldvu*3Eau3Jiuaizb3mava,J4dl3Lamrcu4eulqha3afdgu3ia44ial3OcbkbualaljuMd+dvdxwucbk3afbuv4ledk3afdgu3iaK4ial3Wediacd+dpcvu3oau4dk30ecdcckbuanhLvueLuacd+cEdAvu3Zau38iuaiDb3pp+dLh3afdo,73ka,84oaaabaacaadaaeaafaagaahblaiaajaakaalaamaanaadl3:ajsuK4eulqhaaj3afdgv3iau4ial3?ecdcckbuanedod+dweywvu3>au3+bciuaiBbcck3afbuw3kav4l3+bfedkaj3afdgv3iau4i"
def PH:aw 1 172 PG:=ax
def PI:ar:=ay "uccecLfal3dm+bUam+dLbpWaaK4dlcadbg4ehlecccbdbjd0cikilailb3afLem3gan4ial3peccccdbpd+bzcoqirairb3afLes3gat4i"
def PJ:aw 0 173 PI:=ax
def PK:ar:=ay "1cbeal3faN4laN4dlaK4fagdl3kagaagknjl4emahadfbl3iaN4laK4dfcgddc3qaiafgqnpras5Pafaihbvubuaaaghbvubuabd+bXdzvu5altuL4euahcfdlahafaihbvubuvbbuxbyzu3iau4b3NaijuM3jau4l3Pahaaaghbvubuvbbuxbyzu3iau4b3WahafaiFbvbuaxbyxu3gau4b3oagjnM3hao4l31af3fau4i"
def PL:aw 0 174 PK:=ax
def PM:ar:=ay "Dcbeal3faK4laK4dlaK4fagdlagaakicbjbkglnhm4enahadfbl3rabaakrcbsbtaghbvubud+dybud+dxcqurcu4eubag3gau4ab3pagjoM3hap4l3Daf3fau4i"
def PN:aw 0 175 PM:=ax
def PO:ar:=ay "NbbcalaN4laN4laK4l3iaaghd+dzbi3gaj4dlaK4fagdl3lagafglnkm4enahadfbl3radvbaaaaeaeafaghbvubujyuFbsbtbuxbyruqcbabum+bGuvbbuxbiqu3eau4b3Haeafaghbvubujyu3fau4b3pagjoM3hap4l3Nad3dau4i"
def PQ:aw 0 176 PO:=ax
def PR:ar:=ay "NbbcalaN4laN4laK4l3iaaghd+dzbi3gaj4dlaK4fagdl3lagafglnkm4enahadfbl3radvbaaaaeaeafaghbvubujyuFbsbtbuxbiruqcbbbum+bGuvbbuxbiqu3eau4b3Haeafaghbvubujyu3fau4b3pagjoM3hap4l3Nad3dau4i"
def PT:aw 0 177 PR:=ax
def PU:ar:=ay "Lcceccfal3dm+b=a3fp+dUeaL4dl3iedcabgid+bUchjrck4ellqea3afcem3gaL4iadl3ocacbnooX4epdcabFbqbMacccbsd+dAcrtiuaivb3afcev3gau4ial3yabcbcbuhbwubuuhuju93hau4dl3FcacbuouT4eubagy,+qsu3hau4al3Kagqebbbu3afceu3gaO4i"
def PV:aw 0 178 PU:=ax
def PW:ar:=ay "ucbeal3dm+dUam+dUbaL4dlcacbfcadbhsgi4ejlcacbkcadbmnln3fao4ial3qcbcbpcbdbrnqs3fat4i"
def PX:aw 1 179 PW:=ax
def PY:ar:=ay "Lcbeal3faN4laN4laK4dfagdlagaaginhjak5zaaaghbmnboabd+dxcpq5allrL4esahafblafaaaghbvubuvbbuxbytu3gau4b3BagjuM3hau4l3Dafabvbbuxbywu3gau4l3HafaaagFbvbuaxbyxu3fau4i"
def PZ:aw 0 180 PY:=ax
def Q0:ar:=ay "Mcbeal3dmWamWbaL4lcaceGfcadeGh2zaj5xcIcblcIdbnomo5alkpLaq5LcJcbscJdbuotu5alruLau5ZcGcecucGdecud+dBcwu5alzuLau5=cKcbucKdbudWcwu5alzuL3fau4i"
def Q1:aw 0 181 Q0:=ax
def Q2:ar:=ay "+bdccecdfal3fp+crbaK4l3maad+bgbl3ham4l3oagd+bhbnqbbabo3ip+crb3afdhp4dl3ragd+bhbqudraK4faglnts4deuahadfblagd+dCbu3jau4k3ycbhbuagabd+cTcvuaiqfcabvbbuBcbuzcGAucbh3afbuv4laaabaacaadaafaaeabbgaahaaiaajaakaabjtM3uau4dl3Jagd+bhbuuduaK4fcglnuv4deuahcdfdkcchbuagabd+dDcvuBLbuzL+bXyucch3afbuv4jaaabaacaadaaeabbfaagaahaaiaabjDM3Mau4dl3Xagd+bjbusuKau5+bHedhabd+c;cvurcu5alyOu4eulqba3afdeu3gaZ4iadl38edhabd+cocvu37au3;iuaiyb3kava,;4l3=aksuKau5+b;ajaad+bkcvurcu5alyOu4eulqba3afdeu3gaZ4ial3+bdedh3afdeu3gaK4i"
def Q3:aw 1 182 Q2:=ax
def Q4:ar:=ay "Xcbeal3dmWa3faL4dfal3heLcd+b0bg3gah4efl3faO4il3kcJcbjnkMal5AcJcbnwo05almOpaq5KcIcbsntK5alrOuau5UcIcbucJcbuwwu5alzOu3jau4eil3faL4il3FcIcbuouK3Eau4eul3IcGccaubuguouKau5+bicGccbubuguouK5alzuL3fau4ial3UcGcecuabd+dEcvu3fau4i"
def Q5:aw 0 183 Q4:=ax
def Q6:ar:=ay "tcal3habuhgDh93fai4la;4fagdl3kafCjK4ekahadfbb3oaaaeafGopueqd+bbcnr4b3mafylP3gam4"
def Q7:aw 0 184 Q6:=ax
def Q8:ar:=ay "Mcbeal3faK4l3kaad+b8cjY3jak3miiaiib3galam4dl3oagrcn4eol3faK4iadc3qafhbpKbqudrRs<afhbuMbuuduRu6StuafhbuSbuuduSyu3iau4dl3GahabOadu0wwu4eulaad+b;cu84l3faK4ial3Mah3fau4i"
def Q9:aw 0 185 Q8:=ax
def Qa:ar:=ay "pbbccGlpQg4lpQg4l3iaad+b8ch,+oO3hai3kigaigb3fajak4l3m2Aae2B4leGd3afGco4i"
def Qb:aw 0 186 Qa:=ax
def Qc:ar:=ay "Lcbeal3faN4l3jaad+bhbiudj3gak4dl3mafabwlm4enbaad+b;co84al3haN4dl3rafaK4faglnrq4desahadfblaad+dFbt3iau4l3waakucbubuouK4eubagahvbbuxbiwu3hau4ab3FjrM3sau4dl3GaakucbubusuK4eul3faN4ial3Lag3fau4i"
def Qd:aw 0 187 Qc:=ax
def Qe:ar:=ay "gbbccGlpQg4laad+dHad+dGcde3afGcf4i"
def Qf:aw 1 188 Qe:=ax
def Qg:ar:=ay "Tcbeal3faN4l3kaaBbbj3gak4dlaK4fagdl3magabgmnln4eoahadfbl3sabaghbrsbtguuhu3iau4dlaK4fcgdl3yainuP4euahcdfdb3CafahaiEPuy;uuhuGyuLu=ueuBbbuzbbDu3gau4b3AaijuM3jau4b3Nafabaghbvubuzbbyu3gau4b3qagjpM3haq4l3Taf3fau4i"
def Qh:aw 1 189 Qg:=ax
def Qi:ar:=ay "gbbcalaN4dlaa4edlBbbW3dae4ial3gBbb13daf4i"
def Qj:aw 1 190 Qi:=ax
def Qk:ar:=ay "xbbcalaN4l3gaagfuegBbbh3eai4dlaK4fagdl3kaeaagknjl4emahadfbb3qadaaaehbqrbsd+dIbtzbbpu3eau4b3oaejnM3fao4l3xad3dau4i"
def Ql:aw 1 191 Qk:=ax
def Qm:ar:=ay "pbbcalaN4laaMd,+qtLe>uefaaMh>Li>uejaaLl>uemBbdgkn3dao4i"
def Qn:aw 1 192 Qm:=ax
def Qo:ar:=ay "Qcbeal3dmUa3faL4dl3habngMah5sabwjP5aliOkal5Acacbngoabspq5almOras5Ocbcbuguabsvu5altOu4eul3faL4iadlaK4fagdl3Bafabnvu4euahadfbdc3Gcacbuafhbvubucbcbuafhbvubuwzu4eul3faL4iab3EafjuM3gau4l3faO4i"
def Qp:aw 0 193 Qo:=ax
def Qq:ar:=ay "cabacil3bp+d9k4lqkiab,+oZbb,+o0cb,+o1db,+o2eb,+o3fb,+o4gb,+o5hb,+o63afiab4i"
def Qr:aw 0 194 Qq:=ax
def Qs:ar:=ay "+bYcbecil3dm+d9a3fp+d9k4dk3pabd+dJbod+dKaeic3gp+e0lp+e0lp+d9k3af<fp3af<gq3afihr4kaaadaabdefgbdcdefgbdecfgafbgagaahabdiabdjaadl3taK4faglnsV4detahadfblas3jau4dk3wAbihRbud+dLcu,+quAbihRbud+dLcu,+qvDxuAbihRbud+dLcu,+qwDxu3kau4maaabaadaaeaahaaiaacaceifabigaajaakaalaadc3HAbih5buajjvuAbihRbuAbih?buNwuAbihRburbuAbih:buNwuDAujGuaiAb<gubujxuaiAb<fubujxu3lau4dk36AbihKbud+dLcu,+qxAbihKbud+dLcu,+qyDxuAbihKbud+dLcu,+qzDxu3mau4maaabaadaaeaahaaiaacaceifabigaajaakaalaal3+a+alAbihKbuAbihMbuNwuAbihKbuAbihSbuNwuDzuAbihMbuAbihSbuNwuDzuj,*u3nau4b3+brakamjvuAbihKbuAbihMbuAbihSbuAbihYbuakjvuAbihRbuAbih?buAbih:buqkiab,+bsbbIcbGdbEebAfbygbwhbu3afihu4bjsM3tau4dl3+bMaK4fcglnuP4deuahcdfdlav3oau4c3+bPanAbihubuanAbicubujxuAbihA3afbuv4bjEM3+bMau4l3+bYeih3afieu4i"
def Qt:aw 0 195 Qs:=ax
def Qu:ar:=ay "rbbcalaN4laN4dla;4fagdlaeCfK4egahadfbb3kadaaaeGkluemvbbnxbbjo3eap4b3iaeyhP3fai4l3rad3daq4i"
def Qv:aw 0 196 Qu:=ax
def Qw:ar:=ay "+brcbeccl3dmUamUbpUc4dk3kecccacbkgld+dEcjmecdcadbpgqd+dEcor3ganas4maaabaacaadaafaagaahaaiaaeacfhjaakaalaadfal3vafau5Tagrcu5alwuL3uau4etl3Aeccd+dNbu3afceu4il3Dagau59afrcu5alwuL3Cau4eul3Iecdd+dNbu3afceu4il3Lafrcuau5+bhcacbugucadbugusxu5alBOu3Kau4eul3Wqca3afceu4ialeccd+dNbu3ipUc3afch,X4dl3ZcahbuguaK4fbglnuv4deuahbdfclav3jau4k35cahbuaicbhbuaicacbuaihbvubucadbuaihbvubuOadzucbcbuaihbvubucbdbuaihbvubuObdzuhb,5,63afbuGhb,8,93afbuw4GaaabaacaadaaeaafaagaahaaiaajaakaalaamaanaaoaapaaqaaraasaataauaavaawaaxaayaazaaAaaBaaCaaDabeEaaFaabj,1M32au4l3+brech3afceu4i"
def Qx:aw 1 202 Qw:=ax
def Qy:ar:=ay "rbbccclpUc4dlaagdneMaf5oaaghwiP5algOj4eklqca3afccl4ialaad+c:bmaad+c:boqccabnbbp3afccq4i"
def Qz:aw 0 203 Qy:=ax
def QA:ar:=ay "ibbcalaN4dlaaQad4eel3daN4ial3gBbaaazbifg3dah4i"
def QB:aw 1 204 QA:=ax
def QC:ar:=ay "+bucbeal3dm+cramdbaL4dlbdnfMag5qbdwiP5alhOjak5ycbcbmJ+dPabdd+dOcnorcp5allOqar5McccbtJ+dRabdd+dQcvurcu5alsOu4eul3faL4iadl3Acacbu4fal3DouW3Cau4eul3EcbcbuguouMau5+a+cccbuguouS5alyuLau5+bkcccbud+dQcu,+qA5alxuL3fau4il3Uo,AT3Tau4eul3VcbcbuguCuMau5+bGcbcbuguHuR5alyuLau5+bScccbuguouK5alyuLau5+b4cbcbud+dOcu,+qB5alxuL3fau4il3+a+o,AX3*au4eul3+a,cbcbuguouKau5+chcccbuguCuS5alyuLau5+ctcccbuguHuR5alyuLau5+cFcccbuJ+dUabdd+dQcvu5alyuL3fau4ial3faL4i"
def QD:aw 0 205 QC:=ax
def QE:ar:=ay "jcadl3fab4eelaad+bbcfW4iabaad+bbch14"
def QF:aw 0 206 QE:=ax
def QG:ar:=ay "tcbeal3faK4dl3haaggaK4faglnih4dejahadfblai3gak4l3mabaaafhbmnboolp4eqlaf3far4iab3tjiM3jas4l3faU4i"
def QH:aw 0 207 QG:=ax
def QI:ar:=ay "odcgahal3gm+eicaKaL4laaabJ+dWabfd+dVdijkilailb3haman4i"
def QJ:aw 0 208 QI:=ax
def QK:ar:=ay "fbbcal3cmYaa,+qC4lcabbd3dae4i"
def QL:aw 0 209 QK:=ax
def QM:ar:=ay "Wcbeal3faN4dl3kabnjK4ekbWj,+oP3aXl4al3oaagnuhoabuhqd+dZcpr3nas3uimaimb3gata,u4dl3wafwu3au5Wagwu,+qD5alwOu4eubWj,+qE3aXu4alagudu1biquu3iau4l3GahaaIbvu3jau4dfagdl3Jaiahgunwu4euahafbcaiahaitbvbuaaahaitbvabuaIbxujBu3jau4l3Wah3fau4i"
def QN:aw 6 212 QM:=ax
def QO:ar:=ay "6cbeal3dm+dEa3faL4dfal3habngMah5sabwjP5aliOkal5Acacecnabd+dEcoprcq5almOr3gas4efl3faL4il3vcgcbu3uau4etl3xcfcbuouKau51ccccaubuou15alyuLau5=ccccbubuouK5alyuLau5+bgcccccubuguouK5alzuL3fau4ial3Tccceduabd+d0cvuau5+bCcfcbuCuU5alxuLau5+bMcfcbuHu,+qF5alxuL3fau4i"
def QP:aw 6 213 QO:=ax
def QQ:ar:=ay "+bCcalmWb4ddc3iaakhcbicgjbkal5BcIdbnwoK5almpLaq5LaakscbtcauecucGdecud+d1cwu5alruL4eucaakuckubucIdbujwukAcku3afbuw4addcaakucbuehueLdd+d2cvurcu4euialaakucmubujuMkycmu3afbuw4dceLdaakucmubuqrcaLyObu3fp+eur3afPe,34ddk36aakucbucauecucGdecud+d3cwu35au3>iuaiDb3gpUc3afcf,=a,>4oaaabaacaadaaeaafaagaahblaiaajaakaalaamaanaal3*agau5+b*aakucbucguburcu5alAuL4euc3+bhaakucbuccueduecfd+d4cvu3+bgau3+boiuaiCbiDccLe3afcuxcNe3afbux4acaaaakucnubuePeBPbuzP+ckwukBcnu3afbuw4"
def QR:aw 6 214 QQ:=ax
def QS:ar:=ay "Fcbeal3dm+euam+eubaK4dl3hcLcecgcLdecid+d6chj3gak4fal3nafsmK3man4ell3paf3fao4il3rcNcbqcNdbssrt3qau4epdl3wcNcbucNdbunwu4eul3faU4ial3faM4ial3BcOcbucOdbuywu3fau4i"
def QT:aw 6 216 QS:=ax
def QU:ar:=ay ":cbealmWbaL4dc3haakgcbhcgibjrckal5BaakncbocfpbqCrK5almsLat5Raakucjubuguaakucbucfubuozu5alFuL3gau4dc3Iafau5+baaakucbucfubuouKau5+bnaakucbuehueLdaakucjubuaakucjubuguyuMhbAubud+d7dHGu5+bal,POu5al,IuL3fau4i"
def QV:aw 6 217 QU:=ax
def QW:ar:=ay "0calm+czb4ddccbdbercfag5qaakicbjcakeclcadbnd+d8cmorcp5alhOq4eriadlaakscbtcgubu4eulaakuckubujuMkycku3afbuw4iakaaaakucbuccueduaakucjubucadbuBbbuzbyxud+d:cCuaakucbuehud+d9cyuk,Ecju3afbuw4xaaabaacaadaaeaafaagaahaaiaajaakaalaapaaqaaraasaamaanacfsoabstaauaavaawaa"
def QX:aw 6 218 QW:=ax
def QY:ar:=ay "ibbdal3eaL4laagebbsfg3eah4i"
def C2:aw 0 219 QY:=ax
def QZ:ar:=ay "xecicLjal3fm+dGam+czbmWcmWdpWaaK4lcaebkecfvcbmeLgeLhvLcopqbdabWbbncbqcbebsd+bwdlrtiuaivb3afLiv3kau4i"
def R0:aw 0 220 QZ:=ax
def R1:ar:=ay "Gcdeccfagal3dm+dGamWbp+czfaNaK4l3lcacbkeLdcbcbnd+b1dlmo3kap3rijaijb3ip+crb3afdhqar4dl3taissKat5QcahbusuW5alxOu4eulqfa3afceu3gaNaZ4iadk3BcbhbuhcuKecucchbu3afcew3gauaK4jaaabaacaadaaeaafaagabfhaaiaai"
def R2:aw 0 221 R1:=ax
def R3:ar:=ay "qebial3fm+dGa3jaK4dleceadd+d;cjkabacKlcmnnoK4epl3jaK4ial3jaM4i"
def R4:aw 0 222 R3:=ax
def R5:ar:=ay "Fccecdfal3dm+bUamWbp+crbaK4l3kcacbjeLdcbcbmd+b1dkln3jao3qiiaiib3hp+crb3afdgpaq4dl3sahsrKas5OcagbusuTau5XcagbusuX5OlxuL5altOu4eulqba3afdeu3gaZ4ial3Fedg3afdeu3gaK4i"
def R6:aw 0 223 R5:=ax
def R7:ar:=ay "Xdcgahal3haKaL4l3naagm3jan4l3pai3kaKao4dfagdl3qajaknpq4erahafblajakjstuhuGu,+o7udu3mau4l3zacaaalhbvubuabKzcvunuK4eubaljuM3kau4b3Jal3lau4l3Kajajainvuau5+bkacaaajhbvubuabKzcvuouK5alCuL3haHa,W4i"
def R8:aw 0 224 R7:=ax
def R9:ar:=ay "ubbcal3cm+craaN4laN4dl3hcbbbgghaK4faglnji4dekahadfblhchjecl3gp+czf3afcfm4b3oadcafboBbbpzbynq3ear4b3tjjM3kas4l3uad3dat4i"
def Ra:aw 1 225 R9:=ax
def Rb:ar:=ay "pcceafal3faNaK4laaaaghdZbidYcgjabdXcklimaimb3fanao4i"
def Rc:aw 0 226 Rb:=ax
def Re:ar:=ay "+bydbgal3haN4l3laaabtbkblaa4lacgn3iao4dl3qahopK4eqlaa3har4ial3taags3jat4dl3vabaiovu4eulaaaczbyvu3hau4iadl3BaiahjvuaaUuwwu4eulaaabtbvabuaaiahjvuabyvuYbymzu3kau4l3QajabtbvbuaaacIbvu4dcajabahjvutbxbuaaaaabtbvbuaaIbxu4laj3hau4ial35aaaiahjvutbxabua3bau4dl3:acaaabahjvutbxbuaaZzurcu4eudcaaabahjvutbxbuaaaaabtbvbuaaIbxu4laaabtbvbuaaacIbvu4laa3hau4ial3+boaaaitbvbuaaacIbvu4laaabtbvbuaaahd+d=cvu4laa3hau4i"
def Rf:aw 6 227 Re:=ax
def Rg:ar:=ay "Bcbeal3dm+cra3faK4laK4dfagdlafjgMcccbigjnhkal5BabcccboafjqMhLprcKsbtd+bvcnurcu5almuL4euahafbbafjuM3gau4l3Baf3fau4i"
def Rh:aw 0 228 Rg:=ax
def Ri:ar:=ay "pcceafal3faNaK4laaaaghdZbid+bycgjabd+bxcklimaimb3fanao4i"
def Rj:aw 0 229 Ri:=ax
def Rk:ar:=ay "+dlebial3jaN4l3qaaabactLpbqbra4dlabacotu4eulaaabadd+d>dwvu3jau4iadl3Bacaaguowu4eulaaabtLvabuaadzL+bXvu3kau4dl3Kajguaagunwu4eubaaajgutLwbuaa3a0Lau4alaj3jau4iadc3UaaabtLvabuaguadgujwuaaactLvbuaagujyu3lau4dl36akaaUuwwu4eulaaabtLvabuaakabyvuYL+bXaxu3mau4l3+a+alabtLvbuaaadILvu4dcalabadgujwutLybuaaaaactLvbuaaILxu4lal3jau4ial3+boaaaktLvabua3nau4dl3+brabadgujwuacHvu4eulamabtLvbuaaadILvu4dcamabadgujwutLybuaaaaactLvbuaaILxu4laaaktLvbuaa3a0Lau4lam3jau4iadl3+bQamabadgujwutLybuaaadZvurcu4eudcamabadgujwutLybuaaaaactLvbuaaILxu4lamabtLvbuaaadILvu4lam3jau4ial3+b?adguacabyvuyxu3oau4dl3+ccamabactLwbvbuaadZvurcu4eudcamabactLwbvbuaadantLvbuaaILxu4dcamaagutLwbuaaadantLvabuaILxu4lamabtLvbuaaand+d*cvu4lam3jau4iadl3+cFamaagutLwbuaaadZvurcu4eudcamaagutLwbuaaadantLvabuaILxu4dcamabactLwbvbuaadantLvbuaaILxu4lamabtLvbuaaand+d*cvu4lam3jau4ial3+c8adaaactLvbuaad+d+cxu3pau4l3+c=amabtLvbuaaadILvu4dcamabadgujwutLybuaaamabaojvutLxbuaaILzu4lam3jau4i"
def C3:aw 6 230 Rk:=ax
def Rl:ar:=ay "2cceafal3dm+dGamWbaNaK4dl3pcIdboopK4eql3faNaK4ial3tecceLdd+dicst3sau3wirairbirc3hp+czf3afcg,va,wa,x4dl3zaisuK4eulai3faNa,A4ial3kaN4dl3Ccbgbu4eubajcagbuBbbuzbyxu3kau4adl3JahguaK4faglnuv4deuahadfblhLxveLu3mpWa3afLl,N4l3QecceLld+dscvu3Pau3Tiuaiyb3nava,T4dl3VansuK4eulan3faNa,W4iab3Yajamzbyvu3kau4b31j,KM3Lau4l32aj3fauaK4i"
def Rm:aw 6 231 Rl:=ax
def Rn:ar:=ay ">dcgcLhal3em+dGa3hpWaaK4dl3nabgmonK4eolqaa3afLgp3iaK4ial3rabdTbq3car4l3tabecdacd+d;ctudUcsu4labguMuS3jau4dk3CecdabaitbvabuaacjuMd+dtdzwu3Bau3JiuaiCb3kpWa3afLj,Ia,J4naaabaacaadaaeaafaagbkahaaiaajaakaalaamaadl3LaksuK4eulqaaak3afLgv3iau4iadk3QecdabaijuMtbwbuaaacjuMd+dtdAwu3Pau3YiuaiDb3mpWa3afLl,X3la,Y4oaaabaacaadaaeaafaagaahblaiaajaakaalaamaanaadl30aksuK4eulqaaak3afLgv3iau4iadc34ecdabaihbvubuqfcabubbOeLjeLld+dheBwvuiuaivb3afLgv3iau4i"
def C4:aw 6 232 Rn:=ax
def Ro:ar:=ay "lbbccdl3cm+crap+dLh4dkcabbdoeTedbd+dmbgccbbiqhdabfbbhcbj3afdck4jaaabaacaadaafaagaaeacbghaaiaai"
def Rp:aw 0 233 Ro:=ax
def Rq:ar:=ay "Hdbgal3haN4l3jaaabacaagltbibjbkbm4dlabacoop4eqlaa3har4ial3taags3iat4dc3vaaabtbvabuaaaactbvbuaazbyxu3bau4l3Caaaaguahtbxbvbua3a0bmu4laa3hau4i"
def Rr:aw 6 234 Rq:=ax
def Rs:ar:=ay "+bfeciajal3fm+bUa3im+dLdaNaK4dl3uedhd+d,btrcu4eul3yeceedhd+cFcvu3xau3Biuaiyb3lpWa3afLk,Aa,B4l3DabaceLkhLwv3afLuv4labal3java,H4ial3JacyuMObduK3nau4l3Mam3oau4dl3NacouK4eub3oaM4adk3QeceabanhLvueLud+dkcyu3Pau3WiuaiBb3pp+crb3afdo,Va,W4maaabaacaadaaeaafbjagaahaaiaajaakaalaadl3YapsuK4eulap3jaNa,Z4iadk31edod+dubuedh3rp+dLhp+dLh3afdq,13afdr,24haaacaabcdebcdbeaeaafabcgaadl34acouK4eukedhedod+dubu3afdqw3afdru4faaabaacabadaaeaaal3:eceedqedrd+eadwvu39au3>iuaizb3tav3qa,>4dl3*apsuK4eulap3jaNa,+a+4ial3+baabamamjuSasd+dreyxvu3jauaK4i"
def Rt:aw 1 235 Rs:=ax
def Ru:ar:=ay "kcbeal3faL4laad+ecbfabd+ecbhd+ebcgi3faj4i"
def Rv:aw 0 236 Ru:=ax
def Rw:ar:=ay "hbbcalaN4laad+bSbdhbeKbf3dag4i"
def Rx:aw 0 237 Rw:=ax
def Ry:ar:=ay "JbbcalaN4l3iaaMhR3eai4dl3kadERjaankl4embadjnM3eao4alaN4dlaK4fagdl3qafadnpq4erahadfbl3vaaadMvu3hau4dl3yafaaadLvunxu4eubagjuM3hau4ab3Faeagvbbuxbiwu3fau4b3tafjsM3gat4l3Jae3dau4i"
def Rz:aw 0 238 Ry:=ax
def RA:ar:=ay "rcbeal3dmUamUbaL4lcacbfcadbhdWcgiaj5xcbcblcbdbndWcmo5alkpL3faq4i"
def RB:aw 0 240 RA:=ax
def RC:ar:=ay "mbbcalaL4l3faad+bhbe3eaf4dl3hadwgW4ehbaad+b;ciZ4aladokW3dal4i"
def RD:aw 0 241 RC:=ax
def RE:ar:=ay "EcbecLl3fpWa4l3haad+cSbgqabaGh3gpWa3afLfi4l3kaad+cRcj0cIf3afblk4laad+cRcm0cJf3afbon4laaabd+cTcpqcGfcas3afbtr4laaabd+cTcvucGfcbu3afbuw4laaabd+cTcvucKf3afbuv4leLf3afLeu4i"
def RF:aw 0 242 RE:=ax
def RG:ar:=ay "Ccbeal3dmUa3faL4dlabnfMag5qabwiP5alhOjak5ycacbmgnabsop5allOqar5Mcbcbtguabsvu5alsOu4eul3faL4ial3AabJ+egabcd+efcvu3fau4i"
def RH:aw 0 243 RG:=ax
def RI:ar:=ay "EbbcalaK4l3kaad+b8cjP3jak3miiaiib3ealam4dl3oaercn4eol3daK4ial3ga34dl3qadgpaK4faglnrq4desahadfblhbprbt3iau4b3wafRu6ahuhuSwu3gau4b3BjrM3sau4l3CafDu9udu3dau4i"
def RJ:aw 0 244 RI:=ax
def RK:ar:=ay "+bhcbecGl3fpQg4l3nBbaaazbbmnBbb,+oXzbbop3gaq4dfagdl3safgrLsVst;4euahafbbafBbb1zbbvu3gau4l3zaaguuhuE6u3hau4dlaK4fcgdl3DahnuP4euahcdfdb3HafagahEPuy;uuhuGyuLu=ueuBbbuzbbDu3gau4b3FahjuM3iau4l3SBbi,+oZ,+o0,+o1,+o2,+o3,+o4,+o5,+o63jau4dlaK4fegdl3Tajafgunwu4euahedffb3ZaiafajajjuVFbxbwbuabd+ehdAvu3jau4b3XajjuV3kau4lpQg4dlaK4fggdl37alnu,+oO4euahgdfhb3;alaialMuRhbwubualLuREPuy,+qGuuhuGzuLu,+o8ueuAbGkH3afbuv4b39aljuM3mau4l3+bheGk3afGeu4i"
def RL:aw 1 245 RK:=ax
def RM:ar:=ay "cabaal3baN4lBb<,+o9,+o:,+o;,+o<,+o=,+o>,+o?,+o*,+o+,+o,,+pa,+pb,+pc,+pd,+pe,+pf,+pg,+ph,+pi,+pj,+pk,+pl,+pm,+pn,+po,+pp,+pq,+pr,+ps,+pt,+pu,+pv,+pw,+px,+py,+pz,+pA,+pB,+pC,+pD,+pE,+pF,+pG,+pH,+pI,+pJ,+pK,+pL,+pM,+pN,+pO,+pP,+pQ,+pR,+pS,+pT,+pU,+pV,+pW,+pX,+pY,+pZ,+p0,+p13bab4i"
def RN:aw 1 246 RM:=ax
def RO:ar:=ay "xbbcalaN4l3haauhgjh93eai4l3k1bbBPP3faj4dla54fagdl3lafCkK4elahadfbl3paeafadLq=uerhbop3afbts4badMu=3eau4b3nafymM3gan4l3xae3dau4i"
def RP:aw 1 247 RO:=ax
def RQ:ar:=ay "+bwbbcc<lp+e0l4lp+e0l4dl3laK4faglnk24delahadfblak3fam4c3oaeaaaeERphboqbrugsRt,+oYaaaeERujuMhbxubuuguRu<SCuaaaeERujuShbxubuuguRu6SCuaaaeERujuYhbxubuuguSBuAb<dn3afbuv4bjkM3lau4dl3ga24fcgdl3YafnuV4euahcdfddc32afyu,+p2Ab<dubuafyuSAb<dubu3haya,84l3:agd+dLcu,+qHagd+dLcu,+qIDwuagGu,+qJDwu3jau4l3+a,ahd+dLcu,+qKahd+dLcu,+qLDwuahGu,+qMDwu3kau4c3+bhafafyu2Ab<dubuaijvuafyu5Ab<dubujyuajjvuAb<dH3afbuv4b30afjuM3gau4l3+bwe<d3af<cu4i"
def RR:aw 0 248 RQ:=ax
def RS:ar:=ay "cabac<l3bp+e0l4lql<ab,+o9bb,+o:cb,+o;db,+o<eb,+o=fb,+o>gb,+o?hb,+o*ib,+o+jb,+o,kb,+palb,+pbmb,+pcnb,+pdob,+pepb,+pfqb,+pgrb,+phsb,+pitb,+pjub,+pkvb,+plwb,+pmxb,+pnyb,+pozb,+ppAb,+pqBb,+prCb,+psDb,+ptEb,+puFb,+pvGb,+pwHb,+pxIb,+pyJb,+pzKb,+pALb,+pBMb,+pCNb,+pDOb,+pEPb,+pFQb,+pGRb,+pHSb,+pITb,+pJUb,+pKVb,+pLWb,+pMXb,+pNYb,+pOZb,+pP0b,+pQ1b,+pR2b,+pS3b,+pT4b,+pU5b,+pV6b,+pW7b,+pX8b,+pY9b,+pZ:b,+p0;b,+p13af<ab4i"
def RT:aw 0 249 RS:=ax
def RU:ar:=ay "rcbeal3fa,+p34l3habuhgNh,+qN3gai4l3kaaafRjkaaafy7nGmoSlp3faq4i"
def RV:aw 0 250 RU:=ax
def RW:ar:=ay "kbbcccl3cmUapUc4dkcabbdd+c:becbbbgd+c:bhqccabfbbi3afccj4iaaabaadaaeaacabefaagaahaai"
def RX:aw 1 252 RW:=ax
def RY:ar:=ay "jcbealm+e9baL4laaJ+ejabdd+eicfgrch3fai4i"
def RZ:aw 0 253 RY:=ax
def S0:ar:=ay "jbbdalm+czaaL4lcacbegfbbogh3eai4i"
def S1:aw 0 254 S0:=ax
def S2:ar:=ay "jcbealm+b,baL4laaJ+elabdd+ekcfgrch3fai4i"
def S3:aw 0 255 S2:=ax
def S4:ar:=ay "hbbdalmWaaL4leLcbbd+cPcef3eag4i"
def S5:aw 0 256 S4:=ax
def S6:ar:=ay "hbbcal3cmWaaL4lcKbbdgeofK3dag4i"
def S7:aw 0 257 S6:=ax
def S8:ar:=ay "fbbcal3cm+czaaL4lcbbbd3dae4i"
def S9:aw 0 258 S8:=ax
def Sa:ar:=ay "obbdalmWaaL4lcKcbegfbboghai5veLcd+b0bkrcl5aljmL3ean4i"
def Sb:aw 0 259 Sa:=ax
def Sc:ar:=ay "Xdcgahal3haKaL4l3naagm3jan4l3pai3kaKao4dfagdl3qajaknpq4erahafblajakjstuhuGu,+o7udu3mau4l3zacaaalh+bfvue+bfuabKzcvunuK4eubaljuM3kau4b3Jal3lau4l3Kajajainvuau5+bkacaaajh+bfvue+bfuabKzcvuouK5alCuL3haHa,W4i"
def Sd:aw 0 260 Sc:=ax
def Se:ar:=ay "lcbfalmYa3gaK4lbce+bfdKgbhabd+dXcij3gak4i"
def Sf:aw 0 261 Se:=ax
def Sg:ar:=ay "ucbeal3faK4l3iaad+embh3gai4l3kabd+embj3hak4dl3maf4eldlag4eml3faK4ial3faU4iadl3oag4enl3faM4iadl3paaabnop4eql3faU4iadl3saaabwrs4etl3faM4ial3faK4i"
def Sh:aw 0 262 Sg:=ax
def Si:ar:=ay "Ecceafal3fa3a34deLl3maauglabugnd+eocmo3lap3rikaikb3haqar4l3taguhsahuhu3fata,v4ial3yaaabd+epcvu3xau3Biuaiyb3java,B4l3Daiaj3fava,D4i"
def Sj:aw 0 264 Si:=ax
def Sk:ar:=ay "+becbeal3dm+b=a3faL4dlabnfMag5qabwiP5alhOj4ekl3faL4iadl3mcacbl4fal3pom13oao4enl3qcbcbpoqKar5NcccbtguouK5alsuL3fau4il3AomW3zau4eul3BcbcbuCuMau59cbcbuabnvu5alyuLau5+bccccbuguouK5alyuL3fau4il3RomT3Qau4eul3ScbcbuCuKau5+bycbcbuabnvu5alyuLau5+bKcccbuguouK5alyuL3fau4il38omX37au4eul39cbcbuouKau5+b6abCuS5alwuLau5+b>cccbuguabyuMowu5alAuL3fau4ial3faL4i"
def Sl:aw 0 265 Sk:=ax
def Sm:ar:=ay "Bcbeal3dm+dEamWbaL4dlcIdbfogKah5scacecjcGdecld+esckmrcn5aliOo4epl3faL4iadl3rcgcbq4erlcacecscGdecud+d1cturcu3fau4ial3zcfcbusuK3fau4i"
def Sn:aw 6 267 Sm:=ax
def Sp:ar:=ay "1cceccfal3dmUamUbpUcaL4dl3jeccecdd+escijrck4ellqca3afcem3gaL4ial3oeccd+dNbn3hpUc3afcgo4dl3qcagbpgqaK4faglnsr4detahadfblas3iau4k3wcagbuahcbgbuahcacbuahhbvubucadbuahhbvubuObdzucbcbuahhbvubucbdbuahhbvubuOadzuhb,w,x3afbuGhb,z,A3afbuw4GaaabaacaadaaeaafaagaahaaiaajaakaalaamaanaaoaapaaqaaraasaataauaavaawaaxaayaazaaAaaBaaCaaDabeEaaFaabjsM3tau4l31ecg3afceu3gaO4i"
def Sq:aw 0 268 Sp:=ax
def Sr:ar:=ay "9cdeccfagal3dm+b=amUbp+dUeaKaK4dl3jecdcadbjgkd+dEcilrcman5Eedccadbqgrd+d0cpsrct5aloOu4eulqea3afceu3gaKaM4ial3ycadbucbcbuhbwubud+etbu3ip+dUe3afch,D4dl3Fcacbu4fal3IouT3Hau4eub3Jcbdbucbcbuhbwubud+eubu3afchu4l3RoDX3Qau4euc3TcccbucadbuFbubMacbdbuFbubMaqccabxbbud+evcBu3Sau33iuaiFb3afchv4adkechcadbuhbuKbu3afcey3gauaK4iaaabaacaadaaeaafaccegaahaai"
def Ss:aw 0 269 Sr:=ax
def St:ar:=ay "Dcbeal3dm+dUam+dUbaK4dfal3heccecd2C3gai4efl3faK4il3lcacbkcadbmnlnao5Gcacbqcadbsortau5Tcbcbucbdbunwu5GlzuL5alpOu3kau4ejl3faU4ial3faM4i"
def Su:aw 0 271 St:=ax
def Sv:ar:=ay "zdbgal3em+dEamWb3haL4l3lcadeckcGeecmd+d3cln3kao3qijaijb3ipUc3afchpaq4l3saiar5Nccdedtechacd+eydwvu5alsuL3hau4i"
def Sw:aw 6 272 Sv:=ax
def Sx:ar:=ay "pcbeal3dmUamSbaL4leccbdggd+dEcfhai5vbdgkJ+ezaccdd+efclm5aljnL3fao4i"
def Sy:aw 0 273 Sx:=ax
def Sz:ar:=ay "ucbealm+dEbaN4dlcfdbfCgKah5taagjcfdblwkm5alinL4eolaacfdbqtbpabra3fas4ial3uaa3fat4i"
def SA:aw 6 274 Sz:=ax
def SB:ar:=ay "Mcbeal3dm+b=a3faN4laN4dl3jabgiaK4faglnkj4delahadfblhbikbm3ian4dl3pedcahgpd+d0coqrcras5OahguabhbuKbugusyu5altOu4eul3faN4iab3Dafahd+c:buBbbuzbyxu3gau4b3IjkM3lau4l3JafJ+eBabcd+eAcvu4laf3fau4i"
def SC:aw 6 275 SB:=ax
def SD:ar:=ay "lcbeal3dm+dGa3fa,+qO4l3habcbcbhLgi3gpdq3afbfj4l3lJ+eDabf3fak4i"
def SE:aw 0 276 SD:=ax
def SF:ar:=ay "lbbcal3cm+dLaaL4lcbbbdgeccbbgghjfinjS3dak4i"
def SG:aw 0 283 SF:=ax
def SH:ar:=ay "Gdcgahal3em+bUam+dLbm+dLcaNaK4dlcaebi4ejdkcbebkcbfbmvbclnd+eIboecdJ0bqad+dncprisaisb3hata,u4naaabaacaadaagaahaaeaafabgiaajaakaalaamaaiadk3wccebuccfbuvbcwud+eJbuecdJ+bzbuad+dqcwuiuaivb3hava,F4naaabaacaadaagaahaaeaafabgiaajaakaalaamaai"
def SI:aw 0 284 SH:=ax
def SJ:ar:=ay "ucbeal3faL4dlaagfabghsgi4ejlaagkabgmnln3fao4ial3qaaVpabVrnqs3fat4i"
def SK:aw 0 285 SJ:=ax
def SL:ar:=ay "gbbcalaN4laad+eLbdd+eKbe3daf4i"
def SM:aw 0 286 SL:=ax
def SN:ar:=ay "pcbeal3faL4dl3haaaK4faglnhg4deiahadfblah3gaj4l3labafKkblrcm4enl3faL4iab3pjhM3iao4l3faO4i"
def SO:aw 0 289 SN:=ax
def SP:ar:=ay "pbbdal3eaL4dccabbeaahbfgbhcbbbjaahbklbmHin3eao4i"
def SQ:aw 0 290 SP:=ax
def SR:ar:=ay "+dpdbgal3haN4l3v1beCVV3iau4dlaK4fagdl3wainu24euahadfbl3kaK4fcgdl3AajnuR4euahcdfdc3EahaiahaihbvubuE,+o8uabaiERuajjvuhbyubuugujCuhbJI3afbuv4b3CajjuM3kau4b3yaijuM3jau4dl3la24fegdl3VaknuV4euahedffdc3Zahakyu,+p2hbwubuahakyuShbwubu3maza,74k39ahakahakyu2hbwubuald+eMcu,+qPald+eMcu,+qQDwualMu,+qRDwujCuahakyu5hbwubujzuamd+eMcu,+qSamd+eMcu,+qTDwuamMu,+qUDwujCuhb,8,93afbuv4HaaabaacaadaaeaafaagaahaajaamaanaaqaaraasaataauaawaayaaBaaCaaiacgukacgulaaoaapaavaaxacguzacguAaaDaaEaaFaaGaab3XakjuM3lau4l3+bwBbaaazbevu3oau4dlaK4fggdl3+bzaonuV4euahgdfhdc3+bDanhbuRbuanhbu?buNxuanhbuRbuy,+qVuanhbu:buNxuDCu3qau4dk3+bTanhbu5buanhbuRbud+eMcu,+qWanhbuRbud+eMcu,+qXDyuanhbuRbud+eMcu,+qYDyujIuapjvuacaohbvubujyuahaohbvubujyu3rau4FaaabaacaadaaeaafaahaaiaajaamaanaaoaasaauaavaawaaxaazaaAaaBaaCaagafcjoxCkaecoxClaapadcxCqaaraataayaaDaaEaadc3+ceanhbuKbuanhbuMbuNxuanhbuKbuanhbuSbuNxuDBuanhbuMbuanhbuSbuNxuDBu3sau4dk3+cBanhbuKbud+eMcu,+p4anhbuKbud+eMcu,+qZDyuanhbuKbud+eMcu,+q0Dyuarjvu3tau4raaabaacaaeaafaagaajaakaalaaoaadacglhabliaamaanaapaaqaac3+cRaqasjvuanhbuKbuanhbuMbuanhbuSbuanhbuYbuaqjvuanhbuRbuanhbu?buanhbu:buBbi,+cS,+cV,+cYIDAxu3oau4b3+bBaojuM3pau4dl3uaK4figdl3+c,atnuP4euahidfjc3+ddanatanathbvubuaaathbvubujyuhbED3afbuv4b3+dbatjuM3uau4l3+dpan3hau4i"
def SS:aw 1 291 SR:=ax
def SU:ar:=ay "jcbeal3faL4laaabd+eNcfgChK3fai4i"
def SV:aw 0 292 SU:=ax
def SX:ar:=ay "ibbdalm+czaaL4lbbeccKebfrcg3eah4i"
def SY:aw 0 293 SX:=ax
def SZ:ar:=ay "jcbeal3faL4laaabd+eOcfgChK3fai4i"
def T0:aw 0 294 SZ:=ax
def T1:ar:=ay "ibbdalmWaaL4lbbeLcKebfrcg3eah4i"
def T2:aw 0 295 T1:=ax
def T3:ar:=ay "gbbcalaL4laaaasde3daf4i"
def T4:aw 0 296 T3:=ax
def T5:ar:=ay "Zcceafal3fa3a34l3paaNo,+oQ3hap4l3raaGq73iar4l3tabNs,+oQ3jat4l3vabGu73kau4l3xagaiEvu3lau4l3AahaiEvuakGu7jwu3mau4l3GalNu,+oQ3nau4l3IalGu73oau4l3KamagajEvujxu3nau4l3PahajEvuanjvuamGu7jwu3fau4l3XaaabEvu3gau4i"
def T6:aw 0 299 T5:=ax
def T7:ar:=ay "rcbeal3dmUamUbaL4lecccacbgghd+dEcfiaj5xecdcacbmgnd+dEclo5alkpL3faq4i"
def T8:aw 0 300 T7:=ax
def T9:ar:=ay "pcbeal3dmUamUbaL4leccecdd+eqcfgah5tcacbjgkJ+ePaccdd+efclm5alinL3fao4i"
def Ta:aw 0 302 T9:=ax
def Tb:ar:=ay "hbbccclp+dUe4laauhdDe9qebbbf3afccg4i"
def Tc:aw 0 303 Tb:=ax
def Td:ar:=ay "Wdbgal3em+b=amUb3haL4l3oeddeced+d4cno3nap3rimaimbimc3ip+dUe3afchqaras4l3veddacd+eVcvu3uau3yitaitb3lp+dUe3afck,xa,y4dc3AajouKau55alouK5alwuLau5=acgucaebuguoxu5alAuLau5+bkeckachbuKbuechaid+eWezwvu5alBuL3hau4i"
def Te:aw 0 308 Td:=ax
def Tf:ar:=ay "Bbbeal3faL4dccabbfaahbghbibcaahbklbmHjnao5HbcaahbqrbscbbbuaahbvubuHtu5alpuL3fau4i"
def Tg:aw 0 309 Tf:=ax
def Th:ar:=ay "qcbfal3gaK4dfal3iedcaaabd+eCdhij3hak4egl3gaU4il3nedcabaad+eCdmno3map4ell3gaM4ial3gaK4i"
def Ti:aw 0 311 Th:=ax
def Tj:ar:=ay "Vdbgal3em+b=a3haL4l3neddabd+eVcmn3mao3qilailb3ip+dUe3afchpaq4l3teddacd+eVcst3sau3wirairb3kp+dUe3afcj,va,w4dc3yaiouKau51akouK5alwuLau59abguacguowu5alzuLau5+beechabhbuKbuecjachbuKbud+eWeByxu5alDuL3hau4i"
def Tk:aw 0 312 Tj:=ax
def Tl:ar:=ay "wcbfal3gaK4ddc3iaabchbhibjabbchblmbnd+eEcko3hap4l3ragsqK4erlag3gas4ial3uaaabd+eFctu3gau4i"
def Tm:aw 0 313 Tl:=ax
def Tn:ar:=ay "ucbeal3faK4l3iaad+eYbh3gai4l3kabd+eYbj3hak4dl3maf4eldlag4eml3faK4ial3faU4iadl3oag4enl3faM4iadl3paaabnop4eql3faU4iadl3saaabwrs4etl3faM4ial3faK4i"
def To:aw 0 314 Tn:=ax
def Tp:ar:=ay "Kcbeal3faK4dl3kaagjaK4faglnlk4demahadfblalhbjlbo3ganap4dl3rafabgrCqs4etl3faM4ial3vabafhbvubu3iau4l3zagahd+eEcvu3jau4l3CaisuK4eulai3fau4iab3FjlM3mau4dl3Gaaguabgunwu4eul3faU4ial3faK4i"
def Tq:aw 0 315 Tp:=ax
def Tr:ar:=ay "KbbcalaN4laK4dl3kaagjaK4faglnlk4demahadfblhbjlbn3gao4l3qadafgqjpr3eas4l3uadntK4eubWj,+p53aXu4abjlM3mau4l3yadd+e1cNu3hau4dl3AaaguaK4fcglnuv4deuahcdfdlhbxvbu3jau4b3Gagaizbyvu3hau4b3Jj,BM3Cau4l3Kag3dau4i"
def Ts:aw 1 318 Tr:=ax
def Tt:ar:=ay "KbbcalaN4laK4dl3kaagjaK4faglnlk4demahadfblhbjlbn3gao4l3qadafgqjpr3eas4l3uadntK4eubWj,+p53aXu4abjlM3mau4l3yadd+e2cNu3hau4dl3AaaguaK4fcglnuv4deuahcdfdlhbxvbu3jau4b3GagaizL+bXvu3hau4b3Jj,BM3Cau4l3Kag3dau4i"
def Tu:aw 1 319 Tt:=ax
def Tv:ar:=ay "GbbcalaN4laN4dlaK4fagdl3iaejh5aagjnik4elahadfbl3ga14dlaK4fcgdl3pagnoP4epahcdfdb3tafETsaaaeagjvuhbxubujtu3gau4b3ragjqM3har4b3Cadafvbbuxbbwu3eau4b3naejmP3fan4l3Gad3dau4i"
def Tw:aw 0 320 Tv:=ax
def Tx:ar:=ay "HbbcalaN4laN4dla,+q14fagdl3iaeChK4eiahadfbl3gaK4fcgdl3mafaagmnln4eoahcdfdl3saaafhbrsbtuhuju93hau4b3yadagaeuhuGwuLu,+p4ueuvbbuxbbBu3eau4b3qafjpM3gaq4b3kaeyjM3fak4l3Had3dau4i"
def Ty:aw 0 321 Tx:=ax
def Tz:ar:=ay "ncbeal3fa,+p34laaabGfgaaaby7jRikShl3fam4i"
def TA:aw 1 322 Tz:=ax
def TB:ar:=ay "tcbeal3faK4dl3haaggaK4faglnih4dejahadfblai3gak4l3mabaaafhcmnecoKlbp4eqlaf3far4iab3tjiM3jas4l3faU4i"
def TC:aw 0 323 TB:=ax
def TD:ar:=ay "tcbeal3faK4dl3haaggaK4faglnih4dejahadfblai3gak4l3mabaaafhLmneLoKlbp4eqlaf3far4iab3tjiM3jas4l3faU4i"
def TE:aw 0 324 TD:=ax
def TF:ar:=ay "Dbbeal3faL4dccabbfaahbghbicbcbkaahblmbnHjoap5JcacbraahbstbucbbbuaahbvubuHzu5alquL3fau4i"
def TG:aw 0 325 TF:=ax
def TH:ar:=ay "Lcceccfal3dm+b=a3fp+dUeaK4dledcabghd+d0cgircj4eklqea3afcel3gaM4iadl3ncacbm4fal3qonT3pap4eol3rabcbcbrhbqsbtd+eubu3afceu3gaK4il3yonX3xau4eudc3zabFbubMacccbud+e6cwuiuaivb3afcev3gau4ial3Gabcbcbuhbwubud+etbu3afceu3gaK4i"
def TI:aw 0 331 TH:=ax
def TJ:ar:=ay "uebial3fm+dUa3hm+dUc3jaL4dl3leceecgd+d6ckl3kam4l3oajsnK4eolajnpK3jaq4ial3sabadnrs3jat4i"
def TK:aw 0 332 TJ:=ax
def TL:ar:=ay "gbbcalaL4laaaasde3daf4i"
def TM:aw 0 334 TL:=ax
def TN:ar:=ay "Bcbeal3faN4dlabnfK4egbWj,+oP3aXh4adlabaaUjaaglykmyin3cao4l3qabwpK4eqbaaaaUstbrabtaabYbymvuaagutbwabua3bau4al3Baa3fau4i"
def TO:aw 6 337 TN:=ax
def TP:ar:=ay "Bcbeal3faN4dlabnfK4egbWj,+oP3aXh4adlabaaUjaaglykmyin3cao4l3qabwpK4eqbaaaaUstLrabtaabYL+bXavuaagutLwabua3bau4al3Baa3fau4i"
def TQ:aw 6 338 TP:=ax
end Go.Proofs.YtcfpcblgmmeioaaGreat
namespace Go.bD
open Go
abbrev cz.{a}{b:Sort a} (_:b):Type:=Unit
variable{b0:Type}
def c4 (a:b0->Prop) (_:cz a) (b:b0):Prop:=a b
def bX {a:Type} (b:b0->a->Prop) (_:cz b) (c:b0) (d:a):Prop:=b c d
def cu (a:Prop) (_:cz a):Prop:=a
def iD {a:b0->Prop}{c:cz a}{b:b0}:c4 a c b=a b:=rfl
def TR {b:Type}{a:b0->b->Prop}{h:cz a}{c:b0}{d:b}:bX a h c d=a c d:=rfl
variable{Q b3 h2 j0 j4:Prop}
def C5 {a:cz Q}:cu Q a=Q:=rfl
def jg (b:U) (c:Nat->Prop):Prop:= ∀a,b a=none->c a
def gX (a b:Prop):Prop:=a/\b
def sc {a:cz Q} (b:b3):gX b3 (cu Q a)=Q:=by simp[gX,cu,b]
def sd {a:cz Q}:gX True (cu Q a)=Q:=by simp[gX,cu]
variable{h8:et}{e2:cc}{n b6:R}{t Z:R -> U -> Prop}{I:Bool}{K:Ctx}{e7:gh -> Fr -> U -> Prop}{j:Fr}{j7:Fr -> U -> Prop}{b5:FuncId}{f s e0:U}{b1:Int}{e1:IntKind}{g B c0:List R}{e i v M b9 j2:Nat}{j6:Nat -> Prop}{X j8:bs}{Y e9:Operand}{N e5 h6:Own}{m:Program}{b2:TypeId}{e4:Value}
section
def TS:c3 K .skip e7 j f=e7 .norm j f:=rfl
def TT:c3 K .ret e7 j f=e7 .ret j f:=rfl
def TU:c3 K (.exit e) e7 j f=e7 (.exit e) j f:=rfl
def TV {a:et}:c3 K (.seq h8 a) e7 j f=c3 K h8 (eQ (c3 K a e7) e7) j f:=rfl
def TW:c3 K (.block e h8) e7 j f=c3 K h8 (lo e e7) j f:=rfl
def TX {a:List ca}:c3 K (.plain a) e7 j f=jc K a (e7 .norm) j f:=rfl
def TY {a:List ca}{b:List dd}:c3 K (.draw a b) e7 j f=can K (nth a) (e7 .norm) b j f:=rfl
def ks (b:R) (c d:Prop):Prop:=
 match b with
 | .v (.bool a)=>(a=true->c)/\(a=false->d)
 | _=>False
def xa {a:et}:c3 K (.cond Y h8 a) e7 j f=ks (al j Y) (cu (c3 K h8 e7 j f) ()) (cu (c3 K a e7 j f) ()):=rfl
def C6 {a:cz Q}:ks (.v (.bool true)) (cu Q a) b3=Q:=by simp[ks,cu]
def C7 {a:cz Q}:ks (.v (.bool false)) b3 (cu Q a)=Q:=by simp[ks,cu]
def TZ:c3 K (.loop h8) e7 j f=cu (c3 K (.loop h8) e7 j f) ():=rfl
def U0:eQ j7 e7 .norm j f=j7 j f:=rfl
def U1:eQ j7 e7 .ret j f=e7 .ret j f:=rfl
def U2:eQ j7 e7 (.exit e) j f=e7 (.exit e) j f:=rfl
def U3:lo e e7 .norm j f=e7 .norm j f:=rfl
def U4:lo e e7 .ret j f=e7 .ret j f:=rfl
def U5:lo i e7 (.exit e) j f=(if e=i then e7 .norm j f else e7 (.exit e) j f):=by simp only[lo];split<;>rfl
def U6:lo e e7 (.exit e) j f=e7 .norm j f:=by simp[lo]
def U7:jc K [] j7 j f=j7 j f:=rfl
def U8 {a:Option Nat}{b:List ca}:jc K (⟨a,e2,none⟩::b) j7 j f=G K e2 j f (λc d=>jc K b j7 (dh j a c) d):=rfl
def hQ (b:R) (c:Bool) (d a:Prop):Prop:=
 match b with
 | .v (.bool h)=>if h=c then d else a
 | .aJ []=>a
 | _=>False
def U9 {a:Option Nat}{b:List ca}:
  jc K (⟨a,e2,some (e,I)⟩::b) j7 j f=hQ (j e) I (cu (G K e2 j f (λc d=>jc K b j7 (dh j a c) d)) ()) (cu (jc K b j7 (dh j a (.aJ [])) f) ()):=rfl
def Ua {a:cz Q}:hQ (.v (.bool true)) true (cu Q a) b3=Q:=by simp[hQ,cu]
def Ub {a:cz Q}:hQ (.v (.bool false)) false (cu Q a) b3=Q:=by simp[hQ,cu]
def Uc {a:cz Q}:hQ (.v (.bool true)) false b3 (cu Q a)=Q:=by simp[hQ,cu]
def Ud {a:cz Q}:hQ (.v (.bool false)) true b3 (cu Q a)=Q:=by simp[hQ,cu]
def Ue {a:cz Q}:hQ (.aJ []) I b3 (cu Q a)=Q:=rfl
def Uf {a:Bool}:hQ (.v (.bool I)) a Q b3=((I=a->Q)/\(I=(!a)->b3)):=by cases I<;>cases a<;>simp[hQ]
def Ug {a:Nat->ca}:can K a j7 [] j f=j7 j f:=rfl
def mh (a:ca) (b:ca->Prop):Prop:=b a
def Uh {a:Option Nat}{b:Option (Nat×Bool)}{c:ca->Prop}:mh ⟨a,e2,b⟩ c=c ⟨a,e2,b⟩:=rfl
def Ui {a:Nat->ca}{b:List dd}:can K a j7 (⟨e,[],[]⟩::b) j f=mh (a e) (c4 (λc=>T K c (λd h=>can K a j7 b d h) j f) ()):=by simp only[can,a7V,false_implies,implies_true,true_and,mh,c4]
def Uj {a:Nat->ca}{b c:List Nat}{d:List dd}:can K a j7 (⟨e,i::b,c⟩::d) j f=gX (mh (a i) (c4 (λh=>Def K h j) ())) (cu (can K a j7 (⟨e,b,c⟩::d) j f) ()):=by simp only[can,a6W,forall_eq_or_imp,gX,mh,c4,cu];exact propext and_assoc
def se (c:Ctx) (a:ca) (b:Fr) (d:U):Prop:=
 match a.dst with
 |some h=>E c a b d λk _=>k=b h
 |none=>True
def o7 (b:Ctx) (c:Nat->ca) (d:Fr) (h:U):List Nat->Prop->Prop
 | [],a=>a
 |k::o,a=>gX (mh (c k) (c4 (λp=>se b p d h) ())) (cu (o7 b c d h o a) ())
def Uk {a:Nat->ca}:o7 K a j f [] Q=Q:=rfl
def Ul {a:Nat->ca}{b:List Nat}:o7 K a j f (e::b) Q=gX (mh (a e) (c4 (λc=>se K c j f) ())) (cu (o7 K a j f b Q) ()):=rfl
theorem C8 {a:Nat->ca}{b:Prop}: ∀c,o7 K a j f c b=((∀d∈c,hx K a d j f)/\b)
 | []=>by simp[o7]
 |d::h=>by simp only[o7,C8 h,gX,mh,c4,cu,a6W,forall_eq_or_imp,hx,se];grind
def Um {a:Nat->ca}{b:List Nat}{c:List dd}:can K a j7 (⟨e,[],i::b⟩::c) j f=mh (a e) (c4 (λk=>T K k (λd h=>o7 K a d h (i::b) (can K a j7 c d h)) j f) ()):=by simp only[can,a7V,false_implies,implies_true,true_and,mh,c4,C8]
def Un {a:Option Nat}:Def K ⟨a,e2,none⟩ j=G K e2 j U.emp (λ_ _=>True):=rfl
def Uo:se K ⟨some e,e2,none⟩ j f=G K e2 j f (λa _=>a=j e):=rfl
def Up {a:cz (λ_:Nat=>True)}:jg f (c4 (λ_=>True) a)=True:=by simp[jg,c4]
def Uq {a:ca}{b:List ca}:nth (a::b) 0=a:=rfl
def Ur {b:ca}{a:List ca}:nth (b::a) (e+1)=nth a e:=rfl
def Us {a:Option Nat}:T K ⟨a,e2,none⟩ j7 j f=G K e2 j f (λb c=>j7 (dh j a b) c):=rfl
def Ut {a:Option Nat}:T K ⟨a,e2,some (e,I)⟩ j7 j f=hQ (j e) I (cu (G K e2 j f (λb c=>j7 (dh j a b) c)) ()) (cu (j7 (dh j a (.aJ [])) f) ()):=rfl
def Uu:dh j (some i) n e=if e=i then n else j e:=rfl
def Uv:dh j none n e=j e:=rfl
def dy (a:Option R) (b:R->Prop):Prop:=
 match a with
 |some a=>b a
 |none=>False
def jh [Decidable Q] {a:R->Prop}:dy (if Q then some n else none) a=(Q/\a n):=by split<;>simp[dy, *]
def Uw {a:R->Prop}:dy (some n) a=a n:=rfl
def nh (a:R) (b:R->Prop):Prop:=b a
def Ux {a:R->Prop}:nh n a=a n:=rfl
def pr (a:Option (List R)) (b:List R->Prop):Prop:=
 match a with
 |some a=>b a
 |none=>False
def Uy {a:List R->Prop}:pr (some g) a=a g:=rfl
section
def Uz:G K (.eY Y) j f t=nh (al j Y) (c4 (λa=>t a f) ()):=rfl
def u6 (a b c:R):Option R:=
 match a with
 | .v (.bool d)=>some (if d then b else c)
 | _=>none
def UA:u6 (.v (.bool true)) n b6=some n:=rfl
def UB:u6 (.v (.bool false)) b6 n=some n:=rfl
def UC {a:Operand}:G K (.pick e9 Y a) j f t=dy (u6 (al j e9) (al j Y) (al j a)) (c4 (λb=>t b f) ()):=by simp only[G,u6];generalize al j e9=Y;cases Y<;>first|rfl|(rename_i v;cases v<;>rfl)
def UD:G K (.alloc b2 g) j f t=jg f (c4 (λa=>t (.ptr a 0) (f.set a (.cells g))) ()):=rfl
def UE:G K (.box b2 Y) j f t=nh (al j Y) (c4 (λa=>gX (0<a.cells.length) (cu (jg f (c4 (λb=>t (.ptr b 0) (f.set b (.cells a.cells))) ())) ())) ()):=rfl
def UF:G K (.la b2 Y) j f t=nh (al j Y) (c4 (λa=>gX (0<a.cells.length) (cu (jg f (c4 (λb=>t (.ptr b 0) (f.set b (.ro a.cells))) ())) ())) ()):=rfl
def cY (b:Bool) (a:Nat) (c:U) (d:R):Option R:=
 match d with
 | .ptr h off=>match c.read h with
  |some cs=>if off+a<=cs.length then some (aL b a (cs.drop off))else none
  |none=>none
 | .bU cs=>if a<=cs.length then some (aL b a cs)else none
 | _=>none
def qK (d:Bool) (b c:Nat) (a:Option (List R)):Option R:=
 match a with
 |some a=>if c+b<=a.length then some (aL d b (a.drop c))else none
 |none=>none
def UG:cY I e f (.ptr i v)=qK I e v (f.read i):=rfl
def C9 (a:i+e<=g.length):qK I e i (some g)=some (aL I e (g.drop i)):=by simp[qK,a]
def UH (a:e<=g.length):cY I e f (.bU g)=some (aL I e g):=by simp[cY,a]
def UI:G K (.load I e Y) j f t=dy (cY I e f (al j Y)) (c4 (λa=>t a f) ()):=by
 simp only[G,cY];generalize al j Y=b;cases b<;>first
  |rfl
  |(simp only[jh,iD];done)
  |(rename_i c h;simp only[];generalize f.read c=d;cases d<;>first|rfl|(simp only[jh,iD]))
def eg (a:U) (b:Nat):Option (List R):=
 match a b with
 |some (.cells cs)=>some cs
 | _=>none
def xb (a:U) (b:Nat) (k:R) (c:List R) (o:U->Prop):Prop:=
 match k with
 | .ptr d off=>pr (eg a d) λh=>gX (c.length=b/\off+b<=h.length) (o (a.set d (.cells (putAt h off c))))
 | _=>False
def UJ {a:U->Prop}:xb f e (.ptr i v) g a=pr (eg f i) (c4 (λb=>gX (g.length=e/\v+e<=b.length) (cu (pr (some (putAt b v g)) (c4 (λc=>a (f.set i (.cells c))) ())) ())) ()):=rfl
def UK:G K (.store e Y e9) j f t=xb f e (al j Y) (al j e9).cells (c4 (λa=>t (.aJ []) a) ()):=by
 simp only[G,xb];generalize al j Y=b;cases b<;>first
  |rfl
  |(
    rename_i c h;simp only[eg];cases f c with
    |none=>rfl
    |some d=>cases d with
     |cells cs=>exact propext and_assoc.symm
     | _=>rfl)
def sf (a:R):Option R:=
 match a with
 | .ptr b off=>some (.ptr b off)
 | .bU cs=>some (.bU cs)
 | .bG c cK cs=>some (.bG c cK cs)
 | _=>none
def UL:sf (.ptr e i)=some (.ptr e i):=rfl
def UM:sf (.bU g)=some (.bU g):=rfl
def UN:G K (.qt Y) j f t=dy (sf (al j Y)) (c4 (λa=>t a f) ()):=by simp only[G,sf];generalize al j Y=b;cases b<;>first|rfl|(rename_i v;cases v<;>rfl)
def sg (a:Nat) (b:R):Option R:=
 match b with
 | .ptr c d=>some (.ptr c (d+a))
 | .bU cs=>some (.bU (cs.drop a))
 | _=>none
def UO:sg e (.ptr i v)=some (.ptr i (v+e)):=rfl
def UP:sg e (.bU g)=some (.bU (g.drop e)):=rfl
def UQ:G K (.lb e Y) j f t=dy (sg e (al j Y)) (c4 (λa=>t a f) ()):=by simp only[G,sg];generalize al j Y=b;cases b<;>first|rfl|(rename_i v;cases v<;>rfl)
def mi (b c:Nat) (d h:R):Option R:=
 match d,h with
 | .ptr k o,.v (.int _ a)=>if 0<=a/\a<c then some (.ptr k (o+a.toNat*b))else none
 | .bU cs,.v (.int _ a)=>if 0<=a/\a<c then some (.bU (cs.drop (a.toNat*b)))else none
 | _,_=>none
def si (a:0<=b1) (b:b1<i):mi e i (.ptr v M) (.v (.int e1 b1))=some (.ptr v (M+b1.toNat*e)):=by simp[mi,a,b]
def UR (a:0<=b1) (b:b1<i):mi e i (.bU g) (.v (.int e1 b1))=some (.bU (g.drop (b1.toNat*e))):=by simp[mi,a,b]
def US:G K (.qu e i Y e9) j f t=dy (mi e i (al j Y) (al j e9)) (c4 (λa=>t a f) ()):=by
 simp only[G,mi];generalize al j Y=b;generalize al j e9=c;cases b<;>first
  |rfl
  |(cases c<;>first
    |rfl
    |(rename_i d;cases d<;>first
      |rfl
      |(simp only[jh,iD];exact propext and_assoc.symm)))
def eB (b:Nat) (a:Option R):Option R:=
 match a with
 |some a=>if a.cells.length=b then some (.bU a.cells)else none
 |none=>none
def iE (a:n.cells.length=e):eB e (some n)=some (.bU n.cells):=by simp[eB,a]
def cC (b:Nat) (h k:R):Option R:=
 match h,k with
 | .J xs _,.v (.int _ a)=>if 0<=a then eB b xs[a.toNat]? else none
 | .bE c off len _ d,.v (.int _ a)=>if d=b/\0<=a/\a<len then some (.ptr c (off+a.toNat*b))else none
 | .ao c len _ d,.v (.int _ a)=>if d=b/\0<=a/\a<len then some (.ptr c (a.toNat*b))else none
 | _,_=>none
def gj (a:0<=b1):cC e (.J g N) (.v (.int e1 b1))=eB e g[b1.toNat]? :=by simp[cC,a]
theorem jJ (a:0<=b1) (b:b1<v):cC e (.ao i v M e) (.v (.int e1 b1))=some (.ptr i (b1.toNat*e)):=by simp[cC,a,b]
theorem u7 (a:0<=b1) (b:b1<M):cC e (.bE i v M b9 e) (.v (.int e1 b1))=some (.ptr i (v+b1.toNat*e)):=by simp[cC,a,b]
theorem UT:G K (.dN e Y e9) j f t=dy (cC e (al j Y) (al j e9)) (c4 (λc=>t c f) ()):=by
 simp only[G,cC];generalize al j Y=d;generalize al j e9=h;cases d<;>first
  |rfl
  |(cases h<;>first
    |rfl
    |(rename_i k;cases k<;>first
      |rfl
      |(
        simp only[jh,iD];apply propext;constructor
        .rintro⟨o,p,r,x⟩;exact⟨⟨o,p,r⟩,x⟩
        simp_all)
      |(
        rename_i y C D a;by_cases b:0<=a
        .simp only[b,true_and,if_true,eB];generalize y[a.toNat]? =z;cases z<;>first|rfl|(simp only[jh,iD])
        .simp[b,dy])))
def u9 (c:Bool) (a b:Nat) (d:R):Option R:=
 match d with
 | .agg cs=>if a+b<=cs.length then some (aL c b (cs.drop a))else none
 | _=>none
def UU (a:e+i<=g.length):u9 I e i (.agg g)=some (aL I i (g.drop e)):=by simp[u9,a]
def UW:G K (.pd I e i Y) j f t=dy (u9 I e i (al j Y)) (c4 (λa=>t a f) ()):=by simp only[G,u9];generalize al j Y=b;cases b<;>first|rfl|(simp only[jh,iD])
def ua (a:U) (b:R):Option R:=
 match b with
 | .eX c=>match a c with
  |some (.mp us _)=>some (.v (.int .i64 us.length))
  | _=>none
 | _=>none
def UX {a:List (R×R×Nat)} (b:f e=some (.mp a i)):ua f (.eX e)=some (.v (.int .i64 a.length)):=by simp[ua,b]
def UY:G K (.pc Y) j f t=dy (ua f (al j Y)) (c4 (λa=>t a f) ()):=by simp only[G,ua];generalize al j Y=b;cases b<;>first|rfl|(rename_i c;simp only[];cases f c with|none=>rfl|some d=>cases d<;>rfl)
def ub (c:Bool) (a d:Nat) (h k:R):Option R:=
 match h,k with
 | .agg cs,.v (.int _ b)=>if 0<=b/\b<d/\b.toNat*a+a<=cs.length then some (aL c a (cs.drop (b.toNat*a)))else none
 | _,_=>none
def UZ (a:0<=b1) (b:b1<i) (c:b1.toNat*e+e<=g.length):ub I e i (.agg g) (.v (.int e1 b1))=some (aL I e (g.drop (b1.toNat*e))):=by simp[ub,a,b,c]
theorem V0:G K (.pa I e i Y e9) j f t=dy (ub I e i (al j Y) (al j e9)) (c4 (λa=>t a f) ()):=by
 simp only[G,ub];generalize al j Y=b;generalize al j e9=c;cases b<;>first
  |rfl
  |(cases c<;>first
    |rfl
    |(rename_i d;cases d<;>first
      |rfl
      |(simp only[jh,iD];grind)))
def ps (c:Fr) (a:List R):List (Nat×Nat×Operand)->(List R->Prop)->Prop
 | [],b=>b a
 |(off,cf,h)::k,b=>nh (al c h) λd=>gX (d.cells.length=cf/\off+cf<=a.length) (pr (some (putAt a off d.cells)) λo=>ps c o k b)
def V1 {a:List R->Prop}:ps j g [] a=a g:=rfl
def V2 {a:List (Nat×Nat×Operand)}{b:List R->Prop}:ps j g ((e,i,Y)::a) b=nh (al j Y) (c4 (λc=>gX (c.cells.length=i/\e+i<=g.length) (cu (pr (some (putAt g e c.cells)) (c4 (λd=>ps j d a b) ())) ())) ()):=rfl
theorem Ca {b:List R->Prop}: ∀(c:List (Nat×Nat×Operand)) (a:List R),kp j a c b=ps j a c b
 | [],_=>rfl
 |(off,cf,h)::d,a=>by
  simp only[kp,ps,nh,gX,pr,Ca d];grind
def V3 {a:List (Nat×Nat×Operand)}:G K (.lW g a) j f t=ps j g a λb=>t (.agg b) f:=Ca a g
def fa (b:R):Option R:=
 match b with
 | .J xs _=>some (.v (.int .i64 xs.length))
 | .bE _ _ a _ _=>some (.v (.int .i64 a))
 | .ao _ a _ _=>some (.v (.int .i64 a))
 | _=>none
def V4:fa (.ao i e v M)=some (.v (.int .i64 e)):=rfl
def V5:fa (.J g N)=some (.v (.int .i64 g.length)):=rfl
def V6:fa (.bE i v e M b9)=some (.v (.int .i64 e)):=rfl
def V7:G K (.len Y) j f t=dy (fa (al j Y)) (c4 (λa=>t a f) ()):=by simp only[G,fa];generalize al j Y=b;cases b<;>rfl
def ji (c:BinOp) (a b:R):Option R:=
 match a,b with
 | .v a,.v b=>(br c a b).map .v
 | _,_=>none
theorem sj {a:BinOp}{b:Value}:ji a (.v e4) (.v b)=(br a e4 b).map .v:=rfl
def V8 {a:BinOp}:G K (.bin a Y e9) j f t=dy (ji a (al j Y) (al j e9)) (c4 (λb=>t b f) ()):=by
 simp only[G,ji];generalize al j Y=c;generalize al j e9=d;cases c<;>first
  |rfl
  |(cases d<;>first
    |rfl
    |(rename_i v h;simp only[];generalize br a v h=k;cases k<;>rfl))
def xc (b:UnOp) (a:R):Option R:=
 match a with
 | .v a=>(o1 b a).map .v
 | _=>none
def V9 {a:UnOp}:xc a (.v e4)=(o1 a e4).map .v:=rfl
def Va {a:UnOp}:G K (.un a Y) j f t=dy (xc a (al j Y)) (c4 (λb=>t b f) ()):=by simp only[G,xc];generalize al j Y=c;cases c<;>first|rfl|(rename_i v;simp only[];generalize o1 a v=d;cases d<;>rfl)
def xd (a:IntKind) (b:R):Option R:=
 match b with
 | .v (.int _ c)=>some (.v (.int a (a.wrap c)))
 | _=>none
def Vb {a:IntKind}:xd e1 (.v (.int a b1))=some (.v (.int e1 (e1.wrap b1))):=rfl
def Vc:G K (.iY e1 Y) j f t=dy (xd e1 (al j Y)) (c4 (λa=>t a f) ()):=by simp only[G,xd];generalize al j Y=b;cases b<;>first|rfl|(rename_i v;cases v<;>rfl)
def o8 (a:Ctx) (b:FuncId) (c:List R) (d:U) (h:R->U->Prop):Prop:=hM a.p b c d h (up a.k)
def Vd {a:List Operand}:G K (.fW b5 a) j f t=o8 K b5 (a.map (al j)) f (bX t ()):=rfl
def xe (a:Nat) (b:R):Option R:=
 match b with
 | .aJ c=>c[a]?
 | _=>none
def Ve:xe e (.aJ g)=g[e]? :=rfl
def Vf:G K (.ext Y e) j f t=dy (xe e (al j Y)) (c4 (λa=>t a f) ()):=by simp only[G,xe];generalize al j Y=b;cases b<;>first|rfl|(rename_i c;cases c[e]? <;>rfl)
def Vg (c:Bool) (a b:R):Option R:=
 match a,b with
 | .v (.bool a),.v (.bool b)=>some (.v (.bool (xor c (a==b))))
 | _,_=>none
def Vh {a b:Bool}:Vg I (.v (.bool a)) (.v (.bool b))=some (.v (.bool (xor I (a==b)))):=rfl
def qL (a:Bool) (b c:R):Option R:=
 match b,c with
 | .ptr _ _,.v (.pointer none)=>some (.v (.bool a))
 | .bU _,.v (.pointer none)=>some (.v (.bool a))
 | .v (.pointer none),.v (.pointer none)=>some (.v (.bool (!a)))
 | .ptr d h,.ptr k o=>if d=k/\h=o then some (.v (.bool (!a)))else none
 | _,_=>none
def Vi:qL I (.ptr e i) (.ptr e i)=some (.v (.bool (!I))):=if_pos ⟨rfl,rfl⟩
def Vj:qL I (.ptr e i) (.v (.pointer none))=some (.v (.bool I)):=rfl
def Vk:qL I (.bU g) (.v (.pointer none))=some (.v (.bool I)):=rfl
def Vl:qL I (.v (.pointer none)) (.v (.pointer none))=some (.v (.bool (!I))):=rfl
def Vm:G K (.qw I Y e9) j f t=dy (qL I (al j Y) (al j e9)) (c4 (λd=>t d f) ()):=by
 simp only[G,qL];generalize al j Y=h;generalize al j e9=c;cases h<;>first
  |rfl
  |(rename_i v;cases v<;>first
    |rfl
    |(cases c<;>first|rfl|(rename_i b;cases b<;>first|rfl|(rename_i a;cases a<;>rfl)))
    |(rename_i a;cases a<;>first|rfl|(cases c<;>first|rfl|(rename_i b;cases b<;>first|rfl|(rename_i a;cases a<;>rfl)))))
  |(cases c<;>first|rfl|(rename_i b;cases b<;>first|rfl|(rename_i a;cases a<;>rfl))|(simp only[jh,iD];done))
def intOf (a:R):Option Int:=
 match a with
 | .v (.int _ b)=>some b
 | _=>none
end
def qM (a:List (Nat×Option (Bool×Nat))) (b:R->U->Prop):gh->Fr->U->Prop:=qH ⟨0,0,.skip,a⟩ b
def bc (c:m.follows .mixedOrders=true) {a:List (Nat×Option (Bool×Nat))} (d:du m M i=some ⟨e,v,h8,a⟩) (h:g.length<=e)
  (k:c3 (Ctx.of m) h8 (qM a t) (mf g) f):AC m i g f t:=by
 refine JQ c d h ?_;have b:qH ⟨e,v,h8,a⟩ t=qM a t:=by funext b j f;rfl
 rw[b];exact k
def Vn:mf g e=g.getD e (.aJ []):=rfl
theorem Vo {c:ar}:qH c t .ret j f=dy (je j f c.results) λd=> ∃b,b.sub f/\t d b:=by
 apply propext;simp only[qH];constructor
 .rintro⟨d,b,a,h,k⟩;rw[a];exact⟨b,h,k⟩
 .intro a;cases o:je j f c.results with
  |none=>rw[o]at a;exact a.elim
  |some d=>rw[o]at a;obtain⟨b,h,k⟩:=a;grind
def Vp {a:List (Nat×Option (Bool×Nat))}:qM a t .ret j f=dy (je j f a) (c4 (λc=> ∃b,b.sub f/\t c b) ()):=Vo
def Vq {a:List (Nat×Option (Bool×Nat))}:qM a t .norm j f=qM a t .ret j f:=rfl
def Vr:je j f []=some (.aJ []):=rfl
def Vs {a:Nat×Option (Bool×Nat)}:je j f [a]=gi j f a:=by simp only[je,fx];cases gi j f a<;>rfl
def Vt:gi j f (e,none)=some (j e):=rfl
def Cb (a:Bool) (b:Nat) (c:U) (d:R):Option R:=
 match d with
 | .ptr h off=>qK a b off (c.read h)
 | _=>none
def Vu:Cb I e f (.ptr i v)=qK I e v (f.read i):=rfl
def Vv:gi j f (e,some (I,i))=Cb I i f (j e):=by rfl
def U.uc:(f.set i X) e=if e=i then some X else f e:=rfl
def U.Cc:(f.set e (.cells g)).read e=some g:=by simp[U.read,U.set]
def U.Vw:(f.set e (.ro g)).read e=some g:=by simp[U.read,U.set]
def U.Vx (a:e≠i):(f.set i X).read e=f.read e:=by simp[U.read,U.set,a]
def U.Vy:eg (f.set e (.cells g)) e=some g:=by simp[eg,U.set]
def U.Vz (a:e≠i):eg (f.set i X) e=eg f e:=by simp[eg,U.set,a]
def U.ae (a:f e=some (.cells g)):f.read e=some g:=by simp[U.read,a]
def U.VA (a:f e=some (.ro g)):f.read e=some g:=by simp[U.read,a]
def U.aI (a:f e=some (.cells g)):eg f e=some g:=by simp[eg,a]
theorem U.gI (a:(f.set i X) e=none):e≠i/\f e=none:=by grind[U.set]
def U.Cd {a:bs} (b:i≠e):((f.set e a).set i j8).set e X=((f.set e X).set i j8):=by rw[U.ea _ b,U.set_set]
def U.Ce {b a:bs} (c:i≠e) (d:v≠e):(((f.set e b).set i j8).set v a).set e X=(((f.set e X).set i j8).set v a):=by rw[U.ea _ d,Cd c]
def U.Cf {c a b:bs} (d:i≠e) (h:v≠e) (k:M≠e):((((f.set e c).set i j8).set v a).set M b).set e X=((((f.set e X).set i j8).set v a).set M b):=by rw[U.ea _ k,Ce d h]
def U.Cg {d a b c:bs} (h:i≠e) (k:v≠e) (o:M≠e) (p:b9≠e):(((((f.set e d).set i j8).set v a).set M b).set b9 c).set e X=(((((f.set e X).set i j8).set v a).set M b).set b9 c):=by rw[U.ea _ p,Cf h k o]
def U.Ch {h a b c d:bs} (k:i≠e) (o:v≠e) (p:M≠e) (r:b9≠e) (x:j2≠e):((((((f.set e h).set i j8).set v a).set M b).set b9 c).set j2 d).set e X=((((((f.set e X).set i j8).set v a).set M b).set b9 c).set j2 d):=by rw[U.ea _ x,Cg k o p r]
def U.Ci {a:Nat}{o b c d h k:bs} (p:i≠e) (r:v≠e) (x:M≠e) (y:b9≠e) (z:j2≠e) (C:a≠e):(((((((f.set e o).set i j8).set v b).set M c).set b9 d).set j2 h).set a k).set e X=(((((((f.set e X).set i j8).set v b).set M c).set b9 d).set j2 h).set a k):=by rw[U.ea _ C,Ch p r x y z]
def U.Cj {a b:Nat}{r c d h k o p:bs} (x:i≠e) (y:v≠e) (z:M≠e) (C:b9≠e) (D:j2≠e) (E:a≠e) (F:b≠e):((((((((f.set e r).set i j8).set v c).set M d).set b9 h).set j2 k).set a o).set b p).set e X=((((((((f.set e X).set i j8).set v c).set M d).set b9 h).set j2 k).set a o).set b p):=by rw[U.ea _ F,Ci x y z C D E]
def U.VB {a b c:Nat}{y d h k o p r x:bs} (z:i≠e) (C:v≠e) (D:M≠e) (E:b9≠e) (F:j2≠e) (G:a≠e) (L:b≠e) (P:c≠e):(((((((((f.set e y).set i j8).set v d).set M h).set b9 k).set j2 o).set a p).set b r).set c x).set e X=(((((((((f.set e X).set i j8).set v d).set M h).set b9 k).set j2 o).set a p).set b r).set c x):=by rw[U.ea _ P,Cj z C D E F G L]
def aN {b:cz j6} (c: ∀a,f a=none->j6 a):jg f (c4 j6 b):=c
def cm {h:cz (c3 K (.loop h8) e7 j f)} (a:Fr->U->Prop) (b:Fr->U->Nat) (k:a j f) (o: ∀j f,a j f->c3 K h8 (eQ (λc d=>a c d/\b c d<b j f) e7) j f):
  cu (c3 K (.loop h8) e7 j f) h:=⟨a,b,k,o⟩
theorem ah {c:cz t} (d:AC K.p b5 g f Z) (h: ∀a b,Z a b->t a b):o8 K b5 g f (bX t c):=(d.mono h).p
theorem U.a6:f.sub f:=λ_ _ a=>a
theorem U.af (a:s.sub f) (c:s e=none):s.sub (f.set e X):=λd h b=>by
 rw[U.uc];split;simp_all
 .exact a _ _ b
theorem U.lp (b:s.sub f):(s.set e X).sub (f.set e X):=λd h a=>by
 rw[U.uc]at a|-;split;simp_all
 .rename_i c;rw[if_neg c]at a;exact b _ _ a
end
theorem wrap_i64 (c: -9223372036854775808<=b1) (d:b1<9223372036854775808):IntKind.i64.wrap b1=b1:=by have a:((2:Int)^IntKind.i64.bits)=18446744073709551616:=rfl;have b:((2:Int)^(IntKind.i64.bits - 1))=9223372036854775808:=rfl;simp only[IntKind.wrap,a,b,IntKind.signed,a8e,decide_eq_true_eq];omega
theorem kt:IntKind.u64.wrap b1=b1%18446744073709551616:=by have a:((2:Int)^IntKind.u64.bits)=18446744073709551616:=rfl;rfl
def xf:IntKind.u32.wrap b1=b1%4294967296:=by have a:((2:Int)^IntKind.u32.bits)=4294967296:=rfl;rfl
def ud:IntKind.u8.wrap b1=b1%256:=by have a:((2:Int)^IntKind.u8.bits)=256:=rfl;rfl
theorem wrap_u64 (a:0<=b1) (b:b1<18446744073709551616):IntKind.u64.wrap b1=b1:=by rw[kt];omega
def wrap_u32 (a:0<=b1) (b:b1<4294967296):IntKind.u32.wrap b1=b1:=by rw[xf];omega
theorem wrap_u8 (a:0<=b1) (b:b1<256):IntKind.u8.wrap b1=b1:=by rw[ud];omega
def VC (a:UInt8):IntKind.u32.wrap (a.toNat:Int)=(a.toUInt32.toNat:Int):=by have:=a.toNat_lt;rw[wrap_u32 aaU aaU];simp
def VD (a:UInt8):IntKind.u64.wrap (a.toNat:Int)=(a.toUInt64.toNat:Int):=by have:=a.toNat_lt;rw[wrap_u64 aaU aaU];simp
def VE (a:UInt32):IntKind.u8.wrap (a.toNat:Int)=(a.toUInt8.toNat:Int):=by rw[ud];simp
def VF (a:UInt64):IntKind.u8.wrap (a.toNat:Int)=(a.toUInt8.toNat:Int):=by rw[ud];simp
section
variable (a b:Int)
def VG:br .add (.int .i64 a) (.int .i64 b)=some (.int .i64 (IntKind.i64.wrap (a+b))):=rfl
def VH:br .sub (.int .i64 a) (.int .i64 b)=some (.int .i64 (IntKind.i64.wrap (a - b))):=rfl
def VI:br .mul (.int .i64 a) (.int .i64 b)=some (.int .i64 (IntKind.i64.wrap (a*b))):=rfl
def VJ (c:b≠0):br .quo (.int .i64 a) (.int .i64 b)=some (.int .i64 (IntKind.i64.wrap (a.tdiv b))):=by simp[br,ft,hN,c]
def VK (c:b≠0):br .rem (.int .i64 a) (.int .i64 b)=some (.int .i64 (a.tmod b)):=by simp[br,ft,hN,c]
variable (k:IntKind)
def VL:br .eql (.int k a) (.int k b)=some (.bool (decide (a=b))):=by simp[br,ft,hN]
def VM:br .neq (.int k a) (.int k b)=some (.bool (decide (a≠b))):=by simp[br,ft,hN]
def VN:br .lss (.int k a) (.int k b)=some (.bool (decide (a<b))):=by simp[br,ft,hN]
def VO:br .leq (.int k a) (.int k b)=some (.bool (decide (a<=b))):=by simp[br,ft,hN]
def VP:br .gtr (.int k a) (.int k b)=some (.bool (decide (b<a))):=by simp[br,ft,hN]
def VQ:br .geq (.int k a) (.int k b)=some (.bool (decide (b<=a))):=by simp[br,ft,hN]
def VR (c:Bool):o1 .not (.bool c)=some (.bool !c):=rfl
end
def VS (a b:Int):br .add (.int .u64 a) (.int .u64 b)=some (.int .u64 (IntKind.u64.wrap (a+b))):=rfl
def VT (a b:Int):br .sub (.int .u64 a) (.int .u64 b)=some (.int .u64 (IntKind.u64.wrap (a - b))):=rfl
def VU (a b:Int):br .mul (.int .u64 a) (.int .u64 b)=some (.int .u64 (IntKind.u64.wrap (a*b))):=rfl
theorem sk (c:Nat) (d:IntKind) (b:Int) (k:0<=b) (o:b<64):br .shr (.int .u64 c) (.int d b)=some (.int .u64 (c>>>b.toNat:Nat)):=by
 obtain⟨a,rfl⟩: ∃a:Nat,b=a:=⟨b.toNat,aaU⟩;have h:min a IntKind.u64.bits=a:=by simp[IntKind.bits];omega
 have p:(2)^a=((2^a:Nat):Int):=aaV;simp only[br,ft,if_true,o0,if_neg (show¬(a:Int)<0 by omega),a6X,h,a7q];grind
def iF (a:Nat):IntKind.u8.wrap (a:Int)=((UInt8.ofNat a).toNat:Int):=by rw[ud];simp
variable{A:List UInt8}
theorem VV (a:0<=b1) (b:b1.toNat<A.length):cC 1 (.J (A.map ak) N) (.v (.int e1 b1))=some (.bU [.v (.int .u8 (A.getD b1.toNat 0).toNat)]):=by
 rw[gj a,a7d,a6y b];have:A.getD b1.toNat 0=A[b1.toNat]:=by simp_all
 rw[this];rfl
def VW (a:Decidable True): @decide True a=true:=aaV
def VX (a:Decidable False): @decide False a=false:=aaV
def Ck:aL true e g= .agg (g.take e):=rfl
def Cl:R.cells (.J g N)= [.J g N]:=rfl
def Cm:R.cells (.v e4)= [.v e4]:=rfl
def Cn:R.cells (.ptr e i)= [.ptr e i]:=rfl
def Co:R.cells (.bU g)= [.bU g]:=rfl
def Cp:R.cells (.iface b2 n)= [.iface b2 n]:=rfl
def hR:R.cells (.agg g)=g:=rfl
theorem sl (a:g.length=B.length):putAt B 0 g=g:=by simp[putAt,a]
def VY:aL false 1 (n::g)=n:=rfl
section
variable (x y:UInt32)
def VZ:br .add (.int .u32 x.toNat) (.int .u32 y.toNat)=some (.int .u32 (x+y).toNat):=by rfl
def Cq:br .sub (.int .u32 x.toNat) (.int .u32 y.toNat)=some (.int .u32 (x - y).toNat):=by have:=x.toNat_lt;have:=y.toNat_lt;simp only[br,ft,hN,xf,UInt32.toNat_sub];simp;omega
def Cr:br .mul (.int .u32 x.toNat) (.int .u32 y.toNat)=some (.int .u32 (x*y).toNat):=by rfl
theorem qN (a:Nat) (b:a<4294967296):IntKind.u32.wrap (a:Int)=a:=wrap_u32 aaU aaU
def ofInt_u32:BitVec.ofInt 32 (x.toNat:Int)=x.toBitVec:=by simp
def W0:br .and (.int .u32 x.toNat) (.int .u32 y.toNat)=some (.int .u32 (x&&&y).toNat):=by have a:br .and (.int .u32 x.toNat) (.int .u32 y.toNat)=some (.int .u32 (IntKind.u32.wrap (BitVec.ofInt 32 (x.toNat)&&&BitVec.ofInt 32 (y.toNat)).toNat)):=rfl;rw[a,ofInt_u32,ofInt_u32,qN _ (aar _)];rfl
def W1:br .or (.int .u32 x.toNat) (.int .u32 y.toNat)=some (.int .u32 (x|||y).toNat):=by have a:br .or (.int .u32 x.toNat) (.int .u32 y.toNat)=some (.int .u32 (IntKind.u32.wrap (BitVec.ofInt 32 (x.toNat)|||BitVec.ofInt 32 (y.toNat)).toNat)):=rfl;rw[a,ofInt_u32,ofInt_u32,qN _ (aar _)];rfl
def W2:br .xor (.int .u32 x.toNat) (.int .u32 y.toNat)=some (.int .u32 (x^^^y).toNat):=by have a:br .xor (.int .u32 x.toNat) (.int .u32 y.toNat)=some (.int .u32 (IntKind.u32.wrap (BitVec.ofInt 32 (x.toNat)^^^BitVec.ofInt 32 (y.toNat)).toNat)):=rfl;rw[a,ofInt_u32,ofInt_u32,qN _ (aar _)];rfl
def W3:o1 .xor (.int .u32 x.toNat)=some (.int .u32 (~~~x).toNat):=by
 have a:o1 .xor (.int .u32 x.toNat)=some (.int .u32 (IntKind.u32.wrap (BitVec.ofInt 32 4294967295^^^BitVec.ofInt 32 (x.toNat)).toNat)):=rfl;rw[a,ofInt_u32,qN _ (aar _)];have:(BitVec.ofInt 32 4294967295^^^x.toBitVec)= ~~~x.toBitVec:=by rw[BitVec.not_def];rfl
 rw[this];rfl
theorem W4 (c:IntKind) (a:Int) (h:0<=a) (k:a<32):br .shl (.int .u32 x.toNat) (.int c a)=some (.int .u32 (x<<<UInt32.ofNat a.toNat).toNat):=by
 obtain⟨b,rfl⟩: ∃b:Nat,a=b:=⟨a.toNat,aaU⟩;have hm:b<32:=aaU;have d:min b IntKind.u32.bits=b:=by simp[IntKind.bits];omega
 simp only[br,ft,if_true,o0,if_neg (show¬(b:Int)<0 by omega),a6X,d,xf,UInt32.toNat_shiftLeft,UInt32.toNat_ofNat',a8Q];grind
theorem W5 (c:IntKind) (a:Int) (h:0<=a) (k:a<32):br .shr (.int .u32 x.toNat) (.int c a)=some (.int .u32 (x>>>UInt32.ofNat a.toNat).toNat):=by
 obtain⟨b,rfl⟩: ∃b:Nat,a=b:=⟨a.toNat,aaU⟩;have hm:b<32:=aaU;have d:min b IntKind.u32.bits=b:=by simp[IntKind.bits];omega
 simp only[br,ft,if_true,o0,if_neg (show¬(b:Int)<0 by omega),a6X,d,UInt32.toNat_shiftRight,UInt32.toNat_ofNat',a7q];grind
end
def aW (a:Nat) (b:List R):Prop:= ∀c∈b,c.cells.length=a
def W6:aW e []=True:=by simp[aW]
def Cs:aW e (n::g)=(n.cells.length=e/\aW e g):=by simp[aW]
theorem W7:aW e (g++B)=(aW e g/\aW e B):=by grind[aW]
theorem ue:aW 1 (A.map ak)=True:=by simp[aW,ak,R.cells]
def bf (a b:U) (h:Nat) (c:List R) (k:Own):Prop:=
 a.sub b/\match k with
  | .buf d o=>a d=none/\b d=some (.buf h c.length o)
  | .any=>False
  | _=>c= []
theorem U.au (c:f.sub s) (d:s.sub e0):f.sub e0:=λa b h=>d a b (c a b h)
def U.bI (b:f.sub s) (a:s e=none):f e=none:=by
 cases bZ:f e with
 |none=>rfl
 |some c=>rw[b e c bZ]at a;cases a
theorem bf.nil (a:s.sub f) {b:Nat}:bf s f b [] .nil:=⟨a,rfl⟩
def bf.zero (a:s.sub f) {b:Nat}:bf s f b [] .zero:=⟨a,rfl⟩
def bf.sub {a:Nat}{b:List R}{c:Own} (d:bf s f a b c):s.sub f:=d.1
theorem bf.base {o:Own} (b:bf s f e g o) (c:e0.sub s):bf e0 f e g o:=by
 refine⟨U.au c b.1,?_⟩;have a:=b.2;cases o with
 |buf d h=>exact⟨U.bI c a.1,a.2⟩
 | _=>exact a
def bf.mono (b:bf s f e g N) (c:f.sub e0):bf s e0 e g N:=by
 refine⟨U.au b.1 c,?_⟩;have a:=b.2;cases N with
 |buf d h=>exact⟨a.1,c _ _ a.2⟩
 | _=>exact a
theorem bf.set {c a:Nat}{d:List R}{b:Own}{ob p:bs} (h:bf s f c d b) (k:s a=some p):bf (s.set a ob) (f.set a ob) c d b:=by
 refine⟨U.lp h.1,?_⟩;have o:=h.2;cases b with
 |buf r x=>
  have y:r≠a:=by rintro rfl;rw[o.1]at k;cases k
  grind[U.an]
 | _=>exact o
theorem bf.new {ob:bs} (a:bf s f i g N) (b:f e=none):bf (s.set e ob) (f.set e ob) i g N:=by
 refine⟨U.lp a.1,?_⟩;have c:=a.2;cases N with
 |buf d h=>
  have k:d≠e:=by rintro rfl;rw[c.2]at b;cases b
  grind[U.an]
 | _=>exact c
def mj (d x:Nat) (c:U) (y z:R) (k:R->U->Prop):Prop:=
 match y,z with
 | .J xs r,.J a _=>(∀o∈xs,o.cells.length=d)/\(∀o∈a,o.cells.length=d)/\(xs.length+a.length)*x<=140737488355328/\xs.length+a.length<=9223372036854775807/\
   match r with
   | .buf p C=>c p=some (.buf d xs.length C)/\ ∀b h,(b=p\/c b=none)->k (.J (xs++a) (.buf b h)) ((c.del p).set b (.buf d (xs.length+a.length) h))
   | .any=>False
   | _=>xs= []/\(if a= []then k (.J [] r) c else∀b h,c b=none->k (.J a (.buf b h)) (c.set b (.buf d a.length h)))
 | _,_=>False
def W8:G K (.app e i Y e9) j f t=mj e i f (al j Y) (al j e9) (bX t ()):=rfl
theorem eh {C:cz t} (a:bf s f e g N) (D:aW e g) (E:aW e B) (F:(g.length+B.length)*i<=140737488355328) (G:g.length+B.length<=9223372036854775807)
  (c: ∀p r,bf s r e (g++B) p->t (.J (g++B) p) r):mj e i f (.J g N) (.J B e5) (bX t C):=by
 have d:=a.2;refine⟨D,E,F,G,?_⟩;cases N with
 |any=>trivial
 |nil=>
  obtain rfl:g= []:=d;refine⟨rfl,?_⟩;split
  .rename_i h;subst h;exact c _ _ ⟨a.1,rfl⟩
  .intro k x b;refine c _ _ ⟨U.af a.1 (U.bI a.1 b),U.bI a.1 b,?_⟩;rw[U.ai];simp
 |zero=>
  obtain rfl:g= []:=d;refine⟨rfl,?_⟩;split
  .rename_i h;subst h;exact c _ _ ⟨a.1,rfl⟩
  .intro k x b;refine c _ _ ⟨U.af a.1 (U.bI a.1 b),U.bI a.1 b,?_⟩;rw[U.ai];simp
 |buf L T=>
  refine⟨d.2,λk x b=>c _ _ ?_⟩;have y:s k=none:=by rcases b with rfl|b;exact d.1;exact U.bI a.1 b
  refine⟨U.af (λz P o=> ?_) y,y,?_⟩
  .have S:z≠L:=by rintro rfl;rw[d.1]at o;cases o
   rw[U.eH _ S];exact a.1 z P o
  .rw[U.ai,a6A]
def jK (d:Nat) (b:U) (a:List R) (h:R->U->Prop):Prop:=
 (∀k∈a,k.cells.length=d)/\(if a.length=0 then h (.J [] .zero) b else∀c,b c=none->h (.J a (.buf c a.length)) (b.set c (.buf d a.length a.length)))
def W9 {a:List Operand}:G K (.kh e a) j f t=jK e f (a.map (al j)) (bX t ()):=by simp only[G,jK,bX,a6J]
def dF {k:cz t} (a:s.sub f) (o:aW e g) (b: ∀c d,bf s d e g c->t (.J g c) d):jK e f g (bX t k):=by
 refine⟨o,?_⟩;split
 .rename_i p;obtain rfl:=a6F p;exact b _ _ ⟨a,rfl⟩
 .intro r h;exact b _ _ ⟨U.af a (U.bI a h),U.bI a h,by rw[U.ai]⟩
def cE (a:Option R) (b:Nat):Option Int:=
 match a with
 |none=>some b
 |some c=>intOf c
def fh (a:Own) (b c:Option R):Own:=
 match b,c with
 |none,none=>a
 | _,_=> .any
def dO (c:Nat) (a:R) (d h:Option R):Option R:=
 match a with
 | .J xs p=>match cE d 0,cE h xs.length with
  |some a,some b=>if 0<=a/\a<=b/\b<=xs.length/\xs.all (λr=>decide (r.cells.length=c))then some (.J ((xs.take b.toNat).drop a.toNat) (fh p d h))else none
  | _,_=>none
 | .bE k off len cap o=>match cE d 0,cE h len with
  |some a,some b=>if o=c/\0<=a/\a<=b/\b<=len/\a<len then some (.bE k (off+a.toNat*c) (b.toNat - a.toNat) (cap - a.toNat) c)else none
  | _,_=>none
 | .ao k len cap o=>match cE d 0,cE h len with
  |some a,some b=>if o=c/\0<=a/\a<=b/\b<=len/\(d.isSome=true->a<len)then some (qz d.isSome k a.toNat b.toNat cap c)else none
  | _,_=>none
 | _=>none
def xg (a:Option Operand) (b:Nat):cX j a b=cE (a.map (al j)) b:=by
 cases a with
 |none=>rfl
 |some a=>simp only[cX,cE,a7F,intOf];rfl
def Wa (a b:Option Operand):wj N a b=fh N (a.map (al j)) (b.map (al j)):=by cases a<;>cases b<;>rfl
theorem Wb {a d:Option Operand}:G K (.pb e Y a d) j f t=dy (dO e (al j Y) (a.map (al j)) (d.map (al j))) (c4 (λo=>t o f) ()):=by
 have p:a.isSome=(a.map (al j)).isSome:=aaV;simp only[G,dO,xg,Wa (j:=j) a d,p];generalize al j Y=r;generalize a.map (al j)=h;generalize d.map (al j)=k;cases r<;>try rfl
 .rename_i x D;simp only[];generalize cE h 0=b;generalize cE k x.length=c;cases b<;>cases c<;>try rfl
  simp only[jh,iD,a6P,decide_eq_true_eq];grind
 .rename_i y E len z C;simp only[];generalize cE h 0=b;generalize cE k len=c;cases b<;>cases c<;>try rfl
  simp only[jh,iD];grind
 .rename_i y len z C;simp only[];generalize cE h 0=b;generalize cE k len=c;cases b<;>cases c<;>try rfl
  simp only[jh,iD];grind
def Wc (a:0<=b1) (b:b1<=v):dO e (.ao i v M e) none (some (.v (.int e1 b1)))=some (.ao i b1.toNat M e):=by simp[dO,cE,intOf,a,b,qz]
def Wd (a:aW e g):dO e (.J g N) none none=some (.J g N):=by
 have:(g.all λb=>decide (b.cells.length=e))=true:=by simpa[aW] using a
 simp[dO,cE,fh,this]
theorem qO (a:0<=b1) (b:b1<=g.length) (c:aW e g):dO e (.J g N) (some (.v (.int e1 b1))) none=some (.J (g.drop b1.toNat) .any):=by
 have:(g.all λd=>decide (d.cells.length=e))=true:=by simpa[aW] using c
 simp[dO,cE,fh,intOf,this,a,b]
theorem o9 (a:0<=b1) (b:b1<=g.length) (c:aW e g):dO e (.J g N) none (some (.v (.int e1 b1)))=some (.J (g.take b1.toNat) .any):=by grind[decide,aW,dO,cE,fh,intOf]
theorem Ct {b:IntKind}{a:Int} (c:0<=b1) (d:b1<=a) (h:a<=g.length) (k:aW e g):dO e (.J g N) (some (.v (.int e1 b1))) (some (.v (.int b a)))=some (.J ((g.take a.toNat).drop b1.toNat) .any):=by grind[decide,aW,dO,cE,fh,intOf]
def uf (b:Bool) (a:List (Nat×cb)) (c d:R) (h:R->Prop):Prop:=
 match c,d with
 | .agg cs,.agg cK=>dk a cs/\dk a cK/\h (.v (.bool (xor b (peq (.agg cs) (.agg cK)))))
 | _,_=>False
variable{j5:List (Nat × cb)}
def We:G K (.eqv I j5 Y e9) j f t=uf I j5 (al j Y) (al j e9) (c4 (λa=>t a f) ()):=rfl
theorem Wf {a:R->Prop}:uf I j5 (.agg g) (.agg B) a=gX (dk j5 g/\dk j5 B) (cu (a (.v (.bool (xor I (peq (.agg g) (.agg B)))))) ()):=by simp only[uf,gX,cu];grind
def Wg:(A.map ak).drop e=(A.drop e).map ak:=aaV
def Wh:(A.map ak).take e=(A.take e).map ak:=aaV
def bf.Wi (a:s.sub f):bf s f 1 (([]:List UInt8).map ak) .nil:=⟨a,rfl⟩
theorem ni {a:List UInt8}{d:cz t} (h:bf s f 1 (A.map ak) N) (k:A.length+a.length<=140737488355328)
  (o: ∀b c,bf s c 1 ((A++a).map ak) b->t (.J ((A++a).map ak) b) c):mj 1 1 f (.J (A.map ak) N) (.J (a.map ak) e5) (bX t d):=by
 grind[eh,ue]
def xh {a:UInt8}{d:cz t} (h:bf s f 1 (A.map ak) N) (k:A.length+1<=140737488355328)
  (o: ∀b c,bf s c 1 ((A++ [a]).map ak) b->t (.J ((A++ [a]).map ak) b) c):mj 1 1 f (.J (A.map ak) N) (.J [ak a] e5) (bX t d):=
 ni (a:= [a]) h k o
def sm {a:UInt8}{d:cz t} (h:s.sub f) (k: ∀b c,bf s c 1 [ak a] b->t (.J [ak a] b) c):jK 1 f [.v (.int .u8 a.toNat)] (bX t d):=
 dF (g:= [a].map ak) h (by rw[ue];trivial) k
def xi (a:e<A.length):(A.map ak)[e]? =some (.v (.int .u8 (A.getD e 0).toNat)):=by
 rw[a7d,a6y a];have:A.getD e 0=A[e]:=by simp[a]
 rw[this];rfl
def Cu {b c:Fr->U->Prop} (d: ∀j f,b j f->c j f): ∀(h:List ca) (j:Fr) (f:U),jc K h b j f->jc K h c j f
 | [],j,f,a=>d j f a
 | _::k,j,f,a=>s4 (λj f a=>Cu d k j f a) a
def Cv {b:Nat->ca}{c d:Fr->U->Prop} (h: ∀j f,c j f->d j f): ∀(k:List dd) (j:Fr) (f:U),can K b c k j f->can K b d k j f
 | [],j,f,a=>h j f a
 | _::o,j,f,a=>⟨a.1,s4 (λj f a=>⟨a.1,Cv h o j f a.2⟩) a.2⟩
theorem jj: ∀(o:et) {h k:gh->Fr->U->Prop} (_: ∀c j f,h c j f->k c j f) (j:Fr) (f:U),c3 K o h j f->c3 K o k j f
 | .skip,_,_,b,j,f,a=>b _ j f a
 | .ret,_,_,b,j,f,a=>b _ j f a
 | .exit _,_,_,b,j,f,a=>b _ j f a
 | .plain ops,_,_,b,j,f,a=>Cu (b _) ops j f a
 | .draw _ y,_,_,b,j,f,a=>Cv (b _) y j f a
 | .seq d p,h,k,b,j,f,a=>jj d (λc j f a=>by
   cases c with
   |norm=>exact jj p b j f a
   |exit x=>exact b _ j f a
   |ret=>exact b _ j f a) j f a
 | .block x d,h,k,b,j,f,a=>jj d (λc j f a=>by
   cases c with
   |norm=>exact b _ j f a
   |exit G=>simp only[lo]at a|-;grind
   |ret=>exact b _ j f a) j f a
 | .cond o d p,h,k,b,j,f,a=>by
   simp only[xa,C5,ks]at a|-;split at a
   .exact⟨λr=>jj d b j f (a.1 r),λr=>jj p b j f (a.2 r)⟩
   .trivial
 | .loop d,h,k,b,j,f,a=>by
   obtain⟨z,C,D,E⟩:=a;exact⟨z,C,D,λj f F=>jj d (λc j f a=>by
    cases c with
    |norm=>exact a
    |exit x=>exact b _ j f a
    |ret=>exact b _ j f a) j f (E j f F)⟩
def sn {b c:et}{k:cz (c3 K b (eQ (c3 K h8 e7) e7) j f)}{o:cz (c3 K c (eQ (c3 K h8 e7) e7) j f)} (d:Fr->U->Prop)
  (p:I=true->c3 K b (eQ d e7) j f) (r:I=false->c3 K c (eQ d e7) j f) (x: ∀j f,d j f->c3 K h8 e7 j f):
  ks (.v (.bool I)) (cu (c3 K b (eQ (c3 K h8 e7) e7) j f) k) (cu (c3 K c (eQ (c3 K h8 e7) e7) j f) o):=by
 have hm: ∀h j f,eQ d e7 h j f->eQ (c3 K h8 e7) e7 h j f:=λh j f a=>by
  cases h with
  |norm=>exact x j f a
  |exit y=>exact a
  |ret=>exact a
 exact⟨λa=>jj b hm j f (p a),λa=>jj c hm j f (r a)⟩
def pt (b c:R):Option R:=
 match b,c with
 | .v (.string d),.v (.int _ a)=>if 0<=a then(match d.data[a.toNat]? with|some h=>some (.v (.int .u8 h.toNat))|none=>none)else none
 | _,_=>none
def Wj:G K (.lV Y e9) j f t=dy (pt (al j Y) (al j e9)) (c4 (λc=>t c f) ()):=by
 simp only[G,pt];generalize al j Y=d;generalize al j e9=h;cases d<;>first
  |rfl
  |(rename_i v;cases v<;>first
    |rfl
    |(cases h<;>first
      |rfl
      |(rename_i k o;cases o<;>first
        |rfl
        |(
          rename_i r a;simp only[];by_cases b:0<=a
          .simp only[b,true_and,if_true];generalize k.data[a.toNat]? =p;cases p<;>rfl
          .simp[b,dy]))))
def so (a b:Nat) (c:U) (d:R):Option R:=
 match d with
 | .ptr h off=>match c h with
  |some (.ro cs)=>if off+b*a<=cs.length then some (.J (er a b (cs.drop off)) .any)else none
  | _=>none
 | _=>none
def Wk:G K (.kj e i Y none none) j f t=dy (so e i f (al j Y)) (c4 (λa=>t a f) ()):=by
 simp only[G,so,cX];generalize al j Y=b;cases b<;>first
  |rfl
  |(
    rename_i c k;simp only[];generalize f c=d;cases d with
    |none=>simp[dy]
    |some h=>cases h with
     |ro cs=>simp only[jh,iD];simp
     | _=>simp[dy])
def Wl (a:f i=some (.ro g)) (b:g.length=e):so 1 e f (.ptr i 0)=some (.J g .any):=by simp[so,a,b,er,a6z]
theorem xj (a:e<64):br .shl (.int .i64 b1) (.int e1 (e:Int))=some (.int .i64 (IntKind.i64.wrap (b1*2^e))):=by
 have b:min e IntKind.i64.bits=e:=by simp[IntKind.bits];omega
 simp_all [br,ft,o0]
def Cw (a b:Option R):Option R:=
 match a,b with
 |some a,some b=>some (.aJ [a,b])
 | _,_=>none
def Wm:Cw (some n) (some b6)=some (.aJ [n,b6]):=rfl
def Wn {a b:Nat×Option (Bool×Nat)}:je j f [a,b]=Cw (gi j f a) (gi j f b):=by simp only[je,fx];cases gi j f a<;>cases gi j f b<;>rfl
def Cx (a b c:Option R):Option R:=
 match a,b,c with
 |some a,some b,some c=>some (.aJ [a,b,c])
 | _,_,_=>none
def Wo {a:R}:Cx (some n) (some b6) (some a)=some (.aJ [n,b6,a]):=rfl
def Wp {a b c:Nat×Option (Bool×Nat)}:je j f [a,b,c]=Cx (gi j f a) (gi j f b) (gi j f c):=by simp only[je,fx];cases gi j f a<;>cases gi j f b<;>cases gi j f c<;>rfl
def Wq:((0:Nat):Int)=0:=rfl
def Wr:((1:Nat):Int)=1:=rfl
def Ws:((e:Int).tmod (i:Int))=((e%i:Nat):Int):=rfl
def Cy:((e:Int).tmod 64)=((e%64:Nat):Int):=Ws (i:=64)
def hS:=
 a6w @TS<|
 a6w @TT<|
 a6w @TU<|
 a6w @TV<|
 a6w @TW<|
 a6w @TX<|
 a6w @TY<|
 a6w @xa<|
 a6w @TZ<|
 a6w @iD<|
 a6w @TR<|
 a6w @U0<|
 a6w @U1<|
 a6w @U2<|
 a6w @U3<|
 a6w @U4<|
 a6w @U6<|
 a6w @U5<|
 a6w @U7<|
 a6w @U8<|
 a6w @U9<|
 a6w @Ug<|
 a6w @Ui<|
 a6w @Uj<|
 a6w @Um<|
 a6w @Uk<|
 a6w @Ul<|
 a6w @Un<|
 a6w @Uo<|
 a6w @Us<|
 a6w @Ut<|
 a6w @Uq<|
 a6w @Ur<|
 a6w @Uz<|
 a6w @UC<|
 a6w @UD<|
 a6w @UE<|
 a6w @UF<|
 a6w @UI<|
 a6w @UK<|
 a6w @UN<|
 a6w @UQ<|
 a6w @US<|
 a6w @UT<|
 a6w @V0<|
 a6w @V3<|
 a6w @V7<|
 a6w @UW<|
 a6w @UY<|
 a6w @V8<|
 a6w @Va<|
 a6w @Vc<|
 a6w @Vd<|
 a6w @Vf<|
 a6w @W8<|
 a6w @W9<|
 a6w @Wb<|
 a6w @Wj<|
 a6w @Wk<|
 a6w @We<|
 a6w @Vm<|
 a6w @Uu<|
 a6w @Uv<|
 a6w @Vn<|
 a6w @V1<|
 a6w @V2<|
 a6w @Vp<|
 @Vq
def hT:=
 a6w @C6<|
 a6w @C7<|
 a6w @Ua<|
 a6w @Ub<|
 a6w @Uc<|
 a6w @Ud<|
 a6w @Ue<|
 a6w @Up<|
 a6w @eq_self.{1}<|
 a6w @Uh<|
 a6w @a7h.{0}<|
 a6w @a7k.{0}<|
 a6w @Wf<|
 a6w @Option.map_none.{0,0}<|
 a6w @Wd<|
 a6w @qO<|
 a6w @o9<|
 a6w @Ct<|
 a6w @Wg<|
 a6w @Wh<|
 a6w @Uw<|
 a6w @Ux<|
 a6w @Uy<|
 a6w @sd<|
 a6w @sc<|
 a6w @UA<|
 a6w @UB<|
 a6w @UG<|
 a6w @UH<|
 a6w @C9<|
 a6w @UJ<|
 a6w @UL<|
 a6w @UM<|
 a6w @UO<|
 a6w @UP<|
 a6w @si<|
 a6w @UR<|
 a6w @VV<|
 a6w @u7<|
 a6w @iE<|
 a6w @UZ<|
 a6w @V5<|
 a6w @UU<|
 a6w @UX<|
 a6w @V6<|
 a6w @sj<|
 a6w @V9<|
 a6w @Vb<|
 a6w @Ve<|
 a6w @Vh<|
 a6w @Vj<|
 a6w @Vk<|
 a6w @Vl<|
 a6w @Vi<|
 a6w @a7F.{0,0}<|
 a6w @Vs<|
 a6w @Vt<|
 a6w @Vr<|
 a6w @Vv<|
 a6w @Vu<|
 a6w @sl<|
 a6w @a6Q.{0,0}<|
 a6w @a7W.{0,0}<|
 a6w @VG<|
 a6w @VH<|
 a6w @VI<|
 a6w @VJ<|
 a6w @VK<|
 a6w @VL<|
 a6w @VM<|
 a6w @VN<|
 a6w @VO<|
 a6w @VP<|
 a6w @VQ<|
 a6w @VR<|
 a6w @VZ<|
 a6w @Cq<|
 a6w @Cr<|
 a6w @W0<|
 a6w @W1<|
 a6w @W2<|
 a6w @W3<|
 a6w @W4<|
 a6w @W5<|
 a6w @wrap_i64<|
 a6w @VC<|
 a6w @VD<|
 a6w @VE<|
 a6w @VF<|
 a6w @VS<|
 a6w @VT<|
 a6w @VU<|
 a6w @sk<|
 a6w @wrap_u64<|
 a6w @VY<|
 a6w @Ck<|
 a6w @a6J.{0,0}<|
 a6w @a6E.{0}<|
 a6w @a6G.{0}<|
 a6w @U.Cc<|
 a6w @U.Vw<|
 a6w @U.Vx<|
 a6w @U.Vy<|
 a6w @U.Vz<|
 a6w @U.set_set<|
 a6w @U.Cd<|
 a6w @U.Ce<|
 a6w @U.Cf<|
 a6w @U.Cg<|
 a6w @U.Ch<|
 a6w @U.Ci<|
 a6w @U.Cj<|
 a6w @U.VB<|
 a6w @Cl<|
 a6w @Cm<|
 a6w @Cn<|
 a6w @Co<|
 a6w @Cp<|
 a6w @hR<|
 a6w @a8a.{0}<|
 a6w @and_self<|
 a6w @a7c<|
 a6w @a7s<|
 a6w @a9v<|
 a6w @a6X<|
 a6w @true_and<|
 a6w @and_true<|
 a6w @a8A<|
 a6w @a7g<|
 a6w @VW<|
 @VX
def eJ:=
 a6w @Wq<|
 a6w @Wr<|
 a6w @Wn<|
 a6w @Wm<|
 a6w @Wp<|
 @Wo
def bd:=
 a6w @a6E.{0}<|
 a6w @a6G.{0}<|
 a6w @a6J.{0,0}<|
 a6w @a6A.{0}<|
 a6w @a8s.{0}<|
 a6w @List.length_range<|
 a6w @a6C.{0}<|
 a6w @a6R.{0}<|
 a6w @Cl<|
 a6w @Cm<|
 a6w @Cn<|
 a6w @Co<|
 a6w @Cp<|
 a6w @hR<|
 a6w @ue<|
 a6w @W6<|
 a6w @Cs<|
 a6w @W7<|
 a6w @and_true<|
 a6w @true_and<|
 a6w @a7c<|
 a6w @eq_self.{1}<|
 @and_self
def bn (a:List UInt8):R:= .v (.string ⟨a.toArray⟩)
theorem toList_mk (a:List UInt8):(⟨a.toArray⟩:ByteArray).toList=a:=aaV
theorem Cz (a b:List UInt8):br .eql (.string ⟨a.toArray⟩) (.string ⟨b.toArray⟩)=some (.bool (decide (a=b))):=by grind[br,qq,toList_mk]
theorem CA (a b:List UInt8):br .neq (.string ⟨a.toArray⟩) (.string ⟨b.toArray⟩)=some (.bool (decide (a≠b))):=by grind[br,qq,toList_mk]
def oa (a:List UInt8):(⟨a.toArray⟩:ByteArray).size=a.length:=by rfl
variable{u:bl}{l h9:World}
section
def Wt:se K ⟨some e,e2,some (i,I)⟩ j f=hQ (j i) I (cu (G K e2 j f (λa _=>a=j e)) ()) (cu ((.aJ []:R)=j e) ()):=rfl
def Wu {a:Option Nat}:Def K ⟨a,e2,some (e,I)⟩ j=hQ (j e) I (cu (G K e2 j U.emp (λ_ _=>True)) ()) (cu True ()):=rfl
def nj (a:R):Option R:=
 match a with
 | .J xs _=>match bytesOf xs with
  |some b=>some (.v (.string ⟨b.toArray⟩))
  |none=>none
 | _=>none
def CB:nj (.J (A.map ak) N)=some (.v (.string ⟨A.toArray⟩)):=by simp[nj,rT]
def Wv:G K (.qx Y) j f t=dy (nj (al j Y)) (c4 (λa=>t a f) ()):=by simp only[G,nj];generalize al j Y=b;cases b<;>first|rfl|(rename_i c h;simp only[];generalize bytesOf c=d;cases d<;>rfl)
def qP (d:Bool) (a b:R):Option R:=
 match a,b with
 | .v (.int c a),.v (.int h b)=>if c=h then some (.v (.int c (if d then max a b else min a b)))else none
 | _,_=>none
def Ww {a:Int}:qP true (.v (.int e1 b1)) (.v (.int e1 a))=some (.v (.int e1 (max b1 a))):=by simp[qP]
def Wx {a:Int}:qP false (.v (.int e1 b1)) (.v (.int e1 a))=some (.v (.int e1 (min b1 a))):=by simp[qP]
def Wy:G K (.lX I e1 Y e9) j f t=dy (qP I (al j Y) (al j e9)) (c4 (λa=>t a f) ()):=by
 simp only[G,qP];generalize al j Y=b;generalize al j e9=c;cases b<;>first
  |rfl
  |(rename_i v;cases v<;>first
    |rfl
    |(cases c<;>first
      |rfl
      |(rename_i d;cases d<;>first|rfl|(simp only[jh,iD]))))
def sq (a:R):Option R:=
 match a with
 | .v (.string b)=>some (.v (.int .i64 b.size))
 | _=>none
def xk:sq (.v (.string ⟨A.toArray⟩))=some (.v (.int .i64 A.length)):=by rfl
def Wz:G K (.qv Y) j f t=dy (sq (al j Y)) (c4 (λa=>t a f) ()):=by simp only[G,sq];generalize al j Y=b;cases b<;>first|rfl|(rename_i v;cases v<;>rfl)
def qQ (a:R) (d h:Option R):Option R:=
 match a with
 | .v (.string b)=>match cE d 0,cE h b.size with
  |some a,some c=>if 0<=a/\a<=c/\c<=b.size then some (.v (.string (b.extract a.toNat c.toNat)))else none
  | _,_=>none
 | _=>none
def xl (a:List UInt8) (b c:Nat):(⟨a.toArray⟩:ByteArray).extract b c=⟨((a.take c).drop b).toArray⟩:=by apply ByteArray.ext;simp only[ByteArray.data_extract];simp[a7T]
def WA (a:0<=b1) (b:b1<=A.length):qQ (.v (.string ⟨A.toArray⟩)) (some (.v (.int e1 b1))) none=some (.v (.string ⟨(A.drop b1.toNat).toArray⟩)):=by simp[qQ,cE,intOf,oa,a,b,xl]
def WB (a:0<=b1) (b:b1<=A.length):qQ (.v (.string ⟨A.toArray⟩)) none (some (.v (.int e1 b1)))=some (.v (.string ⟨(A.take b1.toNat).toArray⟩)):=by simp[qQ,cE,intOf,oa,a,b,xl]
def WC {b:IntKind}{a:Int} (c:0<=b1) (d:b1<=a) (h:a<=A.length):qQ (.v (.string ⟨A.toArray⟩)) (some (.v (.int e1 b1))) (some (.v (.int b a)))=some (.v (.string ⟨((A.take a.toNat).drop b1.toNat).toArray⟩)):=by simp[qQ,cE,intOf,oa,c,d,h,xl]
theorem CC (a:0<=b1) (b:b1<A.length):pt (.v (.string ⟨A.toArray⟩)) (.v (.int e1 b1))=some (.v (.int .u8 (A.getD b1.toNat 0).toNat)):=by grind[List.getD,pt]
def CD (c:Nat) (h:U) (r x:R) (p:R->U->Prop):Prop:=
 match r,x with
 | .bE d off a _ k,.J b _=>k=c/\(∀o∈b,o.cells.length=c)/\match h d with
  |some (.cells cs)=>off+a*c<=cs.length/\p (.v (.int .i64 (min b.length a))) (h.set d (.cells (putAt cs off (flat (b.take a)))))
  | _=>False
 | .ao d a _ k,.J b _=>k=c/\(∀o∈b,o.cells.length=c)/\match h d with
  |some (.cells cs)=>a*c<=cs.length/\p (.v (.int .i64 (min b.length a))) (h.set d (.cells (putAt cs 0 (flat (b.take a)))))
  | _=>False
 | _,_=>False
def WD:G K (.mP e Y e9) j f t=CD e f (al j Y) (al j e9) (bX t ()):=rfl
def CE {a:cz t} (b:aW e g) (c:f v=some (.cells B)) (d:M+i*e<=B.length)
  (h:t (.v (.int .i64 (min g.length i))) (f.set v (.cells (putAt B M (flat (g.take i)))))):CD e f (.bE v M i b9 e) (.J g N) (bX t a):=by
 refine⟨rfl,b,?_⟩;rw[c];trivial
def ug (c b:Nat) (k:U) (a:R) (o p:Option R):Option R:=
 match a with
 | .ptr h off=>match cE o 0,cE p b with
  |some a,some d=>match k.read h with
   |some cs=>if 0<=a/\a<=d/\d<=b/\off+b*c<=cs.length/\a<b then some (.bE h (off+a.toNat*c) (d.toNat - a.toNat) (b - a.toNat) c)else none
   |none=>none
  | _,_=>none
 | _=>none
def xm (a:f.read v=some g) (b:M+e*i<=g.length) (c:0<e):ug i e f (.ptr v M) none none=some (.bE v M e e i):=by simp[ug,cE,a,b,c]
theorem WE {a b:Option Operand}:G K (.ki i e Y a b false) j f t=dy (ug i e f (al j Y) (a.map (al j)) (b.map (al j))) (c4 (λc=>t c f) ()):=by
 simp only[G,ug,xg];generalize al j Y=d;generalize a.map (al j)=h;generalize b.map (al j)=k;cases d<;>try rfl
 rename_i o y;simp only[];generalize cE h 0=p;generalize cE k e=r;generalize f.read o=x;cases p<;>cases r<;>cases x<;>first
  |rfl
  |(simp[dy];done)
  |(
    simp only[jh,iD,a7H,if_false];grind)
def ob (d:Nat) (b:U) (a:List R) (h:R->U->Prop):Prop:=
 (∀k∈a,k.cells.length=d)/\(if a.length=0 then h (.J [] .zero) b else∀c,b c=none->h (.ao c a.length a.length d) (b.set c (.cells (flat a))))
def WG {a:List Operand}:G K (.kl e a) j f t=ob e f (a.map (al j)) (bX t ()):=by simp only[G,ob,bX,a6J]
def oc {a:cz t}:ob e f [] (bX t a)=t (.J [] .zero) f:=by simp[ob,bX]
def eK {b:cz t} (c:aW e g) (d:g≠ []) (h: ∀a,f a=none->t (.ao a g.length g.length e) (f.set a (.cells (flat g)))):ob e f g (bX t b):=by refine⟨c,?_⟩;rw[if_neg (λk=>d (a6F k))];exact h
def CF (d h:Nat) (k:List R) (c:U) (o p:R) (r:R->U->Prop):Prop:=
 match o,p with
 | .v (.int _ a),.v (.int _ x)=>a=x/\0<=a/\a<=9223372036854775807/\a*h<=281474976710656/\ ∀b,c b=none->r (.ao b a.toNat a.toNat d) (c.set b (.cells (List.replicate a.toNat k).flatten))
 | _,_=>False
def WH:G K (.kk e i g Y e9) j f t=CF e i g f (al j Y) (al j e9) (bX t ()):=rfl
theorem xn {b:IntKind}{c:cz t} (d:e*v<=281474976710656) (h:e<=9223372036854775807) (k: ∀a,f a=none->t (.ao a e e i) (f.set a (.cells (List.replicate e g).flatten))):
  CF i v g f (.v (.int e1 (e:Int))) (.v (.int b (e:Int))) (bX t c):=⟨rfl,aaU,aaU,aaU,λa o=>by
 grind[bX,Int.toNat_natCast]⟩
def jL (c z:Nat) (d:U) (E F:R) (x:R->U->Prop):Prop:=
  match mY d c F with
  |some (b,y)=>match E with
    | .J xs D=>xs= []/\(D= .nil\/D= .zero)/\b*z<=140737488355328/\b<=9223372036854775807/\
      (if b=0 then x (.J [] D) d else∀h k p,d h=none->b<=k->k<=maxLen->p.length=(k - b)*c->x (.ao h b k c) (d.set h (.cells (y++p))))
    | .ao r a k C=>match d r with
      |some (.cells cs)=>C=c/\cs.length=k*c/\(a+b)*z<=140737488355328/\a+b<=9223372036854775807/\
        (if a+b<=k then x (.ao r (a+b) k c) (d.set r (.cells (putAt cs (a*c) y)))
         else∀h o p,d h=none->a+b<=o->o<=maxLen->p.length=(o -(a+b))*c->x (.ao h (a+b) o c) (d.set h (.cells (cs.take (a*c)++y++p))))
      |some (.eP cs)=>C=c/\cs.length=k*c/\(a+b)*z<=140737488355328/\a+b<=9223372036854775807/\
        (if a+b<=k then x (.ao r (a+b) k c) (d.set r (.eP (putAt cs (a*c) y)))
         else∀h o p,d h=none->a+b<=o->o<=maxLen->p.length=(o -(a+b))*c->x (.ao h (a+b) o c) (d.set h (.cells (cs.take (a*c)++y++p))))
      | _=>False
    | .bE r off a k C=>match d r with
      |some (.cells cs)=>C=c/\off+k*c<=cs.length/\(a+b)*z<=140737488355328/\a+b<=9223372036854775807/\
        (if a+b<=k then x (.bE r off (a+b) k c) (d.set r (.cells (putAt cs (off+a*c) y)))
         else∀h o p,d h=none->a+b<=o->o<=maxLen->p.length=(o -(a+b))*c->x (.ao h (a+b) o c) (d.set h (.cells ((cs.drop off).take (a*c)++y++p))))
      | _=>False
    | _=>False
  |none=>False
def WI:G K (.lY e i Y e9) j f t=jL e i f (al j Y) (al j e9) (bX t ()):=rfl
def av (p r:U) (a:Nat) (d:List R) (h:R):Prop:=
 p.sub r/\((d= []/\(h= .J [] .nil\/h= .J [] .zero))\/ ∃k b c o,h= .ao k b c a/\p k=none/\r k=some (.cells o)/\o.length=c*a/\o.take (b*a)=d/\d.length=b*a/\b<=c/\c<=maxLen)
theorem av.nil {a b:U}{c:Nat} (d:a.sub b):av a b c [] (.J [] .nil):=⟨d,.inl ⟨rfl,.inl rfl⟩⟩
def av.zero {a b:U}{c:Nat} (d:a.sub b):av a b c [] (.J [] .zero):=⟨d,.inl ⟨rfl,.inr rfl⟩⟩
def av.mono {a:R} (d:av f s e g a) (c:s.sub e0):av f e0 e g a:=by
 obtain⟨h,b⟩:=d;refine⟨U.au h c,?_⟩;rcases b with b|⟨k,o,p,r,x,y,z,C⟩
 .exact .inl b
 .exact .inr ⟨k,o,p,r,x,y,c _ _ z,C⟩
theorem av.base (c:av f e0 e g n) (b:s.sub f):av s e0 e g n:=by
 obtain⟨d,a⟩:=c;refine⟨U.au b d,?_⟩;rcases a with a|⟨h,k,o,p,r,x,y⟩
 .exact .inl a
 .exact .inr ⟨h,k,o,p,r,U.bI b x,y⟩
def av.new {ob:bs} (h:av s f i g n) (k:f e=none):av (s.set e ob) (f.set e ob) i g n:=by
 obtain⟨o,a⟩:=h;refine⟨U.lp o,?_⟩;rcases a with a|⟨c,p,r,x,y,z,b,C⟩
 .exact .inl a
 .have d:c≠e:=by rintro rfl;rw[k]at b;cases b
  exact .inr ⟨c,p,r,x,y,by rw[U.an _ _ d];exact z,by rw[U.an _ _ d];exact b,C⟩
theorem av.src (b:av s f e g n): ∃a,g.length=a*e/\bV f e n=some (a,g)/\fa n=some (.v (.int .i64 a)):=by
 obtain⟨h,c⟩:=b;rcases c with ⟨rfl,rfl|rfl⟩|⟨k,a,o,p,rfl,r,x,y,z,d,C,D⟩
 .exact⟨0,aaV,rfl,rfl⟩
 .exact⟨0,aaV,rfl,rfl⟩
 .refine⟨a,d,?_,rfl⟩;simp_all [a6O,bV,U.ae]
theorem fb {l:cz t} (m:av s f e B n) (G:0<e) (q:bV f e b6=some (i,g)) (h:g.length=i*e) (u:(B.length+g.length)*v<=140737488355328*e) (w:B.length+g.length<=9223372036854775807)
  (r: ∀L P,av s P e (B++g) L->t L P):jL e v f n b6 (bX t l):=by
 obtain⟨b,A⟩:=m;unfold jL;rw[wk q];simp only[bX];have cX: ∀a,B.length=a*e->(a+i)*v<=140737488355328/\a+i<=9223372036854775807:=by
  intro a H;have x:B.length+g.length=(a+i)*e:=by rw[H,h,a7I]
  rw[x]at u w;constructor
  .have:(a+i)*v*e<=140737488355328*e:=by grind
   exact Nat.le_of_mul_le_mul_right this G
  .have:(a+i)*1<=(a+i)*e:=aaM _ G;omega
 rcases A with ⟨rfl,Y⟩|⟨I,a,c,y,rfl,S,K,z,T,V,Z,M⟩
 .obtain⟨C,W⟩:=cX 0 aaV;have j9: ∀k,(k= .nil\/k= .zero)->(([]:List R)= []/\(k= .nil\/k= .zero)/\i*v<=140737488355328/\i<=9223372036854775807/\
   (if i=0 then t (.J [] k) f else∀d c o,f d=none->i<=c->c<=maxLen->o.length=(c - i)*e->t (.ao d i c e) (f.set d (.cells (g++o))))):=by
   intro k N;refine⟨rfl,N,by simpa using C,aaU,?_⟩;split
   .rename_i hm;subst hm;have:g= []:=a6F (by simpa using h);subst this;refine r _ _ ⟨b,.inl ⟨rfl,?_⟩⟩;simp_all
   .intro d c o p D E F;refine r _ _ ⟨U.af b (U.bI b p),.inr ⟨d,i,c,g++o,rfl,U.bI b p,U.ai _ _ _,?_,?_,by trivial,D,E⟩⟩
    .rw[a6A,h,F,<-a7I];congr 1;omega
    .rw[<-h,a9k];rfl
  grind
 .obtain⟨C,W⟩:=cX a V;simp only[K];refine⟨trivial,z,C,W,?_⟩;have O:(y.take (a*e)).length=a*e:=by rw[T,V]
  split
  .rename_i j;have Q:a*e+g.length<=y.length:=by rw[h,z,<-a7I];exact a6O _ j
   refine r _ _ ⟨U.af b S,.inr ⟨I,a+i,c,_,rfl,S,U.ai _ _ _,?_,?_,by grind,j,M⟩⟩
   .rw[eI _ _ _ Q,z]
   .have x:(a+i)*e=(y.take (a*e)++g).length:=by grind
    rw[putAt,x,a9k,T]
  .intro d X o p D E F;refine r _ _ ⟨U.af b (U.bI b p),.inr ⟨d,a+i,X,_,rfl,U.bI b p,U.ai _ _ _,?_,?_,by grind,D,E⟩⟩
   .rw[a6A,a6A,O,h,F,<-a7I,<-a7I];congr 1;omega
   .have x:(a+i)*e=(y.take (a*e)++g).length:=by grind
    grind
theorem CG:bV f 1 (.J (A.map ak) N)=some (A.length,A.map ak):=by grind[ak,decide,R.cells,bV,rW]
def xo (a:U) (b:R):Option R:=
 match bV a 1 b with
 |some (_,xs)=>match bytesOf xs with
  |some c=>some (.v (.string ⟨c.toArray⟩))
  |none=>none
 |none=>none
def WJ (a:bV f 1 n=some (e,A.map ak)):xo f n=some (.v (.string ⟨A.toArray⟩)):=by simp[xo,a,rT]
def uh (a:R):Option R:=
 match a with
 | .v (.string b)=>some (.J (b.data.toList.map ak) .any)
 | _=>none
def WK:uh (.v (.string ⟨A.toArray⟩))=some (.J (A.map ak) .any):=by rfl
def WL:G K (.pe Y) j f t=dy (uh (al j Y)) (c4 (λa=>t a f) ()):=by simp only[G,uh];generalize al j Y=b;cases b<;>first|rfl|(rename_i v;cases v<;>rfl)
theorem aX.frozen {v:Value} (h:Holds u f l) (k:f M=some (.ro g)) (o:e*i<=g.length) (p:aX u v (.ao M e b9 i)):aX u v (.J (er i e g) .any):=by
 obtain⟨r,x,T,L,P,c,S⟩:=h.db M _ k;have V:=c.1;cases p with
 |ao M e b9 i hk y=>
  obtain⟨z,C,d⟩:=wz hk o r;by_cases D:e=0
  .subst D;have:=a6F d;rw[this];exact .dg _ _ _ (λE=>by cases E) trivial
  .refine .J M 0 e b9 i (λa=>x.getD a Go.undef) _ .any hk d.symm y z ?_ ?_ ?_ trivial;grind;grind
   .intro a F b;rw[C]at b;have G:a<e*i:=by grind
    rw[a7D G]at b;exact c.2 a F b
end
def sr:=
 a6w @WG<|
 a6w @WI<|
 a6w @WH<|
 a6w @WL<|
 a6w @Wv<|
 a6w @Wy<|
 a6w @Wz<|
 a6w @WD<|
 a6w @WE<|
 a6w @Wt<|
 @Wu
def ss:=
 a6w @WK<|
 a6w @jJ<|
 a6w @V4<|
 a6w @Wc<|
 a6w @CB<|
 a6w @Ww<|
 a6w @Wx<|
 a6w @xk<|
 a6w @WA<|
 a6w @WB<|
 a6w @WC<|
 a6w @xm<|
 a6w @CA<|
 a6w @Cz<|
 a6w @CC<|
 a6w @ite_true.{1}<|
 a6w @ite_false.{1}<|
 a6w @a7u<|
 a6w @a7o<|
 a6w @a9l<|
 a6w @Bool.true_xor<|
 a6w @a8e<|
 a6w @a8R<|
 a6w @decide_true<|
 @decide_false
section
def WM {a b:List Operand}:G K (.bG b5 a b) j f t=nh (.bG b5 (a.map (al j)) (b.map (al j))) (c4 (λc=>t c f) ()):=rfl
def xp (a:Ctx) (b:R) (c:List R) (d:U) (h:R->U->Prop):Prop:=
 match b with
 | .bG fn cK cs=>fu a.p fn=true/\hM a.p fn (cK++c++cs) d h (up a.k)
 | _=>False
def WN {a:List Operand}:G K (.iZ Y a) j f t=xp K (al j Y) (a.map (al j)) f (bX t ()):=rfl
def eL {c:cz t} (d:fu K.p b5=true) (h:AC K.p b5 (g++c0++B) f Z) (k: ∀a b,Z a b->t a b):xp K (.bG b5 g B) c0 f (bX t c):=⟨d,(h.mono k).p⟩
def WO:G K (.qy b2 Y) j f t=nh (.iface b2 (al j Y)) (c4 (λa=>t a f) ()):=rfl
def pv (d:TypeId) (a:Bool) (b:R) (h:R):Option R:=
 match h with
 | .iface k c=>if k=d then some (if a then .aJ [c,.v (.bool true)]else c)else if a=true then some (.aJ [b,.v (.bool false)])else none
 | .v .nilIface=>if a=true then some (.aJ [b,.v (.bool false)])else none
 | _=>none
def WQ:pv b2 true b6 (.iface b2 n)=some (.aJ [n,.v (.bool true)]):=by simp[pv]
def WR {a:TypeId} (b:a≠b2):pv b2 true n (.iface a b6)=some (.aJ [n,.v (.bool false)]):=by simp[pv,b]
def WS:pv b2 true n (.v .nilIface)=some (.aJ [n,.v (.bool false)]):=by rfl
def WT:pv b2 false b6 (.iface b2 n)=some n:=by simp[pv]
def CH (a:Bool) (b:R):Option R:=
 match b with
 | .iface _ _=>some (.v (.bool a))
 | .v .nilIface=>some (.v (.bool (!a)))
 | _=>none
def WU:CH I (.iface b2 n)=some (.v (.bool I)):=rfl
def WV:CH I (.v .nilIface)=some (.v (.bool (!I))):=rfl
def CI (a:Bool) (b:R):Option R:=
 match b with
 | .bG _ _ _=>some (.v (.bool a))
 | .v .nilFunc=>some (.v (.bool (!a)))
 | _=>none
def WW:CI I (.bG e g B)=some (.v (.bool I)):=rfl
def WX:CI I (.v .nilFunc)=some (.v (.bool (!I))):=rfl
def WY (a:Ctx) (b:R) (c:U):Prop:=
 match b with
 | .iface d h=>up a.k (.iface d h) c
 | _=>False
def WZ:G K (.mR Y) j f t=WY K (al j Y) f:=rfl
def xq (b:R) (c:U) (d:Nat->ByteArray->Prop):Prop:=
 match b with
 | .v (.string h)=> ∀a,c a=none->d a h
 | _=>False
def X0:G K (.km Y) j f t=xq (al j Y) f (bX (λa b=>t (.ptr a 0) (f.set a (.it b 0))) ()):=rfl
def CJ {a:Nat->ByteArray->Prop}{b:cz a}:xq (.v (.string ⟨A.toArray⟩)) f (bX a b)=jg f (c4 (λc=>a c ⟨A.toArray⟩) ()):=rfl
def xr (h:R) (b:U) (c:R->U->Prop):Prop:=
 match h with
 | .ptr d off=>off=0/\match b d with
  |some (.it a pos)=>if pos<a.size then c (.aJ [.v (.bool true),.v (.int .i64 pos),.v (.int .i32 (Utf8.decode a pos).1)]) (b.set d (.it a (pos+(Utf8.decode a pos).2)))else c (.aJ [.v (.bool false)]) b
  | _=>False
 | _=>False
def X1:G K (.mS Y) j f t=xr (al j Y) f (bX t ()):=rfl
def X2 {a:cz t} (b:f i=some (.it ⟨A.toArray⟩ e)) (c:e<A.length)
  (d:t (.aJ [.v (.bool true),.v (.int .i64 e),.v (.int .i32 (Utf8.decode ⟨A.toArray⟩ e).1)]) (f.set i (.it ⟨A.toArray⟩ (e+(Utf8.decode ⟨A.toArray⟩ e).2)))):xr (.ptr i 0) f (bX t a):=by
 refine⟨rfl,?_⟩;rw[b];simp only[oa,if_pos c];exact d
def X3 {a:cz t} (b:f e=some (.it ⟨A.toArray⟩ i)) (c: ¬i<A.length) (d:t (.aJ [.v (.bool false)]) f):xr (.ptr e 0) f (bX t a):=by refine⟨rfl,?_⟩;rw[b];simp only[oa,if_neg c];exact d
def xt (a:R):Option R:=
 match a with
 | .J [] .nil=>some (.v (.pointer none))
 | .ao b _ cap _=>if 0<cap then some (.ptr b 0)else none
 | _=>none
def X4:xt (.J [] .nil)=some (.v (.pointer none)):=rfl
def X5 (a:0<i):xt (.ao e v i M)=some (.ptr e 0):=by simp[xt,a]
def X6:c3 K .refuse e7 j f=False:=rfl
def U.X7:(f.set e (.p5 b2 g)).read e=some g:=by simp[U.read,U.set]
def X8:(R.bG e g B).cells= [.bG e g B]:=rfl
def X9:sf (.bG e g B)=some (.bG e g B):=rfl
def su (a:Bool) (b:U) (h k:R):Option R:=
 match h,k with
  | .ptr _ _,.v (.pointer none)=>some (.v (.bool a))
  | .v (.pointer none),.ptr _ _=>some (.v (.bool a))
  | .v (.pointer none),.v (.pointer none)=>some (.v (.bool (!a)))
  | .ptr c o,.ptr d p=>if wm b c=true/\wm b d=true then some (.v (.bool (xor a (decide (c=d/\o=p)))))else none
  | _,_=>none
def Xa (a:wm f e=true):su I f (.ptr e i) (.ptr e i)=some (.v (.bool (!I))):=by simp[su,a]
def Xb:su I f (.ptr e i) (.v (.pointer none))=some (.v (.bool I)):=rfl
def Xc:su I f (.v (.pointer none)) (.ptr e i)=some (.v (.bool I)):=rfl
def Xd:su I f (.v (.pointer none)) (.v (.pointer none))=some (.v (.bool (!I))):=rfl
end
def Xe:(true==true)=true:=rfl
def Xf:(true==false)=false:=rfl
def Xg:(false==true)=false:=rfl
def Xh:(false==false)=true:=rfl
def CK:=
 a6w @WM<|
 a6w @WN<|
 a6w @WO<|
 a6w @WZ<|
 a6w @X0<|
 a6w @X1<|
 @X6
def CL:=
 a6w @Xe<|
 a6w @Xf<|
 a6w @Xg<|
 a6w @Xh<|
 a6w @WQ<|
 a6w @WR<|
 a6w @WS<|
 a6w @WT<|
 a6w @WU<|
 a6w @WV<|
 a6w @WW<|
 a6w @WX<|
 a6w @CJ<|
 a6w @X4<|
 a6w @X5<|
 a6w @U.X7<|
 a6w @X8<|
 a6w @X9<|
 a6w @Xa<|
 a6w @Xb<|
 a6w @Xc<|
 @Xd
noncomputable def jk (b:R->Option R) (c v:R):R->Option R:=λa=> @ite _ (a=c) (Classical.propDecidable _) (some v) (b a)
def sv {a:R->Option R}{v:R}:jk a n v n=some v:=by simp[jk]
def pw {a:R->Option R}{v:R} (b:n≠b6):jk a b6 v n=a n:=by simp[jk,b]
def xu (b:R): ∀(a:List (R×R×Nat)) (c:Nat),dH a b c=(dH a b 0).map λd=>(d.1+c,d.2)
 | [],_=>rfl
 |h::a,c=>by
  unfold dH;split
  .simp
  .rw[xu b a (c+1),xu b a (0+1)];cases dH a b 0<;>simp[aaa,Nat.add_left_comm,aa0]
theorem lq (b:R×R×Nat) (d:List (R×R×Nat)) (a:R):dH (b::d) a 0= @ite _ (a=b.1) (Classical.propDecidable _) (some (0,b.2.1)) ((dH d a 0).map λh=>(h.1+1,h.2)):=by
 conv=>lhs;unfold dH
 rw[xu a d (0+1)];by_cases c:a=b.1
 .rw[if_pos ((qs _ _).2 c),if_pos c]
 .rw[if_neg (λk=>c ((qs _ _).1 k)),if_neg c]
theorem CM (b v:R) (o:Nat) (a:R): ∀c:List (R×R×Nat),dH c b 0=none->(dH (c++ [(b,v,o)]) a 0).map (·.2)=jk (λa=>(dH c a 0).map (·.2)) b v a
 | [],_=>by
  grind[lq,jk,dH]
 |p::c,h=>by
  rw[lq]at h;split at h
  .cases h
  .next r=>
   have x:dH c b 0=none:=by simp_all
   have ih:=CM b v o a c x;rw[a7M,lq];by_cases d:a=p.1
   .have k:a≠b:=λy=>r (by rw[<-y];exact d);rw[if_pos d,pw k];rw[lq,if_pos d]
   .rw[if_neg d];by_cases k:a=b;simp_all [sv]
    .rw[pw k]at ih|-;rw[lq,if_neg d,a9X,a9X];exact ih
theorem CN (c v k:R) (b:R): ∀(d:List (R×R×Nat)) (o:Nat),dH d c 0=some (o,v)->(dH (d.modify o λh=>(h.1,k,h.2.2)) b 0).map (·.2)=jk (λb=>(dH d b 0).map (·.2)) c k b
 | [],_,a=>by trivial
 |h::d,o,a=>by
  rw[lq]at a;split at a
  .next p=>
   simp only[a6K,a7J]at a;obtain⟨rfl,_⟩:=a;rw[aaw,lq];by_cases a:b=c
   .subst a;rw[sv];simp[p]
   simp_all [pw,lq]
  .next p=>
   cases r:dH d c 0 with
   |none=>rw[r]at a;cases a
   |some y=>
    rw[r]at a;simp only[a7F,a6K,a7J]at a;obtain⟨rfl,rfl⟩:=a;have ih:=CN c y.2 k b d y.1 r;rw[aax,lq];by_cases a:b=h.1
    .have x:b≠c:=λz=>p (by rw[<-z];exact a);rw[if_pos a,pw x];rw[lq,if_pos a]
    .rw[if_neg a];by_cases x:b=c;simp_all [sv]
     .rw[pw x]at ih|-;rw[lq,if_neg a,a9X,a9X];exact ih
structure ku (rs:List (Nat×cb)) (us:List (R×R×Nat)) (a:Nat) (b:R->Option R):Prop where
 val: ∀k,(dH us k 0).map (·.2)=b k
 keys:rS rs us
 born:(us.map (·.2.2)).Nodup
 lt: ∀c∈us,c.2.2<a
def ku.new:ku j5 [] 0 λ_=>none:=⟨λ_=>rfl,λb a=>by simp at a,aaV,λb a=>by simp at a⟩
theorem Xi (a:List (R×R×Nat)) (c:Nat) (v:R):(a.modify c λb=>(b.1,v,b.2.2)).map (·.2.2)=a.map (·.2.2):=by
 induction a generalizing c with
 |nil=>simp
 |cons b a ih=>grind
theorem mem_modify {b:List (R×R×Nat)}{v:R}{a:R×R×Nat} (d:a∈b.modify e λa=>(a.1,v,a.2.2)): ∃c∈b,a.1=c.1/\a.2.2=c.2.2:=by
 induction b generalizing e with
 |nil=>simp at d
 |cons c b ih=>grind
theorem ku.set {a:List (R×R×Nat)}{p:R->Option R} (b:ku j5 a i p) {v:R} (r:dH a n 0=some (e,v)):ku j5 (a.modify e λc=>(c.1,b6,c.2.2)) i (jk p n b6) where
 val:=λx=>by
  rw[CN n v b6 x a e r];simp only[jk];rw[b.val]
 keys:=λc d=>by
  obtain⟨h,k,o,_⟩:=mem_modify d;rw[o];exact b.keys h k
 born:=by rw[Xi];exact b.born
 lt:=λc d=>by
  obtain⟨h,k,_,o⟩:=mem_modify d;rw[o];exact b.lt h k
theorem ku.push {d:List (R×R×Nat)}{h:R->Option R} (b:ku j5 d e h) {v:R} (x:dk j5 g) (o:dH d (.agg g) 0=none):ku j5 (d++ [(.agg g,v,e)]) (e+1) (jk h (.agg g) v) where
 val:=λp=>by
  rw[CM _ v e p d o];simp only[jk];rw[b.val]
 keys:=λc a=>by
  rcases a6L.1 a with a|a
  .exact b.keys c a
  simp_all
 born:=by rw[a7x,List.nodup_append];refine⟨b.born,aaV,?_⟩;intro y r z k;obtain⟨c,a,rfl⟩:=a6S.1 r;simp at k;subst k;exact Nat.ne_of_lt (b.lt c a)
 lt:=λc a=>by
  rcases a6L.1 a with a|a
  .exact Nat.lt_succ_of_lt (b.lt c a)
  simp_all
def nk (c:U) (d:Nat) (h:List (Nat×cb)) (k:R->Option R):Prop:= ∃a b,c d=some (.mp a b)/\ku h a b k
def a6e (h:U) (k:Nat) (o:List (Nat×cb)) (p:R->Option R) (r:R) (x:Nat):Prop:=
 ∃a b,h k=some (.mp a b)/\ ∀v,∃c,I2 a (x:Int)=some c/\ku o (a.modify c λd=>(d.1,v,d.2.2)) b (jk p r v)
section
def Xj:G K .kn j f t=jg f (c4 (λa=>t (.eX a) (f.set a (.mp [] 0))) ()):=rfl
def ui (a:Bool) (b:List (Nat×cb)) (c:R) (h:U) (k o:R) (d:R->Prop):Prop:=
 match k,o with
 | .eX p,.agg cs=>match h p with
  |some (.mp us _)=>dk b cs/\rS b us/\(match dH us (.agg cs) 0 with
   |some (_,v)=>d (if a then .aJ [v,.v (.bool true)]else v)
   |none=>d (if a then .aJ [c,.v (.bool false)]else c))
  | _=>False
 | _,_=>False
def Xk:G K (.ko I j5 n Y e9) j f t=ui I j5 n f (al j Y) (al j e9) (c4 (λa=>t a f) ()):=by simp only[G,ui];generalize al j Y=b;generalize al j e9=c;rfl
def uj {c:R->Option R}{a:R->Prop}{k:cz a} (o:nk f e j5 c) (p:dk j5 g)
  (r: ∀v,c (.agg g)=some v->a (if I then .aJ [v,.v (.bool true)]else v)) (x:c (.agg g)=none->a (if I then .aJ [n,.v (.bool false)]else n)):ui I j5 n f (.eX e) (.agg g) (c4 a k):=by
 obtain⟨y,C,z,d⟩:=o;simp only[ui,z];refine⟨p,d.keys,?_⟩;have b:=d.val (.agg g);cases h:dH y (.agg g) 0 with
 |none=>rw[h]at b;exact x b.symm
 |some D=>rw[h]at b;exact r _ b.symm
def uk (a:List (Nat×cb)) (b:U) (d h v:R) (k:U->Prop):Prop:=
 match d,h with
 | .eX c,.agg cs=>match b c with
  |some (.mp us clock)=>dk a cs/\rS a us/\k (b.set c (.mp (kZ us (.agg cs) v clock).1 (kZ us (.agg cs) v clock).2))
  | _=>False
 | _,_=>False
def Xl {v:Operand}:G K (.lf j5 Y e9 v) j f t=uk j5 f (al j Y) (al j e9) (al j v) (c4 (λa=>t (.aJ []) a) ()):=by simp only[G,uk];generalize al j Y=b;generalize al j e9=c;rfl
def CO {v:R}{c:R->Option R}{a:U->Prop}{o:cz a} (p:nk f e j5 c) (d:dk j5 g)
  (r: ∀h,nk (f.set e h) e j5 (jk c (.agg g) v)->a (f.set e h)):uk j5 f (.eX e) (.agg g) v (c4 a o):=by
 obtain⟨x,z,y,b⟩:=p;simp only[uk,y];refine⟨d,b.keys,r _ ⟨_,_,U.ai _ _ _,?_⟩⟩;unfold kZ;cases k:dH x (.agg g) 0 with
 |none=>exact b.push d k
 |some C=>exact b.set k
end
theorem CP {a b:List UInt8}:ji .neq (bn a) (bn b)=some (.v (.bool (!decide (a=b)))):=by grind[bn,sj,CA]
def qR {a b:List UInt8}:ji .eql (bn a) (bn b)=some (.v (.bool (decide (a=b)))):=by simp only[bn,sj,Cz a b];rfl
def Xm:xo f (.J (A.map ak) N)=some (bn A):=WJ CG
def px {a:List UInt8}{b:Own}:nj (.J (a.map ak) b)=some (bn a):=CB
def nm (k:(∀a,R.J a .nil∈g->a= [])->AC m b5 g f t):AC m b5 g f t:=λb o p c r=>by
 refine k (λa x=> ?_) b o p c r;obtain⟨d,y,z⟩:=a7l x;have h:=c.2 d _ (by rw[a6y y,z]);generalize b.getD d undef=v at h;cases h with
 |dg=>rfl
 |J C off len cap D E a F hk hlen G L P hH S T=>trivial
def Xn:=
 a6w @Xj<|
 a6w @Xk<|
 @Xl
def Xo:=
 a6w @CP<|
 a6w @qR<|
 a6w @Xm<|
 @px
def qS:=a6w hS (a6w sr (a6w CK Xn))
def Xp:=a6w hT<|a6w eJ<|a6w ss<|a6w CL Xo
attribute [go_sem ↓] qS
attribute [go_sem] Xp a7S ne_eq not_true_eq_false not_false_eq_true a8m a8x al ofConst cw
def aj (a:Q) (b:h2) (c:Q->b3=h2:=by intro d;simp -dsimp -implicitDefEqProofs (disch:=first|omega|assumption|(simp only[bd,Nat.reduceAdd];try omega)) only[go_sem,simprocAttr,-List.reduceReplicate,d];rfl):b3:=(c a).mpr b
def bT (a:b3) (b:Q=b3:=by simp -dsimp -implicitDefEqProofs (disch:=first|omega|assumption|(simp only[bd,Nat.reduceAdd];try omega)) only[go_sem,simprocAttr,-List.reduceReplicate];rfl):Q:=b.mpr a
def aF (a:Q) (b:h2) (c:Q->b3=h2:=by intro d;simp -dsimp -implicitDefEqProofs (disch:=first|omega|assumption|(simp only[bd,Nat.reduceAdd];try omega)) only[go_sem,simprocAttr,d];rfl):b3:=(c a).mpr b
def ei (a:b3) (b:Q=b3:=by simp -dsimp -implicitDefEqProofs (disch:=first|omega|assumption|(simp only[bd,Nat.reduceAdd];try omega)) only[go_sem,simprocAttr];rfl):Q:=b.mpr a
def cf (a:Q) (b:Q->b3=True:=by intro c;simp -dsimp -implicitDefEqProofs (disch:=first|omega|assumption|(simp only[bd,Nat.reduceAdd];try omega)) only[go_sem,simprocAttr,-List.reduceReplicate,c]):b3:=of_eq_true (b a)
def kv (a:Q=True:=by simp -dsimp -implicitDefEqProofs (disch:=first|omega|assumption|(simp only[bd,Nat.reduceAdd];try omega)) only[go_sem,simprocAttr,-List.reduceReplicate]):Q:=of_eq_true a
def gJ (a:Q) (b:Q->b3=True:=by intro c;simp -dsimp -implicitDefEqProofs (disch:=first|omega|assumption|(simp only[bd,Nat.reduceAdd];try omega)) only[go_sem,simprocAttr,c]):b3:=of_eq_true (b a)
def qT (a:Q=True:=by simp -dsimp -implicitDefEqProofs (disch:=first|omega|assumption|(simp only[bd,Nat.reduceAdd];try omega)) only[go_sem,simprocAttr]):Q:=of_eq_true a
def c2 (a:Q) (b:b3):Q/\b3:=⟨a,b⟩
def aE (a:Q) (b:b3) (c:h2):Q/\b3/\h2:=⟨a,b,c⟩
def aM (a:Q) (b:b3) (c:h2) (d:j0):Q/\b3/\h2/\j0:=⟨a,b,c,d⟩
def bh (a:Q) (b:b3) (c:h2) (d:j0) (h:j4):Q/\b3/\h2/\j0/\j4:=⟨a,b,c,d,h⟩
def bx {a:Prop} (b:Q) (c:b3) (d:h2) (h:j0) (k:j4) (o:a):Q/\b3/\h2/\j0/\j4/\a:=⟨b,c,d,h,k,o⟩
def c9 {a b:Prop} (c:Q) (d:b3) (h:h2) (k:j0) (o:j4) (p:a) (r:b):Q/\b3/\h2/\j0/\j4/\a/\b:=⟨c,d,h,k,o,p,r⟩
def bt {a b c:Prop} (d:Q) (h:b3) (k:h2) (o:j0) (p:j4) (r:a) (x:b) (y:c):Q/\b3/\h2/\j0/\j4/\a/\b/\c:=⟨d,h,k,o,p,r,x,y⟩
def cN {a b c d:Prop} (h:Q) (k:b3) (o:h2) (p:j0) (r:j4) (x:a) (y:b) (z:c) (C:d):Q/\b3/\h2/\j0/\j4/\a/\b/\c/\d:=⟨h,k,o,p,r,x,y,z,C⟩
def cd {a b c d h:Prop} (k:Q) (o:b3) (p:h2) (r:j0) (x:j4) (y:a) (z:b) (C:c) (D:d) (E:h):Q/\b3/\h2/\j0/\j4/\a/\b/\c/\d/\h:=⟨k,o,p,r,x,y,z,C,D,E⟩
def fA {a b c d h k:Prop} (o:Q) (p:b3) (r:h2) (x:j0) (y:j4) (z:a) (C:b) (D:c) (E:d) (F:h) (G:k):Q/\b3/\h2/\j0/\j4/\a/\b/\c/\d/\h/\k:=⟨o,p,r,x,y,z,C,D,E,F,G⟩
def gk {a b c d h k o:Prop} (p:Q) (r:b3) (x:h2) (y:j0) (z:j4) (C:a) (D:b) (E:c) (F:d) (G:h) (L:k) (P:o):Q/\b3/\h2/\j0/\j4/\a/\b/\c/\d/\h/\k/\o:=⟨p,r,x,y,z,C,D,E,F,G,L,P⟩
def lr {a b c d h k o p:Prop} (r:Q) (x:b3) (y:h2) (z:j0) (C:j4) (D:a) (E:b) (F:c) (G:d) (L:h) (P:k) (S:o) (T:p):Q/\b3/\h2/\j0/\j4/\a/\b/\c/\d/\h/\k/\o/\p:=⟨r,x,y,z,C,D,E,F,G,L,P,S,T⟩
def gl {a b c d h k o p r:Prop} (x:Q) (y:b3) (z:h2) (C:j0) (D:j4) (E:a) (F:b) (G:c) (L:d) (P:h) (S:k) (T:o) (V:p) (W:r):Q/\b3/\h2/\j0/\j4/\a/\b/\c/\d/\h/\k/\o/\p/\r:=⟨x,y,z,C,D,E,F,G,L,P,S,T,V,W⟩
def py {a b c d h k o p r x:Prop} (y:Q) (z:b3) (C:h2) (D:j0) (E:j4) (F:a) (G:b) (L:c) (P:d) (S:h) (T:k) (V:o) (W:p) (e:r) (f:x):Q/\b3/\h2/\j0/\j4/\a/\b/\c/\d/\h/\k/\o/\p/\r/\x:=⟨y,z,C,D,E,F,G,L,P,S,T,V,W,e,f⟩
def ml {a b c d h k o p r x y:Prop} (z:Q) (C:b3) (D:h2) (E:j0) (F:j4) (G:a) (L:b) (P:c) (S:d) (T:h) (V:k) (W:o) (e:p) (f:r) (g:x) (i:y):Q/\b3/\h2/\j0/\j4/\a/\b/\c/\d/\h/\k/\o/\p/\r/\x/\y:=⟨z,C,D,E,F,G,L,P,S,T,V,W,e,f,g,i⟩
def nn {a b c d h k o p r x y z:Prop} (C:Q) (D:b3) (E:h2) (F:j0) (G:j4) (L:a) (P:b) (S:c) (T:d) (V:h) (W:k) (e:o) (f:p) (g:r) (i:x) (j:y) (l:z):Q/\b3/\h2/\j0/\j4/\a/\b/\c/\d/\h/\k/\o/\p/\r/\x/\y/\z:=⟨C,D,E,F,G,L,P,S,T,V,W,e,f,g,i,j,l⟩
def xv {a b c d h k o p r x y z C:Prop} (D:Q) (E:b3) (F:h2) (G:j0) (L:j4) (P:a) (S:b) (T:c) (V:d) (W:h) (e:k) (f:o) (g:p) (i:r) (j:x) (l:y) (m:z) (n:C):Q/\b3/\h2/\j0/\j4/\a/\b/\c/\d/\h/\k/\o/\p/\r/\x/\y/\z/\C:=⟨D,E,F,G,L,P,S,T,V,W,e,f,g,i,j,l,m,n⟩
def CQ {a b c d h k o p r x y z C D:Prop} (E:Q) (F:b3) (G:h2) (L:j0) (P:j4) (S:a) (T:b) (V:c) (W:d) (e:h) (f:k) (g:o) (i:p) (j:r) (l:x) (m:y) (n:z) (q:C) (s:D):Q/\b3/\h2/\j0/\j4/\a/\b/\c/\d/\h/\k/\o/\p/\r/\x/\y/\z/\C/\D:=⟨E,F,G,L,P,S,T,V,W,e,f,g,i,j,l,m,n,q,s⟩
def od {a b c d h k o p r x y z C D E:Prop} (F:Q) (G:b3) (L:h2) (P:j0) (S:j4) (T:a) (V:b) (W:c) (e:d) (f:h) (g:k) (i:o) (j:p) (l:r) (m:x) (n:y) (q:z) (s:C) (t:D) (u:E):Q/\b3/\h2/\j0/\j4/\a/\b/\c/\d/\h/\k/\o/\p/\r/\x/\y/\z/\C/\D/\E:=⟨F,G,L,P,S,T,V,W,e,f,g,i,j,l,m,n,q,s,t,u⟩
section
def Xq:G K (.mT Y) j f t=dy (rU (al j Y)) (c4 (λa=>t a f) ()):=by simp only[G];rfl
def Xr:rU (.ao i v e M)=some (.v (.int .i64 e)):=rfl
def Xs:rU (.J [] .nil)=some (.v (.int .i64 0)):=rfl
def cn (d:Nat) (x:R) (h k o:Option R):Option R:=
 match x with
 | .ao p len cap r=>match cE h 0,cE k len,cE o cap with
  |some a,some c,some b=>if r=d/\0<=a/\a<=c/\c<=b/\b<=cap then
    some (if h.isSome=true then(if a<b then .bE p (a.toNat*d) (c.toNat - a.toNat) (b.toNat - a.toNat) d else .J [] .zero)else .ao p c.toNat b.toNat d)
   else none
  | _,_,_=>none
 | .bE p off len cap r=>match cE h 0,cE k len,cE o cap with
  |some a,some c,some b=>if r=d/\0<=a/\a<=c/\c<=b/\b<=cap then
    some (if a<b then .bE p (off+a.toNat*d) (c.toNat - a.toNat) (b.toNat - a.toNat) d else .J [] .zero)
   else none
  | _,_,_=>none
 | .J [] .nil=>match cE h 0,cE k 0,cE o 0 with
  |some a,some c,some b=>if a=0/\c=0/\b=0 then some (.J [] .nil)else none
  | _,_,_=>none
 | .J [] .zero=>match cE h 0,cE k 0,cE o 0 with
  |some a,some c,some b=>if a=0/\c=0/\b=0 then some (.J [] .zero)else none
  | _,_,_=>none
 | _=>none
def Xt {a b c:Option Operand}:rV j e n a b c=cn e n (a.map (al j)) (b.map (al j)) (c.map (al j)):=by simp only[rV,cn,xg,Option.isSome_map];rfl
def Xu {a b c:Option Operand}:G K (.lZ e Y a b c) j f t=dy (cn e (al j Y) (a.map (al j)) (b.map (al j)) (c.map (al j))) (c4 (λd=>t d f) ()):=by simp only[G,Xt];rfl
theorem hU (a:v<=i):cn e (.ao M b9 i e) none (some (.v (.int e1 (v:Int)))) none=some (.ao M v i e):=by grind[cn,cE,intOf]
theorem gm (a:e<=v) (b:v<=M) (c:e<M):cn i (.ao b9 v M i) (some (.v (.int e1 (e:Int)))) none none=some (.bE b9 (e*i) (v - e) (M - e) i):=by grind[cn,cE,intOf]
def um (a:e=v):cn i (.ao M e v i) (some (.v (.int e1 (e:Int)))) none none=some (.J [] .zero):=by subst a;simp[cn,cE,intOf]
theorem CR {a:IntKind} (b:e<=M) (c:M<=v) (d:e<v):cn i (.ao b9 j2 v i) (some (.v (.int e1 (e:Int)))) (some (.v (.int a (M:Int)))) none=some (.bE b9 (e*i) (M - e) (v - e) i):=by grind[cn,cE,intOf]
def Xv:cn e (.J [] .zero) (some (.v (.int e1 0))) none none=some (.J [] .zero):=by rfl
def Xw:cn e (.J [] .nil) (some (.v (.int e1 0))) none none=some (.J [] .nil):=by rfl
def xw:cn e (.J [] .nil) none (some (.v (.int e1 0))) none=some (.J [] .nil):=by rfl
def CS (a:Option U) (b:U->Prop):Prop:=
 match a with
 |some c=>b c
 |none=>False
def Xx {a:U->Prop}{b:cz a}:CS (some f) (c4 a b)=a f:=rfl
def CT (a:Option (R×U)) (b:R->U->Prop):Prop:=
 match a with
 |some (c,d)=>b c d
 |none=>False
def Xy {a:cz t}:CT (some (n,f)) (bX t a)=t n f:=rfl
def Xz:G K (.mU e g Y) j f t=CS (lg e g (al j Y) f) (c4 (λa=>t (.aJ []) a) ()):=by simp only[G];rfl
def XA:G K (.mV e Y e9) j f t=CT (ma e (al j Y) (al j e9) f) (bX t ()):=by simp only[G];rfl
def XB:G K (.mX Y e9) j f t=dy (lh (al j Y) (al j e9) f) (c4 (λa=>t a f) ()):=by simp only[G];rfl
def xx (a:f i=some (.cells g)) (b:v+M*e<=g.length):lg e B (.bE i v M b9 e) f=some (f.set i (.cells (putAt g v (List.replicate M B).flatten))):=by simp[lg,a,b]
def XC:lg e g (.J [] N) f=some f:=rfl
def hy (a:bV f e n=some (b9,B)) (b:f v=some (.cells g)) (c:M+i*e<=g.length):ma e (.bE v M i j2 e) n f=some (.v (.int .i64 (min b9 i:Nat)),f.set v (.cells (putAt g M (B.take (i*e))))):=by simp[ma,a,b,c]
def xy (a:cL n=some e) (b:cL b6=some i) (c:e≠i) (d:kq f e=true) (h:kq f i=true):lh n b6 f=some (.v (.bool false)):=by simp[lh,a,b,c,d,h]
def qU (a:f e=some (.cells g)) (b:g≠ []):kq f e=true:=by
 cases g with
 |nil=>trivial
 |cons c g=>simp[kq,a]
def sw (c p:Nat) (r:List R) (k:U) (y z:R) (x:R->U->Prop):Prop:=
 match y,z with
  | .ao C d cap D,.v (.int .i64 a)=>match k.read C with
   |some cs=>D=c/\cs.length=cap*c/\0<=a/\cap<d+a.toNat/\(d+a.toNat)*p<=140737488355328/\d+a.toNat<=9223372036854775807/\
    ∀h b o,k h=none->d+a.toNat<=b->b<=maxLen->o.length=(b -(d+a.toNat))*c->x (.ao h (d+a.toNat) b c) (k.set h (.cells (cs.take (d*c)++(List.replicate a.toNat r).flatten++o)))
   |none=>False
  | .J xs E,.v (.int .i64 a)=>xs= []/\E= .nil/\0<a/\a.toNat*p<=140737488355328/\a<=9223372036854775807/\
    ∀h b o,k h=none->a.toNat<=b->b<=maxLen->o.length=(b - a.toNat)*c->x (.ao h a.toNat b c) (k.set h (.cells ((List.replicate a.toNat r).flatten++o)))
  | _,_=>False
def XD:G K (.mW e i g Y e9) j f t=sw e i g f (al j Y) (al j e9) (bX t ()):=rfl
def xz {d:cz t} (h:f j2=some (.cells g)) (k:g.length=M*v) (o:M<e+i) (p:(e+i)*b9<=140737488355328) (r:e+i<=9223372036854775807)
  (x: ∀b a c,f b=none->e+i<=a->a<=maxLen->c.length=(a -(e+i))*v->t (.ao b (e+i) a v) (f.set b (.cells (g.take (e*v)++(List.replicate i B).flatten++c)))):sw v b9 B f (.ao j2 e M v) (.v (.int .i64 (i:Int))) (bX t d):=by
 simp only[sw,U.ae h,a6X];exact⟨trivial,k,aaU,o,p,r,x⟩
def CU {d:cz t} (o:0<e) (h:e*v<=140737488355328) (p:e<=9223372036854775807)
  (k: ∀b a c,f b=none->e<=a->a<=maxLen->c.length=(a - e)*i->t (.ao b e a i) (f.set b (.cells ((List.replicate e g).flatten++c)))):sw i v g f (.J [] .nil) (.v (.int .i64 (e:Int))) (bX t d):=by
 simp only[sw,a6X];exact⟨trivial,trivial,aaU,h,aaU,k⟩
def View (c:U) (h:R) (k:U) (o:R):Prop:= ∀(a:bl) (b:World) (v:Value),Holds a c b->aX a v h-> ∃d,Step a c b d k b/\aX d v o
def AC.view (k:AC m b5 g f t) (o: ∀a b,t a b-> ∃c d,View b a d c/\Z c d):AC m b5 g f Z:=
 λp r x y z=>(k p r x y z).mono λ_ _ C=>by
  obtain⟨v,a,D,b,E,h,F,G⟩:=C;obtain⟨c,d,L,P⟩:=o a b G;obtain⟨S,T,V⟩:=L D _ v h.holds F;exact⟨v,c,S,d,E,h.trans T,V,P⟩
def View.refl {a:U}{b:R}:View a b a b:=λc k v d h=>⟨c,.refl d,h⟩
theorem View.J {s:U}{a:List R}{o:Own}:View s (.J a o) s (.J a .any):=λb E v c d=>by
 refine⟨b,.refl c,?_⟩;cases d with
 |dg h cap dt bZ k=>exact .dg h cap .any bZ trivial
 |J p off len cap r x a dt hk hlen y z C hH D k=>exact .J p off len cap r x a .any hk hlen y z C hH D trivial
theorem View.ao {b:U}{c n cap k:Nat}{a:List R} (h:b c=some (.cells a)) (o:n*k<=a.length):View b (.ao c n cap k) (b.set c (.ro a)) (.J (er k n a) .any):=λy z v p r=>by
 obtain⟨x,d⟩:=Step.freeze p h;exact⟨x,d,aX.frozen d.holds (U.ai _ _ _) o (r.mono d.le)⟩
theorem mm:er 1 e g=g.take e:=by rfl
theorem XE (c:i<=v):er e i (g.take (v*e))=er e i g:=by
 unfold er;by_cases hk:e=1;grind
 .simp only[hk,if_false];refine a8i λa b=> ?_;have b:a<i:=by simpa using b
  have d:a*e+e<=v*e:=by have:(a+1)*e<=v*e:=a6O _ aaU;grind
  rw[a7T,a7N,a8k aaU]
theorem View.dv (o:av s f e g n): ∃a d,g.length=a*e/\s.sub d/\View f n d (.J (er e a g) .any):=by
 obtain⟨b,p⟩:=o;rcases p with ⟨rfl,rfl|rfl⟩|⟨h,a,F,r,rfl,x,y,G,z,C,L,P⟩
 .refine⟨0,f,aaV,b,?_⟩;grind[er,View.J]
 .refine⟨0,f,aaV,b,?_⟩;grind[er,View.J]
 .refine⟨a,f.set h (.ro r),C,λk D c=> ?_,?_⟩
  .have E:k≠h:=by rintro rfl;rw[x]at c;cases c
   rw[U.an _ _ E];exact b k D c
  .rw[<-z,XE (a7g a)];exact View.ao y (by grind)
theorem View.trans {a b c:U}{d h k:R} (r:View a d b h) (x:View b h c k):View a d c k:=λy o v z C=>by
 obtain⟨D,p,E⟩:=r y o v z C;obtain⟨F,G,L⟩:=x D o v p.holds E;exact⟨F,p.trans G,L⟩
theorem View.aJ {c d:U}{b h:R}{a k:List R} (x:View c b d h):View c (.aJ (a++b::k)) d (.aJ (a++h::k)):=λy z v C D=>by
 cases D with
 |aJ E cs F o=>
  have G:=o a.length b aaV;obtain⟨L,p,S⟩:=x y z _ C G;refine⟨L,p,.aJ E _ (by simpa using F) λr P T=> ?_⟩;by_cases V:r=a.length;simp_all
  .refine(o r P ?_).mono p.le;grind
theorem View.agg {d h:U}{b c:R}{a k:List R} (S:c.one=true) (x:View d b h c):View d (.agg (a++b::k)) h (.agg (a++c::k)):=λy z v C D=>by
 cases D with
 |agg E cs T F o=>
  have G:=o a.length b aaV;obtain⟨L,p,V⟩:=x y z _ C G;refine⟨L,p,.agg E _ (λW e=> ?_) (by simpa using F) λr P f=> ?_⟩;grind;by_cases g:r=a.length;simp_all
  .refine(o r P ?_).mono p.le;grind
end
def eu:=
 a6w @Xq<|
 a6w @Xu<|
 a6w @Xz<|
 a6w @XA<|
 a6w @XB<|
 a6w @XD<|
 a6w @Xx<|
 a6w @Xy<|
 a6w @Xr<|
 a6w @Xs<|
 @xw
def dG (a:Q) (b:h2) (c:Q->b3=h2:=by intro d;simp -dsimp -implicitDefEqProofs (disch:=first|omega|assumption|(simp only[bd,Nat.reduceAdd];try omega)) only[go_sem,simprocAttr,-List.reduceReplicate,↓eu,d];rfl):b3:=(c a).mpr b
def CV (a:b3) (b:Q=b3:=by simp -dsimp -implicitDefEqProofs (disch:=first|omega|assumption|(simp only[bd,Nat.reduceAdd];try omega)) only[go_sem,simprocAttr,-List.reduceReplicate,↓eu];rfl):Q:=b.mpr a
def wr:et->List Nat
 | .plain ops| .draw ops _=>ops.filterMap (·.dst)
 | .seq a b| .cond _ a b=>wr a++wr b
 | .block _ a| .loop a=>wr a
 | _=> []
def hz (b:List Nat) (c d:Fr):Prop:= ∀a,a∉b->d a=c a
theorem hz.trans {a:List Nat}{b c d:Fr} (o:hz a b c) (p:hz a c d):hz a b d:=λh k=>(p h k).trans (o h k)
def hz.put {c:List Nat}{b:Option Nat} (d: ∀a,b=some a->a∈c):hz c j (dh j b n):=λa h=>u0 j b n a λk=>h (d a k)
section
def CW {a:List Nat}{k:Fr->U->Prop}{o:Fr}: ∀(b:List ca),(∀c∈b,∀p,c.dst=some p->p∈a)-> ∀(j:Fr) (f:U),hz a o j->jc K b k j f->jc K b (λr d=>k r d/\hz a o r) j f
 | [],_,j,f,cr,h=>⟨h,cr⟩
 |c::y,x,j,f,cr,h=>nd (λE d z=>CW y (λC D=>x C (a7X _ D)) _ d (cr.trans (hz.put (x c (a8u ..)))) z) h
def CX {b:List Nat}{c:Nat->ca}{h:Fr->U->Prop}{k:Fr} (o: ∀z p,(c z).dst=some p->p∈b): ∀(r:List dd) (j:Fr) (f:U),hz b k j->can K c h r j f->can K c (λx d=>h x d/\hz b k x) r j f
 | [],j,f,cr,a=>⟨a,cr⟩
 |C::D,j,f,cr,a=>⟨a.1,nd (λE d y=>⟨y.1,CX o D _ d (cr.trans (hz.put (o C.i))) y.2⟩) a.2⟩
theorem oe {r:List Nat}: ∀(x:et),(∀b∈wr x,b∈r)-> ∀ {o:gh->Fr->U->Prop}{d:Fr} (j:Fr) (f:U),hz r d j->c3 K x o j f->c3 K x (λh C E=>o h C E/\hz r d C) j f
 | .skip,_,_,_,j,f,cr,a=>⟨a,cr⟩
 | .ret,_,_,_,j,f,cr,a=>⟨a,cr⟩
 | .exit _,_,_,_,j,f,cr,a=>⟨a,cr⟩
 | .plain ops,hw,_,_,j,f,cr,a=>CW ops (λF G b p=>hw b (a9Y.2 ⟨F,G,p⟩)) j f cr a
 | .draw ops L,hw,_,_,j,f,cr,a=>CX (λy b p=>by
   refine hw b (a9Y.2 ?_);grind[nth,List.mem_of_getElem?]) L j f cr a
 | .seq c z,hw,o,d,j,f,cr,a=>jj c (λh j f a=>by
   cases h with
   |norm=>exact oe z (λb k=>hw b (a8H _ k)) j f a.2 a.1
   |exit y=>exact a
   |ret=>exact a) j f (oe c (λb k=>hw b (a8M _ k)) j f cr a)
 | .block y c,hw,o,d,j,f,cr,a=>jj c (λh j f a=>by
   cases h with
   |norm=>exact a
   |exit e=>obtain⟨P,g⟩:=a;simp only[lo]at P|-;split<;>(simp_all)
   |ret=>exact a) j f (oe c hw j f cr a)
 | .cond x c z,hw,o,d,j,f,cr,a=>by
   simp only[xa,C5,ks]at a|-;split at a
   .exact⟨λp=>oe c (λb k=>hw b (a8M _ k)) j f cr (a.1 p),λp=>oe z (λb k=>hw b (a8H _ k)) j f cr (a.2 p)⟩
   .trivial
 | .loop c,hw,o,d,j,f,cr,a=>by
   obtain⟨S,T,V,W⟩:=a;refine⟨λj f=>S j f/\hz r d j,T,⟨V,cr⟩,λj f D=>jj c (λh j f a=> ?_) j f (oe c hw j f D.2 (W j f D.1))⟩;cases h with
   |norm=>exact⟨⟨a.1.1,a.2⟩,a.1.2⟩
   |exit y=>exact a
   |ret=>exact a
def gK (a:Fr):List (Nat×R)->Prop
 | []=>True
 |b::c=>a b.1=b.2/\gK a c
def XF:gK j []=True:=rfl
def XG {v:R}:gK j [(e,v)]=(j e=v):=by simp[gK]
def XH {v:R}{a:Nat×R}{b:List (Nat×R)}:gK j ((e,v)::a::b)=(j e=v/\gK j (a::b)):=rfl
def gY (a:Fr):List (Nat×R)->Fr
 | []=>a
 |b::c=>dh (gY a c) (some b.1) b.2
def XI:gY j []=j:=rfl
def XJ {v:R}{a:List (Nat×R)}:gY j ((e,v)::a)=dh (gY j a) (some e) v:=rfl
theorem sx {a:Fr}: ∀ {b:List (Nat×R)},gK a b->gY a b=a
 | [],_=>rfl
 |d::o,c=>by
  rw[gY,sx c.2];funext h;by_cases k:h=d.1
  .subst k;rw[<-c.1];simp[dh,lU]
  grind[u0,Option.some.inj]
def keeps (a:Fr):List Nat->List (Nat×R)
 | []=> []
 |b::c=>(b,a b)::keeps a c
def XK:keeps j []= []:=rfl
def XL {a:List Nat}:keeps j (e::a)=(e,j e)::keeps j a:=rfl
def xA {b c:Fr}: ∀ {d:List Nat},(∀a∈d,c a=b a)->gK c (keeps b d)
 | [],_=>trivial
 |a::p,h=>⟨h a (a8u ..),xA λk o=>h k (a7X _ o)⟩
theorem CY: ∀ {a:Nat},j6 a-> ∃a,j6 a/\ ∀b,j6 b->a<=b:=by
 intro a
 induction a using Nat.strongRecOn with
 |ind a ih=>grind
theorem cg (D:List Nat) (y:b0->List (Nat×R)) (E:b0->U->Prop) (h:b0->Nat) (L:b0)
  (m:E L f/\gK j (y L)) (P: ∀x c,E x c-> ∀d,c3 K h8 (eQ (λn q=> ∃a,E a q/\gK n (y a)/\h a<h x) e7) (gY (gY d (keeps j D)) (y x)) c)
  (I:D.all (λS=> !(wr h8).contains S)=true:=by kernel_rfl):cu (c3 K (.loop h8) e7 j f) ():=by
 classical
 let p:=λ(d) (c) (a)=>E a c/\gK d (y a)
 let z:=λ(d) (c)=>if C: ∃k,(∃a,p d c a/\h a=k)/\ ∀o,(∃a,p d c a/\h a=o)->k<=o then C.choose else 0;refine⟨λd c=>(∃a,p d c a)/\hz (wr h8) j d,z,⟨⟨L,m⟩,λ_ _=>rfl⟩,λb r T=> ?_⟩;have C: ∃k,(∃a,p b r a/\h a=k)/\ ∀o,(∃a,p b r a/\h a=o)->k<=o:=by obtain⟨a,s⟩:=T.1;exact CY ⟨a,s,rfl⟩
 obtain⟨⟨x,i,hm⟩,M⟩:=C.choose_spec;have t:gK b (keeps j D):=xA λS N=>T.2 S λO=>by
  simp_all
 have u:gY (gY b (keeps j D)) (y x)=b:=by rw[sx t,sx i.2]
 have l:=P x r i.1 b;rw[u]at l;refine jj h8 (λv F G V=> ?_) b r (oe h8 (λ_ P=>P) b r T.2 l);cases v with
 |norm=>obtain⟨⟨a,W,e,w⟩,A⟩:=V;refine⟨⟨⟨a,W,e⟩,A⟩,?_⟩;have g: ∃k,(∃a,p F G a/\h a=k)/\ ∀o,(∃a,p F G a/\h a=o)->k<=o:=CY ⟨a,⟨W,e⟩,rfl⟩;show z F G<z b r;have B:z F G=g.choose:=dif_pos g;have H:z b r=C.choose:=dif_pos C;rw[B,H];exact Nat.lt_of_le_of_lt (g.choose_spec.2 _ ⟨a,⟨W,e⟩,rfl⟩) (by rw[<-hm];exact w)
 |exit Q=>exact V.1
 |ret=>exact V.1
end
theorem gL (d:List Nat) (b:b0->List (Nat×R)) (c:b0->Prop) (h:b0->Nat) (k:b0)
  (x:c k) (y:gK j (b k)) (z: ∀a,c a-> ∀o,c3 K h8 (eQ (λC D=> ∃p,D=f/\c p/\gK C (b p)/\h p<h a) e7) (gY (gY o (keeps j d)) (b a)) f)
  (E:d.all (λF=> !(wr h8).contains F)=true:=by kernel_rfl):cu (c3 K (.loop h8) e7 j f) ():=
 cg d b (λa r=>r=f/\c a) h k ⟨⟨rfl,x⟩,y⟩ (λa r G o=>by
  obtain⟨rfl,L⟩:=G;refine jj h8 (λP S T V=> ?_) _ _ (z a L o);grind) E
def uo:=
 a6w @XF<|
 a6w @XG<|
 a6w @XH<|
 a6w @XI<|
 a6w @XJ<|
 a6w @XK<|
 @XL
def U.uq (a:f e=none) (b:s.sub f):s e=none:=U.bI b a
def U.XM (c:f e=none):f.sub (s.set e X)=f.sub s:=propext ⟨λa d h b=>by
 have k:d≠e:=by rintro rfl;rw[c]at b;cases b
 have:=a d h b;rwa[U.an _ _ k]at this,λa=>U.af a c⟩
def U.sub_self:f.sub f=True:=eq_true U.a6
def XN:(∃b,b.sub s/\f.sub b)=f.sub s:=propext ⟨λ⟨_,a,h⟩ c d k=>a c d (h c d k),λa=>⟨f,a,U.a6⟩⟩
def XO:(∃b,b.sub s/\b=f)=f.sub s:=propext ⟨λ⟨_,a,c⟩=>by subst c;exact a,λa=>⟨f,a,rfl⟩⟩
def XP:sq (bn A)=some (.v (.int .i64 A.length)):=xk
def XQ (a:e<A.length):pt (bn A) (.v (.int e1 (e:Int)))=some (.v (.int .u8 (A.getD e 0).toNat)):=by have:=CC (A:=A) (e1:=e1) (b1:=(e)) aaU aaU;trivial
def og:cC e (.J g N) (.v (.int e1 (i:Int)))=eB e g[i]? :=by rfl
def XR:eB 1 (some (.v e4))=some (.bU [.v e4]):=rfl
def XS:eB 1 (some (bn A))=some (.bU [bn A]):=rfl
def XT:eB 1 (some (.J g N))=some (.bU [.J g N]):=rfl
def XU:eB 1 (some (.ptr e i))=some (.bU [.ptr e i]):=rfl
def XV [Decidable Q]:(!decide Q)=decide (¬Q):=decide_not.symm
def XW:(xor false I)=I:=a9l I
def XX:(∃b,b.sub s/\f.sub b/\Q)=(f.sub s/\Q):=propext ⟨λ⟨_,a,h,k⟩=>⟨λc d o=>a c d (h c d o),k⟩,λa=>⟨f,a.1,U.a6,a.2⟩⟩
def XY:(∃b,b.sub s/\b=f/\Q)=(f.sub s/\Q):=propext ⟨λ⟨_,a,c,d⟩=>by subst c;trivial,λa=>⟨f,a.1,rfl,a.2⟩⟩
def XZ {a:b0}{b:List b0}:List.take (e+1) (a::b)=a::List.take e b:=rfl
def Y0 {a:List b0}:List.take 0 a= []:=rfl
def Y1:List.take e ([]:List b0)= []:=List.take_nil
def Y2 {a:List b0}:List.drop 0 a=a:=rfl
def Y3:putAt (b6::g) 0 (n::B)=n::putAt g 0 B:=by rfl
def Y4:putAt g 0 []=g:=by rfl
def Y5:putAt (n::g) (e+1) B=n::putAt g e B:=by simp[putAt,Nat.add_right_comm]
def Y6 {b:b0}{a:List b0}:(b::a).length=a.length+1:=rfl
def Y7:([]:List b0).length=0:=rfl
def Y8:(bn A).cells= [bn A]:=rfl
def Y9:(R.J g N).cells= [.J g N]:=rfl
def Ya:(R.ptr e i).cells= [.ptr e i]:=rfl
def Yb {v:Value}:(R.v v).cells= [.v v]:=rfl
theorem pz (a:e<=g.length) (b:aW i g):dO i (.J g N) (some (.v (.int e1 (e:Int)))) none=some (.J (g.drop e) .any):=by grind[qO,Int.toNat_natCast]
def Yc (a:e<g.length) (b:aW i g):dO i (.J g N) (some (.v (.int e1 ((e:Int)+1)))) none=some (.J (g.drop (e+1)) .any):=pz (e:=e+1) a b
theorem Yd (a:e<=g.length) (b:aW i g):dO i (.J g N) none (some (.v (.int e1 (e:Int))))=some (.J (g.take e) .any):=by grind[o9,Int.toNat_natCast]
theorem Ye {a:IntKind} (b:i<=e) (c:e<=g.length) (d:aW v g):dO v (.J g N) (some (.v (.int e1 (i:Int)))) (some (.v (.int a (e:Int))))=some (.J ((g.take e).drop i) .any):=by grind[Ct,Int.toNat_natCast]
def Yf:(∃ _:Unit,True)=True:=eq_true ⟨(),trivial⟩
def Yg {a:cz t}:jK e f [] (bX t a)=t (.J [] .zero) f:=by simp[jK,bX]
def Yh:cC e (.J g N) (.v (.int e1 0))=eB e g[0]? :=og (i:=0)
def Yi:cC e (.J g N) (.v (.int e1 1))=eB e g[1]? :=og (i:=1)
def ur:=
 a6w @Yh<|
 a6w @Yi<|
 a6w @Yf<|
 a6w @pz<|
 a6w @Yc<|
 a6w @Yd<|
 a6w @Ye<|
 a6w @Y8<|
 a6w @Y9<|
 a6w @Ya<|
 a6w @Yb<|
 a6w @U.ai<|
 a6w @U.an<|
 a6w @Y3<|
 a6w @Y4<|
 a6w @Y5<|
 a6w @Y6<|
 a6w @Y7<|
 a6w @XZ<|
 a6w @Y0<|
 a6w @Y1<|
 a6w @Y2<|
 a6w @U.XM<|
 a6w @U.sub_self<|
 a6w @XN<|
 a6w @XO<|
 a6w @XX<|
 a6w @XY<|
 a6w @true_and<|
 a6w @and_true<|
 a6w @XP<|
 a6w @XQ<|
 a6w @og<|
 a6w @XR<|
 a6w @XS<|
 a6w @XT<|
 a6w @XU<|
 a6w @hR<|
 a6w @hR<|
 a6w @Ck<|
 a6w @decide_true<|
 a6w @decide_false<|
 a6w @a7o<|
 a6w @a7u<|
 a6w @a8e<|
 a6w @a8R<|
 a6w @aaI<|
 a6w @Bool.and_false<|
 a6w @XW<|
 a6w @Bool.true_xor<|
 a6w @XV<|
 @Decidable.not_not
theorem sy {a:Nat->Bool} (b:e<i) (c:a e=false):(List.range i).all a=false:=List.all_eq_false.2 ⟨e,a7O.2 b,by simp[c]⟩
theorem sz {a:Nat->Bool} (b: ∀c<e,a c=true):(List.range e).all a=true:=a6P.2 λd h=>b d (a7O.1 h)
def upto (b: ∀a<e,j6 a) (c:j6 e): ∀a<e+1,j6 a:=λa d=>(Nat.lt_or_eq_of_le (Nat.le_of_lt_succ d)).elim (b a) λh=>h▸c
def Yj:R.v (.int e1 ((e:Int)+1))= .v (.int e1 ((e+1:Nat):Int)):=rfl
theorem qV {a:Bool} (b:(I=true)=(a=true):=by apply propext;(try dsimp only);(try simp (disch:=omega) only[if_pos,if_neg,a6B,a8l,a8d,Bool.not_eq_eq_eq_not,a7o,a7u,decide_eq_true_eq,decide_eq_false_iff_not,a7H,false_iff,iff_false,true_iff,iff_true,true_and,and_true,false_and,and_false,false_or,or_false,true_or,or_true,iff_self, *])<;>omega):I=a:=by simp_all
theorem aR {a:Bool} (b:I=a:=by exact qV):R.v (.bool I)= .v (.bool a):=b▸rfl
theorem aV {a:Bool} (b:I=a):R.v (.bool I)= .v (.bool a):=by rw[b]
def U.uu (a:f.sub s) (b:f e=some X):s e=some X:=a _ _ b
def U.uv (a:bf f s i g N) (b:f e=some X):s e=some X:=a.sub _ _ b
def iG (c d:U):Prop:= ∀a b,c a=some (.cells b)->d a=some (.cells b)
def U.qW (a:f.sub s):iG f s:=λc d b=>a _ _ b
theorem iG.trans (a:iG f s) (b:iG s e0):iG f e0:=λd h c=>b _ _ (a _ _ c)
def U.uw (a:iG f s) (b:f e=some (.cells g)):s e=some (.cells g):=a _ _ b
def U.ux (a:f e=some X) (b:f i=none):(f.set i j8) e=some X:=U.af U.a6 b _ _ a
def U.gZ (b:f i=none) (a:f e=some X):e≠i:=by rintro rfl;rw[b]at a;cases a
def a0 (a:f e=some X:=by first|assumption|exact U.ai _ _ _):f e=some X:=a
def a3 (a:f e=some X:=by first|exact a0|exact U.ux a2 aaX|exact U.uu aaX a2|exact U.uv aaX a2|exact U.xB aaX a2|exact U.uw aaX a2):f e=some X:=a
def a4 (a:f e=some X:=by first|exact a0|exact U.ux a3 aaX|exact U.uu aaX a3|exact U.uv aaX a3|exact U.xB aaX a3|exact U.uw aaX a3):f e=some X:=a
def a5 (a:f e=some X:=by first|exact a0|exact U.ux a4 aaX|exact U.uu aaX a4|exact U.uv aaX a4|exact U.xB aaX a4|exact U.uw aaX a4):f e=some X:=a
def di (a:f e=some X:=by first|exact a0|exact U.ux a5 aaX|exact U.uu aaX a5|exact U.uv aaX a5|exact U.xB aaX a5|exact U.uw aaX a5):f e=some X:=a
def eP (c: ∀a b,f a=some (.cells b)->s a=some (.cells b):=by intro _ _ _;exact di):iG f s:=c
def qX (c: ∀a b,f a=some b->s a=some b:=by intro _ _ _;exact di):f.sub s:=c
section
def eC (a:Q=b3:=by simp -dsimp -implicitDefEqProofs (disch:=first|omega|assumption|exact U.uq aaX aaX|(simp only[bd,Nat.reduceAdd];try omega)) only[go_sem,simprocAttr,-List.reduceReplicate,↓eu,ur,uo, *]<;>rfl):Q=b3:=a
def hV (a:Q=b3:=by first|exact eC|rfl):Q=b3:=a
def aa (a:b3) (b:Q=b3:=by exact hV):Q:=b.mpr a
def aO (a:Q=True:=by simp -dsimp -implicitDefEqProofs (disch:=first|omega|assumption|exact U.uq aaX aaX|(simp only[bd,Nat.reduceAdd];try omega)) only[go_sem,simprocAttr,-List.reduceReplicate,↓eu,ur,uo, *]):Q:=of_eq_true a
def aK (b:m.follows .mixedOrders=true) {a:List (Nat×Option (Bool×Nat))} (c:du m v e=some ⟨i,M,h8,a⟩) (d:Q) (h:g.length<=i:=by simp)
  (k:c3 (Ctx.of m) h8 (qM a t) (mf g) f=Q:=by exact eC):AC m e g f t:=bc b c h (k.mpr d)
def bp {c:Nat->Prop} (d: ∀a,f a=none->c a) (h: ∀a,f a=none->j6 a=c a:=by intro a b;exact eC):jg f (c4 j6 ()):=λa b=>(h a b).mpr (d a b)
def U.set_nil (a:(f.set i X) e=none):f e=none/\e≠i/\i≠e:=⟨(U.gI a).2,(U.gI a).1,(U.gI a).1.symm⟩
def cZ {d:Nat->Prop} (o: ∀a,f a=none->a≠e->e≠a->d a) (h: ∀a,f a=none->a≠e->e≠a->j6 a=d a:=by intro a b c h;exact eC):jg (f.set e X) (c4 j6 ()):=λa b=>by
 obtain⟨b,c,k⟩:=U.set_nil b;exact(h a b c k).mpr (o a b c k)
def ha {k:Nat->Prop} (r: ∀a,f a=none->a≠e->e≠a->a≠i->i≠a->k a) (o: ∀a,f a=none->a≠e->e≠a->a≠i->i≠a->j6 a=k a:=by intro a b c o d h;exact eC):jg ((f.set e X).set i j8) (c4 j6 ()):=λa b=>by
 obtain⟨b,d,h⟩:=U.set_nil b;obtain⟨b,c,p⟩:=U.set_nil b;exact(o a b c p d h).mpr (r a b c p d h)
def cl (c:AC m b5 g f Z) (d: ∀a b,Z a b->t a b) (h:Q=o8 K b5 g f (bX t ()):=by exact hV) (k:K.p=m:=by rfl):Q:=by subst k;exact h.mpr (ah c d)
def bk (a:AC K.p b5 g f λb c=>c=f/\b=n) (d:Q) (h:t n f=Q:=by exact eC):o8 K b5 g f (bX t ()):=ah a λ_ _ a=>by rw[a.1,a.2];exact h.mpr d
theorem np (c:AC m b5 g f λa b=>b=f/\a=n) (d:b3) (h:Q=o8 K b5 g f (bX t ()):=by exact hV) (k:t n f=b3:=by exact hV) (o:K.p=m:=by rfl):Q:=by grind[ah]
theorem gs {c:U->Prop} (b:AC K.p b5 g f λd a=>f.sub a/\d=n) (h: ∀a,f.sub a->c a) (k: ∀a,f.sub a->t n a=c a:=by intro a b;exact eC):o8 K b5 g f (bX t ()):=ah b λ_ a b=>by simp_all
def nq (a:Q=b3:=by first|(simp only[decide_eq_true_eq,decide_eq_false_iff_not,a8d,Bool.not_eq_false',a7o,a7u,Decidable.not_not]<;>rfl)|rfl):Q=b3:=a
def Yk {c:Prop} (k:(I=true)=Q:=by exact nq) (o:(I=false)=b3:=by exact nq) (d:Q->h2=j4:=by intro;first|exact eC|rfl) (h:b3->j0=c:=by intro;first|exact eC|rfl):ks (.v (.bool I)) (cu h2 ()) (cu j0 ())=((Q->j4)/\(b3->c)):=by subst k o;exact propext ⟨λb=>⟨λa=>(d a).mp (b.1 a),λa=>(h a).mp (b.2 a)⟩,λb=>⟨λa=>(d a).mpr (b.1 a),λa=>(h a).mpr (b.2 a)⟩⟩
def Yl {c:Bool}{d:Prop} (o:(I=c)=Q:=by exact nq) (p:(I= !c)=b3:=by exact nq) (h:Q->h2=j4:=by intro;first|exact eC|rfl) (k:b3->j0=d:=by intro;first|exact eC|rfl):hQ (.v (.bool I)) c (cu h2 ()) (cu j0 ())=((Q->j4)/\(b3->d)):=by rw[Uf];subst o p;exact propext ⟨λb=>⟨λa=>(h a).mp (b.1 a),λa=>(k a).mp (b.2 a)⟩,λb=>⟨λa=>(h a).mpr (b.1 a),λa=>(k a).mpr (b.2 a)⟩⟩
def aH (a:j0->b3) (b:j4->h2) (c:Q=((j0->b3)/\(j4->h2)):=by first|exact Yk|exact Yl):Q:=c.mpr ⟨a,b⟩
def CZ (a:Q:=by first|assumption|(simp only[decide_eq_true_eq,decide_eq_false_iff_not,a8d,Bool.not_eq_false',Decidable.not_not]<;>omega)):Q:=a
def Ym (a:I=true:=by exact CZ) (b:Q=b3:=by exact eC):ks (.v (.bool I)) (cu Q ()) (cu h2 ())=b3:=by subst a;exact C6.trans b
def Yn (a:I=false:=by exact CZ) (b:Q=b3:=by exact eC):ks (.v (.bool I)) (cu h2 ()) (cu Q ())=b3:=by subst a;exact C7.trans b
def iH (a:b3) (b:Q=b3:=by first|exact Ym|exact Yn|exact a6f|exact a6g):Q:=b.mpr a
end
end Go.bD
