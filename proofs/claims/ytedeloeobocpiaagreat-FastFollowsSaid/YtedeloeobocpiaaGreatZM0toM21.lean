import Derived.Test.YtedeloeobocpiaaGreatRows
import Derived.IntWalk
import Derived.Test.YtedeloeobocpiaaGreatZSh37dtoSh37e
set_option linter.all false
set_option maxHeartbeats 8000000
namespace Go.Sh
open Go Go.Proofs
variable [Con]
abbrev lE'{α:Type}(a:List α):Prop:=List.length a=List.length a
abbrev cK9:List Code1:=[some .i64,some .i64,some .i64,some .i64,some .i64,some .i64,some .i64,none,some .i64]
abbrev cK7:List Code1:=[some .i64,none,some .i64,some .i64,some .i64,none,some .i64]
abbrev cK3:List Code1:=[some .i64,some .i64,some .i64]
abbrev tO'(n:Nat)(l:List AVal):List AVal:=List.replicate n .O++l
abbrev AVal.I(n:Int):AVal:=.int .i64 n
abbrev AVal.N:AVal:=.raw (.pointer none)
abbrev W(x:Int):Int:=IntKind.wrap IntKind.i64 x
abbrev WU(x:Int):Int:=IntKind.wrap IntKind.u64 x
theorem cO{x:Int}(h: -9223372036854775808≤x∧x≤9223372036854775807):IntKind.wrap IntKind.i64 x=x:=IntWalk.i64_in x h
structure MS where
 t:Int
 n:Int
 xs:List Int
 c:Int
 k:Int
 a:Int
 o:Int
 w:Int
 ok:Bool
structure AL where
 got:Int
 at':Int
 left:Int
 found:Int
 free:Bool
structure SWS where
 ph:Nat
 N:List Int
 m:List (Int×Int)
 i:Int
 ks:List Int
 fs:List Int
 gs:List Int
 j:Nat
 l:Nat
structure ENS where
 ph:Nat
 sh:Bool
 dn:Bool
 x:AL
 y:SWS
structure STS where
 me:Int
 sp:Int
 R:List Int
structure PLN where
 now:Bool
 code:Int
 okk:Bool
 val:Int
 addr:Int
 old:Int
 nxt:Int
 mark:Bool
 pops:Int
structure CLS where
 addr:Int
 at':Int
 word:Int
 found:Int
structure PRS where
 key:Int
 nxt:Int
 found:Int
 loaded:Bool
structure HDS where
 u:Int
 no:Int
 at':Int
 tk:Bool
structure DRS where
 th:Int
 at':Int
structure ANS where
 no:Int
 me:Int
 at':Int
 bits:Int
 wrong:Bool
 found:Int
structure AWS where
 code:Int
 okk:Bool
 val:Int
 me:Int
structure EXS where
 popped:Int
 gave:Int
 u:Int
 sh:Int
 kd:Int
 ky:Int
 only:Bool
 att:Int
 at':Int
 found:Int
 word:Int
structure FNS where
 pred:Int
 pw:Int
 curr:Int
 cw:Int
 tries:Int
 ul:List Int
 ab:Bool
 me:Int
 frm:Int
 key:Int
 limit:Int
 at':Int
 moved:Int
 cl:CLS
structure FTS where
 code:Int
 okk:Bool
 val:Int
 failed:Bool
 tries:Int
 sh:Int
 kd:Int
 ky:Int
 most:Int
 at':Int
 p:PLN
 fn:FNS
 cl:CLS
 pr:PRS
structure HPS where
 u:Int
 no:Int
 rounds:Int
 limit:Int
 at':Int
 found:Int
 sh:Int
 kd:Int
 ky:Int
 p:PLN
 ex:EXS
 en:ENS
 fn:FNS
 cl:CLS
 pr:PRS
structure DOS where
 code:Int
 okk:Bool
 val:Int
 slow:Bool
 sh:Int
 kd:Int
 ky:Int
 limit:Int
 at':Int
 hd:HDS
 hp:HPS
 en:ENS
 ft:FTS
 an:ANS
 aw:AWS
 fn:FNS
 dr:DRS
 sw:SWS
structure HST where
 ev:List (List Int)
 cl:List (List Int)
 n0:Int
 n1:Int
 n2:Int
 n3:Int
 n4:Int
 n5:Int
 n6:Int
 n7:Int
structure NX where
 t:Int
 n:Int
 st:STS
 tk:List (List Int)
 en:Int
 b:Bool
 d:DOS
 tl:List Int
 sl:List Int
structure UE where
 sh:Int
 th:Int
 nd:Int
 tr:Int
 s:MS
 h:HST
 ws:List NX
 k:Int
instance:Inhabited PLN:=⟨⟨false,0,false,0,0,0,0,false,0⟩⟩
instance:Inhabited HST:=⟨⟨[],[],0,0,0,0,0,0,0,0⟩⟩
abbrev a9:CLS:=⟨0,0,0,0⟩
abbrev bU:PRS:=⟨0,0,0,false⟩
abbrev JS:SWS:=⟨0,[],[],0,[],[],[],0,0⟩
abbrev JR:PLN:=⟨false,0,false,0,0,0,0,false,0⟩
abbrev qX:ENS:=⟨0,false,false,⟨0,0,0,0,false⟩,⟨0,[],[],0,[],[],[],0,0⟩⟩
abbrev RF:EXS:=⟨0,0,0,0,0,0,false,0,0,0,0⟩
abbrev bV:FNS:=⟨0,0,0,0,0,[],false,0,0,0,0,0,0,⟨0,0,0,0⟩⟩
abbrev RG:FTS:=⟨0,false,0,false,0,0,0,0,0,0,⟨false,0,false,0,0,0,0,false,0⟩,⟨0,0,0,0,0,[],false,0,0,0,0,0,0,⟨0,0,0,0⟩⟩,⟨0,0,0,0⟩,⟨0,0,0,false⟩⟩
abbrev RH:HPS:=⟨0,0,0,0,0,0,0,0,0,⟨false,0,false,0,0,0,0,false,0⟩,⟨0,0,0,0,0,0,false,0,0,0,0⟩,⟨0,false,false,⟨0,0,0,0,false⟩,⟨0,[],[],0,[],[],[],0,0⟩⟩,⟨0,0,0,0,0,[],false,0,0,0,0,0,0,⟨0,0,0,0⟩⟩,⟨0,0,0,0⟩,⟨0,0,0,false⟩⟩
abbrev RE:DOS:=⟨0,false,0,false,0,0,0,0,0,⟨0,0,0,false⟩,⟨0,0,0,0,0,0,0,0,0,⟨false,0,false,0,0,0,0,false,0⟩,⟨0,0,0,0,0,0,false,0,0,0,0⟩,⟨0,false,false,⟨0,0,0,0,false⟩,⟨0,[],[],0,[],[],[],0,0⟩⟩,⟨0,0,0,0,0,[],false,0,0,0,0,0,0,⟨0,0,0,0⟩⟩,⟨0,0,0,0⟩,⟨0,0,0,false⟩⟩,⟨0,false,false,⟨0,0,0,0,false⟩,⟨0,[],[],0,[],[],[],0,0⟩⟩,⟨0,false,0,false,0,0,0,0,0,0,⟨false,0,false,0,0,0,0,false,0⟩,⟨0,0,0,0,0,[],false,0,0,0,0,0,0,⟨0,0,0,0⟩⟩,⟨0,0,0,0⟩,⟨0,0,0,false⟩⟩,⟨0,0,0,0,false,0⟩,⟨0,false,0,0⟩,⟨0,0,0,0,0,[],false,0,0,0,0,0,0,⟨0,0,0,0⟩⟩,⟨0,0⟩,⟨0,[],[],0,[],[],[],0,0⟩⟩
structure UG where
 t:Int
 n:Int
 st:STS
inductive Mc where
 | sweep (t n:Int) (y:SWS)
 | ensure (t n:Int) (e:ENS)
 | store (t n:Int) (s:STS)
 | clear (t n:Int) (x:CLS)
 | prepare (t n:Int) (x:PRS)
 | head (t n:Int) (x:HDS)
 | drop (t n:Int) (x:DRS)
 | announce (t n:Int) (x:ANS)
 | answer (t n:Int) (x:AWS)
 | exec (t n:Int) (x:EXS)
 | find (t n:Int) (x:FNS)
 | fast (t n:Int) (x:FTS)
 | help (t n:Int) (x:HPS)
 | doer (t n:Int) (x:DOS)
 | hist (x:HST)
 | worker (x:NX)
 | wrow (ws:List NX)
 | whole (ws:List NX) (i:Nat)
 | strow (ws:List UG)
 | sthole (ws:List UG) (i:Nat)
 | srow (ws:List (List Int))
 | shole (ws:List (List Int)) (i:Nat)
 | engine (x:UE)
abbrev Ob:=Mc
def MN(t n:Int)(x:AL):Option (aI Mc):=some (.cells [.int .i64 t,.int .i64 n,.int .i64 x.got,.int .i64 x.at',.int .i64 x.left,.int .u64 x.found,.bool x.free])
def IR(t n:Int)(y:SWS):aB Mc:=match y.ph with
 | 0=>[some (.cells [.ptr 1 0,.raw (.pointer none)]),none]
 | 1=>[some (.cells [.ptr 1 0,.ptr 2 0]),none,some (.cells [.int .i64 t,.int .i64 n,.raw (.slice none 0 0),.raw (.slice none 0 0),.slice 3 0 y.N.length 1,.map 4,.int .i64 y.i,.raw (.pointer none)]),some (.ints (some .i64) y.N),some (.imap .i64 none y.m)]
 | 2=>[some (.cells [.ptr 1 0,.ptr 2 0]),none,some (.cells [.int .i64 t,.int .i64 n,.slice 3 0 y.ks.length 1,.slice 4 0 y.fs.length 1,.slice 5 0 y.N.length 1,.map 6,.int .i64 y.i,.ptr 7 0]),some (.ints (some .i64) y.ks),some (.ints (some .i64) y.fs),some (.ints (some .i64) y.N),some (.imap .i64 none y.m),some (.cells [.int .i64 t,.int .i64 n,.slice 8 y.j y.l 1]),some (.ints (some .i64) y.gs)]
 | _=>[some (.cells [.ptr 1 0,.O]),none]
def BE(t n:Int)(e:ENS):aB Mc:=match e.ph with
 | 0=>[some (.cells [.ptr 1 0,.bool e.sh,.raw (.pointer none),.raw (.pointer none),.bool e.dn]),none]
 | 1=>[some (.cells [.ptr 1 0,.bool e.sh,.ptr 2 0,.raw (.pointer none),.bool e.dn]),none,MN t n e.x]
 | 2=>[some (.cells [.ptr 1 0,.bool e.sh,.ptr 2 0,.ptr 3 0,.bool e.dn]),none,MN t n e.x,some (.cells [.ptr 1 0,.raw (.pointer none)])]
 | 3=>[some (.cells [.ptr 1 0,.bool e.sh,.ptr 2 0,.ptr 3 0,.bool e.dn]),none,MN t n e.x,some (.cells [.ptr 1 0,.ptr 4 0]),some (.cells [.int .i64 t,.int .i64 n,.raw (.slice none 0 0),.raw (.slice none 0 0),.slice 5 0 e.y.N.length 1,.map 6,.int .i64 e.y.i,.raw (.pointer none)]),some (.ints (some .i64) e.y.N),some (.imap .i64 none e.y.m)]
 | _=>[some (.cells [.ptr 1 0,.bool e.sh,.ptr 2 0,.ptr 3 0,.bool e.dn]),none,MN t n e.x,some (.cells [.ptr 1 0,.ptr 4 0]),some (.cells [.int .i64 t,.int .i64 n,.slice 5 0 e.y.ks.length 1,.slice 6 0 e.y.fs.length 1,.slice 7 0 e.y.N.length 1,.map 8,.int .i64 e.y.i,.ptr 9 0]),some (.ints (some .i64) e.y.ks),some (.ints (some .i64) e.y.fs),some (.ints (some .i64) e.y.N),some (.imap .i64 none e.y.m),some (.cells [.int .i64 t,.int .i64 n,.slice 10 e.y.j e.y.l 1]),some (.ints (some .i64) e.y.gs)]
def jD(t n:Int)(s:STS):aB Mc:=[some (.cells [.int .i64 t,.int .i64 n,.int .i64 s.me,.int .i64 s.sp,.slice 1 0 s.R.length 1]),some (.ints (some .i64) s.R)]
theorem eZ{a b:Int}(h:a≠b):ieq a b=false:=by
 rw [bC];simpa using h
abbrev kC(t n:Int)(x:CLS):aB Mc:=[some (.cells [.int .i64 t,.int .i64 n,.int .i64 x.addr,.int .i64 x.at',.int .u64 x.word,.int .u64 x.found])]
def OF(t n:Int)(x:CLS):aB Mc:=kC t n x
abbrev jU(t n:Int)(x:PRS):aB Mc:=[some (.cells [.ptr 1 0,.int .i64 x.key,.int .i64 x.nxt,.int .u64 x.found,.bool x.loaded]),none]
def IA(t n:Int)(x:PRS):aB Mc:=jU t n x
abbrev PS(t n:Int)(x:HDS):aB Mc:=[some (.cells [.int .i64 t,.int .i64 n,.int .i64 x.u,.int .u64 x.no,.int .i64 x.at',.bool x.tk])]
def SD(t n:Int)(x:HDS):aB Mc:=PS t n x
abbrev OJ(t n:Int)(x:DRS):aB Mc:=[some (.cells [.int .i64 t,.int .i64 n,.int .i64 x.th,.int .i64 x.at'])]
def RJ(t n:Int)(x:DRS):aB Mc:=OJ t n x
abbrev y8(t n:Int)(x:ANS):aB Mc:=[some (.cells [.int .i64 t,.int .i64 n,.int .u64 x.no,.int .i64 x.me,.int .i64 x.at',.int .u64 x.bits,.bool x.wrong,.int .u64 x.found])]
def CH(t n:Int)(x:ANS):aB Mc:=y8 t n x
abbrev EV(t n:Int)(x:AWS):aB Mc:=[some (.cells [.int .i64 t,.int .i64 n,.int .i64 x.code,.bool x.okk,.int .i64 x.val,.int .i64 x.me])]
def JC(t n:Int)(x:AWS):aB Mc:=EV t n x
abbrev OP(t n:Int)(x:EXS):aB Mc:=[some (.cells [.int .i64 t,.int .i64 n,.int .i64 x.popped,.int .i64 x.gave,.int .i64 x.u,.int .i64 x.sh,.int .i64 x.kd,.int .i64 x.ky,.bool x.only,.int .i64 x.att,.int .i64 x.at',.int .u64 x.found,.int .u64 x.word])]
def RL(t n:Int)(x:EXS):aB Mc:=OP t n x
abbrev i8(t n:Int)(x:FNS):aB Mc:=[some (.cells [.int .i64 t,.int .i64 n,.int .i64 x.pred,.int .u64 x.pw,.int .i64 x.curr,.int .u64 x.cw,.int .i64 x.tries,.slice 1 0 x.ul.length 1,.bool x.ab,.int .i64 x.me,.int .i64 x.frm,.int .i64 x.key,.int .i64 x.limit,.int .i64 x.at',.int .i64 x.moved,.O]),some (.ints (some .i64) x.ul)]
abbrev nO(t n:Int)(x:FNS):aB Mc:=[some (.cells [.int .i64 t,.int .i64 n,.int .i64 x.pred,.int .u64 x.pw,.int .i64 x.curr,.int .u64 x.cw,.int .i64 x.tries,.slice 1 0 x.ul.length 1,.bool x.ab,.int .i64 x.me,.int .i64 x.frm,.int .i64 x.key,.int .i64 x.limit,.int .i64 x.at',.int .i64 x.moved,.ptr 2 0]),some (.ints (some .i64) x.ul),some (.abs (.clear t n x.cl) [])]
def wW(t n:Int)(x:FNS):aB Mc:=bif ieq x.at' 4 then nO t n x else i8 t n x
theorem gC{t n:Int}{x:FNS}(h:x.at'≠4):wW t n x=i8 t n x:=by
 have h4:=h
 unfold wW
 rw [eZ h4];rfl
theorem BK{t n:Int}{x:FNS}(h:x.at'=4):wW t n x=nO t n x:=by
 unfold wW;rw [h];rfl
abbrev rB(t n:Int)(x:FTS):aB Mc:=[some (.cells [.ptr 1 0,.int .i64 x.code,.bool x.okk,.int .i64 x.val,.bool x.failed,.int .i64 x.tries,.int .i64 x.sh,.int .i64 x.kd,.int .i64 x.ky,.int .i64 x.most,.int .i64 x.at',.bool x.p.now,.int .i64 x.p.code,.bool x.p.okk,.int .i64 x.p.val,.int .i64 x.p.addr,.int .u64 x.p.old,.int .i64 x.p.nxt,.bool x.p.mark,.int .i64 x.p.pops,.O,.O,.O]),none]
abbrev jL(t n:Int)(x:FTS):aB Mc:=[some (.cells [.ptr 1 0,.int .i64 x.code,.bool x.okk,.int .i64 x.val,.bool x.failed,.int .i64 x.tries,.int .i64 x.sh,.int .i64 x.kd,.int .i64 x.ky,.int .i64 x.most,.int .i64 x.at',.bool x.p.now,.int .i64 x.p.code,.bool x.p.okk,.int .i64 x.p.val,.int .i64 x.p.addr,.int .u64 x.p.old,.int .i64 x.p.nxt,.bool x.p.mark,.int .i64 x.p.pops,.ptr 2 0,.O,.O]),none,some (.abs (.find t n x.fn) [])]
abbrev lC(t n:Int)(x:FTS):aB Mc:=[some (.cells [.ptr 1 0,.int .i64 x.code,.bool x.okk,.int .i64 x.val,.bool x.failed,.int .i64 x.tries,.int .i64 x.sh,.int .i64 x.kd,.int .i64 x.ky,.int .i64 x.most,.int .i64 x.at',.bool x.p.now,.int .i64 x.p.code,.bool x.p.okk,.int .i64 x.p.val,.int .i64 x.p.addr,.int .u64 x.p.old,.int .i64 x.p.nxt,.bool x.p.mark,.int .i64 x.p.pops,.O,.ptr 2 0,.O]),none,some (.abs (.clear t n x.cl) [])]
abbrev lD(t n:Int)(x:FTS):aB Mc:=[some (.cells [.ptr 1 0,.int .i64 x.code,.bool x.okk,.int .i64 x.val,.bool x.failed,.int .i64 x.tries,.int .i64 x.sh,.int .i64 x.kd,.int .i64 x.ky,.int .i64 x.most,.int .i64 x.at',.bool x.p.now,.int .i64 x.p.code,.bool x.p.okk,.int .i64 x.p.val,.int .i64 x.p.addr,.int .u64 x.p.old,.int .i64 x.p.nxt,.bool x.p.mark,.int .i64 x.p.pops,.O,.O,.ptr 2 0]),none,some (.abs (.prepare t n x.pr) [1])]
def nN(t n:Int)(x:FTS):aB Mc:=bif ieq x.at' 0 then jL t n x else bif ieq x.at' 1 then lC t n x else bif ieq x.at' 2 then lD t n x else rB t n x
theorem wU{t n:Int}{x:FTS}(h:x.at'≠0∧x.at'≠1∧x.at'≠2):nN t n x=rB t n x:=by
 have ⟨h0,h1,h2⟩:=h
 unfold nN
 rw [eZ h0,eZ h1,eZ h2];rfl
theorem u4{t n:Int}{x:FTS}(h:x.at'=0):nN t n x=jL t n x:=by
 unfold nN;rw [h];rfl
theorem BI{t n:Int}{x:FTS}(h:x.at'=1):nN t n x=lC t n x:=by
 unfold nN;rw [h];rfl
theorem BJ{t n:Int}{x:FTS}(h:x.at'=2):nN t n x=lD t n x:=by
 unfold nN;rw [h];rfl
abbrev PT(t n:Int)(x:HPS):aB Mc:=[some (.cells [.ptr 1 0,.int .i64 x.u,.int .u64 x.no,.int .i64 x.rounds,.int .i64 x.limit,.int .i64 x.at',.int .u64 x.found,.int .i64 x.sh,.int .i64 x.kd,.int .i64 x.ky,.bool x.p.now,.int .i64 x.p.code,.bool x.p.okk,.int .i64 x.p.val,.int .i64 x.p.addr,.int .u64 x.p.old,.int .i64 x.p.nxt,.bool x.p.mark,.int .i64 x.p.pops,.O,.O,.O,.O,.O]),none]
abbrev HA(t n:Int)(x:HPS):aB Mc:=[some (.cells [.ptr 1 0,.int .i64 x.u,.int .u64 x.no,.int .i64 x.rounds,.int .i64 x.limit,.int .i64 x.at',.int .u64 x.found,.int .i64 x.sh,.int .i64 x.kd,.int .i64 x.ky,.bool x.p.now,.int .i64 x.p.code,.bool x.p.okk,.int .i64 x.p.val,.int .i64 x.p.addr,.int .u64 x.p.old,.int .i64 x.p.nxt,.bool x.p.mark,.int .i64 x.p.pops,.ptr 2 0,.O,.O,.O,.O]),none,some (.abs (.exec t n x.ex) [])]
abbrev G9(t n:Int)(x:HPS):aB Mc:=[some (.cells [.ptr 1 0,.int .i64 x.u,.int .u64 x.no,.int .i64 x.rounds,.int .i64 x.limit,.int .i64 x.at',.int .u64 x.found,.int .i64 x.sh,.int .i64 x.kd,.int .i64 x.ky,.bool x.p.now,.int .i64 x.p.code,.bool x.p.okk,.int .i64 x.p.val,.int .i64 x.p.addr,.int .u64 x.p.old,.int .i64 x.p.nxt,.bool x.p.mark,.int .i64 x.p.pops,.O,.ptr 2 0,.O,.O,.O]),none,some (.abs (.ensure t n x.en) [1])]
abbrev HB(t n:Int)(x:HPS):aB Mc:=[some (.cells [.ptr 1 0,.int .i64 x.u,.int .u64 x.no,.int .i64 x.rounds,.int .i64 x.limit,.int .i64 x.at',.int .u64 x.found,.int .i64 x.sh,.int .i64 x.kd,.int .i64 x.ky,.bool x.p.now,.int .i64 x.p.code,.bool x.p.okk,.int .i64 x.p.val,.int .i64 x.p.addr,.int .u64 x.p.old,.int .i64 x.p.nxt,.bool x.p.mark,.int .i64 x.p.pops,.O,.O,.ptr 2 0,.O,.O]),none,some (.abs (.find t n x.fn) [])]
abbrev G8(t n:Int)(x:HPS):aB Mc:=[some (.cells [.ptr 1 0,.int .i64 x.u,.int .u64 x.no,.int .i64 x.rounds,.int .i64 x.limit,.int .i64 x.at',.int .u64 x.found,.int .i64 x.sh,.int .i64 x.kd,.int .i64 x.ky,.bool x.p.now,.int .i64 x.p.code,.bool x.p.okk,.int .i64 x.p.val,.int .i64 x.p.addr,.int .u64 x.p.old,.int .i64 x.p.nxt,.bool x.p.mark,.int .i64 x.p.pops,.O,.O,.O,.ptr 2 0,.O]),none,some (.abs (.clear t n x.cl) [])]
abbrev HE(t n:Int)(x:HPS):aB Mc:=[some (.cells [.ptr 1 0,.int .i64 x.u,.int .u64 x.no,.int .i64 x.rounds,.int .i64 x.limit,.int .i64 x.at',.int .u64 x.found,.int .i64 x.sh,.int .i64 x.kd,.int .i64 x.ky,.bool x.p.now,.int .i64 x.p.code,.bool x.p.okk,.int .i64 x.p.val,.int .i64 x.p.addr,.int .u64 x.p.old,.int .i64 x.p.nxt,.bool x.p.mark,.int .i64 x.p.pops,.O,.O,.O,.O,.ptr 2 0]),none,some (.abs (.prepare t n x.pr) [1])]
def SE(t n:Int)(x:HPS):aB Mc:=bif ieq x.at' 3 then HA t n x else bif ieq x.at' 4 then G9 t n x else bif ieq x.at' 5 then HB t n x else bif ieq x.at' 7 then G8 t n x else bif ieq x.at' 8 then HE t n x else PT t n x
abbrev OI(t n:Int)(x:DOS):aB Mc:=[some (.cells [.ptr 1 0,.int .i64 x.code,.bool x.okk,.int .i64 x.val,.bool x.slow,.int .i64 x.sh,.int .i64 x.kd,.int .i64 x.ky,.int .i64 x.limit,.int .i64 x.at',.O,.O,.O,.O,.O,.O,.O,.O,.O]),none]
abbrev FS(t n:Int)(x:DOS):aB Mc:=[some (.cells [.ptr 1 0,.int .i64 x.code,.bool x.okk,.int .i64 x.val,.bool x.slow,.int .i64 x.sh,.int .i64 x.kd,.int .i64 x.ky,.int .i64 x.limit,.int .i64 x.at',.ptr 2 0,.O,.O,.O,.O,.O,.O,.O,.O]),none,some (.abs (.head t n x.hd) [])]
abbrev wN(t n:Int)(x:DOS):aB Mc:=[some (.cells [.ptr 1 0,.int .i64 x.code,.bool x.okk,.int .i64 x.val,.bool x.slow,.int .i64 x.sh,.int .i64 x.kd,.int .i64 x.ky,.int .i64 x.limit,.int .i64 x.at',.O,.ptr 2 0,.O,.O,.O,.O,.O,.O,.O]),none,some (.abs (.help t n x.hp) [1])]
abbrev FP(t n:Int)(x:DOS):aB Mc:=[some (.cells [.ptr 1 0,.int .i64 x.code,.bool x.okk,.int .i64 x.val,.bool x.slow,.int .i64 x.sh,.int .i64 x.kd,.int .i64 x.ky,.int .i64 x.limit,.int .i64 x.at',.O,.O,.ptr 2 0,.O,.O,.O,.O,.O,.O]),none,some (.abs (.ensure t n x.en) [1])]
abbrev FR(t n:Int)(x:DOS):aB Mc:=[some (.cells [.ptr 1 0,.int .i64 x.code,.bool x.okk,.int .i64 x.val,.bool x.slow,.int .i64 x.sh,.int .i64 x.kd,.int .i64 x.ky,.int .i64 x.limit,.int .i64 x.at',.O,.O,.O,.ptr 2 0,.O,.O,.O,.O,.O]),none,some (.abs (.fast t n x.ft) [1])]
abbrev FM(t n:Int)(x:DOS):aB Mc:=[some (.cells [.ptr 1 0,.int .i64 x.code,.bool x.okk,.int .i64 x.val,.bool x.slow,.int .i64 x.sh,.int .i64 x.kd,.int .i64 x.ky,.int .i64 x.limit,.int .i64 x.at',.O,.O,.O,.O,.ptr 2 0,.O,.O,.O,.O]),none,some (.abs (.announce t n x.an) [])]
abbrev FN(t n:Int)(x:DOS):aB Mc:=[some (.cells [.ptr 1 0,.int .i64 x.code,.bool x.okk,.int .i64 x.val,.bool x.slow,.int .i64 x.sh,.int .i64 x.kd,.int .i64 x.ky,.int .i64 x.limit,.int .i64 x.at',.O,.O,.O,.O,.O,.ptr 2 0,.O,.O,.O]),none,some (.abs (.answer t n x.aw) [])]
abbrev FQ(t n:Int)(x:DOS):aB Mc:=[some (.cells [.ptr 1 0,.int .i64 x.code,.bool x.okk,.int .i64 x.val,.bool x.slow,.int .i64 x.sh,.int .i64 x.kd,.int .i64 x.ky,.int .i64 x.limit,.int .i64 x.at',.O,.O,.O,.O,.O,.O,.ptr 2 0,.O,.O]),none,some (.abs (.find t n x.fn) [])]
abbrev FO(t n:Int)(x:DOS):aB Mc:=[some (.cells [.ptr 1 0,.int .i64 x.code,.bool x.okk,.int .i64 x.val,.bool x.slow,.int .i64 x.sh,.int .i64 x.kd,.int .i64 x.ky,.int .i64 x.limit,.int .i64 x.at',.O,.O,.O,.O,.O,.O,.O,.ptr 2 0,.O]),none,some (.abs (.drop t n x.dr) [])]
abbrev FT(t n:Int)(x:DOS):aB Mc:=[some (.cells [.ptr 1 0,.int .i64 x.code,.bool x.okk,.int .i64 x.val,.bool x.slow,.int .i64 x.sh,.int .i64 x.kd,.int .i64 x.ky,.int .i64 x.limit,.int .i64 x.at',.O,.O,.O,.O,.O,.O,.O,.O,.ptr 2 0]),none,some (.abs (.sweep t n x.sw) [1])]
def RI(t n:Int)(x:DOS):aB Mc:=bif ieq x.at' 0 then FS t n x else bif ieq x.at' 1 then wN t n x else bif ieq x.at' 5 then wN t n x else bif ieq x.at' 2 then FP t n x else bif ieq x.at' 3 then FR t n x else bif ieq x.at' 4 then FM t n x else bif ieq x.at' 6 then FN t n x else bif ieq x.at' 7 then FQ t n x else bif ieq x.at' 8 then FO t n x else bif ieq x.at' 9 then FT t n x else OI t n x
abbrev VA:List Code1:=[some .i64,none,some .i64,some .i64,some .i64,none,some .i64]
abbrev UY:List Code1:=[some .i64,some .i64,some .i64,some .i64,some .i64,some .i64,some .i64,none,some .i64]
abbrev UP:List Code1:=[some .i64,some .i64,some .i64]
def VL(x:HST):aB Mc:=[some (.cells [.tslice 1 0 x.ev.length 7,.tslice 2 0 x.cl.length 9,.int .i64 x.n0,.int .i64 x.n1,.int .i64 x.n2,.int .i64 x.n3,.int .i64 x.n4,.int .i64 x.n5,.int .i64 x.n6,.int .i64 x.n7]),some (.tab VA x.ev),some (.tab UY x.cl)]
abbrev UC(x:NX):aB Mc:=[some (.cells [.ptr 1 0,.tslice 2 0 x.tk.length 3,.int .i64 x.en,.raw (.pointer none),.slice 3 0 x.tl.length 1,.slice 4 0 x.sl.length 1]),some (.abs (.store x.t x.n x.st) []),some (.tab UP x.tk),some (.ints (some .i64) x.tl),some (.ints (some .i64) x.sl)]
abbrev UD(x:NX):aB Mc:=[some (.cells [.ptr 1 0,.tslice 2 0 x.tk.length 3,.int .i64 x.en,.ptr 3 0,.slice 4 0 x.tl.length 1,.slice 5 0 x.sl.length 1]),some (.abs (.store x.t x.n x.st) []),some (.tab UP x.tk),some (.abs (.doer x.t x.n x.d) [1]),some (.ints (some .i64) x.tl),some (.ints (some .i64) x.sl)]
def VU(x:NX):aB Mc:=bif x.b then UD x else UC x
def U4(x:UE):aB Mc:=[some (.cells [.int .i64 x.sh,.int .i64 x.th,.int .i64 x.nd,.int .i64 x.tr,.ptr 1 0,.ptr 3 0,.slice 4 0 x.ws.length 1,.int .i64 x.k]),some (.cells [.int .i64 x.s.t,.int .i64 x.s.n,.slice 2 0 x.s.xs.length 1,.int .i64 x.s.c,.int .i64 x.s.k,.int .i64 x.s.a,.int .u64 x.s.o,.int .u64 x.s.w,.bool x.s.ok]),some (.ints (some .u64) x.s.xs),some (.abs (.hist x.h) []),some (.abs (.wrow x.ws) [])]
def SF:CC Mc where
 X:=List Int
 hd:=fun k xs=>.slice k 0 xs.length 1
 en:=fun xs=>.ints (some .i64) xs
def tbl:Mc→Nat×aB Mc
 | .sweep t n y=>(1,IR t n y)
 | .ensure t n e=>(1,BE t n e)
 | .store t n s=>(0,jD t n s)
 | .clear t n x=>(0,OF t n x)
 | .prepare t n x=>(1,IA t n x)
 | .head t n x=>(0,SD t n x)
 | .drop t n x=>(0,RJ t n x)
 | .announce t n x=>(0,CH t n x)
 | .answer t n x=>(0,JC t n x)
 | .exec t n x=>(0,RL t n x)
 | .find t n x=>(0,wW t n x)
 | .fast t n x=>(1,nN t n x)
 | .help t n x=>(1,SE t n x)
 | .doer t n x=>(1,RI t n x)
 | .hist x=>(0,VL x)
 | .worker x=>(0,VU x)
 | .wrow ws=>(0,rowE (ws.map fun w=>some (.worker w)))
 | .whole ws i=>(1,jR (ws.map fun w=>some (.worker w)) i)
 | .strow ws=>(0,rowE (ws.map fun w=>some (.store w.t w.n w.st)))
 | .sthole ws i=>(1,jR (ws.map fun w=>some (.store w.t w.n w.st)) i)
 | .engine x=>(0,U4 x)
 | .srow ws=>(0,iM SF ws)
 | .shole ws i=>(1,gO SF ws i)
def memH(s:MS):aB Ob:=[some (.cells [.int .i64 s.t,.int .i64 s.n,.slice 1 0 s.xs.length 1,.int .i64 s.c,.int .i64 s.k,.int .i64 s.a,.int .u64 s.o,.int .u64 s.w,.bool s.ok]),some (.ints (some .u64) s.xs)]
noncomputable def E0:oM Ob Tryz.prog where
 I:=obI tbl
 cps:=fun _=>none
 det:=fun _=>none
 meth:=AE Tryz.prog
 cpsOk:=by intro f S h;cases h
 detOk:=by intro f S h;cases h
 methOk:=fun t n f h v w _=>AF h v w
theorem aF{b:Bool}{X Y:Prop}(h1:b=true→X)(h2:b=false→Y):cond b X Y:=zH h1 h2
def laySizeS:aL Ob:=fun args h=>match args,h with
 | [.agg [.int .i64 t,.int .i64 n]],[]=>some (.pre ((0≤t∧t≤100000)∧(0≤n∧n≤100000)) (.ret (.int .i64 (2*n+5*t+6)) []))
 | _,_=>none
theorem AB:aL.ok E0.I Tryz.prog 130 laySizeS:=by
 intro args h o ho K hK
 unfold laySizeS at ho
 split at ho<;>cases ho
 rename_i t n
 obtain⟨hp,hK⟩:=hK
 have hK:K (.int .i64 (2*n+5*t+6)) []:=hK
 refine VV (aE (E:=E0) Tryz.checked.mixed (L:=fun _ _=>none) (n:=10) (aR (q:=K (.int .i64 (W (W (W (W (W (W (W (W (W (1+n)+4)+W (n+1)) - 1)+W (2*t))+0)+W (3*t))+0)+1))) []) (by kernel_rfl) ?_))
 simp(disch:=omega) only [W,cO]
 refine cast (congrArg (fun z=>K (AVal.int .i64 z) []) ?_) hK
 omega
def layLifeS:aL Ob:=fun args h=>match args,h with
 | [.agg [.int .i64 t,.int .i64 n],.int .i64 a],[]=>some (.pre ((0≤t∧t≤100000)∧(0≤n∧n≤100000)∧(-1099511627776≤a∧a≤1099511627776)) (.ret (.int .i64 (n+4+a)) []))
 | _,_=>none
theorem z9:aL.ok E0.I Tryz.prog 45 layLifeS:=by
 intro args h o ho K hK
 unfold layLifeS at ho
 split at ho<;>cases ho
 rename_i t n a
 obtain⟨hp,hK⟩:=hK
 have hK:K (.int .i64 (n+4+a)) []:=hK
 refine VV (aE (E:=E0) Tryz.checked.mixed (L:=fun _ _=>none) (n:=10) (aR (q:=K (.int .i64 (W (W (W (W (1+n)+4)+a) - 1))) []) (by kernel_rfl) ?_))
 simp(disch:=omega) only [W,cO]
 refine cast (congrArg (fun z=>K (AVal.int .i64 z) []) ?_) hK
 omega
def laySlotS:aL Ob:=fun args h=>match args,h with
 | [.agg [.int .i64 t,.int .i64 n],.int .i64 a,.int .i64 b],[]=>some (.pre ((0≤t∧t≤100000)∧(0≤n∧n≤100000)∧(-1099511627776≤a∧a≤1099511627776)∧(-1099511627776≤b∧b≤1099511627776)) (.ret (.int .i64 (2*n+5+2*a+b)) []))
 | _,_=>none
theorem AC:aL.ok E0.I Tryz.prog 152 laySlotS:=by
 intro args h o ho K hK
 unfold laySlotS at ho
 split at ho<;>cases ho
 rename_i t n a b
 obtain⟨hp,hK⟩:=hK
 have hK:K (.int .i64 (2*n+5+2*a+b)) []:=hK
 refine VV (aE (E:=E0) Tryz.checked.mixed (L:=fun _ _=>none) (n:=10) (aR (q:=K (.int .i64 (W (W (W (W (W (W (1+n)+4)+W (n+1)) - 1)+W (2*a))+b))) []) (by kernel_rfl) ?_))
 simp(disch:=omega) only [W,cO]
 refine cast (congrArg (fun z=>K (AVal.int .i64 z) []) ?_) hK
 omega
def layDescS:aL Ob:=fun args h=>match args,h with
 | [.agg [.int .i64 t,.int .i64 n],.int .i64 a],[]=>some (.pre ((0≤t∧t≤100000)∧(0≤n∧n≤100000)∧(-1099511627776≤a∧a≤1099511627776)) (.ret (.int .i64 (2*n+5+2*t+3*a+2)) []))
 | _,_=>none
theorem z8:aL.ok E0.I Tryz.prog 103 layDescS:=by
 intro args h o ho K hK
 unfold layDescS at ho
 split at ho<;>cases ho
 rename_i t n a
 obtain⟨hp,hK⟩:=hK
 have hK:K (.int .i64 (2*n+5+2*t+3*a+2)) []:=hK
 refine VV (aE (E:=E0) Tryz.checked.mixed (L:=fun _ _=>none) (n:=10) (aR (q:=K (.int .i64 (W (W (W (W (W (W (W (W (1+n)+4)+W (n+1)) - 1)+W (2*t))+0)+W (3*a))+2))) []) (by kernel_rfl) ?_))
 simp(disch:=omega) only [W,cO]
 refine cast (congrArg (fun z=>K (AVal.int .i64 z) []) ?_) hK
 omega
def layCounterS:aL Ob:=fun args h=>match args,h with
 | [.agg [.int .i64 t,.int .i64 n]],[]=>some (.pre ((0≤t∧t≤100000)∧(0≤n∧n≤100000)) (.ret (.int .i64 (2*n+5+2*t+3*t)) []))
 | _,_=>none
theorem sQ:aL.ok E0.I Tryz.prog 61 layCounterS:=by
 intro args h o ho K hK
 unfold layCounterS at ho
 split at ho<;>cases ho
 rename_i t n
 obtain⟨hp,hK⟩:=hK
 have hK:K (.int .i64 (2*n+5+2*t+3*t)) []:=hK
 refine VV (aE (E:=E0) Tryz.checked.mixed (L:=fun _ _=>none) (n:=10) (aR (q:=K (.int .i64 (W (W (W (W (W (W (W (W (1+n)+4)+W (n+1)) - 1)+W (2*t))+0)+W (3*t))+0))) []) (by kernel_rfl) ?_))
 simp(disch:=omega) only [W,cO]
 refine cast (congrArg (fun z=>K (AVal.int .i64 z) []) ?_) hK
 omega
def slotsS:aL Ob:=fun args h=>match args,h with
 | [.agg [.int .i64 t,.int .i64 n]],[]=>some (.pre ((0≤t∧t≤100000)∧(0≤n∧n≤100000)) (.ret (.int .i64 (2*t)) []))
 | _,_=>none
theorem IK:aL.ok E0.I Tryz.prog 181 slotsS:=by
 intro args h o ho K hK
 unfold slotsS at ho
 split at ho<;>cases ho
 rename_i t n
 obtain⟨hp,hK⟩:=hK
 have hK:K (.int .i64 (2*t)) []:=hK
 refine VV (aE (E:=E0) Tryz.checked.mixed (L:=fun _ _=>none) (n:=10) (aR (q:=K (.int .i64 (W (2*t))) []) (by kernel_rfl) ?_))
 simp(disch:=omega) only [W,cO]
 refine cast (congrArg (fun z=>K (AVal.int .i64 z) []) ?_) hK
 omega
def lO(t n:Int):Bool:=ile 1 t&&ile t 8&&ile 1 n&&ile n 200
theorem yB{t n:Int} :lO t n=true↔1≤t∧t≤8∧1≤n∧n≤200:=by
 unfold lO;simp only [bZ,Bool.and_eq_true,dT'];omega
def bN(n a:Int):Bool:=ile 1 a&&ile a n
def layRightS:aL Ob:=fun args h=>match args,h with
 | [.agg [.int .i64 t,.int .i64 n]],[]=>some (.pre (True) (.ret (.bool (lO t n)) []))
 | _,_=>none
theorem xR:aL.ok E0.I Tryz.prog 129 layRightS:=by
 intro args h o ho K hK
 unfold layRightS at ho
 split at ho<;>cases ho
 rename_i t n
 obtain⟨hp,hK⟩:=hK
 have hK:K (.bool (lO t n)) []:=hK
 refine VV (aE (E:=E0) Tryz.checked.mixed (L:=fun _ _=>none) (n:=10) (aR (q:=bif ile 1 t then bif ile t 8 then bif ile 1 n then K (.bool (ile n 200)) []else K (.bool false) []else K (.bool false) []else K (.bool false) []) (by kernel_rfl) ?_))
 unfold lO at hK
 refine aF (fun e1=>aF (fun e2=>aF (fun e3=>?_) (fun e3=>?_)) (fun e2=>?_)) (fun e1=>?_)
 all_goals (simp only [*,Bool.true_and,Bool.false_and,Bool.and_false]at hK;exact hK)
def layNodeS:aL Ob:=fun args h=>match args,h with
 | [.agg [.int .i64 t,.int .i64 n],.int .i64 a],[]=>some (.pre (True) (.ret (.bool (bN n a)) []))
 | _,_=>none
theorem AA:aL.ok E0.I Tryz.prog 123 layNodeS:=by
 intro args h o ho K hK
 unfold layNodeS at ho
 split at ho<;>cases ho
 rename_i t n a
 obtain⟨hp,hK⟩:=hK
 have hK:K (.bool (bN n a)) []:=hK
 refine VV (aE (E:=E0) Tryz.checked.mixed (L:=fun _ _=>none) (n:=10) (aR (q:=bif ile 1 a then K (.bool (ile a n)) []else K (.bool false) []) (by kernel_rfl) ?_))
 unfold bN at hK
 refine aF (fun e1=>?_) (fun e1=>?_)
 all_goals (simp only [*,Bool.true_and,Bool.false_and,Bool.and_false]at hK;exact hK)
noncomputable def E1:=(((((((((E0.addS 130 laySizeS AB).addS 45 layLifeS z9).addS 152 laySlotS AC).addS 103 layDescS z8))).addS 61 layCounterS sQ).addS 181 slotsS IK).addS 129 layRightS xR).addS 123 layNodeS AA
def aD(xs:List Int)(a:Int):Int:=if 0≤a∧a<xs.length then xs.getD a.toNat 0 else 0
theorem BV{xs:List Int}{a:Int}(h:0≤a∧a<xs.length):aD xs a=xs.getD a.toNat 0:=if_pos h
theorem fF{xs:List Int}{a:Int}(h: ¬(0≤a∧a<xs.length)):aD xs a=0:=if_neg h
def bW(xs:List Int)(a:Int):Bool:=ile 0 a&&ilt a (xs.length:Int)
theorem jS{xs:List Int}{a:Int} :bW xs a=true↔0≤a∧a<xs.length:=by
 unfold bW;simp only [bZ,aX,Bool.and_eq_true,dT']
def TZ(xs:List Int)(a x:Int):List Int:=xs.set a.toNat x
def MS.did(s:MS)(k a w:Int)(ok:Bool)(xs:List Int):MS:= {s with xs:=xs,c:=s.c+1,k:=k,a:=a,o:=aD s.xs a,w:=w,ok:=ok}
def MS.load(s:MS)(a:Int):MS:=s.did 1 a (aD s.xs a) (bW s.xs a) s.xs
def MS.store(s:MS)(a x:Int):MS:=bif bW s.xs a then s.did 2 a x true (TZ s.xs a x)else s.did 2 a 0 false s.xs
def jB(h:aB Ob):Option (Nat×MS):=match h with
 | [some (.cells [.int .i64 t,.int .i64 n,.slice 1 0 len 1,.int .i64 c,.int .i64 k,.int .i64 a,.int .u64 o,.int .u64 w,.bool ok]),some (.ints (some .u64) xs)]=>some (len,⟨t,n,xs,c,k,a,o,w,ok⟩)
 | _=>none
theorem eS{h:aB Ob}{l:Nat}{s:MS}(e:jB h=some (l,s))(hl:l=s.xs.length):h=memH s:=by
 unfold jB at e
 split at e
 ·simp only [sI',pI']at e
  obtain⟨rfl,rfl⟩:=e
  simp only at hl;subst hl;rfl
 ·cases e
theorem rQ(x:Nat):0+x*1=x:=by omega
def peekS:aL Ob:=fun args h=>match args,jB h with
 | [.ptr 0 0,.int .i64 a],some (l,s)=>some (.pre (l=s.xs.length∧True) (.ret (.int .u64 (aD s.xs a)) (memH (s))))
 | _,_=>none
theorem LJ:aL.ok E1.I Tryz.prog 60 peekS:=by
 intro args h o ho K hK
 unfold peekS at ho
 split at ho<;>cases ho
 rename_i a l s hm
 obtain⟨⟨hl,hp⟩,hK⟩:=hK
 have hh:=eS hm hl
 subst hh
 have hK:K (.int .u64 (aD s.xs a)) (memH (s)):=hK
 refine VV (aE (E:=E1) Tryz.checked.mixed (L:=fun _ _=>none) (n:=10) (aR (q:=bif ilt a 0 then K (.int .u64 0) [some (.cells [.int .i64 s.1,.int .i64 s.2,.slice 1 0 (List.length s.3) 1,.int .i64 s.4,.int .i64 s.5,.int .i64 s.6,.int .u64 s.7,.int .u64 s.8,.bool s.9]),some (.ints (some .u64) s.3)]else bif ile (↑(List.length s.3):Int) a then K (.int .u64 0) [some (.cells [.int .i64 s.1,.int .i64 s.2,.slice 1 0 (List.length s.3) 1,.int .i64 s.4,.int .i64 s.5,.int .i64 s.6,.int .u64 s.7,.int .u64 s.8,.bool s.9]),some (.ints (some .u64) s.3)]else((0:Int)≤a∧a<(↑(List.length s.3):Int))∧0+Int.toNat a*(1:Nat)<List.length s.3∧K (.int .u64 (List.getD s.3 (0+Int.toNat a*1) 0)) [some (.cells [.int .i64 s.1,.int .i64 s.2,.slice 1 0 (List.length s.3) 1,.int .i64 s.4,.int .i64 s.5,.int .i64 s.6,.int .u64 s.7,.int .u64 s.8,.bool s.9]),some (.ints (some .u64) s.3)]) (by kernel_rfl) ?_))
 refine aF (fun e1=>?_) (fun e1=>aF (fun e2=>?_) (fun e2=>?_))
 ·rw [aX,dT']at e1
  rw [fF (by omega)]at hK;exact hK
 ·rw [bZ,dT']at e2
  rw [fF (by omega)]at hK;exact hK
 ·rw [aX,dF']at e1
  rw [bZ,dF']at e2
  refine⟨by omega,by omega,?_⟩
  rw [BV (by omega)]at hK
  rw [rQ];exact hK
def actionsS:aL Ob:=fun args h=>match args,jB h with
 | [.ptr 0 0],some (l,s)=>some (.pre (l=s.xs.length∧True) (.ret (.int .i64 s.c) (memH (s))))
 | _,_=>none
theorem yX:aL.ok E1.I Tryz.prog 72 actionsS:=by
 intro args h o ho K hK
 unfold actionsS at ho
 split at ho<;>cases ho
 rename_i l s hm
 obtain⟨⟨hl,hp⟩,hK⟩:=hK
 have hh:=eS hm hl
 subst hh
 have hK:K (.int .i64 s.c) (memH (s)):=hK
 refine VV (aE (E:=E1) Tryz.checked.mixed (L:=fun _ _=>none) (n:=10) (aR (q:=K (.int .i64 s.4) [some (.cells [.int .i64 s.1,.int .i64 s.2,.slice 1 0 (List.length s.3) 1,.int .i64 s.4,.int .i64 s.5,.int .i64 s.6,.int .u64 s.7,.int .u64 s.8,.bool s.9]),some (.ints (some .u64) s.3)]) (by kernel_rfl) ?_))
 exact hK
def lastS:aL Ob:=fun args h=>match args,jB h with
 | [.ptr 0 0],some (l,s)=>some (.pre (l=s.xs.length∧True) (.ret (.agg [.int .i64 s.k,.int .i64 s.a,.int .u64 s.o,.int .u64 s.w,.bool s.ok]) (memH (s))))
 | _,_=>none
theorem LB:aL.ok E1.I Tryz.prog 133 lastS:=by
 intro args h o ho K hK
 unfold lastS at ho
 split at ho<;>cases ho
 rename_i l s hm
 obtain⟨⟨hl,hp⟩,hK⟩:=hK
 have hh:=eS hm hl
 subst hh
 have hK:K (.agg [.int .i64 s.k,.int .i64 s.a,.int .u64 s.o,.int .u64 s.w,.bool s.ok]) (memH (s)):=hK
 refine VV (aE (E:=E1) Tryz.checked.mixed (L:=fun _ _=>none) (n:=10) (aR (q:=K (.agg [.int .i64 s.5,.int .i64 s.6,.int .u64 s.7,.int .u64 s.8,.bool s.9]) [some (.cells [.int .i64 s.1,.int .i64 s.2,.slice 1 0 (List.length s.3) 1,.int .i64 s.4,.int .i64 s.5,.int .i64 s.6,.int .u64 s.7,.int .u64 s.8,.bool s.9]),some (.ints (some .u64) s.3)]) (by kernel_rfl) ?_))
 exact hK
def lastLS:aL Ob:=fun args h=>match args,jB h with
 | [.ptr 0 0],some (l,s)=>some (.pre (l=s.xs.length∧True) (.ret (.agg [.int .i64 s.k,.int .i64 s.a,.int .u64 s.o,.int .u64 s.w,.bool s.ok]) (memH (s))))
 | _,_=>none
theorem HN:aL.ok E1.I Tryz.prog 73 lastLS:=by
 intro args h o ho K hK
 unfold lastLS at ho
 split at ho<;>cases ho
 rename_i l s hm
 obtain⟨⟨hl,hp⟩,hK⟩:=hK
 have hh:=eS hm hl
 subst hh
 have hK:K (.agg [.int .i64 s.k,.int .i64 s.a,.int .u64 s.o,.int .u64 s.w,.bool s.ok]) (memH (s)):=hK
 refine VV (aE (E:=E1) Tryz.checked.mixed (L:=fun _ _=>none) (n:=10) (aR (q:=K (.agg [.int .i64 s.5,.int .i64 s.6,.int .u64 s.7,.int .u64 s.8,.bool s.9]) [some (.cells [.int .i64 s.1,.int .i64 s.2,.slice 1 0 (List.length s.3) 1,.int .i64 s.4,.int .i64 s.5,.int .i64 s.6,.int .u64 s.7,.int .u64 s.8,.bool s.9]),some (.ints (some .u64) s.3)]) (by kernel_rfl) ?_))
 exact hK
noncomputable def E2:=(((E1.addS 60 peekS LJ).addS 72 actionsS yX).addS 133 lastS LB).addS 73 lastLS HN
def aZ(xs:List Int)(a x:Int):List Int:=if 0≤a∧a<xs.length then xs.set a.toNat x else xs
theorem gG(xs:List Int)(a x:Int):(aZ xs a x).length =xs.length:=by unfold aZ;split<;>simp
theorem vI{xs:List Int}{a x:Int}(h:0≤a∧a<xs.length):aZ xs a x=xs.set a.toNat x:=if_pos h
theorem oF{xs:List Int}{a x:Int}(h: ¬(0≤a∧a<xs.length)):aZ xs a x=xs:=if_neg h
theorem eR{xs:List Int}{a:Int}(h: ¬(0≤a∧a<xs.length)):bW xs a=false:=by
 cases e:bW xs a with
 | false=>rfl
 | true=>exact(h (jS.1 e)).elim
theorem II{xs:List Int}{a:Int}(h:0≤a∧a<xs.length):xs.set a.toNat (aD xs a)=xs:=by
 rw [BV h]
 apply List.ext_getElem?
 intro i
 rw [List.getElem?_set]
 by_cases hi:a.toNat=i
 ·subst hi
  have:a.toNat<xs.length:=by omega
  simp [this]
 ·simp [hi]
def MS.loadd(s:MS)(a:Int):MS:=s.did 1 a (aD s.xs a) (bW s.xs a) s.xs
def MS.stored(s:MS)(a x:Int):MS:=s.did 2 a (bif bW s.xs a then x else 0) (bW s.xs a) (aZ s.xs a x)
def aV(xs:List Int)(a x:Int):Bool:=bW xs a&&ieq (aD xs a) x
def MS.cased(s:MS)(a x y:Int):MS:=s.did 3 a (bif bW s.xs a then y else 0) (aV s.xs a x) (bif aV s.xs a x then aZ s.xs a y else s.xs)
def MS.added(s:MS)(a x:Int):MS:=s.did 4 a (bif bW s.xs a then IntKind.wrap .u64 (aD s.xs a+x)else 0) (bW s.xs a) (aZ s.xs a (IntKind.wrap .u64 (aD s.xs a+x)))
theorem n8(s:MS)(k a w:Int)(ok:Bool)(xs:List Int)(h:xs.length=s.xs.length):memH (s.did k a w ok xs)=[some (.cells [.int .i64 s.t,.int .i64 s.n,.slice 1 0 s.xs.length 1,.int .i64 (s.c+1),.int .i64 k,.int .i64 a,.int .u64 (aD s.xs a),.int .u64 w,.bool ok]),some (.ints (some .u64) xs)]:=by
 unfold memH MS.did
 simp only [h]
def loadS:aL Ob:=fun args h=>match args,jB h with
 | [.ptr 0 0,.int .i64 a],some (l,s)=>some (.pre (l=s.xs.length∧(0≤s.c∧s.c≤4611686018427387904)) (.ret (.int .u64 (aD s.xs a)) (memH (s.loadd a))))
 | _,_=>none
theorem load_ok:aL.ok E2.I Tryz.prog 93 loadS:=by
 intro args h o ho K hK
 unfold loadS at ho
 split at ho<;>cases ho
 rename_i a l s hm
 obtain⟨⟨hl,hp⟩,hK⟩:=hK
 have hh:=eS hm hl
 subst hh
 have hK:K (.int .u64 (aD s.xs a)) (memH (s.loadd a)):=hK
 refine VV (aE (E:=E2) Tryz.checked.mixed (L:=fun _ _=>none) (n:=10) (aR (q:=(lE' s.3∧True)∧bif ilt a 0 then K (.int .u64 (aD s.3 a)) [some (.cells [.int .i64 s.1,.int .i64 s.2,.slice 1 0 (List.length s.3) 1,.int .i64 (W (s.4+1)),.int .i64 1,.int .i64 a,.int .u64 (aD s.3 a),.int .u64 (aD s.3 a),.bool false]),some (.ints (some .u64) s.3)]else bif ile (↑(List.length s.3):Int) a then K (.int .u64 (aD s.3 a)) [some (.cells [.int .i64 s.1,.int .i64 s.2,.slice 1 0 (List.length s.3) 1,.int .i64 (W (s.4+1)),.int .i64 1,.int .i64 a,.int .u64 (aD s.3 a),.int .u64 (aD s.3 a),.bool false]),some (.ints (some .u64) s.3)]else((0:Int)≤a∧a<(↑(List.length s.3):Int))∧0+Int.toNat a*(1:Nat)<List.length s.3∧K (.int .u64 (aD s.3 a)) [some (.cells [.int .i64 s.1,.int .i64 s.2,.slice 1 0 (List.length s.3) 1,.int .i64 (W (s.4+1)),.int .i64 1,.int .i64 a,.int .u64 (aD s.3 a),.int .u64 (aD s.3 a),.bool true]),some (.ints (some .u64) (List.set s.3 (0+Int.toNat a*1) (aD s.3 a)))]) (by kernel_rfl) ?_))
 refine⟨⟨rfl,trivial⟩,?_⟩
 have hc:IntKind.wrap .i64 (s.c+1)=s.c+1:=cO (by omega)
 simp only [W,WU,hc,rQ]
 unfold MS.loadd at hK
 rw [n8 _ _ _ _ _ _ rfl]at hK
 refine aF (fun e1=>?_) (fun e1=>aF (fun e2=>?_) (fun e2=>?_))
 ·rw [aX,dT']at e1
  rw [eR (by omega)]at hK;exact hK
 ·rw [bZ,dT']at e2
  rw [eR (by omega)]at hK;exact hK
 ·rw [aX,dF']at e1
  rw [bZ,dF']at e2
  refine⟨by omega,by omega,?_⟩
  rw [jS.2 (by omega)]at hK
  rw [II (by omega)];exact hK
def storeS:aL Ob:=fun args h=>match args,jB h with
 | [.ptr 0 0,.int .i64 a,.int .u64 x],some (l,s)=>some (.pre (l=s.xs.length∧(0≤s.c∧s.c≤4611686018427387904)) (.ret (.tup []) (memH (s.stored a x))))
 | _,_=>none
theorem IM:aL.ok E2.I Tryz.prog 44 storeS:=by
 intro args h o ho K hK
 unfold storeS at ho
 split at ho<;>cases ho
 rename_i a x l s hm
 obtain⟨⟨hl,hp⟩,hK⟩:=hK
 have hh:=eS hm hl
 subst hh
 have hK:K (.tup []) (memH (s.stored a x)):=hK
 refine VV (aE (E:=E2) Tryz.checked.mixed (L:=fun _ _=>none) (n:=10) (aR (q:=(lE' s.3∧True)∧bif ilt a 0 then K (.tup []) [some (.cells [.int .i64 s.1,.int .i64 s.2,.slice 1 0 (List.length s.3) 1,.int .i64 (W (s.4+1)),.int .i64 2,.int .i64 a,.int .u64 (aD s.3 a),.int .u64 (aD s.3 a),.bool false]),some (.ints (some .u64) s.3)]else bif ile (↑(List.length s.3):Int) a then K (.tup []) [some (.cells [.int .i64 s.1,.int .i64 s.2,.slice 1 0 (List.length s.3) 1,.int .i64 (W (s.4+1)),.int .i64 2,.int .i64 a,.int .u64 (aD s.3 a),.int .u64 (aD s.3 a),.bool false]),some (.ints (some .u64) s.3)]else((0:Int)≤a∧a<(↑(List.length s.3):Int))∧0+Int.toNat a*(1:Nat)<List.length s.3∧K (.tup []) [some (.cells [.int .i64 s.1,.int .i64 s.2,.slice 1 0 (List.length s.3) 1,.int .i64 (W (s.4+1)),.int .i64 2,.int .i64 a,.int .u64 (aD s.3 a),.int .u64 x,.bool true]),some (.ints (some .u64) (List.set s.3 (0+Int.toNat a*1) x))]) (by kernel_rfl) ?_))
 refine⟨⟨rfl,trivial⟩,?_⟩
 have hc:IntKind.wrap .i64 (s.c+1)=s.c+1:=cO (by omega)
 simp only [W,WU,hc,rQ]
 unfold MS.stored at hK
 rw [n8 _ _ _ _ _ _ (gG _ _ _)]at hK
 refine aF (fun e1=>?_) (fun e1=>aF (fun e2=>?_) (fun e2=>?_))
 ·rw [aX,dT']at e1
  rw [eR (by omega),oF (by omega)]at hK
  rw [fF (by omega)]at hK⊢;exact hK
 ·rw [bZ,dT']at e2
  rw [eR (by omega),oF (by omega)]at hK
  rw [fF (by omega)]at hK⊢;exact hK
 ·rw [aX,dF']at e1
  rw [bZ,dF']at e2
  refine⟨by omega,by omega,?_⟩
  rw [jS.2 (by omega),vI (by omega)]at hK
  exact hK
def casS:aL Ob:=fun args h=>match args,jB h with
 | [.ptr 0 0,.int .i64 a,.int .u64 x,.int .u64 y],some (l,s)=>some (.pre (l=s.xs.length∧(0≤s.c∧s.c≤4611686018427387904)) (.ret (.bool (aV s.xs a x)) (memH (s.cased a x y))))
 | _,_=>none
theorem N5:aL.ok E2.I Tryz.prog 99 casS:=by
 intro args h o ho K hK
 unfold casS at ho
 split at ho<;>cases ho
 rename_i a x y l s hm
 obtain⟨⟨hl,hp⟩,hK⟩:=hK
 have hh:=eS hm hl
 subst hh
 have hK:K (.bool (aV s.xs a x)) (memH (s.cased a x y)):=hK
 refine VV (aE (E:=E2) Tryz.checked.mixed (L:=fun _ _=>none) (n:=10) (aR (q:=(lE' s.3∧True)∧bif ilt a 0 then K (.bool false) [some (.cells [.int .i64 s.1,.int .i64 s.2,.slice 1 0 (List.length s.3) 1,.int .i64 (W (s.4+1)),.int .i64 3,.int .i64 a,.int .u64 (aD s.3 a),.int .u64 (aD s.3 a),.bool false]),some (.ints (some .u64) s.3)]else bif ile (↑(List.length s.3):Int) a then K (.bool false) [some (.cells [.int .i64 s.1,.int .i64 s.2,.slice 1 0 (List.length s.3) 1,.int .i64 (W (s.4+1)),.int .i64 3,.int .i64 a,.int .u64 (aD s.3 a),.int .u64 (aD s.3 a),.bool false]),some (.ints (some .u64) s.3)]else bif ieq (aD s.3 a) x then((0:Int)≤a∧a<(↑(List.length s.3):Int))∧0+Int.toNat a*(1:Nat)<List.length s.3∧K (.bool (ieq (aD s.3 a) x)) [some (.cells [.int .i64 s.1,.int .i64 s.2,.slice 1 0 (List.length s.3) 1,.int .i64 (W (s.4+1)),.int .i64 3,.int .i64 a,.int .u64 (aD s.3 a),.int .u64 y,.bool (ieq (aD s.3 a) x)]),some (.ints (some .u64) (List.set s.3 (0+Int.toNat a*1) y))]else K (.bool (ieq (aD s.3 a) x)) [some (.cells [.int .i64 s.1,.int .i64 s.2,.slice 1 0 (List.length s.3) 1,.int .i64 (W (s.4+1)),.int .i64 3,.int .i64 a,.int .u64 (aD s.3 a),.int .u64 y,.bool (ieq (aD s.3 a) x)]),some (.ints (some .u64) s.3)]) (by kernel_rfl) ?_))
 refine⟨⟨rfl,trivial⟩,?_⟩
 have hc:IntKind.wrap .i64 (s.c+1)=s.c+1:=cO (by omega)
 simp only [W,WU,hc,rQ]
 unfold MS.cased at hK
 rw [n8 _ _ _ _ _ _ (by cases aV s.xs a x<;>first | exact gG _ _ _ | rfl)]at hK
 unfold aV at hK
 refine aF (fun e1=>?_) (fun e1=>aF (fun e2=>?_) (fun e2=>?_))
 ·rw [aX,dT']at e1
  rw [eR (by omega)]at hK
  rw [fF (by omega)]at hK⊢;exact hK
 ·rw [bZ,dT']at e2
  rw [eR (by omega)]at hK
  rw [fF (by omega)]at hK⊢;exact hK
 ·rw [aX,dF']at e1
  rw [bZ,dF']at e2
  rw [jS.2 (by omega),vI (by omega)]at hK
  simp only [Bool.true_and,cond_true]at hK
  refine aF (fun e3=>⟨by omega,by omega,?_⟩) (fun e3=>?_)
  ·rw [e3]at hK⊢;exact hK
  ·rw [e3]at hK⊢;exact hK
def addS:aL Ob:=fun args h=>match args,jB h with
 | [.ptr 0 0,.int .i64 a,.int .u64 x],some (l,s)=>some (.pre (l=s.xs.length∧(0≤s.c∧s.c≤4611686018427387904)) (.ret (.int .u64 (aD s.xs a)) (memH (s.added a x))))
 | _,_=>none
theorem NZ:aL.ok E2.I Tryz.prog 215 addS:=by
 intro args h o ho K hK
 unfold addS at ho
 split at ho<;>cases ho
 rename_i a x l s hm
 obtain⟨⟨hl,hp⟩,hK⟩:=hK
 have hh:=eS hm hl
 subst hh
 have hK:K (.int .u64 (aD s.xs a)) (memH (s.added a x)):=hK
 refine VV (aE (E:=E2) Tryz.checked.mixed (L:=fun _ _=>none) (n:=10) (aR (q:=(lE' s.3∧True)∧bif ilt a 0 then K (.int .u64 (aD s.3 a)) [some (.cells [.int .i64 s.1,.int .i64 s.2,.slice 1 0 (List.length s.3) 1,.int .i64 (W (s.4+1)),.int .i64 4,.int .i64 a,.int .u64 (aD s.3 a),.int .u64 (aD s.3 a),.bool false]),some (.ints (some .u64) s.3)]else bif ile (↑(List.length s.3):Int) a then K (.int .u64 (aD s.3 a)) [some (.cells [.int .i64 s.1,.int .i64 s.2,.slice 1 0 (List.length s.3) 1,.int .i64 (W (s.4+1)),.int .i64 4,.int .i64 a,.int .u64 (aD s.3 a),.int .u64 (aD s.3 a),.bool false]),some (.ints (some .u64) s.3)]else((0:Int)≤a∧a<(↑(List.length s.3):Int))∧0+Int.toNat a*(1:Nat)<List.length s.3∧K (.int .u64 (aD s.3 a)) [some (.cells [.int .i64 s.1,.int .i64 s.2,.slice 1 0 (List.length s.3) 1,.int .i64 (W (s.4+1)),.int .i64 4,.int .i64 a,.int .u64 (aD s.3 a),.int .u64 (WU (aD s.3 a+x)),.bool true]),some (.ints (some .u64) (List.set s.3 (0+Int.toNat a*1) (WU (aD s.3 a+x))))]) (by kernel_rfl) ?_))
 refine⟨⟨rfl,trivial⟩,?_⟩
 have hc:IntKind.wrap .i64 (s.c+1)=s.c+1:=cO (by omega)
 simp only [W,WU,hc,rQ]
 unfold MS.added at hK
 rw [n8 _ _ _ _ _ _ (gG _ _ _)]at hK
 refine aF (fun e1=>?_) (fun e1=>aF (fun e2=>?_) (fun e2=>?_))
 ·rw [aX,dT']at e1
  rw [eR (by omega),oF (by omega)]at hK
  rw [fF (by omega)]at hK⊢;exact hK
 ·rw [bZ,dT']at e2
  rw [eR (by omega),oF (by omega)]at hK
  rw [fF (by omega)]at hK⊢;exact hK
 ·rw [aX,dF']at e1
  rw [bZ,dF']at e2
  refine⟨by omega,by omega,?_⟩
  rw [jS.2 (by omega),vI (by omega)]at hK
  exact hK
noncomputable def E3:=(((E2.addS 93 loadS load_ok).addS 44 storeS IM).addS 99 casS N5).addS 215 addS NZ
def aN(t n me:Int):Int:=if t<1 then 1 else 1+Int.tdiv (me*n) t
theorem MG{x t:Int}(h:0≤x)(ht:1≤t):0≤Int.tdiv x t∧Int.tdiv x t≤x:=by
 rw [Int.tdiv_eq_ediv_of_nonneg h]
 exact⟨Int.ediv_nonneg h (by omega),Int.ediv_le_self t h⟩
def first0S:aL Ob:=fun args h=>match args,h with
 | [.ptr 0 0],some (.cells (.int .i64 t:: .int .i64 n:: .int .i64 me::tl))::rest=>some (.pre ((0≤me∧me≤100000)∧(0≤n∧n≤100000)) (.ret (.int .i64 (aN t n me)) (some (.cells (.int .i64 t:: .int .i64 n:: .int .i64 me::tl))::rest)))
 | _,_=>none
theorem CT:aL.ok E3.I Tryz.prog 144 first0S:=by
 intro args h o ho K hK
 unfold first0S at ho
 split at ho<;>cases ho
 rename_i t n me tl rest
 obtain⟨hp,hK⟩:=hK
 have hK:K (.int .i64 (aN t n me)) (some (.cells (.int .i64 t:: .int .i64 n:: .int .i64 me::tl))::rest):=hK
 refine(aE (E:=E3) Tryz.checked.mixed (L:=fun _ _=>none) (n:=10) (aR (q:=bif ilt t 1 then K (.int .i64 1) (some (.cells (.int .i64 t:: .int .i64 n:: .int .i64 me::tl))::rest)else t≠(0:Int)∧K (.int .i64 (W (1+W (Int.tdiv (W (me*n)) t)))) (some (.cells (.int .i64 t:: .int .i64 n:: .int .i64 me::tl))::rest)) (by kernel_rfl) ?_))
 obtain⟨⟨h1,h2⟩,h3,h4⟩:=hp
 have hm:0≤me*n∧me*n≤100000*100000:=⟨Int.mul_nonneg h1 h3,Int.mul_le_mul h2 h4 h3 (by omega)⟩
 refine aF (fun e=>?_) (fun e=>?_)
 ·rw [aX,dT']at e
  unfold aN at hK;rw [if_pos e]at hK;exact hK
 ·rw [aX,dF']at e
  refine⟨by omega,?_⟩
  unfold aN at hK;rw [if_neg e]at hK
  have:=MG (x:=me*n) (t:=t) hm.1 (by omega)
  simp(disch:=omega) only [W,cO]
  exact hK
def zR:bE Ob:=fun args h=>match args,h with
 | [.ptr 0 0],some (.cells (.int .i64 t:: .int .i64 n:: .int .i64 me::tl))::rest=>some (((0≤me∧me≤100000)∧(0≤n∧n≤100000)),.int .i64 (aN t n me))
 | _,_=>none
theorem F6:aL.ok E3.I Tryz.prog 144 zR.spec:=by
 intro args h o ho
 unfold bE.spec at ho
 split at ho
 case h_2=>cases ho
 rename_i p v hv
 unfold zR at hv
 split at hv
 case h_2=>cases hv
 simp only [sI',pI']at hv
 obtain⟨rfl,rfl⟩:=hv
 exact CT _ _ o ho
def lifeNewS:aL Ob:=fun args h=>match args,h with
 | [.agg [.int .i64 t,.int .i64 n],.int .i64 a],[]=>some (.pre (True) (.ret (.ptr 0 0) ([some (.cells [.int .i64 t,.int .i64 n,.int .i64 0,.int .i64 (bif bN n a then a else 1),.int .i64 n,.int .u64 0,.bool false])])))
 | _,_=>none
theorem AD:aL.ok E3.I Tryz.prog 143 lifeNewS:=by
 intro args h o ho K hK
 unfold lifeNewS at ho
 split at ho<;>cases ho
 rename_i t n a
 obtain⟨hp,hK⟩:=hK
 have hK:K (.ptr 0 0) ([some (.cells [.int .i64 t,.int .i64 n,.int .i64 0,.int .i64 (bif bN n a then a else 1),.int .i64 n,.int .u64 0,.bool false])]):=hK
 refine VV (aE (E:=E3) Tryz.checked.mixed (L:=fun _ _=>none) (n:=10) (aR (q:=True∧bif !bN n a then K (.ptr 0 0) [some (.cells [.int .i64 t,.int .i64 n,.int .i64 0,.int .i64 1,.int .i64 n,.int .u64 0,.bool false])]else K (.ptr 0 0) [some (.cells [.int .i64 t,.int .i64 n,.int .i64 0,.int .i64 a,.int .i64 n,.int .u64 0,.bool false])]) (by kernel_rfl) ?_))
 refine⟨trivial,aF (fun e=>?_) (fun e=>?_)⟩
 ·have e':bN n a=false:=by simpa using e
  rw [e']at hK;exact hK
 ·have e':bN n a=true:=by simpa using e
  rw [e']at hK;exact hK
noncomputable def E4a:=E3.addS 143 lifeNewS AD
noncomputable def E4:=E4a.addR 144 zR F6
noncomputable def LL:FuncId→Nat→Option (sK Ob):=fun _ _=>some (.rounds 12)
noncomputable def E5:=E4
abbrev iI'(l:List Int):Option (aI Ob):=some (.ints (some .i64) l)
abbrev cE'(l:List AVal):Option (aI Ob):=some (.cells l)
theorem cM'{E:oM Ob Tryz.prog}{f:FuncId}{args:List AVal}{h:aB Ob}{K:AVal→aB Ob→Prop}{q:Prop}(e:BH E LL 10 f args h K=q)(hq:q):aC E.I Tryz.prog f args h K:=aE (E:=E) Tryz.checked.mixed (L:=LL) (n:=10) (aR e hq)
abbrev cT':=aC (A:=Ob) (obI tbl) Tryz.prog
abbrev sT':=aL.ok (A:=Ob) (obI tbl) Tryz.prog
def cloneS:aL Ob:=fun args h=>match args,h with
 | [.slice 0 0 n 1],[some (.ints (some .i64) xs)]=>some (.pre (n=xs.length∧n≤4294967296) (.ret (.slice 1 0 xs.length 1) [some (.ints (some .i64) xs),some (.ints (some .i64) xs)]))
 | _,_=>none
theorem FG:aL.ok E5.I Tryz.prog 148 cloneS:=by
 intro args h o ho K hK
 unfold cloneS at ho
 split at ho<;>cases ho
 rename_i n xs
 obtain⟨⟨rfl,hp⟩,hK⟩:=hK
 have hK:K (.slice 1 0 xs.length 1) [some (.ints (some .i64) xs),some (.ints (some .i64) xs)]:=hK
 refine VV (XC (cs:=[(.slot 0,.ints (some .i64))]) (cM' (E:=E5) (q:= ∀(b:Bool),(b=true→List.length xs=0)→bif b then K (.slice 1 0 0 1) [some (.ints (some .i64) xs),some (.ints (some .i64) [])]else(0+List.length xs≤List.length xs∧List.length xs≤(4294967296:Nat))∧K (.slice 1 0 (List.length xs) 1) [some (.ints (some .i64) xs),some (.ints (some .i64) (List.take (List.length xs) (List.drop 0 xs)))]) (by kernel_rfl) ?_))
 intro b hb
 refine aF (fun e=>?_) (fun e=>⟨⟨by omega,by omega⟩,?_⟩)
 ·have h0:=List.length_eq_zero_iff.1 (hb e)
  subst h0;exact hK
 ·simpa using hK
def mM(xs ys:List Int):Bool:=decide (xs=ys)
theorem AU{xs ys:List Int} :mM xs ys=true↔xs=ys:=by unfold mM;exact decide_eq_true_iff
structure UM (xs ys:List Int) (i:Nat):Prop where
 h1:i≤xs.length
 h2:xs.length=ys.length
 h3:xs.take i=ys.take i
def HI(xs ys:List Int):Hint Ob:= {X:=Nat,st:=fun i=>([.slice 0 0 xs.length 1,.slice 1 0 ys.length 1,.O,.O,.O,.int .i64 (i:Int)]++List.replicate 20 .O,[some (.ints (some .i64) xs),some (.ints (some .i64) ys)]),ok:=UM xs ys,mu:=fun i=>xs.length - i,keep:=[0,1,5] }
def intsS0:aL Ob:=fun args h=>match args,h with
 | [.slice 0 0 n 1,.slice 1 0 m 1],[some (.ints (some .i64) xs),some (.ints (some .i64) ys)]=>some (.pre ((n=xs.length∧m=ys.length)∧n≤4294967296) (.ret (.bool (mM xs ys)) [some (.ints (some .i64) xs),some (.ints (some .i64) ys)]))
 | _,_=>none
theorem HG:aL.ok E5.I Tryz.prog 33 intsS0:=by
 intro args h o ho K hK
 unfold intsS0 at ho
 split at ho<;>cases ho
 rename_i n m xs ys
 obtain⟨⟨⟨rfl,rfl⟩,hp⟩,hK⟩:=hK
 have hK:K (.bool (mM xs ys)) [some (.ints (some .i64) xs),some (.ints (some .i64) ys)]:=hK
 refine(aE (E:=E5) Tryz.checked.mixed (L:=fun _ _=>some (.states (HI xs ys))) (n:=10) (aR (q:=bif !ieq (↑(List.length xs):Int) (↑(List.length ys):Int)then K (.bool false) [some (.ints (some .i64) xs),some (.ints (some .i64) ys)]else cP (HI xs ys) (Hint.ok (HI xs ys)) [.slice 0 0 (List.length xs) 1,.slice 1 0 (List.length ys) 1,.O,.O,.O,.int .i64 0,.O,.O,.O,.O,.O,.O,.O,.O,.O,.O,.O,.O,.O,.O,.O,.O,.O,.O,.O,.O] [some (.ints (some .i64) xs),some (.ints (some .i64) ys)]∧ ∀(x:Nat),UM xs ys x→bif ilt (↑x:Int) (↑(List.length xs):Int)then((0:Int)≤(↑x:Int)∧(↑x:Int)<(↑(List.length xs):Int))∧0+Int.toNat (↑x:Int)*(1:Nat)<List.length xs∧((0:Int)≤(↑x:Int)∧(↑x:Int)<(↑(List.length ys):Int))∧0+Int.toNat (↑x:Int)*(1:Nat)<List.length ys∧bif !ieq (List.getD xs (0+Int.toNat (↑x:Int)*1) 0) (List.getD ys (0+Int.toNat (↑x:Int)*1) 0)then K (.bool false) [some (.ints (some .i64) xs),some (.ints (some .i64) ys)]else cP (HI xs ys) (fun x'=>Hint.ok (HI xs ys) x'∧Hint.mu (HI xs ys) x'<Hint.mu (HI xs ys) x) [.slice 0 0 (List.length xs) 1,.slice 1 0 (List.length ys) 1,.O,.O,.O,.int .i64 (W ((↑x:Int)+1)),.O,.O,.O,.O,.O,.O,.O,.O,.O,.O,.O,.O,.O,.O,.O,.O,.O,.O,.O,.O] [some (.ints (some .i64) xs),some (.ints (some .i64) ys)]else K (.bool true) [some (.ints (some .i64) xs),some (.ints (some .i64) ys)]) (by kernel_rfl) ?_))
 have hS:mM xs ys=decide (xs=ys):=rfl
 refine aF (fun e=>?_) (fun e=>⟨aP (H:=HI xs ys) (0:Nat) rfl ⟨Nat.zero_le _,?_,rfl⟩,?_⟩)
 ·rw [bC]at e
  have:xs≠ys:=by rintro rfl;simp at e
  rw [hS,decide_eq_false this]at hK;exact hK
 ·rw [bC]at e;simp at e;omega
 ·rintro i ⟨h1,h2,h3⟩
  refine aF (fun e1=>?_) (fun e1=>?_)
  ·rw [aX,dT']at e1
   have hi:i<xs.length:=by omega
   have e2:0+(i:Int).toNat *1=i:=by omega
   rw [e2]
   refine⟨by omega,hi,by omega,by omega,aF (fun e3=>?_) (fun e3=>?_)⟩
   ·rw [bC]at e3
    have:xs≠ys:=by rintro rfl;simp at e3
    rw [hS,decide_eq_false this]at hK;exact hK
   ·rw [bC]at e3
    have e3:xs.getD i 0=ys.getD i 0:=by simpa using e3
    have e4:IntKind.wrap .i64 ((i:Int)+1)=((i+1:Nat):Int):=by rw [cO (by omega)];rfl
    refine aP (H:=HI xs ys) (i+1:Nat) (by simp only [W,e4]<;>rfl) ⟨⟨hi,h2,?_⟩,by show xs.length - (i+1)<xs.length - i;omega⟩
    have hj:i<ys.length:=by omega
    rw [gD',gE' hi,gD',gE' hj]at e3
    rw [List.take_succ_eq_append_getElem hi,List.take_succ_eq_append_getElem hj,h3]
    have e5:xs[i]=ys[i]:=by simpa using e3
    rw [e5]
  ·rw [aX,dF']at e1
   have:xs=ys:=by
    rw [List.take_of_length_le (by omega),List.take_of_length_le (by omega)]at h3;exact h3
   rw [hS,decide_eq_true this]at hK;exact hK
def HH:bE Ob:=fun args h=>match args,h with
 | [.slice 0 0 n 1,.slice 1 0 m 1],[some (.ints (some .i64) xs),some (.ints (some .i64) ys)]=>some ((n=xs.length∧m=ys.length)∧n≤4294967296,.bool (mM xs ys))
 | _,_=>none
theorem K8:aL.ok E5.I Tryz.prog 33 HH.spec:=by
 intro args h o ho
 unfold bE.spec at ho
 split at ho
 case h_2=>cases ho
 rename_i p v hv
 unfold HH at hv
 split at hv
 case h_2=>cases hv
 simp only [sI',pI']at hv
 obtain⟨rfl,rfl⟩:=hv
 exact HG _ _ o ho
noncomputable def E6:=(E5.addS 148 cloneS FG).addR 33 HH K8
def storeNewS:aL Ob:=fun args h=>match args,h with
 | [.agg [.int .i64 t,.int .i64 n],.int .i64 me],[]=>some (.ret (.ptr 0 0) [some (.cells [.int .i64 t,.int .i64 n,.int .i64 me,.int .i64 0,.raw (.slice none 0 0)])])
 | _,_=>none
theorem yG:aL.ok E6.I Tryz.prog 19 storeNewS:=by
 intro args h o ho K hK
 unfold storeNewS at ho
 split at ho<;>cases ho
 rename_i t n me
 have hK:K (.ptr 0 0) [some (.cells [.int .i64 t,.int .i64 n,.int .i64 me,.int .i64 0,.raw (.slice none 0 0)])]:=hK
 exact VV (cM' (E:=E6) (by kernel_rfl) hK)
noncomputable def E7:=((E6.addS 19 storeNewS yG))
def dU(s:Int):List Int:=bif ieq s 1||ieq s 2 then [1,2,3]else bif ieq s 3||ieq s 4 then [4,5]else []
def kindsS:aL Ob:=fun args h=>match args,h with
 | [.int .i64 s],[]=>some (.ret (.slice 0 0 (dU s).length 1) [some (.ints (some .i64) (dU s))])
 | _,_=>none
theorem HJ:aL.ok E7.I Tryz.prog 184 kindsS:=by
 intro args h o ho K hK
 unfold kindsS at ho
 split at ho<;>cases ho
 rename_i s
 have hK:K (.slice 0 0 (dU s).length 1) [some (.ints (some .i64) (dU s))]:=hK
 refine VV (XC (cs:=[(.slot 0,.ints (some .i64))]) (cM' (E:=E7) (q:=bif ieq s 1 then K (.slice 0 0 3 1) [some (.ints (some .i64) [1,2,3])]else bif ieq s 2 then K (.slice 0 0 3 1) [some (.ints (some .i64) [1,2,3])]else bif ieq s 3 then K (.slice 0 0 2 1) [some (.ints (some .i64) [4,5])]else bif ieq s 4 then K (.slice 0 0 2 1) [some (.ints (some .i64) [4,5])]else K (.slice 0 0 0 1) [some (.ints (some .i64) [])]) (by kernel_rfl) ?_))
 unfold dU at hK
 cases e1:ieq s 1<;>cases e2:ieq s 2<;>cases e3:ieq s 3<;>cases e4:ieq s 4<;>simp only [e1,e2,e3,e4,Bool.or_true,Bool.or_false,Bool.true_or,Bool.false_or,cond_true,cond_false]at hK⊢ <;>exact hK
noncomputable def E8:=E7.addS 184 kindsS HJ
theorem AT(xs:List Int):mM xs xs=true:=AU.2 rfl
theorem cS(a:Int):ieq a a=true:=by rw [bC];simp
def hasB(xs:List Int)(n:Int):Bool:=decide (n∈xs)
theorem DB{xs:List Int}{n:Int} :hasB xs n=true↔n∈xs:=by unfold hasB;exact decide_eq_true_iff
structure TA (xs:List Int) (n:Int) (i:Nat):Prop where
 h1:i≤xs.length
 h2:n∉xs.take i
def HC(xs:List Int)(n:Int):Hint Ob:= {X:=Nat,st:=fun i=>([.slice 0 0 xs.length 1,.int .i64 n,.O,.O,.O,.O,.O,.int .i64 (xs.length:Int),.int .i64 (i:Int)]++List.replicate 10 .O,[some (.ints (some .i64) xs)]),ok:=TA xs n,mu:=fun i=>xs.length - i,keep:=[0,1,7,8] }
def hasS0:aL Ob:=fun args h=>match args,h with
 | [.slice 0 0 k 1,.int .i64 n],[some (.ints (some .i64) xs)]=>some (.pre (k=xs.length∧k≤4294967296) (.ret (.bool (hasB xs n)) [some (.ints (some .i64) xs)]))
 | _,_=>none
theorem K4:aL.ok E8.I Tryz.prog 124 hasS0:=by
 intro args h o ho K hK
 unfold hasS0 at ho
 split at ho<;>cases ho
 rename_i k n xs
 obtain⟨⟨rfl,hp⟩,hK⟩:=hK
 have hK:K (.bool (hasB xs n)) [some (.ints (some .i64) xs)]:=hK
 refine(aE (E:=E8) Tryz.checked.mixed (L:=fun _ _=>some (.states (HC xs n))) (n:=10) (aR (q:=cP (HC xs n) (Hint.ok (HC xs n)) [.slice 0 0 (List.length xs) 1,.int .i64 n,.O,.O,.O,.O,.O,.int .i64 (↑(List.length xs):Int),.int .i64 0,.O,.O,.O,.O,.O,.O,.O,.O,.O,.O] [some (.ints (some .i64) xs)]∧ ∀(x:Nat),TA xs n x→bif ilt (↑x:Int) (↑(List.length xs):Int)then((0:Int)≤(↑x:Int)∧(↑x:Int)<(↑(List.length xs):Int))∧0+Int.toNat (↑x:Int)*(1:Nat)<List.length xs∧bif ieq n (List.getD xs (0+Int.toNat (↑x:Int)*1) 0)then K (.bool (ile 0 (↑x:Int))) [some (.ints (some .i64) xs)]else cP (HC xs n) (fun x'=>Hint.ok (HC xs n) x'∧Hint.mu (HC xs n) x'<Hint.mu (HC xs n) x) [.slice 0 0 (List.length xs) 1,.int .i64 n,.O,.O,.O,.O,.O,.int .i64 (↑(List.length xs):Int),.int .i64 (W ((↑x:Int)+1)),.O,.O,.O,.O,.O,.O,.O,.O,.O,.O] [some (.ints (some .i64) xs)]else K (.bool false) [some (.ints (some .i64) xs)]) (by kernel_rfl) ?_))
 have hS:hasB xs n=decide (n∈xs):=rfl
 refine⟨aP (H:=HC xs n) (0:Nat) rfl ⟨Nat.zero_le _,by simp⟩,?_⟩
 rintro i ⟨h1,h2⟩
 refine aF (fun e1=>?_) (fun e1=>?_)
 ·rw [aX,dT']at e1
  have hi:i<xs.length:=by omega
  have e2:0+(i:Int).toNat *1=i:=by omega
  rw [e2]
  have e4:IntKind.wrap .i64 ((i:Int)+1)=((i+1:Nat):Int):=by rw [cO (by omega)];rfl
  have hg:xs.getD i 0=xs[i]:=by rw [gD',gE' hi];rfl
  refine⟨by omega,hi,aF (fun e3=>?_) (fun e3=>?_)⟩
  ·rw [bC,hg]at e3
   have e3:n=xs[i]:=by simpa using e3
   have hm:n∈xs:=by rw [e3];exact List.getElem_mem hi
   have h0:ile 0 (i:Int)=true:=by rw [bZ,dT'];omega
   rw [hS,decide_eq_true hm]at hK
   first | (rw [h0];exact hK) | exact hK
  ·rw [bC,hg]at e3
   have e3: ¬n=xs[i]:=by simpa using e3
   refine aP (H:=HC xs n) (i+1:Nat) (by simp only [W,e4]<;>rfl) ⟨⟨hi,?_⟩,by show xs.length - (i+1)<xs.length - i;omega⟩
   rw [List.take_succ_eq_append_getElem hi]
   intro hm
   rcases List.mem_append.1 hm with h | h
   ·exact h2 h
   ·exact e3 (by simpa using h)
 ·rw [aX,dF']at e1
  rw [List.take_of_length_le (by omega)]at h2
  rw [hS,decide_eq_false h2]at hK
  exact hK
def zY:bE Ob:=fun args h=>match args,h with
 | [.slice 0 0 k 1,.int .i64 n],[some (.ints (some .i64) xs)]=>some (k=xs.length∧k≤4294967296,.bool (hasB xs n))
 | _,_=>none
theorem G6:aL.ok E8.I Tryz.prog 124 zY.spec:=by
 intro args h o ho
 unfold bE.spec at ho
 split at ho
 case h_2=>cases ho
 rename_i p v hv
 unfold zY at hv
 split at hv
 case h_2=>cases hv
 simp only [sI',pI']at hv
 obtain⟨rfl,rfl⟩:=hv
 exact K4 _ _ o ho
noncomputable def E9:=E8.addR 124 zY G6
theorem zZ(s:Int):(dU s).length ≤3:=by
 unfold dU
 cases (ieq s 1||ieq s 2)<;>cases (ieq s 3||ieq s 4)<;>simp
def bT(s k y:Int):Bool:=hasB (dU s) k&&(ile 0 y&&ile y (bif ieq k 5 then 0 else 999))
def AS:bE Ob:=fun args h=>match args,h with
 | [.int .i64 s,.agg [.int .i64 k,.int .i64 y]],[]=>some (True,.bool (bT s k y))
 | _,_=>none
theorem IC:aL.ok E9.I Tryz.prog 126 AS.spec:=by
 intro args h o ho K hK
 unfold bE.spec at ho
 split at ho
 case h_2=>cases ho
 rename_i p v hv
 unfold AS at hv
 split at hv
 case h_2=>cases hv
 rename_i s k y
 simp only [sI',pI']at hv
 obtain⟨rfl,rfl⟩:=hv
 simp only [sI']at ho;subst ho
 obtain⟨_,hK⟩:=hK
 have hK:K (.bool (bT s k y)) []:=hK
 refine VV (cM' (E:=E9) (q:=bif ieq k 5 then(lE' (dU s)∧List.length (dU s)≤(4294967296:Nat))∧bif hasB (dU s) k then bif ile 0 y then K (.bool (ile y 0)) []else K (.bool false) []else K (.bool false) []else(lE' (dU s)∧List.length (dU s)≤(4294967296:Nat))∧bif hasB (dU s) k then bif ile 0 y then K (.bool (ile y 999)) []else K (.bool false) []else K (.bool false) []) (by kernel_rfl) ?_)
 have hl:=zZ s
 unfold bT at hK
 refine aF (fun e1=>⟨⟨rfl,by omega⟩,aF (fun e2=>aF (fun e3=>?_) (fun e3=>?_)) (fun e2=>?_)⟩) (fun e1=>⟨⟨rfl,by omega⟩,aF (fun e2=>aF (fun e3=>?_) (fun e3=>?_)) (fun e2=>?_)⟩)<;>
  (simp only [e1,e2,cond_true,cond_false,Bool.true_and,Bool.false_and]at hK<;>first | (simp only [e3,Bool.true_and,Bool.false_and]at hK;exact hK) | exact hK)
noncomputable def E10:=E9.addR 126 AS IC
def aA(x a w:Int):Int:=x / 2^a.toNat%2^w.toNat
def bitI(b:Bool):Int:=bif b then 1 else 0
def aK(n w:Int):Bool:=ile 0 n&&ilt n (2^w.toNat)
theorem toNat_ofInt(n:Nat)(x:Int):((BitVec.ofInt n x).toNat :Int)=x%2^n:=by
 rw [BitVec.toNat_ofInt]
 have h:(0:Int)<(2^n:Nat):=by exact_mod_cast Nat.two_pow_pos n
 have h2:0≤x%((2^n:Nat):Int):=Int.emod_nonneg _ (by omega)
 rw [Int.toNat_of_nonneg h2]
 push_cast
 rfl
theorem iZ(w:Nat):(0:Int)<2^w:=by
 have:((2^w:Nat):Int)=2^w:=by push_cast;rfl
 have h:0<2^w:=Nat.two_pow_pos w
 omega
theorem I1{w n:Nat}(h:w≤n):(2:Int)^w≤2^n:=by
 have a:((2^w:Nat):Int)=2^w:=by push_cast;rfl
 have b:((2^n:Nat):Int)=2^n:=by push_cast;rfl
 have h:2^w≤2^n:=Nat.pow_le_pow_right (by omega) h
 omega
theorem MI{w n:Nat}(h:w≤n):(2:Int)^w∣2^n:=by
 have a:((2^w:Nat):Int)=2^w:=by push_cast;rfl
 have b:((2^n:Nat):Int)=2^n:=by push_cast;rfl
 rw [←a,←b]
 exact Int.natCast_dvd_natCast.2 (Nat.pow_dvd_pow 2 h)
theorem kW{n w:Nat}(x:Int)(h:w<n):((BitVec.ofInt n x&&&BitVec.ofInt n (2^w - 1)).toNat :Int)=x%2^w:=by
 have hp:=iZ w
 have h3:(2:Int)^w≤2^n:=I1 (by omega)
 have e1:(BitVec.ofInt n (2^w - 1)).toNat =2^w - 1:=by
  have:((BitVec.ofInt n (2^w - 1)).toNat :Int)=((2^w - 1:Nat):Int):=by
   rw [toNat_ofInt,Int.emod_eq_of_lt (by omega) (by omega)]
   have a:((2^w:Nat):Int)=2^w:=by push_cast;rfl
   have:1≤2^w:=Nat.one_le_two_pow
   omega
  exact_mod_cast this
 rw [BitVec.toNat_and,e1,Nat.and_two_pow_sub_one_eq_mod]
 push_cast
 rw [toNat_ofInt]
 exact Int.emod_emod_of_dvd _ (MI (by omega))
theorem HY{n a:Nat}{x y:Int}(hx:0≤x∧x<2^a)(hy:0≤y)(h:y*2^a+x<2^n):
 ((BitVec.ofInt n x|||BitVec.ofInt n (y*2^a)).toNat :Int)=x+y*2^a:=by
 have hp:=iZ a
 have hya:0≤y*2^a:=Int.mul_nonneg hy (by omega)
 obtain⟨u,rfl⟩:=Int.eq_ofNat_of_zero_le hx.1
 obtain⟨v,rfl⟩:=Int.eq_ofNat_of_zero_le hy
 have e1:(BitVec.ofInt n (u:Int)).toNat =u:=by
  have:((BitVec.ofInt n (u:Int)).toNat :Int)=(u:Int):=by
   rw [toNat_ofInt,Int.emod_eq_of_lt (by omega) (by omega)]
  exact_mod_cast this
 have e2:(BitVec.ofInt n ((v:Int)*2^a)).toNat =v*2^a:=by
  have:((BitVec.ofInt n ((v:Int)*2^a)).toNat :Int)=((v*2^a:Nat):Int):=by
   rw [toNat_ofInt,Int.emod_eq_of_lt (by omega) (by omega)];push_cast;rfl
  exact_mod_cast this
 have hu:u<2^a:=by
  have b:((2^a:Nat):Int)=2^a:=by push_cast;rfl
  omega
 rw [BitVec.toNat_or,e1,e2]
 have:u|||v*2^a=u+v*2^a:=by
  have:=Nat.shiftLeft_add_eq_or_of_lt hu v
  rw [Nat.shiftLeft_eq]at this
  rw [Nat.or_comm,←this];omega
 rw [this];push_cast;rfl
theorem jG{x:Int}(h:0≤x∧x≤18446744073709551615):IntKind.wrap IntKind.u64 x=x:=IntWalk.u64_in x h
theorem AZ{w n:Nat}(h:w≤n){b:Int}(e:b=2^n):(2:Int)^w≤b:=by rw [e];exact I1 h
def OG:bE Ob:=fun args h=>match args,h with
 | [.int .u64 x,.int .i64 a,.int .i64 w],[]=>some ((0≤a∧a≤63)∧(0≤w∧w≤62),.int .i64 (aA x a w))
 | _,_=>none
theorem OH:aL.ok E10.I Tryz.prog 182 OG.spec:=by
 intro args h o ho K hK
 unfold bE.spec at ho
 split at ho
 case h_2=>cases ho
 rename_i p v hv
 unfold OG at hv
 split at hv
 case h_2=>cases hv
 rename_i x a w
 simp only [sI',pI']at hv
 obtain⟨rfl,rfl⟩:=hv
 simp only [sI']at ho;subst ho
 obtain⟨⟨ha,hw⟩,hK⟩:=hK
 have hK:K (.int .i64 (aA x a w)) []:=hK
 refine VV (aE (E:=E10) Tryz.checked.mixed (L:=fun _ _=>none) (n:=10) (aR (q:=(0:Int)≤a∧(0:Int)≤w∧K (.int .i64 (W (WU (↑(BitVec.toNat (BitVec.ofInt (IntKind.bits .u64) (Int.fdiv x (2^min (Int.toNat a) (IntKind.bits .u64)))&&&BitVec.ofInt (IntKind.bits .u64) (WU (WU (1*2^min (Int.toNat w) (IntKind.bits .u64)) - 1)))):Int)))) []) (by kernel_rfl) ?_))
 refine⟨by omega,by omega,?_⟩
 refine cast (congrArg (fun z=>K (AVal.int .i64 z) []) ?_) hK
 show aA x a w=_
 have hb:IntKind.bits .u64 =64:=rfl
 rw [hb]
 have h1:min a.toNat 64=a.toNat:=by omega
 have h2:min w.toNat 64=w.toNat:=by omega
 have h3:(2:Int)^w.toNat≤4611686018427387904:=AZ (n:=62) (by omega) (by decide)
 have h4:=iZ w.toNat
 have h5:=iZ a.toNat
 rw [h1,h2,Int.fdiv_eq_ediv_of_nonneg _ (by omega)]
 simp only [WU,W,Int.one_mul]
 rw [jG (x:=2^w.toNat) (by omega),jG (x:=2^w.toNat - 1) (by omega),kW _ (by omega)]
 have h6:=Int.emod_nonneg (x / 2^a.toNat) (b:=2^w.toNat) (by omega)
 have h7:=Int.emod_lt_of_pos (x / 2^a.toNat) (b:=2^w.toNat) (by omega)
 rw [jG (by omega),cO (by omega)]
 rfl
def N3:bE Ob:=fun args h=>match args,h with
 | [.bool b],[]=>some (True,.int .i64 (bitI b))
 | _,_=>none
theorem N4:aL.ok E10.I Tryz.prog 224 N3.spec:=by
 intro args h o ho K hK
 unfold bE.spec at ho
 split at ho
 case h_2=>cases ho
 rename_i p v hv
 unfold N3 at hv
 split at hv
 case h_2=>cases hv
 rename_i b
 simp only [sI',pI']at hv
 obtain⟨rfl,rfl⟩:=hv
 simp only [sI']at ho;subst ho
 obtain⟨_,hK⟩:=hK
 have hK:K (.int .i64 (bitI b)) []:=hK
 refine VV (aE (E:=E10) Tryz.checked.mixed (L:=fun _ _=>none) (n:=10) (aR (q:=bif b then K (.int .i64 1) []else K (.int .i64 0) []) (by kernel_rfl) ?_))
 cases b<;>exact hK
def OS:bE Ob:=fun args h=>match args,h with
 | [.agg [.int .i64 n,.int .i64 w]],[]=>some (0≤w∧w≤62,.bool (aK n w))
 | _,_=>none
theorem OT:aL.ok E10.I Tryz.prog 206 OS.spec:=by
 intro args h o ho K hK
 unfold bE.spec at ho
 split at ho
 case h_2=>cases ho
 rename_i p v hv
 unfold OS at hv
 split at hv
 case h_2=>cases hv
 rename_i n w
 simp only [sI',pI']at hv
 obtain⟨rfl,rfl⟩:=hv
 simp only [sI']at ho;subst ho
 obtain⟨hw,hK⟩:=hK
 have hK:K (.bool (aK n w)) []:=hK
 refine VV (aE (E:=E10) Tryz.checked.mixed (L:=fun _ _=>none) (n:=10) (aR (q:=bif ile 0 n then(0:Int)≤w∧K (.bool (ilt n (W (1*2^min (Int.toNat w) (IntKind.bits .i64))))) []else K (.bool false) []) (by kernel_rfl) ?_))
 unfold aK at hK
 have hb:IntKind.bits .i64 =64:=rfl
 have h2:min w.toNat 64=w.toNat:=by omega
 have h3:(2:Int)^w.toNat≤4611686018427387904:=AZ (n:=62) (by omega) (by decide)
 have h4:=iZ w.toNat
 refine aF (fun e=>⟨by omega,?_⟩) (fun e=>?_)
 ·rw [e]at hK
  rw [hb,h2,W,Int.one_mul,cO (by omega)]
  exact hK
 ·rw [e]at hK;exact hK
def aM(v:Int):Int:=(v+1)%262144
def HP:bE Ob:=fun args h=>match args,h with
 | [.agg [.int .i64 k,.int .i64 x,.bool m,.int .i64 c,.int .i64 v],.int .i64 y],[]=>some (0≤v∧v≤1000000,.agg [.int .i64 k,.int .i64 y,.bool m,.int .i64 c,.int .i64 (aM v)])
 | _,_=>none
theorem LC:aL.ok E10.I Tryz.prog 166 HP.spec:=by
 intro args h o ho K hK
 unfold bE.spec at ho
 split at ho
 case h_2=>cases ho
 rename_i p v hv
 unfold HP at hv
 split at hv
 case h_2=>cases hv
 rename_i k x m c v y
 simp only [sI',pI']at hv
 obtain⟨rfl,rfl⟩:=hv
 simp only [sI']at ho;subst ho
 obtain⟨hw,hK⟩:=hK
 have hK:K (.agg [.int .i64 k,.int .i64 y,.bool m,.int .i64 c,.int .i64 (aM v)]) []:=hK
 refine VV (aE (E:=E10) Tryz.checked.mixed (L:=fun _ _=>none) (n:=10) (aR (q:=K (.agg [.int .i64 k,.int .i64 y,.bool m,.int .i64 c,.int .i64 (W (↑(BitVec.toNat (BitVec.ofInt (IntKind.bits .i64) (W (v+1))&&&BitVec.ofInt (IntKind.bits .i64) 262143)):Int))]) []) (by kernel_rfl) ?_))
 refine cast (congrArg (fun z=>K (.agg [.int .i64 k,.int .i64 y,.bool m,.int .i64 c,.int .i64 z]) []) ?_) hK
 show aM v=_
 have hb:IntKind.bits .i64 =64:=rfl
 simp only [W]
 rw [hb,cO (x:=v+1) (by omega)]
 have:=kW (n:=64) (w:=18) (v+1) (by omega)
 have e:(2:Int)^18 - 1=262143:=by decide
 rw [e]at this
 rw [this]
 have e2:(2:Int)^18=262144:=by decide
 rw [e2,cO (by omega)]
 rfl
noncomputable def E11:=((((E10.addR 182 OG OH).addR 224 N3 N4).addR 206 OS OT).addR 166 HP LC)
def PP:bE Ob:=fun args h=>match args,h with
 | [.int .u64 x],[]=>some (True,.agg [.int .i64 (aA x 0 10),.int .i64 (aA x 10 9),.bool (ieq (aA x 19 1) 1),.int .i64 (aA x 20 5),.int .i64 (aA x 25 18)])
 | _,_=>none
set_option maxRecDepth 100000 in
theorem PQ:aL.ok E11.I Tryz.prog 122 PP.spec:=by
 intro args h o ho K hK
 unfold bE.spec at ho
 split at ho
 case h_2=>cases ho
 rename_i p v hv
 unfold PP at hv
 split at hv
 case h_2=>cases hv
 rename_i x
 simp only [sI',pI']at hv
 obtain⟨rfl,rfl⟩:=hv
 simp only [sI']at ho;subst ho
 obtain⟨_,hK⟩:=hK
 refine VV (cM' (E:=E11) (q:=((0:Int)≤(0:Int)∧(0:Int)<(↑5:Int))∧((0:Int)≤(0:Int)∧(0:Int)<(↑1:Int))∧1+(1:Nat)≤(4294967296:Nat)∧((0:Int)≤W (0+1)∧W (0+1)<(↑5:Int))∧((0:Int)≤W (0+1)∧W (0+1)<(↑(1+1):Int))∧1+1+(1:Nat)≤(4294967296:Nat)∧((0:Int)≤W (W (0+1)+1)∧W (W (0+1)+1)<(↑5:Int))∧((0:Int)≤W (W (0+1)+1)∧W (W (0+1)+1)<(↑(1+1+1):Int))∧1+1+1+(1:Nat)≤(4294967296:Nat)∧((0:Int)≤W (W (W (0+1)+1)+1)∧W (W (W (0+1)+1)+1)<(↑5:Int))∧((0:Int)≤W (W (W (0+1)+1)+1)∧W (W (W (0+1)+1)+1)<(↑(1+1+1+1):Int))∧1+1+1+1+(1:Nat)≤(4294967296:Nat)∧((0:Int)≤W (W (W (W (0+1)+1)+1)+1)∧W (W (W (W (0+1)+1)+1)+1)<(↑5:Int))∧((0:Int)≤W (W (W (W (0+1)+1)+1)+1)∧W (W (W (W (0+1)+1)+1)+1)<(↑(1+1+1+1+1):Int))∧1+1+1+1+1+(1:Nat)≤(4294967296:Nat)∧((0:Int)≤(0:Int)∧(0:Int)<(↑(1+1+1+1+1+1):Int))∧(((0:Int)≤(0:Int)∧(0:Int)≤(63:Int))∧(0:Int)≤(10:Int)∧(10:Int)≤(62:Int))∧((0:Int)≤(1:Int)∧(1:Int)<(↑(1+1+1+1+1+1):Int))∧(((0:Int)≤W (0+10)∧W (0+10)≤(63:Int))∧(0:Int)≤(9:Int)∧(9:Int)≤(62:Int))∧((0:Int)≤(2:Int)∧(2:Int)<(↑(1+1+1+1+1+1):Int))∧(((0:Int)≤W (W (0+10)+9)∧W (W (0+10)+9)≤(63:Int))∧(0:Int)≤(1:Int)∧(1:Int)≤(62:Int))∧((0:Int)≤(3:Int)∧(3:Int)<(↑(1+1+1+1+1+1):Int))∧(((0:Int)≤W (W (W (0+10)+9)+1)∧W (W (W (0+10)+9)+1)≤(63:Int))∧(0:Int)≤(5:Int)∧(5:Int)≤(62:Int))∧((0:Int)≤(4:Int)∧(4:Int)<(↑(1+1+1+1+1+1):Int))∧(((0:Int)≤W (W (W (W (0+10)+9)+1)+5)∧W (W (W (W (0+10)+9)+1)+5)≤(63:Int))∧(0:Int)≤(18:Int)∧(18:Int)≤(62:Int))∧K (.agg [.int .i64 (aA x 0 10),.int .i64 (aA x (W (0+10)) 9),.bool (ieq (aA x (W (W (0+10)+9)) 1) 1),.int .i64 (aA x (W (W (W (0+10)+9)+1)) 5),.int .i64 (aA x (W (W (W (W (0+10)+9)+1)+5)) 18)]) []) (by kernel_rfl) ?_)
 simp(disch:=omega) only [W,cO,Int.reduceAdd,Int.zero_add]
 repeat refine⟨by omega,?_⟩
 exact hK
theorem dD{n w:Int} :aK n w=true↔0≤n∧n<2^w.toNat:=by
 unfold aK;simp only [bZ,aX,Bool.and_eq_true,dT']
theorem fD{a:Nat}{x y p s q:Int}(e:p=2^a)(hx:0≤x∧x<p)(hy:0≤y)(h:y*p+x≤18446744073709551615)(hs:s=x+y*p)(eq:q=p):
 WU (((BitVec.ofInt 64 x|||BitVec.ofInt 64 (WU (WU y*q))).toNat :Int))=s:=by
 subst eq
 have hya:0≤y*q:=Int.mul_nonneg hy (by omega)
 have h1:y≤y*q:=by
  have:=Int.mul_le_mul_of_nonneg_left (show(1:Int)≤q by omega) hy
  omega
 have e1:WU y=y:=jG (by omega)
 rw [e1]
 have e2:WU (y*q)=y*q:=jG (by omega)
 rw [e2]
 subst e
 rw [HY hx hy (by have:(2:Int)^64=18446744073709551616:=by decide
                  omega)]
 rw [hs]
 exact jG (by omega)
theorem J8(m:Bool):aK (bitI m) 1=true:=by cases m<;>rfl
theorem qE{n w:Int}(h:(!aK n w)=true):aK n w=false:=by simpa using h
theorem dV{n w:Int}(h:(!aK n w)=false):aK n w=true:=by simpa using h
def rX(k x:Int)(m:Bool)(c v:Int):Bool:=aK k 10&&(aK x 9&&(aK c 5&&aK v 18))
def bO(k x:Int)(m:Bool)(c v:Int):Int:=k+x*1024+bitI m*524288+c*1048576+v*33554432
def QD:bE Ob:=fun args h=>match args,h with
 | [.agg [.int .i64 k,.int .i64 x,.bool m,.int .i64 c,.int .i64 v]],[]=>some (True,.tup [.int .u64 (bif rX k x m c v then bO k x m c v else 0),.int .i64 (bif rX k x m c v then 0 else 2)])
 | _,_=>none
set_option maxRecDepth 100000 in
theorem QE:aL.ok E11.I Tryz.prog 164 QD.spec:=by
 intro args h o ho K hK
 unfold bE.spec at ho
 split at ho
 case h_2=>cases ho
 rename_i p v hv
 unfold QD at hv
 split at hv
 case h_2=>cases hv
 rename_i k x m c v
 simp only [sI',pI']at hv
 obtain⟨rfl,rfl⟩:=hv
 simp only [sI']at ho;subst ho
 obtain⟨_,hK⟩:=hK
 refine VV (cM' (E:=E11) (q:=True∧((0:Int)≤(0:Int)∧(0:Int)<(↑5:Int))∧((0:Int)≤(10:Int)∧(10:Int)≤(62:Int))∧bif !aK k 10 then K (.tup [.int .u64 0,.int .i64 2]) []else(0:Int)≤(0:Int)∧((0:Int)≤W (0+1)∧W (0+1)<(↑5:Int))∧((0:Int)≤(9:Int)∧(9:Int)≤(62:Int))∧bif !aK x 9 then K (.tup [.int .u64 0,.int .i64 2]) []else(0:Int)≤W (0+10)∧((0:Int)≤W (W (0+1)+1)∧W (W (0+1)+1)<(↑5:Int))∧((0:Int)≤(1:Int)∧(1:Int)≤(62:Int))∧bif !aK (bitI m) 1 then K (.tup [.int .u64 0,.int .i64 2]) []else(0:Int)≤W (W (0+10)+9)∧((0:Int)≤W (W (W (0+1)+1)+1)∧W (W (W (0+1)+1)+1)<(↑5:Int))∧((0:Int)≤(5:Int)∧(5:Int)≤(62:Int))∧bif !aK c 5 then K (.tup [.int .u64 0,.int .i64 2]) []else(0:Int)≤W (W (W (0+10)+9)+1)∧((0:Int)≤W (W (W (W (0+1)+1)+1)+1)∧W (W (W (W (0+1)+1)+1)+1)<(↑5:Int))∧((0:Int)≤(18:Int)∧(18:Int)≤(62:Int))∧bif !aK v 18 then K (.tup [.int .u64 0,.int .i64 2]) []else(0:Int)≤W (W (W (W (0+10)+9)+1)+5)∧K (.tup [.int .u64 (WU (↑(BitVec.toNat (BitVec.ofInt (IntKind.bits .u64) (WU (↑(BitVec.toNat (BitVec.ofInt (IntKind.bits .u64) (WU (↑(BitVec.toNat (BitVec.ofInt (IntKind.bits .u64) (WU (↑(BitVec.toNat (BitVec.ofInt (IntKind.bits .u64) (WU (↑(BitVec.toNat (BitVec.ofInt (IntKind.bits .u64) 0|||BitVec.ofInt (IntKind.bits .u64) (WU (WU k*2^min (Int.toNat 0) (IntKind.bits .u64))))):Int))|||BitVec.ofInt (IntKind.bits .u64) (WU (WU x*2^min (Int.toNat (W (0+10))) (IntKind.bits .u64))))):Int))|||BitVec.ofInt (IntKind.bits .u64) (WU (WU (bitI m)*2^min (Int.toNat (W (W (0+10)+9))) (IntKind.bits .u64))))):Int))|||BitVec.ofInt (IntKind.bits .u64) (WU (WU c*2^min (Int.toNat (W (W (W (0+10)+9)+1))) (IntKind.bits .u64))))):Int))|||BitVec.ofInt (IntKind.bits .u64) (WU (WU v*2^min (Int.toNat (W (W (W (W (0+10)+9)+1)+5))) (IntKind.bits .u64))))):Int)),.int .i64 0]) []) (by kernel_rfl) ?_)
 simp(disch:=omega) only [W,cO,Int.reduceAdd,Int.zero_add,Int.reduceToNat]
 refine⟨trivial,⟨by omega,by omega⟩,by omega,aF (fun e=>?_) (fun e1=>⟨by omega,by omega,by omega,aF (fun e=>?_) (fun e2=>⟨by omega,by omega,by omega,aF (fun e=>?_) (fun _=>⟨by omega,by omega,by omega,aF (fun e=>?_) (fun e3=>⟨by omega,by omega,by omega,aF (fun e=>?_) (fun e4=>⟨by omega,?_⟩)⟩)⟩)⟩)⟩)⟩
 ·unfold rX at hK
  rw [qE e]at hK
  exact hK
 ·unfold rX at hK
  rw [dV e1,qE e]at hK
  exact hK
 ·rw [J8]at e;cases e
 ·unfold rX at hK
  rw [dV e1,dV e2,qE e]at hK
  exact hK
 ·unfold rX at hK
  rw [dV e1,dV e2,dV e3,qE e]at hK
  exact hK
 ·unfold rX at hK
  rw [dV e1,dV e2,dV e3,dV e4]at hK
  have f1:=dD.1 (dV e1)
  have f2:=dD.1 (dV e2)
  have f3:=dD.1 (dV e3)
  have f4:=dD.1 (dV e4)
  have fm:0≤bitI m∧bitI m≤1:=by cases m<;>decide
  have hb:IntKind.bits .u64 =64:=rfl
  have p1:(2:Int)^(10:Int).toNat =1024:=by decide
  have p2:(2:Int)^(9:Int).toNat =512:=by decide
  have p3:(2:Int)^(5:Int).toNat =32:=by decide
  have p4:(2:Int)^(18:Int).toNat =262144:=by decide
  rw [p1]at f1;rw [p2]at f2;rw [p3]at f3;rw [p4]at f4
  refine cast (congrArg (fun z=>K (AVal.tup [.int .u64 z,.int .i64 0]) []) ?_) hK
  show bO k x m c v=_
  unfold bO
  symm
  have q0:=fD (a:=0) (x:=0) (y:=k) (p:=1) (q:=2^min 0 64) (s:=k) (by decide) (by omega) (by omega) (by omega) (by omega) (by decide)
  have q1:=fD (a:=10) (x:=k) (y:=x) (p:=1024) (q:=2^min 10 64) (s:=k+x*1024) (by decide) (by omega) (by omega) (by omega) (by omega) (by decide)
  have q2:=fD (a:=19) (x:=k+x*1024) (y:=bitI m) (p:=524288) (q:=2^min 19 64) (s:=k+x*1024+bitI m*524288) (by decide) (by omega) (by omega) (by omega) (by omega) (by decide)
  have q3:=fD (a:=20) (x:=k+x*1024+bitI m*524288) (y:=c) (p:=1048576) (q:=2^min 20 64) (s:=k+x*1024+bitI m*524288+c*1048576) (by decide) (by omega) (by omega) (by omega) (by omega) (by decide)
  have q4:=fD (a:=25) (x:=k+x*1024+bitI m*524288+c*1048576) (y:=v) (p:=33554432) (q:=2^min 25 64) (s:=k+x*1024+bitI m*524288+c*1048576+v*33554432) (by decide) (by omega) (by omega) (by omega) (by omega) (by decide)
  rw [hb]
  rw [WU]at q0 q1 q2 q3 q4
  simp only [WU]at q0 q1 q2 q3 q4⊢
  rw [q0,q1,q2,q3,q4]
noncomputable def E12:=(E11.addR 122 PP PQ).addR 164 QD QE
def HD(xs:List Int)(n:Int):Hint Ob:= {X:=Nat,st:=fun i=>([.slice 0 0 xs.length 1,.int .i64 n,.O,.O,.O,.int .i64 (i:Int)]++List.replicate 12 .O,[some (.ints (some .i64) xs)]),ok:=TA xs n,mu:=fun i=>xs.length - i,keep:=[0,1,5] }
theorem G5:aL.ok E12.I Tryz.prog 70 hasS0:=by
 intro args h o ho K hK
 unfold hasS0 at ho
 split at ho<;>cases ho
 rename_i k n xs
 obtain⟨⟨rfl,hp⟩,hK⟩:=hK
 have hK:K (.bool (hasB xs n)) [some (.ints (some .i64) xs)]:=hK
 refine(aE (E:=E12) Tryz.checked.mixed (L:=fun _ _=>some (.states (HD xs n))) (n:=10) (aR (q:=cP (HD xs n) (Hint.ok (HD xs n)) [.slice 0 0 (List.length xs) 1,.int .i64 n,.O,.O,.O,.int .i64 0,.O,.O,.O,.O,.O,.O,.O,.O,.O,.O,.O,.O] [some (.ints (some .i64) xs)]∧ ∀(x:Nat),TA xs n x→bif ilt (↑x:Int) (↑(List.length xs):Int)then((0:Int)≤(↑x:Int)∧(↑x:Int)<(↑(List.length xs):Int))∧0+Int.toNat (↑x:Int)*(1:Nat)<List.length xs∧bif ieq (List.getD xs (0+Int.toNat (↑x:Int)*1) 0) n then K (.bool true) [some (.ints (some .i64) xs)]else cP (HD xs n) (fun x'=>Hint.ok (HD xs n) x'∧Hint.mu (HD xs n) x'<Hint.mu (HD xs n) x) [.slice 0 0 (List.length xs) 1,.int .i64 n,.O,.O,.O,.int .i64 (W ((↑x:Int)+1)),.O,.O,.O,.O,.O,.O,.O,.O,.O,.O,.O,.O] [some (.ints (some .i64) xs)]else K (.bool false) [some (.ints (some .i64) xs)]) (by kernel_rfl) ?_))
 have hS:hasB xs n=decide (n∈xs):=rfl
 refine⟨aP (H:=HD xs n) (0:Nat) rfl ⟨Nat.zero_le _,by simp⟩,?_⟩
 rintro i ⟨h1,h2⟩
 refine aF (fun e1=>?_) (fun e1=>?_)
 ·rw [aX,dT']at e1
  have hi:i<xs.length:=by omega
  have e2:0+(i:Int).toNat *1=i:=by omega
  rw [e2]
  have e4:IntKind.wrap .i64 ((i:Int)+1)=((i+1:Nat):Int):=by rw [cO (by omega)];rfl
  have hg:xs.getD i 0=xs[i]:=by rw [gD',gE' hi];rfl
  refine⟨by omega,hi,aF (fun e3=>?_) (fun e3=>?_)⟩
  ·rw [bC,hg]at e3
   have e3:xs[i]=n:=by simpa using e3
   have hm:n∈xs:=by rw [←e3];exact List.getElem_mem hi
   rw [hS,decide_eq_true hm]at hK
   exact hK
  ·rw [bC,hg]at e3
   have e3: ¬xs[i]=n:=by simpa using e3
   refine aP (H:=HD xs n) (i+1:Nat) (by simp only [W,e4]<;>rfl) ⟨⟨hi,?_⟩,by show xs.length - (i+1)<xs.length - i;omega⟩
   rw [List.take_succ_eq_append_getElem hi]
   intro hm
   rcases List.mem_append.1 hm with h | h
   ·exact h2 h
   ·simp at h;omega
 ·rw [aX,dF']at e1
  rw [List.take_of_length_le (by omega)]at h2
  rw [hS,decide_eq_false h2]at hK
  exact hK
theorem K6:aL.ok E12.I Tryz.prog 70 zY.spec:=by
 intro args h o ho
 unfold bE.spec at ho
 split at ho
 case h_2=>cases ho
 rename_i p v hv
 unfold zY at hv
 split at hv
 case h_2=>cases hv
 simp only [sI',pI']at hv
 obtain⟨rfl,rfl⟩:=hv
 exact G5 _ _ o ho
noncomputable def E13a:=E12.addR 70 zY K6
def thr(t:Int):Int:=1+Int.tmod t 4
def nod(n:Int):Int:=1+Int.tmod n 12
theorem IV{t:Int}(h:0≤t∧t≤255):1≤thr t∧thr t≤4:=by unfold thr;rw [Int.tmod_eq_emod_of_nonneg h.1];omega
theorem HT{t:Int}(h:0≤t∧t≤255):1≤nod t∧nod t≤12:=by unfold nod;rw [Int.tmod_eq_emod_of_nonneg h.1];omega
def memW(t n:Int)(xs:List Int):List Int:=gR (List.replicate (2*n+5*t+6).toNat 0) 0 (xs.take (2*n+5*t+6).toNat)
theorem xU(t n:Int)(xs:List Int):(memW t n xs).length =(2*n+5*t+6).toNat :=by
 unfold memW gR;simp;omega
theorem dW{x:Int}(h: -9223372036854775808≤x∧x≤9223372036854775807):W x=x:=cO h
def memoryS:aL Ob:=fun args h=>match args,h with
 | [.agg [.int .u8 t,.int .u8 n,.iview (some .u64) xs]],[]=>some (.pre ((0≤t∧t≤255)∧(0≤n∧n≤255)) (.ret (.tup [.ptr 0 0,.agg [.int .i64 (thr t),.int .i64 (nod n)],.agg [.int .i64 (thr t),.int .i64 (nod n)]]) (memH ⟨thr t,nod n,memW (thr t) (nod n) xs,0,0,0,0,0,false⟩)))
 | _,_=>none
theorem DF:aL.ok E13a.I Tryz.prog 23 memoryS:=by
 intro args h o ho K hK
 unfold memoryS at ho
 split at ho<;>cases ho
 rename_i t n xs
 obtain⟨⟨ht,hn⟩,hK⟩:=hK
 have hK:K (.tup [.ptr 0 0,.agg [.int .i64 (thr t),.int .i64 (nod n)],.agg [.int .i64 (thr t),.int .i64 (nod n)]]) (memH ⟨thr t,nod n,memW (thr t) (nod n) xs,0,0,0,0,0,false⟩):=hK
 refine VV (cM' (E:=E13a) (q:=(4:Int)≠(0:Int)∧(12:Int)≠(0:Int)∧bif ilt (W (W (W (2*W (1+Int.tmod (W n) 12))+W (5*W (1+Int.tmod (W t) 4)))+6)) (↑(List.length xs):Int)then((0:Int)≤W (W (W (2*W (1+Int.tmod (W n) 12))+W (5*W (1+Int.tmod (W t) 4)))+6)∧Int.toNat (W (W (W (2*W (1+Int.tmod (W n) 12))+W (5*W (1+Int.tmod (W t) 4)))+6))≤List.length xs)∧True∧bif !lO (W (1+Int.tmod (W t) 4)) (W (1+Int.tmod (W n) 12))then K (.tup [.raw (Value.pointer none),.agg [.int .i64 (W (1+Int.tmod (W t) 4)),.int .i64 (W (1+Int.tmod (W n) 12))],.agg [.int .i64 0,.int .i64 0]]) []else(((0:Int)≤W (1+Int.tmod (W t) 4)∧W (1+Int.tmod (W t) 4)≤(100000:Int))∧(0:Int)≤W (1+Int.tmod (W n) 12)∧W (1+Int.tmod (W n) 12)≤(100000:Int))∧bif ilt (2*W (1+Int.tmod (W n) 12)+5*W (1+Int.tmod (W t) 4)+6) (↑(List.length (List.take (Int.toNat (W (W (W (2*W (1+Int.tmod (W n) 12))+W (5*W (1+Int.tmod (W t) 4)))+6))) xs)):Int)then K (.tup [.raw (Value.pointer none),.agg [.int .i64 (W (1+Int.tmod (W t) 4)),.int .i64 (W (1+Int.tmod (W n) 12))],.agg [.int .i64 0,.int .i64 0]]) []else((((0:Int)≤W (1+Int.tmod (W t) 4)∧W (1+Int.tmod (W t) 4)≤(100000:Int))∧(0:Int)≤W (1+Int.tmod (W n) 12)∧W (1+Int.tmod (W n) 12)≤(100000:Int))∧True)∧((0:Int)≤(2:Int)*W (1+Int.tmod (W n) 12)+5*W (1+Int.tmod (W t) 4)+6∧2*W (1+Int.tmod (W n) 12)+5*W (1+Int.tmod (W t) 4)+(6:Int)=(2:Int)*W (1+Int.tmod (W n) 12)+5*W (1+Int.tmod (W t) 4)+6∧2*W (1+Int.tmod (W n) 12)+5*W (1+Int.tmod (W t) 4)+(6:Int)≤(4294967296:Int))∧0+Int.toNat (2*W (1+Int.tmod (W n) 12)+5*W (1+Int.tmod (W t) 4)+6)≤List.length (List.replicate (Int.toNat (2*W (1+Int.tmod (W n) 12)+5*W (1+Int.tmod (W t) 4)+6)) (0:Int))∧K (.tup [.ptr 0 0,.agg [.int .i64 (W (1+Int.tmod (W t) 4)),.int .i64 (W (1+Int.tmod (W n) 12))],.agg [.int .i64 (W (1+Int.tmod (W t) 4)),.int .i64 (W (1+Int.tmod (W n) 12))]]) [some (.cells [.int .i64 (W (1+Int.tmod (W t) 4)),.int .i64 (W (1+Int.tmod (W n) 12)),.slice 1 0 (Int.toNat (2*W (1+Int.tmod (W n) 12)+5*W (1+Int.tmod (W t) 4)+6)) 1,.int .i64 0,.int .i64 0,.int .i64 0,.int .u64 0,.int .u64 0,.bool false]),some (.ints (some .u64) (gR (List.replicate (Int.toNat (2*W (1+Int.tmod (W n) 12)+5*W (1+Int.tmod (W t) 4)+6)) (0:Int)) 0 (List.take (min (List.length (List.take (Int.toNat (W (W (W (2*W (1+Int.tmod (W n) 12))+W (5*W (1+Int.tmod (W t) 4)))+6))) xs)) (Int.toNat (2*W (1+Int.tmod (W n) 12)+5*W (1+Int.tmod (W t) 4)+6))) (List.take (Int.toNat (W (W (W (2*W (1+Int.tmod (W n) 12))+W (5*W (1+Int.tmod (W t) 4)))+6))) xs))))]else True∧bif !lO (W (1+Int.tmod (W t) 4)) (W (1+Int.tmod (W n) 12))then K (.tup [.raw (Value.pointer none),.agg [.int .i64 (W (1+Int.tmod (W t) 4)),.int .i64 (W (1+Int.tmod (W n) 12))],.agg [.int .i64 0,.int .i64 0]]) []else(((0:Int)≤W (1+Int.tmod (W t) 4)∧W (1+Int.tmod (W t) 4)≤(100000:Int))∧(0:Int)≤W (1+Int.tmod (W n) 12)∧W (1+Int.tmod (W n) 12)≤(100000:Int))∧bif ilt (2*W (1+Int.tmod (W n) 12)+5*W (1+Int.tmod (W t) 4)+6) (↑(List.length xs):Int)then K (.tup [.raw (Value.pointer none),.agg [.int .i64 (W (1+Int.tmod (W t) 4)),.int .i64 (W (1+Int.tmod (W n) 12))],.agg [.int .i64 0,.int .i64 0]]) []else((((0:Int)≤W (1+Int.tmod (W t) 4)∧W (1+Int.tmod (W t) 4)≤(100000:Int))∧(0:Int)≤W (1+Int.tmod (W n) 12)∧W (1+Int.tmod (W n) 12)≤(100000:Int))∧True)∧((0:Int)≤(2:Int)*W (1+Int.tmod (W n) 12)+5*W (1+Int.tmod (W t) 4)+6∧2*W (1+Int.tmod (W n) 12)+5*W (1+Int.tmod (W t) 4)+(6:Int)=(2:Int)*W (1+Int.tmod (W n) 12)+5*W (1+Int.tmod (W t) 4)+6∧2*W (1+Int.tmod (W n) 12)+5*W (1+Int.tmod (W t) 4)+(6:Int)≤(4294967296:Int))∧0+Int.toNat (2*W (1+Int.tmod (W n) 12)+5*W (1+Int.tmod (W t) 4)+6)≤List.length (List.replicate (Int.toNat (2*W (1+Int.tmod (W n) 12)+5*W (1+Int.tmod (W t) 4)+6)) (0:Int))∧K (.tup [.ptr 0 0,.agg [.int .i64 (W (1+Int.tmod (W t) 4)),.int .i64 (W (1+Int.tmod (W n) 12))],.agg [.int .i64 (W (1+Int.tmod (W t) 4)),.int .i64 (W (1+Int.tmod (W n) 12))]]) [some (.cells [.int .i64 (W (1+Int.tmod (W t) 4)),.int .i64 (W (1+Int.tmod (W n) 12)),.slice 1 0 (Int.toNat (2*W (1+Int.tmod (W n) 12)+5*W (1+Int.tmod (W t) 4)+6)) 1,.int .i64 0,.int .i64 0,.int .i64 0,.int .u64 0,.int .u64 0,.bool false]),some (.ints (some .u64) (gR (List.replicate (Int.toNat (2*W (1+Int.tmod (W n) 12)+5*W (1+Int.tmod (W t) 4)+6)) (0:Int)) 0 (List.take (min (List.length xs) (Int.toNat (2*W (1+Int.tmod (W n) 12)+5*W (1+Int.tmod (W t) 4)+6))) xs)))]) (by kernel_rfl) ?_)
 have e1:W t=t:=dW (by omega)
 have e2:W n=n:=dW (by omega)
 have h1:=IV ht
 have h2:=HT hn
 have e3:W (1+Int.tmod t 4)=thr t:=dW (by show _≤thr t∧thr t≤_;omega)
 have e4:W (1+Int.tmod n 12)=nod n:=dW (by show _≤nod n∧nod n≤_;omega)
 rw [e1,e2,e3,e4]
 have e5:W (W (W (2*nod n)+W (5*thr t))+6)=2*nod n+5*thr t+6:=by
  simp(disch:=omega) only [W,cO]
 rw [e5,yB.2 (by omega)]
 unfold memH at hK
 have hl:=xU (thr t) (nod n) xs
 simp only [hl]at hK
 have hz:(List.replicate (2*nod n+5*thr t+6).toNat (0:Int)).length =(2*nod n+5*thr t+6).toNat :=List.length_replicate
 refine⟨by omega,by omega,aF (fun e=>⟨by rw [aX,dT']at e;omega,trivial,aF (fun e=>by cases e) (fun _=>⟨by omega,aF (fun e6=>?_) (fun _=>⟨⟨by omega,trivial⟩,by omega,by rw [List.length_replicate];omega,?_⟩)⟩)⟩) (fun e=>⟨trivial,aF (fun e=>by cases e) (fun _=>⟨by omega,aF (fun e6=>?_) (fun _=>⟨⟨by omega,trivial⟩,by omega,by rw [List.length_replicate];omega,?_⟩)⟩)⟩)⟩
 ·rw [aX,dT',List.length_take]at e6;omega
 ·rw [aX,dT']at e
  have e7:min (List.take (2*nod n+5*thr t+6).toNat xs).length (2*nod n+5*thr t+6).toNat =(2*nod n+5*thr t+6).toNat :=by rw [List.length_take];omega
  rw [e7,List.take_take,Nat.min_self]
  exact hK
 ·rw [e6]at e;cases e
 ·rw [aX,dF']at e
  have e7:List.take (min xs.length (2*nod n+5*thr t+6).toNat) xs=List.take (2*nod n+5*thr t+6).toNat xs:=by
   rw [Nat.min_eq_left (by omega),List.take_of_length_le (Nat.le_refl _),List.take_of_length_le (by omega)]
  rw [e7]
  exact hK
noncomputable def E13:=E13a.addS 23 memoryS DF
def fP(n v:Int):Int:=1+Int.tmod v n
def jC(n sp:Int)(R:List Int)(v:Int):List Int:=bif ieq (fP n v) sp then R else bif hasB R (fP n v)then R else R++ [fP n v]
def mkL(n sp:Int)(ns:List Int):List Int:=ns.foldl (jC n sp) []
theorem AG(n sp:Int)(R:List Int)(v:Int):(jC n sp R v).length ≤R.length+1:=by
 unfold jC
 cases ieq (fP n v) sp<;>cases hasB R (fP n v)<;>simp
theorem HR(n sp:Int)(ns:List Int)(v:Int):mkL n sp (ns++ [v])=jC n sp (mkL n sp ns) v:=by
 unfold mkL;simp [List.foldl_append]
structure UN (n sp:Int) (ns:List Int) (x:Nat×List Int):Prop where
 h1:x.1≤ns.length
 h2:x.2.length≤x.1
 h3:x.2=mkL n sp (ns.take x.1)
def HM(t n me sp me' sp':Int)(ns:List Int):Hint Ob:= {X:=Nat×List Int,st:=fun x=>([.O,.O,.ptr 0 0,.ptr 1 0,.O,.O,.ptr 2 0,.ptr 4 0]++List.replicate 32 .O ++ [.iview (some .u8) ns,.int .i64 (ns.length:Int),.int .i64 (x.1:Int)]++List.replicate 41 .O,[some (.cells [.int .u8 me,.int .u8 sp,.iview (some .u8) ns]),some (.cells [.int .i64 t,.int .i64 n]),some (.cells [.int .i64 t,.int .i64 n,.int .i64 me',.int .i64 sp',.slice 3 0 x.2.length 1]),some (.ints (some .i64) x.2),some (.cells [.int .i64 me',.int .i64 sp',.slice 5 0 x.2.length 1]),some (.ints (some .i64) x.2)]),ok:=UN n sp' ns,mu:=fun x=>ns.length - x.1,keep:=[2,3,6,7,40,41,42],casts:=[(.cell 2 4,.ints (some .i64)),(.cell 3 2,.ints (some .i64)),(.cell 4 2,.ints (some .i64))] }
def makeS:aL Ob:=fun args h=>match args,h with
 | [.agg [.int .u8 me,.int .u8 sp,.iview (some .u8) ns],.agg [.int .i64 t,.int .i64 n]],[]=>some (.pre (((0≤me∧me≤255)∧(0≤sp∧sp≤255)∧(1≤t∧t≤1000)∧(1≤n∧n≤1000)∧ns.length≤100000)∧ ∀v∈ns,0≤v∧v≤255) (.ret (.tup [.ptr 0 0,.ptr 2 0]) [some (.cells [.int .i64 t,.int .i64 n,.int .i64 (Int.tmod me t),.int .i64 (Int.tmod sp (n+1)),.slice 1 0 (mkL n (Int.tmod sp (n+1)) ns).length 1]),some (.ints (some .i64) (mkL n (Int.tmod sp (n+1)) ns)),some (.cells [.int .i64 (Int.tmod me t),.int .i64 (Int.tmod sp (n+1)),.slice 3 0 (mkL n (Int.tmod sp (n+1)) ns).length 1]),some (.ints (some .i64) (mkL n (Int.tmod sp (n+1)) ns))]))
 | _,_=>none
theorem oL{x t:Int}(h:0≤x)(ht:1≤t):0≤Int.tmod x t∧Int.tmod x t<t:=by
 rw [Int.tmod_eq_emod_of_nonneg h]
 exact⟨Int.emod_nonneg _ (by omega),Int.emod_lt_of_pos _ (by omega)⟩
theorem LF:aL.ok E13.I Tryz.prog 25 makeS:=by
 intro args h o ho K hK
 unfold makeS at ho
 split at ho<;>cases ho
 rename_i me sp ns t n
 obtain⟨⟨⟨hme,hsp,ht,hn,hl⟩,hv⟩,hK⟩:=hK
 refine VV (aE (E:=E13) Tryz.checked.mixed (L:=fun _ _=>some (.states (HM t n me sp (Int.tmod (W me) t) (Int.tmod (W sp) (W (n+1))) ns))) (n:=10) (aR (q:=t≠(0:Int)∧W (n+1)≠(0:Int)∧cP (HM t n me sp (Int.tmod (W me) t) (Int.tmod (W sp) (W (n+1))) ns) (Hint.ok (HM t n me sp (Int.tmod (W me) t) (Int.tmod (W sp) (W (n+1))) ns)) [.O,.O,.ptr 0 0,.ptr 1 0,.O,.O,.ptr 2 0,.ptr 4 0,.O,.O,.O,.O,.O,.O,.O,.O,.O,.O,.O,.O,.O,.O,.O,.O,.O,.O,.O,.O,.O,.O,.O,.O,.O,.O,.O,.O,.O,.O,.O,.O,.iview (some .u8) ns,.int .i64 (↑(List.length ns):Int),.int .i64 0,.O,.O,.O,.O,.O,.O,.O,.O,.O,.O,.O,.O,.O,.O,.O,.O,.O,.O,.O,.O,.O,.O,.O,.O,.O,.O,.O,.O,.O,.O,.O,.O,.O,.O,.O,.O,.O,.O,.O,.O,.O] [some (.cells [.int .u8 me,.int .u8 sp,.iview (some .u8) ns]),some (.cells [.int .i64 t,.int .i64 n]),some (.cells [.int .i64 t,.int .i64 n,.int .i64 (Int.tmod (W me) t),.int .i64 (Int.tmod (W sp) (W (n+1))),.slice 3 0 0 1]),some (.ints (some .i64) []),some (.cells [.int .i64 (Int.tmod (W me) t),.int .i64 (Int.tmod (W sp) (W (n+1))),.slice 5 0 0 1]),some (.ints (some .i64) [])]∧ ∀(x:(Nat×List Int)),UN n (Int.tmod (W sp) (W (n+1))) ns x→bif ilt (↑x.1:Int) (↑(List.length ns):Int)then((0:Int)≤(↑x.1:Int)∧(↑x.1:Int)<(↑(List.length ns):Int))∧n≠(0:Int)∧bif !ieq (W (1+Int.tmod (W (List.getD ns (Int.toNat (↑x.1:Int)) 0)) n)) (Int.tmod (W sp) (W (n+1)))then(lE' x.2∧List.length x.2≤(4294967296:Nat))∧bif !hasB x.2 (W (1+Int.tmod (W (List.getD ns (Int.toNat (↑x.1:Int)) 0)) n))then(0=0∧lE' x.2∧1=1∧List.length x.2+(1:Nat)≤(4294967296:Nat))∧(0=0∧lE' x.2∧1=1∧List.length x.2+(1:Nat)≤(4294967296:Nat))∧cP (HM t n me sp (Int.tmod (W me) t) (Int.tmod (W sp) (W (n+1))) ns) (fun x'=>Hint.ok (HM t n me sp (Int.tmod (W me) t) (Int.tmod (W sp) (W (n+1))) ns) x'∧Hint.mu (HM t n me sp (Int.tmod (W me) t) (Int.tmod (W sp) (W (n+1))) ns) x'<Hint.mu (HM t n me sp (Int.tmod (W me) t) (Int.tmod (W sp) (W (n+1))) ns) x) [.O,.O,.ptr 0 0,.ptr 1 0,.O,.O,.ptr 2 0,.ptr 4 0,.O,.O,.O,.O,.O,.O,.O,.O,.O,.O,.O,.O,.O,.O,.O,.O,.O,.O,.O,.O,.O,.O,.O,.O,.O,.O,.O,.O,.O,.O,.O,.O,.iview (some .u8) ns,.int .i64 (↑(List.length ns):Int),.int .i64 (W ((↑x.1:Int)+1)),.O,.O,.O,.O,.O,.O,.O,.O,.O,.O,.O,.O,.O,.O,.O,.O,.O,.O,.O,.O,.O,.O,.O,.O,.O,.O,.O,.O,.O,.O,.O,.O,.O,.O,.O,.O,.O,.O,.O,.O,.O] [some (.cells [.int .u8 me,.int .u8 sp,.iview (some .u8) ns]),some (.cells [.int .i64 t,.int .i64 n]),some (.cells [.int .i64 t,.int .i64 n,.int .i64 (Int.tmod (W me) t),.int .i64 (Int.tmod (W sp) (W (n+1))),.slice 3 0 (List.length x.2+1) 1]),some (.ints (some .i64) (x.2++ [W (1+Int.tmod (W (List.getD ns (Int.toNat (↑x.1:Int)) 0)) n)])),some (.cells [.int .i64 (Int.tmod (W me) t),.int .i64 (Int.tmod (W sp) (W (n+1))),.slice 5 0 (List.length x.2+1) 1]),some (.ints (some .i64) (x.2++ [W (1+Int.tmod (W (List.getD ns (Int.toNat (↑x.1:Int)) 0)) n)]))]else cP (HM t n me sp (Int.tmod (W me) t) (Int.tmod (W sp) (W (n+1))) ns) (fun x'=>Hint.ok (HM t n me sp (Int.tmod (W me) t) (Int.tmod (W sp) (W (n+1))) ns) x'∧Hint.mu (HM t n me sp (Int.tmod (W me) t) (Int.tmod (W sp) (W (n+1))) ns) x'<Hint.mu (HM t n me sp (Int.tmod (W me) t) (Int.tmod (W sp) (W (n+1))) ns) x) [.O,.O,.ptr 0 0,.ptr 1 0,.O,.O,.ptr 2 0,.ptr 4 0,.O,.O,.O,.O,.O,.O,.O,.O,.O,.O,.O,.O,.O,.O,.O,.O,.O,.O,.O,.O,.O,.O,.O,.O,.O,.O,.O,.O,.O,.O,.O,.O,.iview (some .u8) ns,.int .i64 (↑(List.length ns):Int),.int .i64 (W ((↑x.1:Int)+1)),.O,.O,.O,.O,.O,.O,.O,.O,.O,.O,.O,.O,.O,.O,.O,.O,.O,.O,.O,.O,.O,.O,.O,.O,.O,.O,.O,.O,.O,.O,.O,.O,.O,.O,.O,.O,.O,.O,.O,.O,.O] [some (.cells [.int .u8 me,.int .u8 sp,.iview (some .u8) ns]),some (.cells [.int .i64 t,.int .i64 n]),some (.cells [.int .i64 t,.int .i64 n,.int .i64 (Int.tmod (W me) t),.int .i64 (Int.tmod (W sp) (W (n+1))),.slice 3 0 (List.length x.2) 1]),some (.ints (some .i64) x.2),some (.cells [.int .i64 (Int.tmod (W me) t),.int .i64 (Int.tmod (W sp) (W (n+1))),.slice 5 0 (List.length x.2) 1]),some (.ints (some .i64) x.2)]else cP (HM t n me sp (Int.tmod (W me) t) (Int.tmod (W sp) (W (n+1))) ns) (fun x'=>Hint.ok (HM t n me sp (Int.tmod (W me) t) (Int.tmod (W sp) (W (n+1))) ns) x'∧Hint.mu (HM t n me sp (Int.tmod (W me) t) (Int.tmod (W sp) (W (n+1))) ns) x'<Hint.mu (HM t n me sp (Int.tmod (W me) t) (Int.tmod (W sp) (W (n+1))) ns) x) [.O,.O,.ptr 0 0,.ptr 1 0,.O,.O,.ptr 2 0,.ptr 4 0,.O,.O,.O,.O,.O,.O,.O,.O,.O,.O,.O,.O,.O,.O,.O,.O,.O,.O,.O,.O,.O,.O,.O,.O,.O,.O,.O,.O,.O,.O,.O,.O,.iview (some .u8) ns,.int .i64 (↑(List.length ns):Int),.int .i64 (W ((↑x.1:Int)+1)),.O,.O,.O,.O,.O,.O,.O,.O,.O,.O,.O,.O,.O,.O,.O,.O,.O,.O,.O,.O,.O,.O,.O,.O,.O,.O,.O,.O,.O,.O,.O,.O,.O,.O,.O,.O,.O,.O,.O,.O,.O] [some (.cells [.int .u8 me,.int .u8 sp,.iview (some .u8) ns]),some (.cells [.int .i64 t,.int .i64 n]),some (.cells [.int .i64 t,.int .i64 n,.int .i64 (Int.tmod (W me) t),.int .i64 (Int.tmod (W sp) (W (n+1))),.slice 3 0 (List.length x.2) 1]),some (.ints (some .i64) x.2),some (.cells [.int .i64 (Int.tmod (W me) t),.int .i64 (Int.tmod (W sp) (W (n+1))),.slice 5 0 (List.length x.2) 1]),some (.ints (some .i64) x.2)]else K (.tup [.ptr 0 0,.ptr 2 0]) [some (.cells [.int .i64 t,.int .i64 n,.int .i64 (Int.tmod (W me) t),.int .i64 (Int.tmod (W sp) (W (n+1))),.slice 1 0 (List.length x.2) 1]),some (.ints (some .i64) x.2),some (.cells [.int .i64 (Int.tmod (W me) t),.int .i64 (Int.tmod (W sp) (W (n+1))),.slice 3 0 (List.length x.2) 1]),some (.ints (some .i64) x.2)]) (by kernel_rfl) ?_))
 have e1:W me=me:=dW (by omega)
 have e2:W sp=sp:=dW (by omega)
 have e3:W (n+1)=n+1:=dW (by omega)
 rw [e1,e2,e3]
 generalize Int.tmod sp (n+1)=sp' at hK⊢
 generalize Int.tmod me t=me' at hK⊢
 refine⟨by omega,by omega,aP (H:=HM t n me sp me' sp' ns) ((0:Nat),([]:List Int)) rfl ⟨Nat.zero_le _,Nat.le_refl _,rfl⟩,?_⟩
 rintro⟨i,R⟩ ⟨h1,h2,h3⟩
 dsimp only at h1 h2 h3⊢
 refine aF (fun e=>?_) (fun e=>?_)
 ·rw [aX,dT']at e
  have hi:i<ns.length:=by omega
  have hg:ns.getD (i:Int).toNat 0=ns[i]:=by rw [Int.toNat_natCast,gD',gE' hi];rfl
  have hvi:=hv ns[i] (List.getElem_mem hi)
  have hm:=oL (x:=ns[i]) (t:=n) (by omega) (by omega)
  have e4:W ns[i]=ns[i]:=dW (by omega)
  have e5:W (1+Int.tmod ns[i] n)=fP n ns[i]:=dW (by show _≤1+Int.tmod ns[i] n∧1+Int.tmod ns[i] n≤_;omega)
  have e6:W ((i:Int)+1)=((i+1:Nat):Int):=by rw [dW (by omega)];rfl
  have hs:mkL n sp' (ns.take (i+1))=jC n sp' R ns[i]:=by
   rw [List.take_succ_eq_append_getElem hi,HR,←h3]
  have hmu:ns.length - (i+1)<ns.length - i:=by omega
  rw [hg,e4,e5,e6]
  unfold jC at hs
  refine⟨by omega,by omega,aF (fun c1=>⟨⟨rfl,by omega⟩,aF (fun c2=>⟨⟨rfl,rfl,rfl,by omega⟩,⟨rfl,rfl,rfl,by omega⟩,?_⟩) (fun c2=>?_)⟩) (fun c1=>?_)⟩
  ·have c1:ieq (fP n ns[i]) sp'=false:=by simpa using c1
   have c2:hasB R (fP n ns[i])=false:=by simpa using c2
   rw [c1,c2]at hs
   refine aP (H:=HM t n me sp me' sp' ns) ((i+1:Nat),(R++ [fP n ns[i]]:List Int)) (by simp only [HM,List.length_append]<;>rfl) ⟨⟨hi,?_,hs.symm⟩,hmu⟩
   show(R++ [fP n ns[i]]).length ≤i+1
   simp;omega
  ·have c1:ieq (fP n ns[i]) sp'=false:=by simpa using c1
   have c2:hasB R (fP n ns[i])=true:=by simpa using c2
   rw [c1,c2]at hs
   exact aP (H:=HM t n me sp me' sp' ns) ((i+1:Nat),R) rfl ⟨⟨hi,by show R.length≤i+1;omega,hs.symm⟩,hmu⟩
  ·have c1:ieq (fP n ns[i]) sp'=true:=by simpa using c1
   rw [c1]at hs
   exact aP (H:=HM t n me sp me' sp' ns) ((i+1:Nat),R) rfl ⟨⟨hi,by show R.length≤i+1;omega,hs.symm⟩,hmu⟩
 ·rw [aX,dF']at e
  rw [List.take_of_length_le (by omega)]at h3
  subst h3
  exact hK
noncomputable def E14:=E13.addS 25 makeS LF
theorem JX(x:Int){b:Int}(h:0<b):0≤x%b∧x%b<b:=⟨Int.emod_nonneg _ (by omega),Int.emod_lt_of_pos _ h⟩
theorem cE{x a w:Int} :0≤aA x a w∧aA x a w<2^w.toNat:=JX _ (iZ _)
def T8:bE Ob:=fun args h=>match args,h with
 | [.int .u64 x],[]=>some (0≤x∧x≤18446744073709551615,.agg [.int .i64 (aA x 0 10),.int .i64 (aA x 10 9),.bool (ieq (aA x 19 1) 1),.int .i64 (aA x 20 5),.int .i64 (aA x 25 18)])
 | _,_=>none
theorem SX:aL.ok E14.I Tryz.prog 79 T8.spec:=by
 intro args h o ho K hK
 unfold bE.spec at ho
 split at ho
 case h_2=>cases ho
 rename_i p v hv
 unfold T8 at hv
 split at hv
 case h_2=>cases hv
 rename_i x
 simp only [sI',pI']at hv
 obtain⟨rfl,rfl⟩:=hv
 simp only [sI']at ho;subst ho
 obtain⟨hx,hK⟩:=hK
 refine VV (cM' (E:=E14) (q:=(8796093022208:Int)≠(0:Int)∧(1024:Int)≠(0:Int)∧(1024:Int)≠(0:Int)∧(512:Int)≠(0:Int)∧(524288:Int)≠(0:Int)∧(2:Int)≠(0:Int)∧(1048576:Int)≠(0:Int)∧(32:Int)≠(0:Int)∧(33554432:Int)≠(0:Int)∧K (.agg [.int .i64 (Int.tmod (W (Int.tmod x 8796093022208)) 1024),.int .i64 (Int.tmod (W (Int.tdiv (W (Int.tmod x 8796093022208)) 1024)) 512),.bool (ieq (Int.tmod (W (Int.tdiv (W (Int.tmod x 8796093022208)) 524288)) 2) 1),.int .i64 (Int.tmod (W (Int.tdiv (W (Int.tmod x 8796093022208)) 1048576)) 32),.int .i64 (W (Int.tdiv (W (Int.tmod x 8796093022208)) 33554432))]) []) (by kernel_rfl) ?_)
 have e0:Int.tmod x 8796093022208=x%8796093022208:=Int.tmod_eq_emod_of_nonneg hx.1
 have e1:W (Int.tmod x 8796093022208)=x%8796093022208:=by rw [e0];exact dW (by omega)
 rw [e1]
 have t0:Int.tmod (x%8796093022208) 1024=aA x 0 10:=by
  rw [Int.tmod_eq_emod_of_nonneg (by omega)];unfold aA;show _=x / 1%1024;omega
 have t1:W (Int.tdiv (x%8796093022208) 1024)=x%8796093022208 / 1024:=by rw [Int.tdiv_eq_ediv_of_nonneg (by omega)];exact dW (by omega)
 have t2:W (Int.tdiv (x%8796093022208) 524288)=x%8796093022208 / 524288:=by rw [Int.tdiv_eq_ediv_of_nonneg (by omega)];exact dW (by omega)
 have t3:W (Int.tdiv (x%8796093022208) 1048576)=x%8796093022208 / 1048576:=by rw [Int.tdiv_eq_ediv_of_nonneg (by omega)];exact dW (by omega)
 have t4:W (Int.tdiv (x%8796093022208) 33554432)=aA x 25 18:=by
  rw [Int.tdiv_eq_ediv_of_nonneg (by omega),dW (by omega)];unfold aA;show _=x / 33554432%262144;omega
 have s1:Int.tmod (x%8796093022208 / 1024) 512=aA x 10 9:=by
  rw [Int.tmod_eq_emod_of_nonneg (by omega)];unfold aA;show _=x / 1024%512;omega
 have s2:Int.tmod (x%8796093022208 / 524288) 2=aA x 19 1:=by
  rw [Int.tmod_eq_emod_of_nonneg (by omega)];unfold aA;show _=x / 524288%2;omega
 have s3:Int.tmod (x%8796093022208 / 1048576) 32=aA x 20 5:=by
  rw [Int.tmod_eq_emod_of_nonneg (by omega)];unfold aA;show _=x / 1048576%32;omega
 rw [t0,t1,t2,t3,t4,s1,s2,s3]
 repeat refine⟨by omega,?_⟩
 exact hK
def TY:bE Ob:=fun args h=>match args,h with
 | [.agg [.int .i64 k,.int .i64 y,.bool m,.int .i64 c,.int .i64 v]],[]=>some ((0≤k∧k<1024)∧(0≤y∧y<512)∧(0≤c∧c<32)∧(0≤v∧v<262144),.int .u64 (bO k y m c v))
 | _,_=>none
theorem SS:aL.ok E14.I Tryz.prog 66 TY.spec:=by
 intro args h o ho K hK
 unfold bE.spec at ho
 split at ho
 case h_2=>cases ho
 rename_i p vv hv
 unfold TY at hv
 split at hv
 case h_2=>cases hv
 rename_i k y m c v
 simp only [sI',pI']at hv
 obtain⟨rfl,rfl⟩:=hv
 simp only [sI']at ho;subst ho
 obtain⟨⟨hk,hy,hc,hv⟩,hK⟩:=hK
 have hK:K (.int .u64 (bO k y m c v)) []:=hK
 refine VV (cM' (E:=E14) (q:=bif m then(1024:Int)≠(0:Int)∧(512:Int)≠(0:Int)∧(32:Int)≠(0:Int)∧(262144:Int)≠(0:Int)∧K (.int .u64 (WU (W (W (W (W (Int.tmod k 1024+W (Int.tmod y 512*1024))+W (1*524288))+W (Int.tmod c 32*1048576))+W (Int.tmod v 262144*33554432))))) []else(1024:Int)≠(0:Int)∧(512:Int)≠(0:Int)∧(32:Int)≠(0:Int)∧(262144:Int)≠(0:Int)∧K (.int .u64 (WU (W (W (W (W (Int.tmod k 1024+W (Int.tmod y 512*1024))+W (0*524288))+W (Int.tmod c 32*1048576))+W (Int.tmod v 262144*33554432))))) []) (by kernel_rfl) ?_)
 have e1:Int.tmod k 1024=k:=by rw [Int.tmod_eq_emod_of_nonneg (by omega)];omega
 have e2:Int.tmod y 512=y:=by rw [Int.tmod_eq_emod_of_nonneg (by omega)];omega
 have e3:Int.tmod c 32=c:=by rw [Int.tmod_eq_emod_of_nonneg (by omega)];omega
 have e4:Int.tmod v 262144=v:=by rw [Int.tmod_eq_emod_of_nonneg (by omega)];omega
 rw [e1,e2,e3,e4]
 unfold bO at hK
 cases m
 all_goals
  simp(disch:=omega) only [W,WU,cO,jG,cond_true,cond_false,bitI]at hK⊢
  repeat refine⟨by omega,?_⟩
  refine cast (congrArg (fun z=>K (AVal.int .u64 z) []) ?_) hK
  omega
noncomputable def E15:=(E14.addR 79 T8 SX).addR 66 TY SS
structure TS where
 i:Int
 bad:Bool
 out:Bool
instance:Inhabited TS:=⟨⟨0,false,false⟩⟩
def a0(r:List Int):Int:=List.headD r 0
def a1(r:List Int):Int:=List.headD (List.tail r) 0
def a2(r:List Int):Int:=List.headD (List.tail (List.tail r)) 0
def a3(r:List Int):Int:=List.headD (List.tail (List.tail (List.tail r))) 0
def a4(r:List Int):Bool:=!ieq (List.headD (List.tail (List.tail (List.tail (List.tail r)))) 0) 0
def tRow(A:List (List Int))(s:TS):List Int:=List.getD A (0+Int.toNat s.i) []
def tHit(A:List (List Int))(s:TS)(k a:Int):Bool:=!s.bad &&(!s.out &&(!ile (A.length:Int) s.i&&(ieq (a0 (tRow A s)) k&&ieq (a1 (tRow A s)) a)))
def tGot(A:List (List Int))(s:TS)(k a:Int):List Int:=bif tHit A s k a then tRow A s else []
def aG(A:List (List Int))(s:TS)(k a:Int):TS:=bif s.bad||s.out then s else bif ile (A.length:Int) s.i then⟨s.i,s.bad,true⟩else⟨s.i+1,!tHit A s k a,s.out⟩
def dH(A:List (List Int))(s:TS)(a x:Int):TS:=⟨(aG A s 2 a).i,(aG A s 2 a).bad ||(!(aG A s 2 a).out &&(a4 (tGot A s 2 a)&& !ieq (a3 (tGot A s 2 a)) x)),(aG A s 2 a).out⟩
def T6(r:List Int):Bool:=!a4 r&&(ieq (a2 r) 0&&ieq (a3 r) 0)
def tCas(A:List (List Int))(s:TS)(a x y:Int):TS:=⟨(aG A s 3 a).i,(aG A s 3 a).bad ||(!(aG A s 3 a).out &&(!T6 (tGot A s 3 a)&&(!ieq (a3 (tGot A s 3 a)) y|| !(a4 (tGot A s 3 a) == ieq (a2 (tGot A s 3 a)) x)))),(aG A s 3 a).out⟩
def cN(A:List (List Int))(s:TS):aB Ob:=[some (.cells [.tslice 1 0 A.length 5,.int .i64 s.i,.bool s.bad,.bool s.out]),some (.tab [some .i64,some .i64,some .u64,some .u64,none] A)]
def eD(h:aB Ob):Option (Nat×TS×List (List Int)):=match h with
 | [some (.cells [.tslice 1 0 len 5,.int .i64 i,.bool bad,.bool out]),some (.tab [some .i64,some .i64,some .u64,some .u64,none] A)]=>some (len,⟨i,bad,out⟩,A)
 | _=>none
theorem d9{h:aB Ob}{l:Nat}{s:TS}{A:List (List Int)}(e:eD h=some (l,s,A))(hl:l=A.length):h=cN A s:=by
 unfold eD at e
 split at e
 ·simp only [sI',pI']at e
  obtain⟨rfl,rfl,rfl⟩:=e
  subst hl;rfl
 ·cases e
theorem HV{b:Bool}(h:(!b)=true):b=false:=by simpa using h
theorem HU{b:Bool}(h:(!b)=false):b=true:=by simpa using h
def takeS:aL Ob:=fun args h=>match args,eD h with
 | [.ptr 0 0,.int .i64 k,.int .i64 a],some (l,s,A)=>some (.pre (l=A.length∧(0≤s.i∧s.i≤4611686018427387904)) (.ret (.agg [.int .i64 (a0 (tGot A s k a)),.int .i64 (a1 (tGot A s k a)),.int .u64 (a2 (tGot A s k a)),.int .u64 (a3 (tGot A s k a)),.bool (a4 (tGot A s k a))]) (cN A (aG A s k a))))
 | _,_=>none
theorem L9:aL.ok E15.I Tryz.prog 134 takeS:=by
 intro args h o ho K hK
 unfold takeS at ho
 split at ho<;>cases ho
 rename_i k a l s A hm
 obtain⟨⟨hl,hp⟩,hK⟩:=hK
 have hh:=d9 hm hl
 subst hh
 have hK:K (.agg [.int .i64 (a0 (tGot A s k a)),.int .i64 (a1 (tGot A s k a)),.int .u64 (a2 (tGot A s k a)),.int .u64 (a3 (tGot A s k a)),.bool (a4 (tGot A s k a))]) (cN A (aG A s k a)):=hK
 refine VV (aE (E:=E15) Tryz.checked.mixed (L:=fun _ _=>none) (n:=10) (aR (q:=bif s.2 then K (.agg [.int .i64 0,.int .i64 0,.int .u64 0,.int .u64 0,.bool false]) [some (.cells [.tslice 1 0 (List.length A) 5,.int .i64 s.1,.bool s.2,.bool s.3]),some (.tab [some .i64,some .i64,some .u64,some .u64,none] A)]else bif s.3 then K (.agg [.int .i64 0,.int .i64 0,.int .u64 0,.int .u64 0,.bool false]) [some (.cells [.tslice 1 0 (List.length A) 5,.int .i64 s.1,.bool s.2,.bool s.3]),some (.tab [some .i64,some .i64,some .u64,some .u64,none] A)]else bif ile (↑(List.length A):Int) s.1 then K (.agg [.int .i64 0,.int .i64 0,.int .u64 0,.int .u64 0,.bool false]) [some (.cells [.tslice 1 0 (List.length A) 5,.int .i64 s.1,.bool s.2,.bool true]),some (.tab [some .i64,some .i64,some .u64,some .u64,none] A)]else((0:Int)≤s.1∧s.1<(↑(List.length A):Int))∧0+Int.toNat s.1<List.length A∧bif !ieq (List.headD (List.getD A (0+Int.toNat s.1) []) 0) k then K (.agg [.int .i64 0,.int .i64 0,.int .u64 0,.int .u64 0,.bool false]) [some (.cells [.tslice 1 0 (List.length A) 5,.int .i64 (W (s.1+1)),.bool true,.bool s.3]),some (.tab [some .i64,some .i64,some .u64,some .u64,none] A)]else bif !ieq (List.headD (List.tail (List.getD A (0+Int.toNat s.1) [])) 0) a then K (.agg [.int .i64 0,.int .i64 0,.int .u64 0,.int .u64 0,.bool false]) [some (.cells [.tslice 1 0 (List.length A) 5,.int .i64 (W (s.1+1)),.bool true,.bool s.3]),some (.tab [some .i64,some .i64,some .u64,some .u64,none] A)]else K (.agg [.int .i64 (List.headD (List.getD A (0+Int.toNat s.1) []) 0),.int .i64 (List.headD (List.tail (List.getD A (0+Int.toNat s.1) [])) 0),.int .u64 (List.headD (List.tail (List.tail (List.getD A (0+Int.toNat s.1) []))) 0),.int .u64 (List.headD (List.tail (List.tail (List.tail (List.getD A (0+Int.toNat s.1) [])))) 0),.bool !ieq (List.headD (List.tail (List.tail (List.tail (List.tail (List.getD A (0+Int.toNat s.1) []))))) 0) 0]) [some (.cells [.tslice 1 0 (List.length A) 5,.int .i64 (W (s.1+1)),.bool s.2,.bool s.3]),some (.tab [some .i64,some .i64,some .u64,some .u64,none] A)]) (by kernel_rfl) ?_))
 obtain⟨i,bad,out⟩:=s
 cases bad
 case true=>simpa [tGot,aG,tHit,a0,a1,a2,a3,a4,cN,bC]using hK
 cases out
 case true=>simpa [tGot,aG,tHit,a0,a1,a2,a3,a4,cN,bC]using hK
 simp only [cond_false]at hp⊢
 refine aF (fun e=>?_) (fun e=>?_)
 ·have h1:tHit A ⟨i,false,false⟩ k a=false:=by unfold tHit;simp only [e,Bool.not_true,Bool.false_and,Bool.and_false]
  simp only [tGot,aG,h1,e,Bool.or_false,cond_true,cond_false]at hK
  exact hK
 ·have e':=e
  rw [bZ,dF']at e'
  have hw:W (i+1)=i+1:=dW (by omega)
  rw [hw]
  have hg: ∀b,tHit A ⟨i,false,false⟩ k a=b→aG A ⟨i,false,false⟩ k a=⟨i+1,!b,false⟩:=by
   intro b hb
   simp only [aG,hb,e,Bool.or_false,cond_false]
  have hr:tRow A ⟨i,false,false⟩=List.getD A (0+Int.toNat i) []:=rfl
  have no:tHit A ⟨i,false,false⟩ k a=false→tGot A ⟨i,false,false⟩ k a=[]:=by intro hb;unfold tGot;rw [hb];rfl
  have yes:tHit A ⟨i,false,false⟩ k a=true→tGot A ⟨i,false,false⟩ k a=tRow A ⟨i,false,false⟩:=by intro hb;unfold tGot;rw [hb];rfl
  refine⟨by omega,by omega,aF (fun c1=>?_) (fun c1=>aF (fun c2=>?_) (fun c2=>?_))⟩
  ·have c1:=HV c1
   have h1:tHit A ⟨i,false,false⟩ k a=false:=by unfold tHit;rw [hr];simp only [a0,c1,Bool.false_and,Bool.and_false]
   rw [hg _ h1,no h1]at hK
   exact hK
  ·have c2:=HV c2
   have h1:tHit A ⟨i,false,false⟩ k a=false:=by unfold tHit;rw [hr];simp only [a1,c2,Bool.and_false]
   rw [hg _ h1,no h1]at hK
   exact hK
  ·have c1:=HU c1
   have c2:=HU c2
   have h1:tHit A ⟨i,false,false⟩ k a=true:=by unfold tHit;rw [hr];simp only [a0,a1,c1,c2,e,Bool.not_false,Bool.and_true]
   rw [hg _ h1,yes h1]at hK
   exact hK
def HZ:bE Ob:=fun args h=>match args,h with
 | [.ptr 0 0],some (.cells [v,.int .i64 i,.bool bad,.bool out])::rest=>some (True,.bool (bad||out))
 | _,_=>none
theorem LI:aL.ok E15.I Tryz.prog 76 HZ.spec:=by
 intro args h o ho K hK
 unfold bE.spec at ho
 split at ho
 case h_2=>cases ho
 rename_i p v hv
 unfold HZ at hv
 split at hv
 case h_2=>cases hv
 rename_i v i bad out rest
 simp only [sI',pI']at hv
 obtain⟨rfl,rfl⟩:=hv
 simp only [sI']at ho;subst ho
 obtain⟨_,hK⟩:=hK
 refine(aE (E:=E15) Tryz.checked.mixed (L:=fun _ _=>none) (n:=10) (aR (q:=bif bad then K (.bool true) (some (.cells [v,.int .i64 i,.bool bad,.bool out])::rest)else K (.bool out) (some (.cells [v,.int .i64 i,.bool bad,.bool out])::rest)) (by kernel_rfl) ?_))
 cases bad<;>cases out<;>exact hK
noncomputable def E16a:=(E15.addS 134 (cU [(.cell 0 0,.tab [some .i64,some .i64,some .u64,some .u64,none])] takeS) (cD L9)).addR 76 HZ LI
def tloadS:aL Ob:=fun args h=>match args,eD h with
 | [.ptr 0 0,.int .i64 a],some (l,s,A)=>some (.pre (l=A.length∧(0≤s.i∧s.i≤4611686018427387904)) (.ret (.int .u64 (a2 (tGot A s 1 a))) (cN A (aG A s 1 a))))
 | _,_=>none
theorem yI:aL.ok E16a.I Tryz.prog 74 tloadS:=by
 intro args h o ho K hK
 unfold tloadS at ho
 split at ho<;>cases ho
 rename_i a l s A hm
 obtain⟨⟨hl,hp⟩,hK⟩:=hK
 have hh:=d9 hm hl
 subst hh
 have hK:K (.int .u64 (a2 (tGot A s 1 a))) (cN A (aG A s 1 a)):=hK
 refine VV (aE (E:=E16a) Tryz.checked.mixed (L:=fun _ _=>none) (n:=10) (aR (q:=(lE' A∧(0:Int)≤s.1∧s.1≤(4611686018427387904:Int))∧K (.int .u64 (a2 (tGot A s 1 a))) [some (.cells [.tslice 1 0 (List.length A) 5,.int .i64 (aG A s 1 a).1,.bool (aG A s 1 a).2,.bool (aG A s 1 a).3]),some (.tab [some .i64,some .i64,some .u64,some .u64,none] A)]) (by kernel_rfl) ?_))
 exact⟨⟨rfl,hp⟩,hK⟩
def tstoreS:aL Ob:=fun args h=>match args,eD h with
 | [.ptr 0 0,.int .i64 a,.int .u64 x],some (l,s,A)=>some (.pre (l=A.length∧(0≤s.i∧s.i≤4611686018427387904)) (.ret (.tup []) (cN A (dH A s a x))))
 | _,_=>none
theorem uI:aL.ok E16a.I Tryz.prog 137 tstoreS:=by
 intro args h o ho K hK
 unfold tstoreS at ho
 split at ho<;>cases ho
 rename_i a x l s A hm
 obtain⟨⟨hl,hp⟩,hK⟩:=hK
 have hh:=d9 hm hl
 subst hh
 have hK:K (.tup []) (cN A (dH A s a x)):=hK
 refine VV (aE (E:=E16a) Tryz.checked.mixed (L:=fun _ _=>none) (n:=10) (aR (q:=(lE' A∧(0:Int)≤s.1∧s.1≤(4611686018427387904:Int))∧True∧bif !bif (aG A s 2 a).2 then true else(aG A s 2 a).3 then bif a4 (tGot A s 2 a)then bif !ieq (a3 (tGot A s 2 a)) x then K (.tup []) [some (.cells [.tslice 1 0 (List.length A) 5,.int .i64 (aG A s 2 a).1,.bool true,.bool (aG A s 2 a).3]),some (.tab [some .i64,some .i64,some .u64,some .u64,none] A)]else K (.tup []) [some (.cells [.tslice 1 0 (List.length A) 5,.int .i64 (aG A s 2 a).1,.bool (aG A s 2 a).2,.bool (aG A s 2 a).3]),some (.tab [some .i64,some .i64,some .u64,some .u64,none] A)]else K (.tup []) [some (.cells [.tslice 1 0 (List.length A) 5,.int .i64 (aG A s 2 a).1,.bool (aG A s 2 a).2,.bool (aG A s 2 a).3]),some (.tab [some .i64,some .i64,some .u64,some .u64,none] A)]else K (.tup []) [some (.cells [.tslice 1 0 (List.length A) 5,.int .i64 (aG A s 2 a).1,.bool (aG A s 2 a).2,.bool (aG A s 2 a).3]),some (.tab [some .i64,some .i64,some .u64,some .u64,none] A)]) (by kernel_rfl) ?_))
 unfold dH cN at hK
 refine⟨⟨rfl,hp⟩,trivial,?_⟩
 generalize aG A s 2 a=t at hK⊢
 generalize tGot A s 2 a=g at hK⊢
 obtain⟨i,bad,out⟩:=t
 dsimp only at hK⊢
 generalize a4 g=b1 at hK⊢
 generalize ieq (a3 g) x=b2 at hK⊢
 cases bad<;>cases out<;>cases b1<;>cases b2<;>exact hK
def tcasS:aL Ob:=fun args h=>match args,eD h with
 | [.ptr 0 0,.int .i64 a,.int .u64 x,.int .u64 y],some (l,s,A)=>some (.pre (l=A.length∧(0≤s.i∧s.i≤4611686018427387904)) (.ret (.bool (a4 (tGot A s 3 a))) (cN A (tCas A s a x y))))
 | _,_=>none
theorem vO:aL.ok E16a.I Tryz.prog 82 tcasS:=by
 intro args h o ho K hK
 unfold tcasS at ho
 split at ho<;>cases ho
 rename_i a x y l s A hm
 obtain⟨⟨hl,hp⟩,hK⟩:=hK
 have hh:=d9 hm hl
 subst hh
 have hK:K (.bool (a4 (tGot A s 3 a))) (cN A (tCas A s a x y)):=hK
 refine VV (aE (E:=E16a) Tryz.checked.mixed (L:=fun _ _=>none) (n:=10) (aR (q:=(lE' A∧(0:Int)≤s.1∧s.1≤(4611686018427387904:Int))∧bif !a4 (tGot A s 3 a)then bif ieq (a2 (tGot A s 3 a)) 0 then True∧bif !bif (aG A s 3 a).2 then true else(aG A s 3 a).3 then bif !ieq (a3 (tGot A s 3 a)) 0 then bif !ieq (a3 (tGot A s 3 a)) y then K (.bool (a4 (tGot A s 3 a))) [some (.cells [.tslice 1 0 (List.length A) 5,.int .i64 (aG A s 3 a).1,.bool true,.bool (aG A s 3 a).3]),some (.tab [some .i64,some .i64,some .u64,some .u64,none] A)]else bif !bif a4 (tGot A s 3 a)then ieq (a2 (tGot A s 3 a)) x else !ieq (a2 (tGot A s 3 a)) x then K (.bool (a4 (tGot A s 3 a))) [some (.cells [.tslice 1 0 (List.length A) 5,.int .i64 (aG A s 3 a).1,.bool true,.bool (aG A s 3 a).3]),some (.tab [some .i64,some .i64,some .u64,some .u64,none] A)]else K (.bool (a4 (tGot A s 3 a))) [some (.cells [.tslice 1 0 (List.length A) 5,.int .i64 (aG A s 3 a).1,.bool (aG A s 3 a).2,.bool (aG A s 3 a).3]),some (.tab [some .i64,some .i64,some .u64,some .u64,none] A)]else K (.bool (a4 (tGot A s 3 a))) [some (.cells [.tslice 1 0 (List.length A) 5,.int .i64 (aG A s 3 a).1,.bool (aG A s 3 a).2,.bool (aG A s 3 a).3]),some (.tab [some .i64,some .i64,some .u64,some .u64,none] A)]else K (.bool (a4 (tGot A s 3 a))) [some (.cells [.tslice 1 0 (List.length A) 5,.int .i64 (aG A s 3 a).1,.bool (aG A s 3 a).2,.bool (aG A s 3 a).3]),some (.tab [some .i64,some .i64,some .u64,some .u64,none] A)]else True∧bif !bif (aG A s 3 a).2 then true else(aG A s 3 a).3 then bif !ieq (a3 (tGot A s 3 a)) y then K (.bool (a4 (tGot A s 3 a))) [some (.cells [.tslice 1 0 (List.length A) 5,.int .i64 (aG A s 3 a).1,.bool true,.bool (aG A s 3 a).3]),some (.tab [some .i64,some .i64,some .u64,some .u64,none] A)]else bif !bif a4 (tGot A s 3 a)then ieq (a2 (tGot A s 3 a)) x else !ieq (a2 (tGot A s 3 a)) x then K (.bool (a4 (tGot A s 3 a))) [some (.cells [.tslice 1 0 (List.length A) 5,.int .i64 (aG A s 3 a).1,.bool true,.bool (aG A s 3 a).3]),some (.tab [some .i64,some .i64,some .u64,some .u64,none] A)]else K (.bool (a4 (tGot A s 3 a))) [some (.cells [.tslice 1 0 (List.length A) 5,.int .i64 (aG A s 3 a).1,.bool (aG A s 3 a).2,.bool (aG A s 3 a).3]),some (.tab [some .i64,some .i64,some .u64,some .u64,none] A)]else K (.bool (a4 (tGot A s 3 a))) [some (.cells [.tslice 1 0 (List.length A) 5,.int .i64 (aG A s 3 a).1,.bool (aG A s 3 a).2,.bool (aG A s 3 a).3]),some (.tab [some .i64,some .i64,some .u64,some .u64,none] A)]else True∧bif !bif (aG A s 3 a).2 then true else(aG A s 3 a).3 then bif !ieq (a3 (tGot A s 3 a)) y then K (.bool (a4 (tGot A s 3 a))) [some (.cells [.tslice 1 0 (List.length A) 5,.int .i64 (aG A s 3 a).1,.bool true,.bool (aG A s 3 a).3]),some (.tab [some .i64,some .i64,some .u64,some .u64,none] A)]else bif !bif a4 (tGot A s 3 a)then ieq (a2 (tGot A s 3 a)) x else !ieq (a2 (tGot A s 3 a)) x then K (.bool (a4 (tGot A s 3 a))) [some (.cells [.tslice 1 0 (List.length A) 5,.int .i64 (aG A s 3 a).1,.bool true,.bool (aG A s 3 a).3]),some (.tab [some .i64,some .i64,some .u64,some .u64,none] A)]else K (.bool (a4 (tGot A s 3 a))) [some (.cells [.tslice 1 0 (List.length A) 5,.int .i64 (aG A s 3 a).1,.bool (aG A s 3 a).2,.bool (aG A s 3 a).3]),some (.tab [some .i64,some .i64,some .u64,some .u64,none] A)]else K (.bool (a4 (tGot A s 3 a))) [some (.cells [.tslice 1 0 (List.length A) 5,.int .i64 (aG A s 3 a).1,.bool (aG A s 3 a).2,.bool (aG A s 3 a).3]),some (.tab [some .i64,some .i64,some .u64,some .u64,none] A)]) (by kernel_rfl) ?_))
 unfold tCas T6 cN at hK
 refine⟨⟨rfl,hp⟩,?_⟩
 generalize aG A s 3 a=t at hK⊢
 generalize tGot A s 3 a=g at hK⊢
 obtain⟨i,bad,out⟩:=t
 dsimp only at hK⊢
 generalize a4 g=b1 at hK⊢
 generalize ieq (a3 g) y=b2 at hK⊢
 generalize ieq (a2 g) x=b3 at hK⊢
 generalize ieq (a2 g) 0=b4 at hK⊢
 generalize ieq (a3 g) 0=b5 at hK⊢
 have go: ∀ {b:Bool} {X Y:Prop},(b=true→X)→(b=false→Y)→cond b X Y:=fun h1 h2=>aF h1 h2
 cases b1<;>cases b2<;>cases b3<;>cases b4<;>cases b5<;>cases bad<;>cases out<;>first | exact hK | exact⟨trivial,hK⟩
def iS(n:Int)(s:TS)(e:Bool):Bool:=!s.bad &&(ieq s.i n&&(bif s.out then !e else e))
def F8:bE Ob:=fun args h=>match args,h with
 | [.ptr 0 0,.bool e],some (.cells [.tslice 1 0 n 5,.int .i64 i,.bool bad,.bool out])::rest=>some (True,.bool (iS n ⟨i,bad,out⟩ e))
 | _,_=>none
theorem J9:aL.ok E16a.I Tryz.prog 28 F8.spec:=by
 intro args h o ho K hK
 unfold bE.spec at ho
 split at ho
 case h_2=>cases ho
 rename_i p v hv
 unfold F8 at hv
 split at hv
 case h_2=>cases hv
 rename_i e n i bad out rest
 simp only [sI',pI']at hv
 obtain⟨rfl,rfl⟩:=hv
 simp only [sI']at ho;subst ho
 obtain⟨_,hK⟩:=hK
 refine(aE (E:=E16a) Tryz.checked.mixed (L:=fun _ _=>none) (n:=10) (aR (q:=bif bad then K (.bool false) (some (.cells [.tslice 1 0 n 5,.int .i64 i,.bool bad,.bool out])::rest)else bif !ieq i (↑n:Int)then K (.bool false) (some (.cells [.tslice 1 0 n 5,.int .i64 i,.bool bad,.bool out])::rest)else K (.bool !bif out then e else !e) (some (.cells [.tslice 1 0 n 5,.int .i64 i,.bool bad,.bool out])::rest)) (by kernel_rfl) ?_))
 unfold iS at hK
 dsimp only at hK
 generalize ieq i (n:Int)=b at hK⊢
 cases bad<;>cases out<;>cases b<;>cases e<;>exact hK
abbrev KA:List (Place×fO):=[(.cell 0 0,.tab [some .i64,some .i64,some .u64,some .u64,none])]
noncomputable def E16:=((((E16a.addS 74 (cU KA tloadS) (cD yI)).addS 137 (cU KA tstoreS) (cD uI))).addS 82 (cU KA tcasS) (cD vO)).addR 28 F8 J9
theorem mV{n:Int}(h:oU (some .u64) n):0≤n∧n≤18446744073709551615:=by
 have h:(decide (IntKind.min .u64 ≤n)&&decide (n≤IntKind.max .u64))=true:=h
 simp only [Bool.and_eq_true,dT']at h
 exact h
structure okW (xs:List Int):Prop where
 h: ∀x∈xs,0≤x∧x≤18446744073709551615
theorem HW{t n:Int}{xs:List Int}(h:okW xs):okW (memW t n xs):=by
 refine⟨fun x hx=>?_⟩
 unfold memW gR at hx
 simp only [List.take_zero,List.nil_append,List.mem_append]at hx
 rcases hx with hx | hx
 ·exact h.h x (List.mem_of_mem_take hx)
 ·have:=List.mem_of_mem_drop hx
  rw [List.mem_replicate]at this
  omega
theorem HX{xs:List Int}(h:okW xs)(a:Int):0≤aD xs a∧aD xs a≤18446744073709551615:=by
 unfold aD
 split
 ·rename_i hi
  have hlt:a.toNat<xs.length:=by omega
  rw [gD',gE' hlt]
  exact h.h _ (List.getElem_mem hlt)
 ·omega
theorem LG(n sp:Int)(ns:List Int):(mkL n sp ns).length ≤ns.length:=by
 have: ∀(l R:List Int),(l.foldl (jC n sp) R).length ≤R.length+l.length:=by
  intro l
  induction l with
  | nil=>intro R;simp
  | cons v l ih=>intro R;have h1:=ih (jC n sp R v);have h2:=AG n sp R v;simp only [List.foldl_cons,List.length_cons];omega
 have h:=this ns []
 unfold mkL
 simpa using h
def eI(a b c d:Int)(m:Bool)(e f:Int):Int:=a+b*4096+c*2097152+d*549755813888+bitI m*281474976710656+e*562949953421312+f*4503599627370496
def dOk(a b c d e f:Int):Bool:=aK a 12&&(aK b 9&&(aK c 18&&(aK d 9&&(aK e 3&&aK f 10))))
theorem JP{x a w:Int}(ha:0≤a∧a≤63)(hw:0≤w∧w≤62):IntKind.wrap .i64 (IntKind.wrap .u64 ((BitVec.ofInt (IntKind.bits .u64) (Int.fdiv x (2^min (Int.toNat a) (IntKind.bits .u64)))&&&BitVec.ofInt (IntKind.bits .u64) (IntKind.wrap .u64 (IntKind.wrap .u64 (1*2^min (Int.toNat w) (IntKind.bits .u64)) - 1))).toNat :Int))=aA x a w:=by
 have hb:IntKind.bits .u64 =64:=rfl
 rw [hb]
 have h1:min a.toNat 64=a.toNat:=by omega
 have h2:min w.toNat 64=w.toNat:=by omega
 have h3:(2:Int)^w.toNat≤4611686018427387904:=AZ (n:=62) (by omega) (by decide)
 have h4:=iZ w.toNat
 have h5:=iZ a.toNat
 rw [h1,h2,Int.fdiv_eq_ediv_of_nonneg _ (by omega)]
 simp only [WU,W,Int.one_mul]
 rw [jG (x:=2^w.toNat) (by omega),jG (x:=2^w.toNat - 1) (by omega),kW _ (by omega)]
 have h6:=Int.emod_nonneg (x / 2^a.toNat) (b:=2^w.toNat) (by omega)
 have h7:=Int.emod_lt_of_pos (x / 2^a.toNat) (b:=2^w.toNat) (by omega)
 rw [jG (by omega),cO (by omega)]
 rfl
def FL:bE Ob:=fun args h=>match args,h with
 | [.int .u64 x],[]=>some (True,.agg [.int .i64 (aA x 0 12),.int .i64 (aA x 12 9),.int .i64 (aA x 21 18),.int .i64 (aA x 39 9),.bool (ieq (aA x 48 1) 1),.int .i64 (aA x 49 3),.int .i64 (aA x 52 10)])
 | _,_=>none
set_option maxRecDepth 100000 in
theorem JV:aL.ok E16.I Tryz.prog 102 FL.spec:=by
 intro args h o ho K hK
 unfold bE.spec at ho
 split at ho
 case h_2=>cases ho
 rename_i pp vv hv
 unfold FL at hv
 split at hv
 case h_2=>cases hv
 rename_i x
 simp only [sI',pI']at hv
 obtain⟨rfl,rfl⟩:=hv
 simp only [sI']at ho;subst ho
 obtain⟨hp,hK⟩:=hK
 have hK:K (.agg [.int .i64 (aA x 0 12),.int .i64 (aA x 12 9),.int .i64 (aA x 21 18),.int .i64 (aA x 39 9),.bool (ieq (aA x 48 1) 1),.int .i64 (aA x 49 3),.int .i64 (aA x 52 10)]) []:=hK
 refine VV (cM' (E:=E16) (q:=((0:Int)≤(0:Int)∧(0:Int)<(↑7:Int))∧((0:Int)≤(0:Int)∧(0:Int)<(↑1:Int))∧1+(1:Nat)≤(4294967296:Nat)∧((0:Int)≤W (0+1)∧W (0+1)<(↑7:Int))∧((0:Int)≤W (0+1)∧W (0+1)<(↑(1+1):Int))∧1+1+(1:Nat)≤(4294967296:Nat)∧((0:Int)≤W (W (0+1)+1)∧W (W (0+1)+1)<(↑7:Int))∧((0:Int)≤W (W (0+1)+1)∧W (W (0+1)+1)<(↑(1+1+1):Int))∧1+1+1+(1:Nat)≤(4294967296:Nat)∧((0:Int)≤W (W (W (0+1)+1)+1)∧W (W (W (0+1)+1)+1)<(↑7:Int))∧((0:Int)≤W (W (W (0+1)+1)+1)∧W (W (W (0+1)+1)+1)<(↑(1+1+1+1):Int))∧1+1+1+1+(1:Nat)≤(4294967296:Nat)∧((0:Int)≤W (W (W (W (0+1)+1)+1)+1)∧W (W (W (W (0+1)+1)+1)+1)<(↑7:Int))∧((0:Int)≤W (W (W (W (0+1)+1)+1)+1)∧W (W (W (W (0+1)+1)+1)+1)<(↑(1+1+1+1+1):Int))∧1+1+1+1+1+(1:Nat)≤(4294967296:Nat)∧((0:Int)≤W (W (W (W (W (0+1)+1)+1)+1)+1)∧W (W (W (W (W (0+1)+1)+1)+1)+1)<(↑7:Int))∧((0:Int)≤W (W (W (W (W (0+1)+1)+1)+1)+1)∧W (W (W (W (W (0+1)+1)+1)+1)+1)<(↑(1+1+1+1+1+1):Int))∧1+1+1+1+1+1+(1:Nat)≤(4294967296:Nat)∧((0:Int)≤W (W (W (W (W (W (0+1)+1)+1)+1)+1)+1)∧W (W (W (W (W (W (0+1)+1)+1)+1)+1)+1)<(↑7:Int))∧((0:Int)≤W (W (W (W (W (W (0+1)+1)+1)+1)+1)+1)∧W (W (W (W (W (W (0+1)+1)+1)+1)+1)+1)<(↑(1+1+1+1+1+1+1):Int))∧1+1+1+1+1+1+1+(1:Nat)≤(4294967296:Nat)∧((0:Int)≤(0:Int)∧(0:Int)<(↑(1+1+1+1+1+1+1+1):Int))∧(0:Int)≤(0:Int)∧((0:Int)≤(0:Int)∧(0:Int)<(↑7:Int))∧(0:Int)≤(12:Int)∧((0:Int)≤(0:Int)∧(0:Int)<(↑7:Int))∧((0:Int)≤W (0+1)∧W (0+1)<(↑(1+1+1+1+1+1+1+1):Int))∧(0:Int)≤W (0+12)∧((0:Int)≤W (0+1)∧W (0+1)<(↑7:Int))∧(0:Int)≤(9:Int)∧((0:Int)≤W (0+1)∧W (0+1)<(↑7:Int))∧((0:Int)≤W (W (0+1)+1)∧W (W (0+1)+1)<(↑(1+1+1+1+1+1+1+1):Int))∧(0:Int)≤W (W (0+12)+9)∧((0:Int)≤W (W (0+1)+1)∧W (W (0+1)+1)<(↑7:Int))∧(0:Int)≤(18:Int)∧((0:Int)≤W (W (0+1)+1)∧W (W (0+1)+1)<(↑7:Int))∧((0:Int)≤W (W (W (0+1)+1)+1)∧W (W (W (0+1)+1)+1)<(↑(1+1+1+1+1+1+1+1):Int))∧(0:Int)≤W (W (W (0+12)+9)+18)∧((0:Int)≤W (W (W (0+1)+1)+1)∧W (W (W (0+1)+1)+1)<(↑7:Int))∧(0:Int)≤(9:Int)∧((0:Int)≤W (W (W (0+1)+1)+1)∧W (W (W (0+1)+1)+1)<(↑7:Int))∧((0:Int)≤W (W (W (W (0+1)+1)+1)+1)∧W (W (W (W (0+1)+1)+1)+1)<(↑(1+1+1+1+1+1+1+1):Int))∧(0:Int)≤W (W (W (W (0+12)+9)+18)+9)∧((0:Int)≤W (W (W (W (0+1)+1)+1)+1)∧W (W (W (W (0+1)+1)+1)+1)<(↑7:Int))∧(0:Int)≤(1:Int)∧((0:Int)≤W (W (W (W (0+1)+1)+1)+1)∧W (W (W (W (0+1)+1)+1)+1)<(↑7:Int))∧((0:Int)≤W (W (W (W (W (0+1)+1)+1)+1)+1)∧W (W (W (W (W (0+1)+1)+1)+1)+1)<(↑(1+1+1+1+1+1+1+1):Int))∧(0:Int)≤W (W (W (W (W (0+12)+9)+18)+9)+1)∧((0:Int)≤W (W (W (W (W (0+1)+1)+1)+1)+1)∧W (W (W (W (W (0+1)+1)+1)+1)+1)<(↑7:Int))∧(0:Int)≤(3:Int)∧((0:Int)≤W (W (W (W (W (0+1)+1)+1)+1)+1)∧W (W (W (W (W (0+1)+1)+1)+1)+1)<(↑7:Int))∧((0:Int)≤W (W (W (W (W (W (0+1)+1)+1)+1)+1)+1)∧W (W (W (W (W (W (0+1)+1)+1)+1)+1)+1)<(↑(1+1+1+1+1+1+1+1):Int))∧(0:Int)≤W (W (W (W (W (W (0+12)+9)+18)+9)+1)+3)∧((0:Int)≤W (W (W (W (W (W (0+1)+1)+1)+1)+1)+1)∧W (W (W (W (W (W (0+1)+1)+1)+1)+1)+1)<(↑7:Int))∧(0:Int)≤(10:Int)∧((0:Int)≤W (W (W (W (W (W (0+1)+1)+1)+1)+1)+1)∧W (W (W (W (W (W (0+1)+1)+1)+1)+1)+1)<(↑7:Int))∧((0:Int)≤(0:Int)∧(0:Int)<(↑7:Int))∧((0:Int)≤(1:Int)∧(1:Int)<(↑7:Int))∧((0:Int)≤(2:Int)∧(2:Int)<(↑7:Int))∧((0:Int)≤(3:Int)∧(3:Int)<(↑7:Int))∧((0:Int)≤(4:Int)∧(4:Int)<(↑7:Int))∧((0:Int)≤(5:Int)∧(5:Int)<(↑7:Int))∧((0:Int)≤(6:Int)∧(6:Int)<(↑7:Int))∧K (.agg [.int .i64 (W (WU (↑(BitVec.toNat (BitVec.ofInt (IntKind.bits .u64) (Int.fdiv x (2^min (Int.toNat 0) (IntKind.bits .u64)))&&&BitVec.ofInt (IntKind.bits .u64) (WU (WU (1*2^min (Int.toNat 12) (IntKind.bits .u64)) - 1)))):Int))),.int .i64 (W (WU (↑(BitVec.toNat (BitVec.ofInt (IntKind.bits .u64) (Int.fdiv x (2^min (Int.toNat (W (0+12))) (IntKind.bits .u64)))&&&BitVec.ofInt (IntKind.bits .u64) (WU (WU (1*2^min (Int.toNat 9) (IntKind.bits .u64)) - 1)))):Int))),.int .i64 (W (WU (↑(BitVec.toNat (BitVec.ofInt (IntKind.bits .u64) (Int.fdiv x (2^min (Int.toNat (W (W (0+12)+9))) (IntKind.bits .u64)))&&&BitVec.ofInt (IntKind.bits .u64) (WU (WU (1*2^min (Int.toNat 18) (IntKind.bits .u64)) - 1)))):Int))),.int .i64 (W (WU (↑(BitVec.toNat (BitVec.ofInt (IntKind.bits .u64) (Int.fdiv x (2^min (Int.toNat (W (W (W (0+12)+9)+18))) (IntKind.bits .u64)))&&&BitVec.ofInt (IntKind.bits .u64) (WU (WU (1*2^min (Int.toNat 9) (IntKind.bits .u64)) - 1)))):Int))),.bool (ieq (W (WU (↑(BitVec.toNat (BitVec.ofInt (IntKind.bits .u64) (Int.fdiv x (2^min (Int.toNat (W (W (W (W (0+12)+9)+18)+9))) (IntKind.bits .u64)))&&&BitVec.ofInt (IntKind.bits .u64) (WU (WU (1*2^min (Int.toNat 1) (IntKind.bits .u64)) - 1)))):Int))) 1),.int .i64 (W (WU (↑(BitVec.toNat (BitVec.ofInt (IntKind.bits .u64) (Int.fdiv x (2^min (Int.toNat (W (W (W (W (W (0+12)+9)+18)+9)+1))) (IntKind.bits .u64)))&&&BitVec.ofInt (IntKind.bits .u64) (WU (WU (1*2^min (Int.toNat 3) (IntKind.bits .u64)) - 1)))):Int))),.int .i64 (W (WU (↑(BitVec.toNat (BitVec.ofInt (IntKind.bits .u64) (Int.fdiv x (2^min (Int.toNat (W (W (W (W (W (W (0+12)+9)+18)+9)+1)+3))) (IntKind.bits .u64)))&&&BitVec.ofInt (IntKind.bits .u64) (WU (WU (1*2^min (Int.toNat 10) (IntKind.bits .u64)) - 1)))):Int)))]) []) (by kernel_rfl) ?_)
 simp(disch:=omega) only [W,WU,cO,Int.reduceAdd,Int.zero_add]
 simp(disch:=omega) only [JP]
 repeat refine⟨by omega,?_⟩
 exact hK
theorem tU{a b:Int}{X Y:Prop}(h1:a<b→X)(h2:b≤a→Y):cond (ilt a b) X Y:=
 aF (fun e=>h1 (by rw [aX,dT']at e;exact e)) (fun e=>h2 (by rw [aX,dF']at e;omega))
theorem rK{a b:Int}{X Y:Prop}(h1:a≤b→X)(h2:b<a→Y):cond (ile a b) X Y:=
 aF (fun e=>h1 (by rw [bZ,dT']at e;exact e)) (fun e=>h2 (by rw [bZ,dF']at e;omega))
theorem FX{a b:Int}{X Y:Prop}(h1:a=b→X)(h2:a≠b→Y):cond (ieq a b) X Y:=
 aF (fun e=>h1 (by rw [bC]at e;simpa using e)) (fun e=>h2 (by rw [bC]at e;simpa using e))
theorem lA{a b c d e f:Int} :dOk a b c d e f=true↔(0≤a∧a<4096)∧(0≤b∧b<512)∧(0≤c∧c<262144)∧(0≤d∧d<512)∧(0≤e∧e<8)∧(0≤f∧f<1024):=by
 unfold dOk;simp only [Bool.and_eq_true,dD]<;>rfl
def FU:bE Ob:=fun args h=>match args,h with
 | [.agg [.int .i64 a,.int .i64 b,.int .i64 c,.int .i64 d,.bool m,.int .i64 e,.int .i64 f]],[]=>some (True,.tup [.int .u64 (bif dOk a b c d e f then eI a b c d m e f else 0),.int .i64 (bif dOk a b c d e f then 0 else 2)])
 | _,_=>none
set_option maxRecDepth 100000 in
theorem JW:aL.ok E16.I Tryz.prog 113 FU.spec:=by
 intro args h o ho K hK
 unfold bE.spec at ho
 split at ho
 case h_2=>cases ho
 rename_i pp vv hv
 unfold FU at hv
 split at hv
 case h_2=>cases hv
 rename_i a b c d m e f
 simp only [sI',pI']at hv
 obtain⟨rfl,rfl⟩:=hv
 simp only [sI']at ho;subst ho
 obtain⟨hp,hK⟩:=hK
 have hK:K (.tup [.int .u64 (bif dOk a b c d e f then eI a b c d m e f else 0),.int .i64 (bif dOk a b c d e f then 0 else 2)]) []:=hK
 refine VV (cM' (E:=E16) (q:=((0:Int)≤(0:Int)∧(0:Int)<(↑7:Int))∧((0:Int)≤(0:Int)∧(0:Int)<(↑1:Int))∧1+(1:Nat)≤(4294967296:Nat)∧((0:Int)≤W (0+1)∧W (0+1)<(↑7:Int))∧((0:Int)≤W (0+1)∧W (0+1)<(↑(1+1):Int))∧1+1+(1:Nat)≤(4294967296:Nat)∧((0:Int)≤W (W (0+1)+1)∧W (W (0+1)+1)<(↑7:Int))∧((0:Int)≤W (W (0+1)+1)∧W (W (0+1)+1)<(↑(1+1+1):Int))∧1+1+1+(1:Nat)≤(4294967296:Nat)∧((0:Int)≤W (W (W (0+1)+1)+1)∧W (W (W (0+1)+1)+1)<(↑7:Int))∧((0:Int)≤W (W (W (0+1)+1)+1)∧W (W (W (0+1)+1)+1)<(↑(1+1+1+1):Int))∧1+1+1+1+(1:Nat)≤(4294967296:Nat)∧((0:Int)≤W (W (W (W (0+1)+1)+1)+1)∧W (W (W (W (0+1)+1)+1)+1)<(↑7:Int))∧((0:Int)≤W (W (W (W (0+1)+1)+1)+1)∧W (W (W (W (0+1)+1)+1)+1)<(↑(1+1+1+1+1):Int))∧1+1+1+1+1+(1:Nat)≤(4294967296:Nat)∧((0:Int)≤W (W (W (W (W (0+1)+1)+1)+1)+1)∧W (W (W (W (W (0+1)+1)+1)+1)+1)<(↑7:Int))∧((0:Int)≤W (W (W (W (W (0+1)+1)+1)+1)+1)∧W (W (W (W (W (0+1)+1)+1)+1)+1)<(↑(1+1+1+1+1+1):Int))∧1+1+1+1+1+1+(1:Nat)≤(4294967296:Nat)∧((0:Int)≤W (W (W (W (W (W (0+1)+1)+1)+1)+1)+1)∧W (W (W (W (W (W (0+1)+1)+1)+1)+1)+1)<(↑7:Int))∧((0:Int)≤W (W (W (W (W (W (0+1)+1)+1)+1)+1)+1)∧W (W (W (W (W (W (0+1)+1)+1)+1)+1)+1)<(↑(1+1+1+1+1+1+1):Int))∧1+1+1+1+1+1+1+(1:Nat)≤(4294967296:Nat)∧bif m then((0:Int)≤(0:Int)∧(0:Int)<(↑7:Int))∧bif ilt a 0 then K (.tup [.int .u64 0,.int .i64 2]) []else((0:Int)≤(0:Int)∧(0:Int)<(↑7:Int))∧(0:Int)≤(12:Int)∧bif ile (W (1*2^min (Int.toNat 12) (IntKind.bits .i64))) a then K (.tup [.int .u64 0,.int .i64 2]) []else((0:Int)≤(0:Int)∧(0:Int)<(↑(1+1+1+1+1+1+1+1):Int))∧(0:Int)≤(0:Int)∧((0:Int)≤W (0+1)∧W (0+1)<(↑7:Int))∧bif ilt b 0 then K (.tup [.int .u64 0,.int .i64 2]) []else((0:Int)≤W (0+1)∧W (0+1)<(↑7:Int))∧(0:Int)≤(9:Int)∧bif ile (W (1*2^min (Int.toNat 9) (IntKind.bits .i64))) b then K (.tup [.int .u64 0,.int .i64 2]) []else((0:Int)≤W (0+1)∧W (0+1)<(↑(1+1+1+1+1+1+1+1):Int))∧(0:Int)≤W (0+12)∧((0:Int)≤W (W (0+1)+1)∧W (W (0+1)+1)<(↑7:Int))∧bif ilt c 0 then K (.tup [.int .u64 0,.int .i64 2]) []else((0:Int)≤W (W (0+1)+1)∧W (W (0+1)+1)<(↑7:Int))∧(0:Int)≤(18:Int)∧bif ile (W (1*2^min (Int.toNat 18) (IntKind.bits .i64))) c then K (.tup [.int .u64 0,.int .i64 2]) []else((0:Int)≤W (W (0+1)+1)∧W (W (0+1)+1)<(↑(1+1+1+1+1+1+1+1):Int))∧(0:Int)≤W (W (0+12)+9)∧((0:Int)≤W (W (W (0+1)+1)+1)∧W (W (W (0+1)+1)+1)<(↑7:Int))∧bif ilt d 0 then K (.tup [.int .u64 0,.int .i64 2]) []else((0:Int)≤W (W (W (0+1)+1)+1)∧W (W (W (0+1)+1)+1)<(↑7:Int))∧(0:Int)≤(9:Int)∧bif ile (W (1*2^min (Int.toNat 9) (IntKind.bits .i64))) d then K (.tup [.int .u64 0,.int .i64 2]) []else((0:Int)≤W (W (W (0+1)+1)+1)∧W (W (W (0+1)+1)+1)<(↑(1+1+1+1+1+1+1+1):Int))∧(0:Int)≤W (W (W (0+12)+9)+18)∧((0:Int)≤W (W (W (W (0+1)+1)+1)+1)∧W (W (W (W (0+1)+1)+1)+1)<(↑7:Int))∧((0:Int)≤W (W (W (W (0+1)+1)+1)+1)∧W (W (W (W (0+1)+1)+1)+1)<(↑7:Int))∧(0:Int)≤(1:Int)∧((0:Int)≤W (W (W (W (0+1)+1)+1)+1)∧W (W (W (W (0+1)+1)+1)+1)<(↑(1+1+1+1+1+1+1+1):Int))∧(0:Int)≤W (W (W (W (0+12)+9)+18)+9)∧((0:Int)≤W (W (W (W (W (0+1)+1)+1)+1)+1)∧W (W (W (W (W (0+1)+1)+1)+1)+1)<(↑7:Int))∧bif ilt e 0 then K (.tup [.int .u64 0,.int .i64 2]) []else((0:Int)≤W (W (W (W (W (0+1)+1)+1)+1)+1)∧W (W (W (W (W (0+1)+1)+1)+1)+1)<(↑7:Int))∧(0:Int)≤(3:Int)∧bif ile (W (1*2^min (Int.toNat 3) (IntKind.bits .i64))) e then K (.tup [.int .u64 0,.int .i64 2]) []else((0:Int)≤W (W (W (W (W (0+1)+1)+1)+1)+1)∧W (W (W (W (W (0+1)+1)+1)+1)+1)<(↑(1+1+1+1+1+1+1+1):Int))∧(0:Int)≤W (W (W (W (W (0+12)+9)+18)+9)+1)∧((0:Int)≤W (W (W (W (W (W (0+1)+1)+1)+1)+1)+1)∧W (W (W (W (W (W (0+1)+1)+1)+1)+1)+1)<(↑7:Int))∧bif ilt f 0 then K (.tup [.int .u64 0,.int .i64 2]) []else((0:Int)≤W (W (W (W (W (W (0+1)+1)+1)+1)+1)+1)∧W (W (W (W (W (W (0+1)+1)+1)+1)+1)+1)<(↑7:Int))∧(0:Int)≤(10:Int)∧bif ile (W (1*2^min (Int.toNat 10) (IntKind.bits .i64))) f then K (.tup [.int .u64 0,.int .i64 2]) []else((0:Int)≤W (W (W (W (W (W (0+1)+1)+1)+1)+1)+1)∧W (W (W (W (W (W (0+1)+1)+1)+1)+1)+1)<(↑(1+1+1+1+1+1+1+1):Int))∧(0:Int)≤W (W (W (W (W (W (0+12)+9)+18)+9)+1)+3)∧K (.tup [.int .u64 (WU (↑(BitVec.toNat (BitVec.ofInt (IntKind.bits .u64) (WU (↑(BitVec.toNat (BitVec.ofInt (IntKind.bits .u64) (WU (↑(BitVec.toNat (BitVec.ofInt (IntKind.bits .u64) (WU (↑(BitVec.toNat (BitVec.ofInt (IntKind.bits .u64) (WU (↑(BitVec.toNat (BitVec.ofInt (IntKind.bits .u64) (WU (↑(BitVec.toNat (BitVec.ofInt (IntKind.bits .u64) (WU (↑(BitVec.toNat (BitVec.ofInt (IntKind.bits .u64) 0|||BitVec.ofInt (IntKind.bits .u64) (WU (WU a*2^min (Int.toNat 0) (IntKind.bits .u64))))):Int))|||BitVec.ofInt (IntKind.bits .u64) (WU (WU b*2^min (Int.toNat (W (0+12))) (IntKind.bits .u64))))):Int))|||BitVec.ofInt (IntKind.bits .u64) (WU (WU c*2^min (Int.toNat (W (W (0+12)+9))) (IntKind.bits .u64))))):Int))|||BitVec.ofInt (IntKind.bits .u64) (WU (WU d*2^min (Int.toNat (W (W (W (0+12)+9)+18))) (IntKind.bits .u64))))):Int))|||BitVec.ofInt (IntKind.bits .u64) (WU (WU 1*2^min (Int.toNat (W (W (W (W (0+12)+9)+18)+9))) (IntKind.bits .u64))))):Int))|||BitVec.ofInt (IntKind.bits .u64) (WU (WU e*2^min (Int.toNat (W (W (W (W (W (0+12)+9)+18)+9)+1))) (IntKind.bits .u64))))):Int))|||BitVec.ofInt (IntKind.bits .u64) (WU (WU f*2^min (Int.toNat (W (W (W (W (W (W (0+12)+9)+18)+9)+1)+3))) (IntKind.bits .u64))))):Int)),.int .i64 0]) []else((0:Int)≤(0:Int)∧(0:Int)<(↑7:Int))∧bif ilt a 0 then K (.tup [.int .u64 0,.int .i64 2]) []else((0:Int)≤(0:Int)∧(0:Int)<(↑7:Int))∧(0:Int)≤(12:Int)∧bif ile (W (1*2^min (Int.toNat 12) (IntKind.bits .i64))) a then K (.tup [.int .u64 0,.int .i64 2]) []else((0:Int)≤(0:Int)∧(0:Int)<(↑(1+1+1+1+1+1+1+1):Int))∧(0:Int)≤(0:Int)∧((0:Int)≤W (0+1)∧W (0+1)<(↑7:Int))∧bif ilt b 0 then K (.tup [.int .u64 0,.int .i64 2]) []else((0:Int)≤W (0+1)∧W (0+1)<(↑7:Int))∧(0:Int)≤(9:Int)∧bif ile (W (1*2^min (Int.toNat 9) (IntKind.bits .i64))) b then K (.tup [.int .u64 0,.int .i64 2]) []else((0:Int)≤W (0+1)∧W (0+1)<(↑(1+1+1+1+1+1+1+1):Int))∧(0:Int)≤W (0+12)∧((0:Int)≤W (W (0+1)+1)∧W (W (0+1)+1)<(↑7:Int))∧bif ilt c 0 then K (.tup [.int .u64 0,.int .i64 2]) []else((0:Int)≤W (W (0+1)+1)∧W (W (0+1)+1)<(↑7:Int))∧(0:Int)≤(18:Int)∧bif ile (W (1*2^min (Int.toNat 18) (IntKind.bits .i64))) c then K (.tup [.int .u64 0,.int .i64 2]) []else((0:Int)≤W (W (0+1)+1)∧W (W (0+1)+1)<(↑(1+1+1+1+1+1+1+1):Int))∧(0:Int)≤W (W (0+12)+9)∧((0:Int)≤W (W (W (0+1)+1)+1)∧W (W (W (0+1)+1)+1)<(↑7:Int))∧bif ilt d 0 then K (.tup [.int .u64 0,.int .i64 2]) []else((0:Int)≤W (W (W (0+1)+1)+1)∧W (W (W (0+1)+1)+1)<(↑7:Int))∧(0:Int)≤(9:Int)∧bif ile (W (1*2^min (Int.toNat 9) (IntKind.bits .i64))) d then K (.tup [.int .u64 0,.int .i64 2]) []else((0:Int)≤W (W (W (0+1)+1)+1)∧W (W (W (0+1)+1)+1)<(↑(1+1+1+1+1+1+1+1):Int))∧(0:Int)≤W (W (W (0+12)+9)+18)∧((0:Int)≤W (W (W (W (0+1)+1)+1)+1)∧W (W (W (W (0+1)+1)+1)+1)<(↑7:Int))∧((0:Int)≤W (W (W (W (0+1)+1)+1)+1)∧W (W (W (W (0+1)+1)+1)+1)<(↑7:Int))∧(0:Int)≤(1:Int)∧((0:Int)≤W (W (W (W (0+1)+1)+1)+1)∧W (W (W (W (0+1)+1)+1)+1)<(↑(1+1+1+1+1+1+1+1):Int))∧(0:Int)≤W (W (W (W (0+12)+9)+18)+9)∧((0:Int)≤W (W (W (W (W (0+1)+1)+1)+1)+1)∧W (W (W (W (W (0+1)+1)+1)+1)+1)<(↑7:Int))∧bif ilt e 0 then K (.tup [.int .u64 0,.int .i64 2]) []else((0:Int)≤W (W (W (W (W (0+1)+1)+1)+1)+1)∧W (W (W (W (W (0+1)+1)+1)+1)+1)<(↑7:Int))∧(0:Int)≤(3:Int)∧bif ile (W (1*2^min (Int.toNat 3) (IntKind.bits .i64))) e then K (.tup [.int .u64 0,.int .i64 2]) []else((0:Int)≤W (W (W (W (W (0+1)+1)+1)+1)+1)∧W (W (W (W (W (0+1)+1)+1)+1)+1)<(↑(1+1+1+1+1+1+1+1):Int))∧(0:Int)≤W (W (W (W (W (0+12)+9)+18)+9)+1)∧((0:Int)≤W (W (W (W (W (W (0+1)+1)+1)+1)+1)+1)∧W (W (W (W (W (W (0+1)+1)+1)+1)+1)+1)<(↑7:Int))∧bif ilt f 0 then K (.tup [.int .u64 0,.int .i64 2]) []else((0:Int)≤W (W (W (W (W (W (0+1)+1)+1)+1)+1)+1)∧W (W (W (W (W (W (0+1)+1)+1)+1)+1)+1)<(↑7:Int))∧(0:Int)≤(10:Int)∧bif ile (W (1*2^min (Int.toNat 10) (IntKind.bits .i64))) f then K (.tup [.int .u64 0,.int .i64 2]) []else((0:Int)≤W (W (W (W (W (W (0+1)+1)+1)+1)+1)+1)∧W (W (W (W (W (W (0+1)+1)+1)+1)+1)+1)<(↑(1+1+1+1+1+1+1+1):Int))∧(0:Int)≤W (W (W (W (W (W (0+12)+9)+18)+9)+1)+3)∧K (.tup [.int .u64 (WU (↑(BitVec.toNat (BitVec.ofInt (IntKind.bits .u64) (WU (↑(BitVec.toNat (BitVec.ofInt (IntKind.bits .u64) (WU (↑(BitVec.toNat (BitVec.ofInt (IntKind.bits .u64) (WU (↑(BitVec.toNat (BitVec.ofInt (IntKind.bits .u64) (WU (↑(BitVec.toNat (BitVec.ofInt (IntKind.bits .u64) (WU (↑(BitVec.toNat (BitVec.ofInt (IntKind.bits .u64) (WU (↑(BitVec.toNat (BitVec.ofInt (IntKind.bits .u64) 0|||BitVec.ofInt (IntKind.bits .u64) (WU (WU a*2^min (Int.toNat 0) (IntKind.bits .u64))))):Int))|||BitVec.ofInt (IntKind.bits .u64) (WU (WU b*2^min (Int.toNat (W (0+12))) (IntKind.bits .u64))))):Int))|||BitVec.ofInt (IntKind.bits .u64) (WU (WU c*2^min (Int.toNat (W (W (0+12)+9))) (IntKind.bits .u64))))):Int))|||BitVec.ofInt (IntKind.bits .u64) (WU (WU d*2^min (Int.toNat (W (W (W (0+12)+9)+18))) (IntKind.bits .u64))))):Int))|||BitVec.ofInt (IntKind.bits .u64) (WU (WU 0*2^min (Int.toNat (W (W (W (W (0+12)+9)+18)+9))) (IntKind.bits .u64))))):Int))|||BitVec.ofInt (IntKind.bits .u64) (WU (WU e*2^min (Int.toNat (W (W (W (W (W (0+12)+9)+18)+9)+1))) (IntKind.bits .u64))))):Int))|||BitVec.ofInt (IntKind.bits .u64) (WU (WU f*2^min (Int.toNat (W (W (W (W (W (W (0+12)+9)+18)+9)+1)+3))) (IntKind.bits .u64))))):Int)),.int .i64 0]) []) (by kernel_rfl) ?_)
 have no:dOk a b c d e f=false→K (.tup [.int .u64 0,.int .i64 2]) []:=by intro h;rw [h]at hK;exact hK
 have yes:dOk a b c d e f=true→K (.tup [.int .u64 (eI a b c d m e f),.int .i64 0]) []:=by intro h;rw [h]at hK;exact hK
 clear hK hp
 have w10:W (1*2^min (Int.toNat 10) (IntKind.bits .i64))=1024:=by decide
 have w12:W (1*2^min (Int.toNat 12) (IntKind.bits .i64))=4096:=by decide
 have w9:W (1*2^min (Int.toNat 9) (IntKind.bits .i64))=512:=by decide
 have w18:W (1*2^min (Int.toNat 18) (IntKind.bits .i64))=262144:=by decide
 have w3:W (1*2^min (Int.toNat 3) (IntKind.bits .i64))=8:=by decide
 rw [w10,w12,w9,w18,w3]
 simp(disch:=omega) only [W,cO,Int.reduceAdd,Int.zero_add,Int.reduceToNat]
 cases m
 ·simp only [cond_true,cond_false]
  repeat' first
   | refine⟨by omega,?_⟩
   | refine tU (fun _=>?_) (fun _=>?_)
   | refine rK (fun _=>?_) (fun _=>?_)
  all_goals first
   | exact no (by cases h:dOk a b c d e f with
                  | false=>rfl
                  | true=>have:=lA.1 h;omega)
   | skip
  have ok:dOk a b c d e f=true:=lA.2 (by omega)
  refine cast (congrArg (fun z=>K (AVal.tup [.int .u64 z,.int .i64 0]) []) ?_) (yes ok)
  symm
  have hb:IntKind.bits .u64 =64:=rfl
  rw [hb]
  clear yes no ok
  have q0:=fD (a:=0) (x:=0) (y:=a) (p:=1) (q:=2^min 0 64) (s:=a) (by decide) (by omega) (by omega) (by omega) (by omega) (by decide)
  have q1:=fD (a:=12) (x:=a) (y:=b) (p:=4096) (q:=2^min 12 64) (s:=a+b*4096) (by decide) (by omega) (by omega) (by omega) (by omega) (by decide)
  have q2:=fD (a:=21) (x:=a+b*4096) (y:=c) (p:=2097152) (q:=2^min 21 64) (s:=a+b*4096+c*2097152) (by decide) (by omega) (by omega) (by omega) (by omega) (by decide)
  have q3:=fD (a:=39) (x:=a+b*4096+c*2097152) (y:=d) (p:=549755813888) (q:=2^min 39 64) (s:=a+b*4096+c*2097152+d*549755813888) (by decide) (by omega) (by omega) (by omega) (by omega) (by decide)
  have q4:=fD (a:=48) (x:=a+b*4096+c*2097152+d*549755813888) (y:=0) (p:=281474976710656) (q:=2^min 48 64) (s:=a+b*4096+c*2097152+d*549755813888+0*281474976710656) (by decide) (by omega) (by omega) (by omega) (by omega) (by decide)
  have q5:=fD (a:=49) (x:=a+b*4096+c*2097152+d*549755813888+0*281474976710656) (y:=e) (p:=562949953421312) (q:=2^min 49 64) (s:=a+b*4096+c*2097152+d*549755813888+0*281474976710656+e*562949953421312) (by decide) (by omega) (by omega) (by omega) (by omega) (by decide)
  have q6:=fD (a:=52) (x:=a+b*4096+c*2097152+d*549755813888+0*281474976710656+e*562949953421312) (y:=f) (p:=4503599627370496) (q:=2^min 52 64) (s:=a+b*4096+c*2097152+d*549755813888+0*281474976710656+e*562949953421312+f*4503599627370496) (by decide) (by omega) (by omega) (by omega) (by omega) (by decide)
  simp only [WU]at q0 q1 q2 q3 q4 q5 q6⊢
  rw [q0,q1,q2,q3,q4,q5,q6]
  unfold eI bitI
  rfl
 ·simp only [cond_true,cond_false]
  repeat' first
   | refine⟨by omega,?_⟩
   | refine tU (fun _=>?_) (fun _=>?_)
   | refine rK (fun _=>?_) (fun _=>?_)
  all_goals first
   | exact no (by cases h:dOk a b c d e f with
                  | false=>rfl
                  | true=>have:=lA.1 h;omega)
   | skip
  have ok:dOk a b c d e f=true:=lA.2 (by omega)
  refine cast (congrArg (fun z=>K (AVal.tup [.int .u64 z,.int .i64 0]) []) ?_) (yes ok)
  symm
  have hb:IntKind.bits .u64 =64:=rfl
  rw [hb]
  clear yes no ok
  have q0:=fD (a:=0) (x:=0) (y:=a) (p:=1) (q:=2^min 0 64) (s:=a) (by decide) (by omega) (by omega) (by omega) (by omega) (by decide)
  have q1:=fD (a:=12) (x:=a) (y:=b) (p:=4096) (q:=2^min 12 64) (s:=a+b*4096) (by decide) (by omega) (by omega) (by omega) (by omega) (by decide)
  have q2:=fD (a:=21) (x:=a+b*4096) (y:=c) (p:=2097152) (q:=2^min 21 64) (s:=a+b*4096+c*2097152) (by decide) (by omega) (by omega) (by omega) (by omega) (by decide)
  have q3:=fD (a:=39) (x:=a+b*4096+c*2097152) (y:=d) (p:=549755813888) (q:=2^min 39 64) (s:=a+b*4096+c*2097152+d*549755813888) (by decide) (by omega) (by omega) (by omega) (by omega) (by decide)
  have q4:=fD (a:=48) (x:=a+b*4096+c*2097152+d*549755813888) (y:=1) (p:=281474976710656) (q:=2^min 48 64) (s:=a+b*4096+c*2097152+d*549755813888+1*281474976710656) (by decide) (by omega) (by omega) (by omega) (by omega) (by decide)
  have q5:=fD (a:=49) (x:=a+b*4096+c*2097152+d*549755813888+1*281474976710656) (y:=e) (p:=562949953421312) (q:=2^min 49 64) (s:=a+b*4096+c*2097152+d*549755813888+1*281474976710656+e*562949953421312) (by decide) (by omega) (by omega) (by omega) (by omega) (by decide)
  have q6:=fD (a:=52) (x:=a+b*4096+c*2097152+d*549755813888+1*281474976710656+e*562949953421312) (y:=f) (p:=4503599627370496) (q:=2^min 52 64) (s:=a+b*4096+c*2097152+d*549755813888+1*281474976710656+e*562949953421312+f*4503599627370496) (by decide) (by omega) (by omega) (by omega) (by omega) (by decide)
  simp only [WU]at q0 q1 q2 q3 q4 q5 q6⊢
  rw [q0,q1,q2,q3,q4,q5,q6]
  unfold eI bitI
  rfl
noncomputable def E20:=(E16.addR 102 FL JV).addR 113 FU JW
def Q0:bE Ob:=fun args h=>match args,h with
 | [.int .u64 x],[]=>some (0≤x∧x≤18446744073709551615,.agg [.int .i64 (aA x 0 12),.int .i64 (aA x 12 9),.int .i64 (aA x 21 18),.int .i64 (aA x 39 9),.bool (ieq (aA x 48 1) 1),.int .i64 (aA x 49 3),.int .i64 (aA x 52 10)])
 | _,_=>none
theorem Q1:aL.ok E20.I Tryz.prog 140 Q0.spec:=by
 intro args h o ho K hK
 unfold bE.spec at ho
 split at ho
 case h_2=>cases ho
 rename_i pp vv hv
 unfold Q0 at hv
 split at hv
 case h_2=>cases hv
 rename_i x
 simp only [sI',pI']at hv
 obtain⟨rfl,rfl⟩:=hv
 simp only [sI']at ho;subst ho
 obtain⟨hp,hK⟩:=hK
 have hK:K (.agg [.int .i64 (aA x 0 12),.int .i64 (aA x 12 9),.int .i64 (aA x 21 18),.int .i64 (aA x 39 9),.bool (ieq (aA x 48 1) 1),.int .i64 (aA x 49 3),.int .i64 (aA x 52 10)]) []:=hK
 refine VV (cM' (E:=E20) (q:=(4611686018427387904:Int)≠(0:Int)∧(4096:Int)≠(0:Int)∧(4096:Int)≠(0:Int)∧(512:Int)≠(0:Int)∧(2097152:Int)≠(0:Int)∧(262144:Int)≠(0:Int)∧(549755813888:Int)≠(0:Int)∧(512:Int)≠(0:Int)∧(281474976710656:Int)≠(0:Int)∧(2:Int)≠(0:Int)∧(562949953421312:Int)≠(0:Int)∧(8:Int)≠(0:Int)∧(4503599627370496:Int)≠(0:Int)∧(1024:Int)≠(0:Int)∧K (.agg [.int .i64 (Int.tmod (W (Int.tmod x 4611686018427387904)) 4096),.int .i64 (Int.tmod (W (Int.tdiv (W (Int.tmod x 4611686018427387904)) 4096)) 512),.int .i64 (Int.tmod (W (Int.tdiv (W (Int.tmod x 4611686018427387904)) 2097152)) 262144),.int .i64 (Int.tmod (W (Int.tdiv (W (Int.tmod x 4611686018427387904)) 549755813888)) 512),.bool (ieq (Int.tmod (W (Int.tdiv (W (Int.tmod x 4611686018427387904)) 281474976710656)) 2) 1),.int .i64 (Int.tmod (W (Int.tdiv (W (Int.tmod x 4611686018427387904)) 562949953421312)) 8),.int .i64 (Int.tmod (W (Int.tdiv (W (Int.tmod x 4611686018427387904)) 4503599627370496)) 1024)]) []) (by kernel_rfl) ?_)
 have e0:Int.tmod x 4611686018427387904=x%4611686018427387904:=Int.tmod_eq_emod_of_nonneg hp.1
 have e1:W (Int.tmod x 4611686018427387904)=x%4611686018427387904:=by rw [e0];exact dW (by omega)
 rw [e1]
 have t0:Int.tmod (x%4611686018427387904) 4096=aA x 0 12:=by
  rw [Int.tmod_eq_emod_of_nonneg (by omega)];unfold aA;show _=x / 1%4096;omega
 have t1:W (Int.tdiv (x%4611686018427387904) 4096)=x%4611686018427387904 / 4096:=by rw [Int.tdiv_eq_ediv_of_nonneg (by omega)];exact dW (by omega)
 have s1:Int.tmod (x%4611686018427387904 / 4096) 512=aA x 12 9:=by
  rw [Int.tmod_eq_emod_of_nonneg (by omega)];unfold aA;show _=x / 4096%512;omega
 have t2:W (Int.tdiv (x%4611686018427387904) 2097152)=x%4611686018427387904 / 2097152:=by rw [Int.tdiv_eq_ediv_of_nonneg (by omega)];exact dW (by omega)
 have s2:Int.tmod (x%4611686018427387904 / 2097152) 262144=aA x 21 18:=by
  rw [Int.tmod_eq_emod_of_nonneg (by omega)];unfold aA;show _=x / 2097152%262144;omega
 have t3:W (Int.tdiv (x%4611686018427387904) 549755813888)=x%4611686018427387904 / 549755813888:=by rw [Int.tdiv_eq_ediv_of_nonneg (by omega)];exact dW (by omega)
 have s3:Int.tmod (x%4611686018427387904 / 549755813888) 512=aA x 39 9:=by
  rw [Int.tmod_eq_emod_of_nonneg (by omega)];unfold aA;show _=x / 549755813888%512;omega
 have t4:W (Int.tdiv (x%4611686018427387904) 281474976710656)=x%4611686018427387904 / 281474976710656:=by rw [Int.tdiv_eq_ediv_of_nonneg (by omega)];exact dW (by omega)
 have s4:Int.tmod (x%4611686018427387904 / 281474976710656) 2=aA x 48 1:=by
  rw [Int.tmod_eq_emod_of_nonneg (by omega)];unfold aA;show _=x / 281474976710656%2;omega
 have t5:W (Int.tdiv (x%4611686018427387904) 562949953421312)=x%4611686018427387904 / 562949953421312:=by rw [Int.tdiv_eq_ediv_of_nonneg (by omega)];exact dW (by omega)
 have s5:Int.tmod (x%4611686018427387904 / 562949953421312) 8=aA x 49 3:=by
  rw [Int.tmod_eq_emod_of_nonneg (by omega)];unfold aA;show _=x / 562949953421312%8;omega
 have t6:W (Int.tdiv (x%4611686018427387904) 4503599627370496)=x%4611686018427387904 / 4503599627370496:=by rw [Int.tdiv_eq_ediv_of_nonneg (by omega)];exact dW (by omega)
 have s6:Int.tmod (x%4611686018427387904 / 4503599627370496) 1024=aA x 52 10:=by
  rw [Int.tmod_eq_emod_of_nonneg (by omega)];unfold aA;show _=x / 4503599627370496%1024;omega
 rw [t0,t1,t2,t3,t4,t5,t6,s1,s2,s3,s4,s5,s6]
 repeat refine⟨by omega,?_⟩
 exact hK
def QF:bE Ob:=fun args h=>match args,h with
 | [.agg [.int .i64 a,.int .i64 b,.int .i64 c,.int .i64 d,.bool m,.int .i64 e,.int .i64 f]],[]=>some ((0≤a∧a≤1000000)∧(0≤b∧b≤1000000)∧(0≤c∧c≤1000000)∧(0≤d∧d≤1000000)∧(0≤e∧e≤1000000)∧(0≤f∧f≤1000000),.int .u64 (eI (a%4096) (b%512) (c%262144) (d%512) m (e%8) (f%1024)))
 | _,_=>none
theorem QG:aL.ok E20.I Tryz.prog 141 QF.spec:=by
 intro args h o ho K hK
 unfold bE.spec at ho
 split at ho
 case h_2=>cases ho
 rename_i pp vv hv
 unfold QF at hv
 split at hv
 case h_2=>cases hv
 rename_i a b c d m e f
 simp only [sI',pI']at hv
 obtain⟨rfl,rfl⟩:=hv
 simp only [sI']at ho;subst ho
 obtain⟨hp,hK⟩:=hK
 have hK:K (.int .u64 (eI (a%4096) (b%512) (c%262144) (d%512) m (e%8) (f%1024))) []:=hK
 refine VV (cM' (E:=E20) (q:=bif m then(1024:Int)≠(0:Int)∧(8:Int)≠(0:Int)∧(512:Int)≠(0:Int)∧(262144:Int)≠(0:Int)∧(512:Int)≠(0:Int)∧(4096:Int)≠(0:Int)∧K (.int .u64 (WU (W (W (W (W (W (W (W (W (W (W (W (W (Int.tmod f 1024*8)+Int.tmod e 8)*2)+1)*512)+Int.tmod d 512)*262144)+Int.tmod c 262144)*512)+Int.tmod b 512)*4096)+Int.tmod a 4096)))) []else(1024:Int)≠(0:Int)∧(8:Int)≠(0:Int)∧(512:Int)≠(0:Int)∧(262144:Int)≠(0:Int)∧(512:Int)≠(0:Int)∧(4096:Int)≠(0:Int)∧K (.int .u64 (WU (W (W (W (W (W (W (W (W (W (W (W (W (Int.tmod f 1024*8)+Int.tmod e 8)*2)+0)*512)+Int.tmod d 512)*262144)+Int.tmod c 262144)*512)+Int.tmod b 512)*4096)+Int.tmod a 4096)))) []) (by kernel_rfl) ?_)
 obtain⟨p1,p2,p3,p4,p5,p6⟩:=hp
 have m1:Int.tmod a 4096=a%4096:=Int.tmod_eq_emod_of_nonneg p1.1
 have m2:Int.tmod b 512=b%512:=Int.tmod_eq_emod_of_nonneg p2.1
 have m3:Int.tmod c 262144=c%262144:=Int.tmod_eq_emod_of_nonneg p3.1
 have m4:Int.tmod d 512=d%512:=Int.tmod_eq_emod_of_nonneg p4.1
 have m5:Int.tmod e 8=e%8:=Int.tmod_eq_emod_of_nonneg p5.1
 have m6:Int.tmod f 1024=f%1024:=Int.tmod_eq_emod_of_nonneg p6.1
 rw [m1,m2,m3,m4,m5,m6]
 unfold eI bitI at hK
 cases m
 all_goals
  simp only [cond_true,cond_false]at hK⊢
  simp(disch:=omega) only [W,WU,cO,jG]
  repeat refine⟨by omega,?_⟩
  refine cast (congrArg (fun z=>K (AVal.int .u64 z) []) ?_) hK
  omega
noncomputable def E21a:=(((((E20)))).addR 140 Q0 Q1).addR 141 QF QG
noncomputable def E21:=(E21a)
end Go.Sh
