import Derived.Test.YtedeloeobocpiaaGreatRows
import Derived.IntWalk
import Derived.Test.YtedeloeobocpiaaGreatZSh37dtoSh37e
set_option linter.all false
set_option maxHeartbeats 8000000
namespace Go.Sh
open Go Go.Proofs
variable [Con]
abbrev lE'{α:Type}(a:List α):Prop:=List.length a=List.length a
abbrev cK9:List Code1:=[some .i64,some .i64,some .i64,some .i64,some .i64,some .i64,some .i64,none,some .i64]
abbrev cK7:List Code1:=[some .i64,none,some .i64,some .i64,some .i64,none,some .i64]
abbrev cK3:List Code1:=[some .i64,some .i64,some .i64]
abbrev tO'(n:Nat)(l:List AVal):List AVal:=List.replicate n .O++l
abbrev AVal.I(n:Int):AVal:=.int .i64 n
abbrev AVal.N:AVal:=.raw (.pointer none)
abbrev W(x:Int):Int:=IntKind.wrap IntKind.i64 x
abbrev WU(x:Int):Int:=IntKind.wrap IntKind.u64 x
theorem cU{x:Int}(h: -9223372036854775808≤x∧x≤9223372036854775807):IntKind.wrap IntKind.i64 x=x:=IntWalk.i64_in x h
structure MS where
 t:Int
 n:Int
 xs:List Int
 c:Int
 k:Int
 a:Int
 o:Int
 w:Int
 ok:Bool
structure AL where
 got:Int
 at':Int
 left:Int
 found:Int
 free:Bool
structure SWS where
 ph:Nat
 N:List Int
 m:List (Int×Int)
 i:Int
 ks:List Int
 fs:List Int
 gs:List Int
 j:Nat
 l:Nat
structure ENS where
 ph:Nat
 sh:Bool
 dn:Bool
 x:AL
 y:SWS
structure STS where
 me:Int
 sp:Int
 R:List Int
structure PLN where
 now:Bool
 code:Int
 okk:Bool
 val:Int
 addr:Int
 old:Int
 nxt:Int
 mark:Bool
 pops:Int
structure CLS where
 addr:Int
 at':Int
 word:Int
 found:Int
structure PRS where
 key:Int
 nxt:Int
 found:Int
 loaded:Bool
structure HDS where
 u:Int
 no:Int
 at':Int
 tk:Bool
structure DRS where
 th:Int
 at':Int
structure ANS where
 no:Int
 me:Int
 at':Int
 bits:Int
 wrong:Bool
 found:Int
structure AWS where
 code:Int
 okk:Bool
 val:Int
 me:Int
structure EXS where
 popped:Int
 gave:Int
 u:Int
 sh:Int
 kd:Int
 ky:Int
 only:Bool
 att:Int
 at':Int
 found:Int
 word:Int
structure FNS where
 pred:Int
 pw:Int
 curr:Int
 cw:Int
 tries:Int
 ul:List Int
 ab:Bool
 me:Int
 frm:Int
 key:Int
 limit:Int
 at':Int
 moved:Int
 cl:CLS
structure FTS where
 code:Int
 okk:Bool
 val:Int
 failed:Bool
 tries:Int
 sh:Int
 kd:Int
 ky:Int
 most:Int
 at':Int
 p:PLN
 fn:FNS
 cl:CLS
 pr:PRS
structure HPS where
 u:Int
 no:Int
 rounds:Int
 limit:Int
 at':Int
 found:Int
 sh:Int
 kd:Int
 ky:Int
 p:PLN
 ex:EXS
 en:ENS
 fn:FNS
 cl:CLS
 pr:PRS
structure DOS where
 code:Int
 okk:Bool
 val:Int
 slow:Bool
 sh:Int
 kd:Int
 ky:Int
 limit:Int
 at':Int
 hd:HDS
 hp:HPS
 en:ENS
 ft:FTS
 an:ANS
 aw:AWS
 fn:FNS
 dr:DRS
 sw:SWS
structure HST where
 ev:List (List Int)
 cl:List (List Int)
 n0:Int
 n1:Int
 n2:Int
 n3:Int
 n4:Int
 n5:Int
 n6:Int
 n7:Int
structure UA where
 t:Int
 n:Int
 st:STS
 tk:List (List Int)
 en:Int
 b:Bool
 d:DOS
 tl:List Int
 sl:List Int
structure EGS where
 sh:Int
 th:Int
 nd:Int
 tr:Int
 s:MS
 h:HST
 ws:List UA
 k:Int
instance:Inhabited PLN:=⟨⟨false,0,false,0,0,0,0,false,0⟩⟩
instance:Inhabited HST:=⟨⟨[],[],0,0,0,0,0,0,0,0⟩⟩
abbrev bU:CLS:=⟨0,0,0,0⟩
abbrev gS:PRS:=⟨0,0,0,false⟩
abbrev QB:SWS:=⟨0,[],[],0,[],[],[],0,0⟩
abbrev aAk:PLN:=⟨false,0,false,0,0,0,0,false,0⟩
abbrev cF:ENS:=⟨0,false,false,⟨0,0,0,0,false⟩,⟨0,[],[],0,[],[],[],0,0⟩⟩
abbrev cN:EXS:=⟨0,0,0,0,0,0,false,0,0,0,0⟩
abbrev cR:FNS:=⟨0,0,0,0,0,[],false,0,0,0,0,0,0,⟨0,0,0,0⟩⟩
abbrev YN:FTS:=⟨0,false,0,false,0,0,0,0,0,0,⟨false,0,false,0,0,0,0,false,0⟩,⟨0,0,0,0,0,[],false,0,0,0,0,0,0,⟨0,0,0,0⟩⟩,⟨0,0,0,0⟩,⟨0,0,0,false⟩⟩
abbrev YO:HPS:=⟨0,0,0,0,0,0,0,0,0,⟨false,0,false,0,0,0,0,false,0⟩,⟨0,0,0,0,0,0,false,0,0,0,0⟩,⟨0,false,false,⟨0,0,0,0,false⟩,⟨0,[],[],0,[],[],[],0,0⟩⟩,⟨0,0,0,0,0,[],false,0,0,0,0,0,0,⟨0,0,0,0⟩⟩,⟨0,0,0,0⟩,⟨0,0,0,false⟩⟩
abbrev YM:DOS:=⟨0,false,0,false,0,0,0,0,0,⟨0,0,0,false⟩,⟨0,0,0,0,0,0,0,0,0,⟨false,0,false,0,0,0,0,false,0⟩,⟨0,0,0,0,0,0,false,0,0,0,0⟩,⟨0,false,false,⟨0,0,0,0,false⟩,⟨0,[],[],0,[],[],[],0,0⟩⟩,⟨0,0,0,0,0,[],false,0,0,0,0,0,0,⟨0,0,0,0⟩⟩,⟨0,0,0,0⟩,⟨0,0,0,false⟩⟩,⟨0,false,false,⟨0,0,0,0,false⟩,⟨0,[],[],0,[],[],[],0,0⟩⟩,⟨0,false,0,false,0,0,0,0,0,0,⟨false,0,false,0,0,0,0,false,0⟩,⟨0,0,0,0,0,[],false,0,0,0,0,0,0,⟨0,0,0,0⟩⟩,⟨0,0,0,0⟩,⟨0,0,0,false⟩⟩,⟨0,0,0,0,false,0⟩,⟨0,false,0,0⟩,⟨0,0,0,0,0,[],false,0,0,0,0,0,0,⟨0,0,0,0⟩⟩,⟨0,0⟩,⟨0,[],[],0,[],[],[],0,0⟩⟩
structure STN where
 t:Int
 n:Int
 st:STS
inductive Mc where
 | sweep (t n:Int) (y:SWS)
 | ensure (t n:Int) (e:ENS)
 | store (t n:Int) (s:STS)
 | clear (t n:Int) (x:CLS)
 | prepare (t n:Int) (x:PRS)
 | head (t n:Int) (x:HDS)
 | drop (t n:Int) (x:DRS)
 | announce (t n:Int) (x:ANS)
 | answer (t n:Int) (x:AWS)
 | exec (t n:Int) (x:EXS)
 | find (t n:Int) (x:FNS)
 | fast (t n:Int) (x:FTS)
 | help (t n:Int) (x:HPS)
 | doer (t n:Int) (x:DOS)
 | hist (x:HST)
 | worker (x:UA)
 | wrow (ws:List UA)
 | whole (ws:List UA) (i:Nat)
 | strow (ws:List STN)
 | sthole (ws:List STN) (i:Nat)
 | srow (ws:List (List Int))
 | shole (ws:List (List Int)) (i:Nat)
 | engine (x:EGS)
abbrev Ob:=Mc
def TG(t n:Int)(x:AL):Option (aG Mc):=some (.cells [.int .i64 t,.int .i64 n,.int .i64 x.got,.int .i64 x.at',.int .i64 x.left,.int .u64 x.found,.bool x.free])
def O6(t n:Int)(y:SWS):aD Mc:=match y.ph with
 | 0=>[some (.cells [.ptr 1 0,.raw (.pointer none)]),none]
 | 1=>[some (.cells [.ptr 1 0,.ptr 2 0]),none,some (.cells [.int .i64 t,.int .i64 n,.raw (.slice none 0 0),.raw (.slice none 0 0),.slice 3 0 y.N.length 1,.map 4,.int .i64 y.i,.raw (.pointer none)]),some (.ints (some .i64) y.N),some (.imap .i64 none y.m)]
 | 2=>[some (.cells [.ptr 1 0,.ptr 2 0]),none,some (.cells [.int .i64 t,.int .i64 n,.slice 3 0 y.ks.length 1,.slice 4 0 y.fs.length 1,.slice 5 0 y.N.length 1,.map 6,.int .i64 y.i,.ptr 7 0]),some (.ints (some .i64) y.ks),some (.ints (some .i64) y.fs),some (.ints (some .i64) y.N),some (.imap .i64 none y.m),some (.cells [.int .i64 t,.int .i64 n,.slice 8 y.j y.l 1]),some (.ints (some .i64) y.gs)]
 | _=>[some (.cells [.ptr 1 0,.O]),none]
def GO(t n:Int)(e:ENS):aD Mc:=match e.ph with
 | 0=>[some (.cells [.ptr 1 0,.bool e.sh,.raw (.pointer none),.raw (.pointer none),.bool e.dn]),none]
 | 1=>[some (.cells [.ptr 1 0,.bool e.sh,.ptr 2 0,.raw (.pointer none),.bool e.dn]),none,TG t n e.x]
 | 2=>[some (.cells [.ptr 1 0,.bool e.sh,.ptr 2 0,.ptr 3 0,.bool e.dn]),none,TG t n e.x,some (.cells [.ptr 1 0,.raw (.pointer none)])]
 | 3=>[some (.cells [.ptr 1 0,.bool e.sh,.ptr 2 0,.ptr 3 0,.bool e.dn]),none,TG t n e.x,some (.cells [.ptr 1 0,.ptr 4 0]),some (.cells [.int .i64 t,.int .i64 n,.raw (.slice none 0 0),.raw (.slice none 0 0),.slice 5 0 e.y.N.length 1,.map 6,.int .i64 e.y.i,.raw (.pointer none)]),some (.ints (some .i64) e.y.N),some (.imap .i64 none e.y.m)]
 | _=>[some (.cells [.ptr 1 0,.bool e.sh,.ptr 2 0,.ptr 3 0,.bool e.dn]),none,TG t n e.x,some (.cells [.ptr 1 0,.ptr 4 0]),some (.cells [.int .i64 t,.int .i64 n,.slice 5 0 e.y.ks.length 1,.slice 6 0 e.y.fs.length 1,.slice 7 0 e.y.N.length 1,.map 8,.int .i64 e.y.i,.ptr 9 0]),some (.ints (some .i64) e.y.ks),some (.ints (some .i64) e.y.fs),some (.ints (some .i64) e.y.N),some (.imap .i64 none e.y.m),some (.cells [.int .i64 t,.int .i64 n,.slice 10 e.y.j e.y.l 1]),some (.ints (some .i64) e.y.gs)]
def iU(t n:Int)(s:STS):aD Mc:=[some (.cells [.int .i64 t,.int .i64 n,.int .i64 s.me,.int .i64 s.sp,.slice 1 0 s.R.length 1]),some (.ints (some .i64) s.R)]
theorem cY{a b:Int}(h:a≠b):ieq a b=false:=by
 rw [b9];simpa using h
abbrev l1(t n:Int)(x:CLS):aD Mc:=[some (.cells [.int .i64 t,.int .i64 n,.int .i64 x.addr,.int .i64 x.at',.int .u64 x.word,.int .u64 x.found])]
def UR(t n:Int)(x:CLS):aD Mc:=l1 t n x
abbrev lR(t n:Int)(x:PRS):aD Mc:=[some (.cells [.ptr 1 0,.int .i64 x.key,.int .i64 x.nxt,.int .u64 x.found,.bool x.loaded]),none]
def OL(t n:Int)(x:PRS):aD Mc:=lR t n x
abbrev V7(t n:Int)(x:HDS):aD Mc:=[some (.cells [.int .i64 t,.int .i64 n,.int .i64 x.u,.int .u64 x.no,.int .i64 x.at',.bool x.tk])]
def Y1(t n:Int)(x:HDS):aD Mc:=V7 t n x
abbrev UV(t n:Int)(x:DRS):aD Mc:=[some (.cells [.int .i64 t,.int .i64 n,.int .i64 x.th,.int .i64 x.at'])]
def YQ(t n:Int)(x:DRS):aD Mc:=UV t n x
abbrev fE(t n:Int)(x:ANS):aD Mc:=[some (.cells [.int .i64 t,.int .i64 n,.int .u64 x.no,.int .i64 x.me,.int .i64 x.at',.int .u64 x.bits,.bool x.wrong,.int .u64 x.found])]
def IA(t n:Int)(x:ANS):aD Mc:=fE t n x
abbrev LB(t n:Int)(x:AWS):aD Mc:=[some (.cells [.int .i64 t,.int .i64 n,.int .i64 x.code,.bool x.okk,.int .i64 x.val,.int .i64 x.me])]
def PW(t n:Int)(x:AWS):aD Mc:=LB t n x
abbrev gT(t n:Int)(x:EXS):aD Mc:=[some (.cells [.int .i64 t,.int .i64 n,.int .i64 x.popped,.int .i64 x.gave,.int .i64 x.u,.int .i64 x.sh,.int .i64 x.kd,.int .i64 x.ky,.bool x.only,.int .i64 x.att,.int .i64 x.at',.int .u64 x.found,.int .u64 x.word])]
def YV(t n:Int)(x:EXS):aD Mc:=gT t n x
abbrev kV(t n:Int)(x:FNS):aD Mc:=[some (.cells [.int .i64 t,.int .i64 n,.int .i64 x.pred,.int .u64 x.pw,.int .i64 x.curr,.int .u64 x.cw,.int .i64 x.tries,.slice 1 0 x.ul.length 1,.bool x.ab,.int .i64 x.me,.int .i64 x.frm,.int .i64 x.key,.int .i64 x.limit,.int .i64 x.at',.int .i64 x.moved,.O]),some (.ints (some .i64) x.ul)]
abbrev qF(t n:Int)(x:FNS):aD Mc:=[some (.cells [.int .i64 t,.int .i64 n,.int .i64 x.pred,.int .u64 x.pw,.int .i64 x.curr,.int .u64 x.cw,.int .i64 x.tries,.slice 1 0 x.ul.length 1,.bool x.ab,.int .i64 x.me,.int .i64 x.frm,.int .i64 x.key,.int .i64 x.limit,.int .i64 x.at',.int .i64 x.moved,.ptr 2 0]),some (.ints (some .i64) x.ul),some (.abs (.clear t n x.cl) [])]
def BZ(t n:Int)(x:FNS):aD Mc:=bif ieq x.at' 4 then qF t n x else kV t n x
theorem iI{t n:Int}{x:FNS}(h:x.at'≠4):BZ t n x=kV t n x:=by
 have h4:=h
 unfold BZ
 rw [cY h4];rfl
theorem G0{t n:Int}{x:FNS}(h:x.at'=4):BZ t n x=qF t n x:=by
 unfold BZ;rw [h];rfl
abbrev VH(t n:Int)(x:FTS):aD Mc:=[some (.cells [.ptr 1 0,.int .i64 x.code,.bool x.okk,.int .i64 x.val,.bool x.failed,.int .i64 x.tries,.int .i64 x.sh,.int .i64 x.kd,.int .i64 x.ky,.int .i64 x.most,.int .i64 x.at',.bool x.p.now,.int .i64 x.p.code,.bool x.p.okk,.int .i64 x.p.val,.int .i64 x.p.addr,.int .u64 x.p.old,.int .i64 x.p.nxt,.bool x.p.mark,.int .i64 x.p.pops,.O,.O,.O]),none]
abbrev MJ(t n:Int)(x:FTS):aD Mc:=[some (.cells [.ptr 1 0,.int .i64 x.code,.bool x.okk,.int .i64 x.val,.bool x.failed,.int .i64 x.tries,.int .i64 x.sh,.int .i64 x.kd,.int .i64 x.ky,.int .i64 x.most,.int .i64 x.at',.bool x.p.now,.int .i64 x.p.code,.bool x.p.okk,.int .i64 x.p.val,.int .i64 x.p.addr,.int .u64 x.p.old,.int .i64 x.p.nxt,.bool x.p.mark,.int .i64 x.p.pops,.ptr 2 0,.O,.O]),none,some (.abs (.find t n x.fn) [])]
abbrev MI(t n:Int)(x:FTS):aD Mc:=[some (.cells [.ptr 1 0,.int .i64 x.code,.bool x.okk,.int .i64 x.val,.bool x.failed,.int .i64 x.tries,.int .i64 x.sh,.int .i64 x.kd,.int .i64 x.ky,.int .i64 x.most,.int .i64 x.at',.bool x.p.now,.int .i64 x.p.code,.bool x.p.okk,.int .i64 x.p.val,.int .i64 x.p.addr,.int .u64 x.p.old,.int .i64 x.p.nxt,.bool x.p.mark,.int .i64 x.p.pops,.O,.ptr 2 0,.O]),none,some (.abs (.clear t n x.cl) [])]
abbrev MK(t n:Int)(x:FTS):aD Mc:=[some (.cells [.ptr 1 0,.int .i64 x.code,.bool x.okk,.int .i64 x.val,.bool x.failed,.int .i64 x.tries,.int .i64 x.sh,.int .i64 x.kd,.int .i64 x.ky,.int .i64 x.most,.int .i64 x.at',.bool x.p.now,.int .i64 x.p.code,.bool x.p.okk,.int .i64 x.p.val,.int .i64 x.p.addr,.int .u64 x.p.old,.int .i64 x.p.nxt,.bool x.p.mark,.int .i64 x.p.pops,.O,.O,.ptr 2 0]),none,some (.abs (.prepare t n x.pr) [1])]
def YW(t n:Int)(x:FTS):aD Mc:=bif ieq x.at' 0 then MJ t n x else bif ieq x.at' 1 then MI t n x else bif ieq x.at' 2 then MK t n x else VH t n x
abbrev kX(t n:Int)(x:HPS):aD Mc:=[some (.cells [.ptr 1 0,.int .i64 x.u,.int .u64 x.no,.int .i64 x.rounds,.int .i64 x.limit,.int .i64 x.at',.int .u64 x.found,.int .i64 x.sh,.int .i64 x.kd,.int .i64 x.ky,.bool x.p.now,.int .i64 x.p.code,.bool x.p.okk,.int .i64 x.p.val,.int .i64 x.p.addr,.int .u64 x.p.old,.int .i64 x.p.nxt,.bool x.p.mark,.int .i64 x.p.pops,.O,.O,.O,.O,.O]),none]
abbrev nH(t n:Int)(x:HPS):aD Mc:=[some (.cells [.ptr 1 0,.int .i64 x.u,.int .u64 x.no,.int .i64 x.rounds,.int .i64 x.limit,.int .i64 x.at',.int .u64 x.found,.int .i64 x.sh,.int .i64 x.kd,.int .i64 x.ky,.bool x.p.now,.int .i64 x.p.code,.bool x.p.okk,.int .i64 x.p.val,.int .i64 x.p.addr,.int .u64 x.p.old,.int .i64 x.p.nxt,.bool x.p.mark,.int .i64 x.p.pops,.ptr 2 0,.O,.O,.O,.O]),none,some (.abs (.exec t n x.ex) [])]
abbrev nG(t n:Int)(x:HPS):aD Mc:=[some (.cells [.ptr 1 0,.int .i64 x.u,.int .u64 x.no,.int .i64 x.rounds,.int .i64 x.limit,.int .i64 x.at',.int .u64 x.found,.int .i64 x.sh,.int .i64 x.kd,.int .i64 x.ky,.bool x.p.now,.int .i64 x.p.code,.bool x.p.okk,.int .i64 x.p.val,.int .i64 x.p.addr,.int .u64 x.p.old,.int .i64 x.p.nxt,.bool x.p.mark,.int .i64 x.p.pops,.O,.ptr 2 0,.O,.O,.O]),none,some (.abs (.ensure t n x.en) [1])]
abbrev nI(t n:Int)(x:HPS):aD Mc:=[some (.cells [.ptr 1 0,.int .i64 x.u,.int .u64 x.no,.int .i64 x.rounds,.int .i64 x.limit,.int .i64 x.at',.int .u64 x.found,.int .i64 x.sh,.int .i64 x.kd,.int .i64 x.ky,.bool x.p.now,.int .i64 x.p.code,.bool x.p.okk,.int .i64 x.p.val,.int .i64 x.p.addr,.int .u64 x.p.old,.int .i64 x.p.nxt,.bool x.p.mark,.int .i64 x.p.pops,.O,.O,.ptr 2 0,.O,.O]),none,some (.abs (.find t n x.fn) [])]
abbrev nF(t n:Int)(x:HPS):aD Mc:=[some (.cells [.ptr 1 0,.int .i64 x.u,.int .u64 x.no,.int .i64 x.rounds,.int .i64 x.limit,.int .i64 x.at',.int .u64 x.found,.int .i64 x.sh,.int .i64 x.kd,.int .i64 x.ky,.bool x.p.now,.int .i64 x.p.code,.bool x.p.okk,.int .i64 x.p.val,.int .i64 x.p.addr,.int .u64 x.p.old,.int .i64 x.p.nxt,.bool x.p.mark,.int .i64 x.p.pops,.O,.O,.O,.ptr 2 0,.O]),none,some (.abs (.clear t n x.cl) [])]
abbrev nJ(t n:Int)(x:HPS):aD Mc:=[some (.cells [.ptr 1 0,.int .i64 x.u,.int .u64 x.no,.int .i64 x.rounds,.int .i64 x.limit,.int .i64 x.at',.int .u64 x.found,.int .i64 x.sh,.int .i64 x.kd,.int .i64 x.ky,.bool x.p.now,.int .i64 x.p.code,.bool x.p.okk,.int .i64 x.p.val,.int .i64 x.p.addr,.int .u64 x.p.old,.int .i64 x.p.nxt,.bool x.p.mark,.int .i64 x.p.pops,.O,.O,.O,.O,.ptr 2 0]),none,some (.abs (.prepare t n x.pr) [1])]
def lJ(t n:Int)(x:HPS):aD Mc:=bif ieq x.at' 3 then nH t n x else bif ieq x.at' 4 then nG t n x else bif ieq x.at' 5 then nI t n x else bif ieq x.at' 7 then nF t n x else bif ieq x.at' 8 then nJ t n x else kX t n x
theorem jV{t n:Int}{x:HPS}(h:x.at'≠3∧x.at'≠4∧x.at'≠5∧x.at'≠7∧x.at'≠8):lJ t n x=kX t n x:=by
 have ⟨h3,h4,h5,h7,h8⟩:=h
 unfold lJ
 rw [cY h3,cY h4,cY h5,cY h7,cY h8];rfl
theorem G4{t n:Int}{x:HPS}(h:x.at'=3):lJ t n x=nH t n x:=by
 unfold lJ;rw [h];rfl
theorem G5{t n:Int}{x:HPS}(h:x.at'=4):lJ t n x=nG t n x:=by
 unfold lJ;rw [h];rfl
theorem G6{t n:Int}{x:HPS}(h:x.at'=5):lJ t n x=nI t n x:=by
 unfold lJ;rw [h];rfl
theorem G7{t n:Int}{x:HPS}(h:x.at'=7):lJ t n x=nF t n x:=by
 unfold lJ;rw [h];rfl
theorem G8{t n:Int}{x:HPS}(h:x.at'=8):lJ t n x=nJ t n x:=by
 unfold lJ;rw [h];rfl
abbrev UU(t n:Int)(x:DOS):aD Mc:=[some (.cells [.ptr 1 0,.int .i64 x.code,.bool x.okk,.int .i64 x.val,.bool x.slow,.int .i64 x.sh,.int .i64 x.kd,.int .i64 x.ky,.int .i64 x.limit,.int .i64 x.at',.O,.O,.O,.O,.O,.O,.O,.O,.O]),none]
abbrev L4(t n:Int)(x:DOS):aD Mc:=[some (.cells [.ptr 1 0,.int .i64 x.code,.bool x.okk,.int .i64 x.val,.bool x.slow,.int .i64 x.sh,.int .i64 x.kd,.int .i64 x.ky,.int .i64 x.limit,.int .i64 x.at',.ptr 2 0,.O,.O,.O,.O,.O,.O,.O,.O]),none,some (.abs (.head t n x.hd) [])]
abbrev BM(t n:Int)(x:DOS):aD Mc:=[some (.cells [.ptr 1 0,.int .i64 x.code,.bool x.okk,.int .i64 x.val,.bool x.slow,.int .i64 x.sh,.int .i64 x.kd,.int .i64 x.ky,.int .i64 x.limit,.int .i64 x.at',.O,.ptr 2 0,.O,.O,.O,.O,.O,.O,.O]),none,some (.abs (.help t n x.hp) [1])]
abbrev L0(t n:Int)(x:DOS):aD Mc:=[some (.cells [.ptr 1 0,.int .i64 x.code,.bool x.okk,.int .i64 x.val,.bool x.slow,.int .i64 x.sh,.int .i64 x.kd,.int .i64 x.ky,.int .i64 x.limit,.int .i64 x.at',.O,.O,.ptr 2 0,.O,.O,.O,.O,.O,.O]),none,some (.abs (.ensure t n x.en) [1])]
abbrev L3(t n:Int)(x:DOS):aD Mc:=[some (.cells [.ptr 1 0,.int .i64 x.code,.bool x.okk,.int .i64 x.val,.bool x.slow,.int .i64 x.sh,.int .i64 x.kd,.int .i64 x.ky,.int .i64 x.limit,.int .i64 x.at',.O,.O,.O,.ptr 2 0,.O,.O,.O,.O,.O]),none,some (.abs (.fast t n x.ft) [1])]
abbrev LX(t n:Int)(x:DOS):aD Mc:=[some (.cells [.ptr 1 0,.int .i64 x.code,.bool x.okk,.int .i64 x.val,.bool x.slow,.int .i64 x.sh,.int .i64 x.kd,.int .i64 x.ky,.int .i64 x.limit,.int .i64 x.at',.O,.O,.O,.O,.ptr 2 0,.O,.O,.O,.O]),none,some (.abs (.announce t n x.an) [])]
abbrev LY(t n:Int)(x:DOS):aD Mc:=[some (.cells [.ptr 1 0,.int .i64 x.code,.bool x.okk,.int .i64 x.val,.bool x.slow,.int .i64 x.sh,.int .i64 x.kd,.int .i64 x.ky,.int .i64 x.limit,.int .i64 x.at',.O,.O,.O,.O,.O,.ptr 2 0,.O,.O,.O]),none,some (.abs (.answer t n x.aw) [])]
abbrev L1(t n:Int)(x:DOS):aD Mc:=[some (.cells [.ptr 1 0,.int .i64 x.code,.bool x.okk,.int .i64 x.val,.bool x.slow,.int .i64 x.sh,.int .i64 x.kd,.int .i64 x.ky,.int .i64 x.limit,.int .i64 x.at',.O,.O,.O,.O,.O,.O,.ptr 2 0,.O,.O]),none,some (.abs (.find t n x.fn) [])]
abbrev LZ(t n:Int)(x:DOS):aD Mc:=[some (.cells [.ptr 1 0,.int .i64 x.code,.bool x.okk,.int .i64 x.val,.bool x.slow,.int .i64 x.sh,.int .i64 x.kd,.int .i64 x.ky,.int .i64 x.limit,.int .i64 x.at',.O,.O,.O,.O,.O,.O,.O,.ptr 2 0,.O]),none,some (.abs (.drop t n x.dr) [])]
abbrev L5(t n:Int)(x:DOS):aD Mc:=[some (.cells [.ptr 1 0,.int .i64 x.code,.bool x.okk,.int .i64 x.val,.bool x.slow,.int .i64 x.sh,.int .i64 x.kd,.int .i64 x.ky,.int .i64 x.limit,.int .i64 x.at',.O,.O,.O,.O,.O,.O,.O,.O,.ptr 2 0]),none,some (.abs (.sweep t n x.sw) [1])]
def YP(t n:Int)(x:DOS):aD Mc:=bif ieq x.at' 0 then L4 t n x else bif ieq x.at' 1 then BM t n x else bif ieq x.at' 5 then BM t n x else bif ieq x.at' 2 then L0 t n x else bif ieq x.at' 3 then L3 t n x else bif ieq x.at' 4 then LX t n x else bif ieq x.at' 6 then LY t n x else bif ieq x.at' 7 then L1 t n x else bif ieq x.at' 8 then LZ t n x else bif ieq x.at' 9 then L5 t n x else UU t n x
abbrev evK:List Code1:=[some .i64,none,some .i64,some .i64,some .i64,none,some .i64]
abbrev clK:List Code1:=[some .i64,some .i64,some .i64,some .i64,some .i64,some .i64,some .i64,none,some .i64]
abbrev tkK:List Code1:=[some .i64,some .i64,some .i64]
def hiG(x:HST):aD Mc:=[some (.cells [.tslice 1 0 x.ev.length 7,.tslice 2 0 x.cl.length 9,.int .i64 x.n0,.int .i64 x.n1,.int .i64 x.n2,.int .i64 x.n3,.int .i64 x.n4,.int .i64 x.n5,.int .i64 x.n6,.int .i64 x.n7]),some (.tab evK x.ev),some (.tab clK x.cl)]
abbrev aAE(x:UA):aD Mc:=[some (.cells [.ptr 1 0,.tslice 2 0 x.tk.length 3,.int .i64 x.en,.raw (.pointer none),.slice 3 0 x.tl.length 1,.slice 4 0 x.sl.length 1]),some (.abs (.store x.t x.n x.st) []),some (.tab tkK x.tk),some (.ints (some .i64) x.tl),some (.ints (some .i64) x.sl)]
abbrev aAF(x:UA):aD Mc:=[some (.cells [.ptr 1 0,.tslice 2 0 x.tk.length 3,.int .i64 x.en,.ptr 3 0,.slice 4 0 x.tl.length 1,.slice 5 0 x.sl.length 1]),some (.abs (.store x.t x.n x.st) []),some (.tab tkK x.tk),some (.abs (.doer x.t x.n x.d) [1]),some (.ints (some .i64) x.tl),some (.ints (some .i64) x.sl)]
def wkG(x:UA):aD Mc:=bif x.b then aAF x else aAE x
def egG(x:EGS):aD Mc:=[some (.cells [.int .i64 x.sh,.int .i64 x.th,.int .i64 x.nd,.int .i64 x.tr,.ptr 1 0,.ptr 3 0,.slice 4 0 x.ws.length 1,.int .i64 x.k]),some (.cells [.int .i64 x.s.t,.int .i64 x.s.n,.slice 2 0 x.s.xs.length 1,.int .i64 x.s.c,.int .i64 x.s.k,.int .i64 x.s.a,.int .u64 x.s.o,.int .u64 x.s.w,.bool x.s.ok]),some (.ints (some .u64) x.s.xs),some (.abs (.hist x.h) []),some (.abs (.wrow x.ws) [])]
def ZA:H0 Mc where
 X:=List Int
 hd:=fun k xs=>.slice k 0 xs.length 1
 en:=fun xs=>.ints (some .i64) xs
def tbl:Mc→Nat×aD Mc
 | .sweep t n y=>(1,O6 t n y)
 | .ensure t n e=>(1,GO t n e)
 | .store t n s=>(0,iU t n s)
 | .clear t n x=>(0,UR t n x)
 | .prepare t n x=>(1,OL t n x)
 | .head t n x=>(0,Y1 t n x)
 | .drop t n x=>(0,YQ t n x)
 | .announce t n x=>(0,IA t n x)
 | .answer t n x=>(0,PW t n x)
 | .exec t n x=>(0,YV t n x)
 | .find t n x=>(0,BZ t n x)
 | .fast t n x=>(1,YW t n x)
 | .help t n x=>(1,lJ t n x)
 | .doer t n x=>(1,YP t n x)
 | .hist x=>(0,hiG x)
 | .worker x=>(0,wkG x)
 | .wrow ws=>(0,rowE (ws.map fun w=>some (.worker w)))
 | .whole ws i=>(1,lK (ws.map fun w=>some (.worker w)) i)
 | .strow ws=>(0,rowE (ws.map fun w=>some (.store w.t w.n w.st)))
 | .sthole ws i=>(1,lK (ws.map fun w=>some (.store w.t w.n w.st)) i)
 | .engine x=>(0,egG x)
 | .srow ws=>(0,kC ZA ws)
 | .shole ws i=>(1,iY ZA ws i)
def memH(s:MS):aD Ob:=[some (.cells [.int .i64 s.t,.int .i64 s.n,.slice 1 0 s.xs.length 1,.int .i64 s.c,.int .i64 s.k,.int .i64 s.a,.int .u64 s.o,.int .u64 s.w,.bool s.ok]),some (.ints (some .u64) s.xs)]
noncomputable def E0:pZ Ob Tryz.prog where
 I:=obI tbl
 cps:=fun _=>none
 det:=fun _=>none
 meth:=FG Tryz.prog
 cpsOk:=by intro f S h;cases h
 detOk:=by intro f S h;cases h
 methOk:=fun t n f h v w _=>FH h v w
theorem aP{b:Bool}{X Y:Prop}(h1:b=true→X)(h2:b=false→Y):cond b X Y:=DZ h1 h2
def laySizeS:aM Ob:=fun args h=>match args,h with
 | [.agg [.int .i64 t,.int .i64 n]],[]=>some (.pre ((0≤t∧t≤100000)∧(0≤n∧n≤100000)) (.ret (.int .i64 (2*n+5*t+6)) []))
 | _,_=>none
theorem FA:aM.ok E0.I Tryz.prog 130 laySizeS:=by
 intro args h o ho K hK
 unfold laySizeS at ho
 split at ho<;>cases ho
 rename_i t n
 obtain⟨hp,hK⟩:=hK
 have hK:K (.int .i64 (2*n+5*t+6)) []:=hK
 refine aBs (aE (E:=E0) Tryz.checked.mixed (L:=fun _ _=>none) (n:=10) (aR (q:=K (.int .i64 (W (W (W (W (W (W (W (W (W (1+n)+4)+W (n+1)) - 1)+W (2*t))+0)+W (3*t))+0)+1))) []) (by kernel_rfl) ?_))
 simp(disch:=omega) only [W,cU]
 refine cast (congrArg (fun z=>K (AVal.int .i64 z) []) ?_) hK
 omega
def layLifeS:aM Ob:=fun args h=>match args,h with
 | [.agg [.int .i64 t,.int .i64 n],.int .i64 a],[]=>some (.pre ((0≤t∧t≤100000)∧(0≤n∧n≤100000)∧(-1099511627776≤a∧a≤1099511627776)) (.ret (.int .i64 (n+4+a)) []))
 | _,_=>none
theorem EX:aM.ok E0.I Tryz.prog 45 layLifeS:=by
 intro args h o ho K hK
 unfold layLifeS at ho
 split at ho<;>cases ho
 rename_i t n a
 obtain⟨hp,hK⟩:=hK
 have hK:K (.int .i64 (n+4+a)) []:=hK
 refine aBs (aE (E:=E0) Tryz.checked.mixed (L:=fun _ _=>none) (n:=10) (aR (q:=K (.int .i64 (W (W (W (W (1+n)+4)+a) - 1))) []) (by kernel_rfl) ?_))
 simp(disch:=omega) only [W,cU]
 refine cast (congrArg (fun z=>K (AVal.int .i64 z) []) ?_) hK
 omega
def laySlotS:aM Ob:=fun args h=>match args,h with
 | [.agg [.int .i64 t,.int .i64 n],.int .i64 a,.int .i64 b],[]=>some (.pre ((0≤t∧t≤100000)∧(0≤n∧n≤100000)∧(-1099511627776≤a∧a≤1099511627776)∧(-1099511627776≤b∧b≤1099511627776)) (.ret (.int .i64 (2*n+5+2*a+b)) []))
 | _,_=>none
theorem FB:aM.ok E0.I Tryz.prog 152 laySlotS:=by
 intro args h o ho K hK
 unfold laySlotS at ho
 split at ho<;>cases ho
 rename_i t n a b
 obtain⟨hp,hK⟩:=hK
 have hK:K (.int .i64 (2*n+5+2*a+b)) []:=hK
 refine aBs (aE (E:=E0) Tryz.checked.mixed (L:=fun _ _=>none) (n:=10) (aR (q:=K (.int .i64 (W (W (W (W (W (W (1+n)+4)+W (n+1)) - 1)+W (2*a))+b))) []) (by kernel_rfl) ?_))
 simp(disch:=omega) only [W,cU]
 refine cast (congrArg (fun z=>K (AVal.int .i64 z) []) ?_) hK
 omega
def layDescS:aM Ob:=fun args h=>match args,h with
 | [.agg [.int .i64 t,.int .i64 n],.int .i64 a],[]=>some (.pre ((0≤t∧t≤100000)∧(0≤n∧n≤100000)∧(-1099511627776≤a∧a≤1099511627776)) (.ret (.int .i64 (2*n+5+2*t+3*a+2)) []))
 | _,_=>none
theorem EW:aM.ok E0.I Tryz.prog 103 layDescS:=by
 intro args h o ho K hK
 unfold layDescS at ho
 split at ho<;>cases ho
 rename_i t n a
 obtain⟨hp,hK⟩:=hK
 have hK:K (.int .i64 (2*n+5+2*t+3*a+2)) []:=hK
 refine aBs (aE (E:=E0) Tryz.checked.mixed (L:=fun _ _=>none) (n:=10) (aR (q:=K (.int .i64 (W (W (W (W (W (W (W (W (1+n)+4)+W (n+1)) - 1)+W (2*t))+0)+W (3*a))+2))) []) (by kernel_rfl) ?_))
 simp(disch:=omega) only [W,cU]
 refine cast (congrArg (fun z=>K (AVal.int .i64 z) []) ?_) hK
 omega
def layTaskS:aM Ob:=fun args h=>match args,h with
 | [.agg [.int .i64 t,.int .i64 n],.int .i64 a],[]=>some (.pre ((0≤t∧t≤100000)∧(0≤n∧n≤100000)∧(-1099511627776≤a∧a≤1099511627776)) (.ret (.int .i64 (2*n+5+2*t+3*a+1)) []))
 | _,_=>none
theorem FD:aM.ok E0.I Tryz.prog 112 layTaskS:=by
 intro args h o ho K hK
 unfold layTaskS at ho
 split at ho<;>cases ho
 rename_i t n a
 obtain⟨hp,hK⟩:=hK
 have hK:K (.int .i64 (2*n+5+2*t+3*a+1)) []:=hK
 refine aBs (aE (E:=E0) Tryz.checked.mixed (L:=fun _ _=>none) (n:=10) (aR (q:=K (.int .i64 (W (W (W (W (W (W (W (W (1+n)+4)+W (n+1)) - 1)+W (2*t))+0)+W (3*a))+1))) []) (by kernel_rfl) ?_))
 simp(disch:=omega) only [W,cU]
 refine cast (congrArg (fun z=>K (AVal.int .i64 z) []) ?_) hK
 omega
def layTicketS:aM Ob:=fun args h=>match args,h with
 | [.agg [.int .i64 t,.int .i64 n],.int .i64 a],[]=>some (.pre ((0≤t∧t≤100000)∧(0≤n∧n≤100000)∧(-1099511627776≤a∧a≤1099511627776)) (.ret (.int .i64 (2*n+5+2*t+3*a)) []))
 | _,_=>none
theorem z5:aM.ok E0.I Tryz.prog 110 layTicketS:=by
 intro args h o ho K hK
 unfold layTicketS at ho
 split at ho<;>cases ho
 rename_i t n a
 obtain⟨hp,hK⟩:=hK
 have hK:K (.int .i64 (2*n+5+2*t+3*a)) []:=hK
 refine aBs (aE (E:=E0) Tryz.checked.mixed (L:=fun _ _=>none) (n:=10) (aR (q:=K (.int .i64 (W (W (W (W (W (W (W (W (1+n)+4)+W (n+1)) - 1)+W (2*t))+0)+W (3*a))+0))) []) (by kernel_rfl) ?_))
 simp(disch:=omega) only [W,cU]
 refine cast (congrArg (fun z=>K (AVal.int .i64 z) []) ?_) hK
 omega
def layCounterS:aM Ob:=fun args h=>match args,h with
 | [.agg [.int .i64 t,.int .i64 n]],[]=>some (.pre ((0≤t∧t≤100000)∧(0≤n∧n≤100000)) (.ret (.int .i64 (2*n+5+2*t+3*t)) []))
 | _,_=>none
theorem wZ:aM.ok E0.I Tryz.prog 61 layCounterS:=by
 intro args h o ho K hK
 unfold layCounterS at ho
 split at ho<;>cases ho
 rename_i t n
 obtain⟨hp,hK⟩:=hK
 have hK:K (.int .i64 (2*n+5+2*t+3*t)) []:=hK
 refine aBs (aE (E:=E0) Tryz.checked.mixed (L:=fun _ _=>none) (n:=10) (aR (q:=K (.int .i64 (W (W (W (W (W (W (W (W (1+n)+4)+W (n+1)) - 1)+W (2*t))+0)+W (3*t))+0))) []) (by kernel_rfl) ?_))
 simp(disch:=omega) only [W,cU]
 refine cast (congrArg (fun z=>K (AVal.int .i64 z) []) ?_) hK
 omega
def slotsS:aM Ob:=fun args h=>match args,h with
 | [.agg [.int .i64 t,.int .i64 n]],[]=>some (.pre ((0≤t∧t≤100000)∧(0≤n∧n≤100000)) (.ret (.int .i64 (2*t)) []))
 | _,_=>none
theorem OY:aM.ok E0.I Tryz.prog 181 slotsS:=by
 intro args h o ho K hK
 unfold slotsS at ho
 split at ho<;>cases ho
 rename_i t n
 obtain⟨hp,hK⟩:=hK
 have hK:K (.int .i64 (2*t)) []:=hK
 refine aBs (aE (E:=E0) Tryz.checked.mixed (L:=fun _ _=>none) (n:=10) (aR (q:=K (.int .i64 (W (2*t))) []) (by kernel_rfl) ?_))
 simp(disch:=omega) only [W,cU]
 refine cast (congrArg (fun z=>K (AVal.int .i64 z) []) ?_) hK
 omega
def gI(t n:Int):Bool:=ile 1 t&&ile t 8&&ile 1 n&&ile n 200
theorem kP{t n:Int} :gI t n=true↔1≤t∧t≤8∧1≤n∧n≤200:=by
 unfold gI;simp only [cE,Bool.and_eq_true,dT'];omega
def bQ(n a:Int):Bool:=ile 1 a&&ile a n
theorem vY{n a:Int} :bQ n a=true↔1≤a∧a≤n:=by
 unfold bQ;simp only [cE,Bool.and_eq_true,dT']
def layRightS:aM Ob:=fun args h=>match args,h with
 | [.agg [.int .i64 t,.int .i64 n]],[]=>some (.pre (True) (.ret (.bool (gI t n)) []))
 | _,_=>none
theorem CD:aM.ok E0.I Tryz.prog 129 layRightS:=by
 intro args h o ho K hK
 unfold layRightS at ho
 split at ho<;>cases ho
 rename_i t n
 obtain⟨hp,hK⟩:=hK
 have hK:K (.bool (gI t n)) []:=hK
 refine aBs (aE (E:=E0) Tryz.checked.mixed (L:=fun _ _=>none) (n:=10) (aR (q:=bif ile 1 t then bif ile t 8 then bif ile 1 n then K (.bool (ile n 200)) []else K (.bool false) []else K (.bool false) []else K (.bool false) []) (by kernel_rfl) ?_))
 unfold gI at hK
 refine aP (fun e1=>aP (fun e2=>aP (fun e3=>?_) (fun e3=>?_)) (fun e2=>?_)) (fun e1=>?_)
 all_goals (simp only [*,Bool.true_and,Bool.false_and,Bool.and_false]at hK;exact hK)
def layNodeS:aM Ob:=fun args h=>match args,h with
 | [.agg [.int .i64 t,.int .i64 n],.int .i64 a],[]=>some (.pre (True) (.ret (.bool (bQ n a)) []))
 | _,_=>none
theorem EY:aM.ok E0.I Tryz.prog 123 layNodeS:=by
 intro args h o ho K hK
 unfold layNodeS at ho
 split at ho<;>cases ho
 rename_i t n a
 obtain⟨hp,hK⟩:=hK
 have hK:K (.bool (bQ n a)) []:=hK
 refine aBs (aE (E:=E0) Tryz.checked.mixed (L:=fun _ _=>none) (n:=10) (aR (q:=bif ile 1 a then K (.bool (ile a n)) []else K (.bool false) []) (by kernel_rfl) ?_))
 unfold bQ at hK
 refine aP (fun e1=>?_) (fun e1=>?_)
 all_goals (simp only [*,Bool.true_and,Bool.false_and,Bool.and_false]at hK;exact hK)
noncomputable def E1:=(((((((((E0.addS 130 laySizeS FA).addS 45 layLifeS EX).addS 152 laySlotS FB).addS 103 layDescS EW).addS 112 layTaskS FD).addS 110 layTicketS z5).addS 61 layCounterS wZ).addS 181 slotsS OY).addS 129 layRightS CD).addS 123 layNodeS EY
def aB(xs:List Int)(a:Int):Int:=if 0≤a∧a<xs.length then xs.getD a.toNat 0 else 0
theorem HM{xs:List Int}{a:Int}(h:0≤a∧a<xs.length):aB xs a=xs.getD a.toNat 0:=if_pos h
theorem iN{xs:List Int}{a:Int}(h: ¬(0≤a∧a<xs.length)):aB xs a=0:=if_neg h
def bL(xs:List Int)(a:Int):Bool:=ile 0 a&&ilt a (xs.length:Int)
theorem lM{xs:List Int}{a:Int} :bL xs a=true↔0≤a∧a<xs.length:=by
 unfold bL;simp only [cE,bS,Bool.and_eq_true,dT']
def aAy(xs:List Int)(a x:Int):List Int:=xs.set a.toNat x
def MS.did(s:MS)(k a w:Int)(ok:Bool)(xs:List Int):MS:= {s with xs:=xs,c:=s.c+1,k:=k,a:=a,o:=aB s.xs a,w:=w,ok:=ok}
def MS.load(s:MS)(a:Int):MS:=s.did 1 a (aB s.xs a) (bL s.xs a) s.xs
def MS.store(s:MS)(a x:Int):MS:=bif bL s.xs a then s.did 2 a x true (aAy s.xs a x)else s.did 2 a 0 false s.xs
def pR(h:aD Ob):Option (Nat×MS):=match h with
 | [some (.cells [.int .i64 t,.int .i64 n,.slice 1 0 len 1,.int .i64 c,.int .i64 k,.int .i64 a,.int .u64 o,.int .u64 w,.bool ok]),some (.ints (some .u64) xs)]=>some (len,⟨t,n,xs,c,k,a,o,w,ok⟩)
 | _=>none
theorem lQ{h:aD Ob}{l:Nat}{s:MS}(e:pR h=some (l,s))(hl:l=s.xs.length):h=memH s:=by
 unfold pR at e
 split at e
 ·simp only [sI',pI']at e
  obtain⟨rfl,rfl⟩:=e
  simp only at hl;subst hl;rfl
 ·cases e
theorem vX(x:Nat):0+x*1=x:=by omega
def peekS:aM Ob:=fun args h=>match args,pR h with
 | [.ptr 0 0,.int .i64 a],some (l,s)=>some (.pre (l=s.xs.length∧True) (.ret (.int .u64 (aB s.xs a)) (memH (s))))
 | _,_=>none
theorem R5:aM.ok E1.I Tryz.prog 60 peekS:=by
 intro args h o ho K hK
 unfold peekS at ho
 split at ho<;>cases ho
 rename_i a l s hm
 obtain⟨⟨hl,hp⟩,hK⟩:=hK
 have hh:=lQ hm hl
 subst hh
 have hK:K (.int .u64 (aB s.xs a)) (memH (s)):=hK
 refine aBs (aE (E:=E1) Tryz.checked.mixed (L:=fun _ _=>none) (n:=10) (aR (q:=bif ilt a 0 then K (.int .u64 0) [some (.cells [.int .i64 s.1,.int .i64 s.2,.slice 1 0 (List.length s.3) 1,.int .i64 s.4,.int .i64 s.5,.int .i64 s.6,.int .u64 s.7,.int .u64 s.8,.bool s.9]),some (.ints (some .u64) s.3)]else bif ile (↑(List.length s.3):Int) a then K (.int .u64 0) [some (.cells [.int .i64 s.1,.int .i64 s.2,.slice 1 0 (List.length s.3) 1,.int .i64 s.4,.int .i64 s.5,.int .i64 s.6,.int .u64 s.7,.int .u64 s.8,.bool s.9]),some (.ints (some .u64) s.3)]else((0:Int)≤a∧a<(↑(List.length s.3):Int))∧0+Int.toNat a*(1:Nat)<List.length s.3∧K (.int .u64 (List.getD s.3 (0+Int.toNat a*1) 0)) [some (.cells [.int .i64 s.1,.int .i64 s.2,.slice 1 0 (List.length s.3) 1,.int .i64 s.4,.int .i64 s.5,.int .i64 s.6,.int .u64 s.7,.int .u64 s.8,.bool s.9]),some (.ints (some .u64) s.3)]) (by kernel_rfl) ?_))
 refine aP (fun e1=>?_) (fun e1=>aP (fun e2=>?_) (fun e2=>?_))
 ·rw [bS,dT']at e1
  rw [iN (by omega)]at hK;exact hK
 ·rw [cE,dT']at e2
  rw [iN (by omega)]at hK;exact hK
 ·rw [bS,dF']at e1
  rw [cE,dF']at e2
  refine⟨by omega,by omega,?_⟩
  rw [HM (by omega)]at hK
  rw [vX];exact hK
noncomputable def E2:=(((E1.addS 60 peekS R5)))
def aJ(xs:List Int)(a x:Int):List Int:=if 0≤a∧a<xs.length then xs.set a.toNat x else xs
theorem bO(xs:List Int)(a x:Int):(aJ xs a x).length =xs.length:=by unfold aJ;split<;>simp
theorem uF{xs:List Int}{a x:Int}(h:0≤a∧a<xs.length):aJ xs a x=xs.set a.toNat x:=if_pos h
theorem nS{xs:List Int}{a x:Int}(h: ¬(0≤a∧a<xs.length)):aJ xs a x=xs:=if_neg h
theorem f6{xs:List Int}{a:Int}(h: ¬(0≤a∧a<xs.length)):bL xs a=false:=by
 cases e:bL xs a with
 | false=>rfl
 | true=>exact(h (lM.1 e)).elim
theorem OV{xs:List Int}{a:Int}(h:0≤a∧a<xs.length):xs.set a.toNat (aB xs a)=xs:=by
 rw [HM h]
 apply List.ext_getElem?
 intro i
 rw [List.getElem?_set]
 by_cases hi:a.toNat=i
 ·subst hi
  have:a.toNat<xs.length:=by omega
  simp [this]
 ·simp [hi]
def MS.loadd(s:MS)(a:Int):MS:=s.did 1 a (aB s.xs a) (bL s.xs a) s.xs
def MS.stored(s:MS)(a x:Int):MS:=s.did 2 a (bif bL s.xs a then x else 0) (bL s.xs a) (aJ s.xs a x)
def aS(xs:List Int)(a x:Int):Bool:=bL xs a&&ieq (aB xs a) x
def MS.cased(s:MS)(a x y:Int):MS:=s.did 3 a (bif bL s.xs a then y else 0) (aS s.xs a x) (bif aS s.xs a x then aJ s.xs a y else s.xs)
def MS.added(s:MS)(a x:Int):MS:=s.did 4 a (bif bL s.xs a then IntKind.wrap .u64 (aB s.xs a+x)else 0) (bL s.xs a) (aJ s.xs a (IntKind.wrap .u64 (aB s.xs a+x)))
theorem qX(s:MS)(k a w:Int)(ok:Bool)(xs:List Int)(h:xs.length=s.xs.length):memH (s.did k a w ok xs)=[some (.cells [.int .i64 s.t,.int .i64 s.n,.slice 1 0 s.xs.length 1,.int .i64 (s.c+1),.int .i64 k,.int .i64 a,.int .u64 (aB s.xs a),.int .u64 w,.bool ok]),some (.ints (some .u64) xs)]:=by
 unfold memH MS.did
 simp only [h]
def loadS:aM Ob:=fun args h=>match args,pR h with
 | [.ptr 0 0,.int .i64 a],some (l,s)=>some (.pre (l=s.xs.length∧(0≤s.c∧s.c≤4611686018427387904)) (.ret (.int .u64 (aB s.xs a)) (memH (s.loadd a))))
 | _,_=>none
theorem load_ok:aM.ok E2.I Tryz.prog 93 loadS:=by
 intro args h o ho K hK
 unfold loadS at ho
 split at ho<;>cases ho
 rename_i a l s hm
 obtain⟨⟨hl,hp⟩,hK⟩:=hK
 have hh:=lQ hm hl
 subst hh
 have hK:K (.int .u64 (aB s.xs a)) (memH (s.loadd a)):=hK
 refine aBs (aE (E:=E2) Tryz.checked.mixed (L:=fun _ _=>none) (n:=10) (aR (q:=(lE' s.3∧True)∧bif ilt a 0 then K (.int .u64 (aB s.3 a)) [some (.cells [.int .i64 s.1,.int .i64 s.2,.slice 1 0 (List.length s.3) 1,.int .i64 (W (s.4+1)),.int .i64 1,.int .i64 a,.int .u64 (aB s.3 a),.int .u64 (aB s.3 a),.bool false]),some (.ints (some .u64) s.3)]else bif ile (↑(List.length s.3):Int) a then K (.int .u64 (aB s.3 a)) [some (.cells [.int .i64 s.1,.int .i64 s.2,.slice 1 0 (List.length s.3) 1,.int .i64 (W (s.4+1)),.int .i64 1,.int .i64 a,.int .u64 (aB s.3 a),.int .u64 (aB s.3 a),.bool false]),some (.ints (some .u64) s.3)]else((0:Int)≤a∧a<(↑(List.length s.3):Int))∧0+Int.toNat a*(1:Nat)<List.length s.3∧K (.int .u64 (aB s.3 a)) [some (.cells [.int .i64 s.1,.int .i64 s.2,.slice 1 0 (List.length s.3) 1,.int .i64 (W (s.4+1)),.int .i64 1,.int .i64 a,.int .u64 (aB s.3 a),.int .u64 (aB s.3 a),.bool true]),some (.ints (some .u64) (List.set s.3 (0+Int.toNat a*1) (aB s.3 a)))]) (by kernel_rfl) ?_))
 refine⟨⟨rfl,trivial⟩,?_⟩
 have hc:IntKind.wrap .i64 (s.c+1)=s.c+1:=cU (by omega)
 simp only [W,WU,hc,vX]
 unfold MS.loadd at hK
 rw [qX _ _ _ _ _ _ rfl]at hK
 refine aP (fun e1=>?_) (fun e1=>aP (fun e2=>?_) (fun e2=>?_))
 ·rw [bS,dT']at e1
  rw [f6 (by omega)]at hK;exact hK
 ·rw [cE,dT']at e2
  rw [f6 (by omega)]at hK;exact hK
 ·rw [bS,dF']at e1
  rw [cE,dF']at e2
  refine⟨by omega,by omega,?_⟩
  rw [lM.2 (by omega)]at hK
  rw [OV (by omega)];exact hK
def storeS:aM Ob:=fun args h=>match args,pR h with
 | [.ptr 0 0,.int .i64 a,.int .u64 x],some (l,s)=>some (.pre (l=s.xs.length∧(0≤s.c∧s.c≤4611686018427387904)) (.ret (.tup []) (memH (s.stored a x))))
 | _,_=>none
theorem O2:aM.ok E2.I Tryz.prog 44 storeS:=by
 intro args h o ho K hK
 unfold storeS at ho
 split at ho<;>cases ho
 rename_i a x l s hm
 obtain⟨⟨hl,hp⟩,hK⟩:=hK
 have hh:=lQ hm hl
 subst hh
 have hK:K (.tup []) (memH (s.stored a x)):=hK
 refine aBs (aE (E:=E2) Tryz.checked.mixed (L:=fun _ _=>none) (n:=10) (aR (q:=(lE' s.3∧True)∧bif ilt a 0 then K (.tup []) [some (.cells [.int .i64 s.1,.int .i64 s.2,.slice 1 0 (List.length s.3) 1,.int .i64 (W (s.4+1)),.int .i64 2,.int .i64 a,.int .u64 (aB s.3 a),.int .u64 (aB s.3 a),.bool false]),some (.ints (some .u64) s.3)]else bif ile (↑(List.length s.3):Int) a then K (.tup []) [some (.cells [.int .i64 s.1,.int .i64 s.2,.slice 1 0 (List.length s.3) 1,.int .i64 (W (s.4+1)),.int .i64 2,.int .i64 a,.int .u64 (aB s.3 a),.int .u64 (aB s.3 a),.bool false]),some (.ints (some .u64) s.3)]else((0:Int)≤a∧a<(↑(List.length s.3):Int))∧0+Int.toNat a*(1:Nat)<List.length s.3∧K (.tup []) [some (.cells [.int .i64 s.1,.int .i64 s.2,.slice 1 0 (List.length s.3) 1,.int .i64 (W (s.4+1)),.int .i64 2,.int .i64 a,.int .u64 (aB s.3 a),.int .u64 x,.bool true]),some (.ints (some .u64) (List.set s.3 (0+Int.toNat a*1) x))]) (by kernel_rfl) ?_))
 refine⟨⟨rfl,trivial⟩,?_⟩
 have hc:IntKind.wrap .i64 (s.c+1)=s.c+1:=cU (by omega)
 simp only [W,WU,hc,vX]
 unfold MS.stored at hK
 rw [qX _ _ _ _ _ _ (bO _ _ _)]at hK
 refine aP (fun e1=>?_) (fun e1=>aP (fun e2=>?_) (fun e2=>?_))
 ·rw [bS,dT']at e1
  rw [f6 (by omega),nS (by omega)]at hK
  rw [iN (by omega)]at hK⊢;exact hK
 ·rw [cE,dT']at e2
  rw [f6 (by omega),nS (by omega)]at hK
  rw [iN (by omega)]at hK⊢;exact hK
 ·rw [bS,dF']at e1
  rw [cE,dF']at e2
  refine⟨by omega,by omega,?_⟩
  rw [lM.2 (by omega),uF (by omega)]at hK
  exact hK
def casS:aM Ob:=fun args h=>match args,pR h with
 | [.ptr 0 0,.int .i64 a,.int .u64 x,.int .u64 y],some (l,s)=>some (.pre (l=s.xs.length∧(0≤s.c∧s.c≤4611686018427387904)) (.ret (.bool (aS s.xs a x)) (memH (s.cased a x y))))
 | _,_=>none
theorem UK:aM.ok E2.I Tryz.prog 99 casS:=by
 intro args h o ho K hK
 unfold casS at ho
 split at ho<;>cases ho
 rename_i a x y l s hm
 obtain⟨⟨hl,hp⟩,hK⟩:=hK
 have hh:=lQ hm hl
 subst hh
 have hK:K (.bool (aS s.xs a x)) (memH (s.cased a x y)):=hK
 refine aBs (aE (E:=E2) Tryz.checked.mixed (L:=fun _ _=>none) (n:=10) (aR (q:=(lE' s.3∧True)∧bif ilt a 0 then K (.bool false) [some (.cells [.int .i64 s.1,.int .i64 s.2,.slice 1 0 (List.length s.3) 1,.int .i64 (W (s.4+1)),.int .i64 3,.int .i64 a,.int .u64 (aB s.3 a),.int .u64 (aB s.3 a),.bool false]),some (.ints (some .u64) s.3)]else bif ile (↑(List.length s.3):Int) a then K (.bool false) [some (.cells [.int .i64 s.1,.int .i64 s.2,.slice 1 0 (List.length s.3) 1,.int .i64 (W (s.4+1)),.int .i64 3,.int .i64 a,.int .u64 (aB s.3 a),.int .u64 (aB s.3 a),.bool false]),some (.ints (some .u64) s.3)]else bif ieq (aB s.3 a) x then((0:Int)≤a∧a<(↑(List.length s.3):Int))∧0+Int.toNat a*(1:Nat)<List.length s.3∧K (.bool (ieq (aB s.3 a) x)) [some (.cells [.int .i64 s.1,.int .i64 s.2,.slice 1 0 (List.length s.3) 1,.int .i64 (W (s.4+1)),.int .i64 3,.int .i64 a,.int .u64 (aB s.3 a),.int .u64 y,.bool (ieq (aB s.3 a) x)]),some (.ints (some .u64) (List.set s.3 (0+Int.toNat a*1) y))]else K (.bool (ieq (aB s.3 a) x)) [some (.cells [.int .i64 s.1,.int .i64 s.2,.slice 1 0 (List.length s.3) 1,.int .i64 (W (s.4+1)),.int .i64 3,.int .i64 a,.int .u64 (aB s.3 a),.int .u64 y,.bool (ieq (aB s.3 a) x)]),some (.ints (some .u64) s.3)]) (by kernel_rfl) ?_))
 refine⟨⟨rfl,trivial⟩,?_⟩
 have hc:IntKind.wrap .i64 (s.c+1)=s.c+1:=cU (by omega)
 simp only [W,WU,hc,vX]
 unfold MS.cased at hK
 rw [qX _ _ _ _ _ _ (by cases aS s.xs a x<;>first | exact bO _ _ _ | rfl)]at hK
 unfold aS at hK
 refine aP (fun e1=>?_) (fun e1=>aP (fun e2=>?_) (fun e2=>?_))
 ·rw [bS,dT']at e1
  rw [f6 (by omega)]at hK
  rw [iN (by omega)]at hK⊢;exact hK
 ·rw [cE,dT']at e2
  rw [f6 (by omega)]at hK
  rw [iN (by omega)]at hK⊢;exact hK
 ·rw [bS,dF']at e1
  rw [cE,dF']at e2
  rw [lM.2 (by omega),uF (by omega)]at hK
  simp only [Bool.true_and,cond_true]at hK
  refine aP (fun e3=>⟨by omega,by omega,?_⟩) (fun e3=>?_)
  ·rw [e3]at hK⊢;exact hK
  ·rw [e3]at hK⊢;exact hK
def addS:aM Ob:=fun args h=>match args,pR h with
 | [.ptr 0 0,.int .i64 a,.int .u64 x],some (l,s)=>some (.pre (l=s.xs.length∧(0≤s.c∧s.c≤4611686018427387904)) (.ret (.int .u64 (aB s.xs a)) (memH (s.added a x))))
 | _,_=>none
theorem UC:aM.ok E2.I Tryz.prog 215 addS:=by
 intro args h o ho K hK
 unfold addS at ho
 split at ho<;>cases ho
 rename_i a x l s hm
 obtain⟨⟨hl,hp⟩,hK⟩:=hK
 have hh:=lQ hm hl
 subst hh
 have hK:K (.int .u64 (aB s.xs a)) (memH (s.added a x)):=hK
 refine aBs (aE (E:=E2) Tryz.checked.mixed (L:=fun _ _=>none) (n:=10) (aR (q:=(lE' s.3∧True)∧bif ilt a 0 then K (.int .u64 (aB s.3 a)) [some (.cells [.int .i64 s.1,.int .i64 s.2,.slice 1 0 (List.length s.3) 1,.int .i64 (W (s.4+1)),.int .i64 4,.int .i64 a,.int .u64 (aB s.3 a),.int .u64 (aB s.3 a),.bool false]),some (.ints (some .u64) s.3)]else bif ile (↑(List.length s.3):Int) a then K (.int .u64 (aB s.3 a)) [some (.cells [.int .i64 s.1,.int .i64 s.2,.slice 1 0 (List.length s.3) 1,.int .i64 (W (s.4+1)),.int .i64 4,.int .i64 a,.int .u64 (aB s.3 a),.int .u64 (aB s.3 a),.bool false]),some (.ints (some .u64) s.3)]else((0:Int)≤a∧a<(↑(List.length s.3):Int))∧0+Int.toNat a*(1:Nat)<List.length s.3∧K (.int .u64 (aB s.3 a)) [some (.cells [.int .i64 s.1,.int .i64 s.2,.slice 1 0 (List.length s.3) 1,.int .i64 (W (s.4+1)),.int .i64 4,.int .i64 a,.int .u64 (aB s.3 a),.int .u64 (WU (aB s.3 a+x)),.bool true]),some (.ints (some .u64) (List.set s.3 (0+Int.toNat a*1) (WU (aB s.3 a+x))))]) (by kernel_rfl) ?_))
 refine⟨⟨rfl,trivial⟩,?_⟩
 have hc:IntKind.wrap .i64 (s.c+1)=s.c+1:=cU (by omega)
 simp only [W,WU,hc,vX]
 unfold MS.added at hK
 rw [qX _ _ _ _ _ _ (bO _ _ _)]at hK
 refine aP (fun e1=>?_) (fun e1=>aP (fun e2=>?_) (fun e2=>?_))
 ·rw [bS,dT']at e1
  rw [f6 (by omega),nS (by omega)]at hK
  rw [iN (by omega)]at hK⊢;exact hK
 ·rw [cE,dT']at e2
  rw [f6 (by omega),nS (by omega)]at hK
  rw [iN (by omega)]at hK⊢;exact hK
 ·rw [bS,dF']at e1
  rw [cE,dF']at e2
  refine⟨by omega,by omega,?_⟩
  rw [lM.2 (by omega),uF (by omega)]at hK
  exact hK
noncomputable def E3:=(((E2.addS 93 loadS load_ok).addS 44 storeS O2).addS 99 casS UK).addS 215 addS UC
def aN(t n me:Int):Int:=if t<1 then 1 else 1+Int.tdiv (me*n) t
theorem S6{x t:Int}(h:0≤x)(ht:1≤t):0≤Int.tdiv x t∧Int.tdiv x t≤x:=by
 rw [Int.tdiv_eq_ediv_of_nonneg h]
 exact⟨Int.ediv_nonneg h (by omega),Int.ediv_le_self t h⟩
def first0S:aM Ob:=fun args h=>match args,h with
 | [.ptr 0 0],some (.cells (.int .i64 t:: .int .i64 n:: .int .i64 me::tl))::rest=>some (.pre ((0≤me∧me≤100000)∧(0≤n∧n≤100000)) (.ret (.int .i64 (aN t n me)) (some (.cells (.int .i64 t:: .int .i64 n:: .int .i64 me::tl))::rest)))
 | _,_=>none
theorem I0:aM.ok E3.I Tryz.prog 144 first0S:=by
 intro args h o ho K hK
 unfold first0S at ho
 split at ho<;>cases ho
 rename_i t n me tl rest
 obtain⟨hp,hK⟩:=hK
 have hK:K (.int .i64 (aN t n me)) (some (.cells (.int .i64 t:: .int .i64 n:: .int .i64 me::tl))::rest):=hK
 refine(aE (E:=E3) Tryz.checked.mixed (L:=fun _ _=>none) (n:=10) (aR (q:=bif ilt t 1 then K (.int .i64 1) (some (.cells (.int .i64 t:: .int .i64 n:: .int .i64 me::tl))::rest)else t≠(0:Int)∧K (.int .i64 (W (1+W (Int.tdiv (W (me*n)) t)))) (some (.cells (.int .i64 t:: .int .i64 n:: .int .i64 me::tl))::rest)) (by kernel_rfl) ?_))
 obtain⟨⟨h1,h2⟩,h3,h4⟩:=hp
 have hm:0≤me*n∧me*n≤100000*100000:=⟨Int.mul_nonneg h1 h3,Int.mul_le_mul h2 h4 h3 (by omega)⟩
 refine aP (fun e=>?_) (fun e=>?_)
 ·rw [bS,dT']at e
  unfold aN at hK;rw [if_pos e]at hK;exact hK
 ·rw [bS,dF']at e
  refine⟨by omega,?_⟩
  unfold aN at hK;rw [if_neg e]at hK
  have:=S6 (x:=me*n) (t:=t) hm.1 (by omega)
  simp(disch:=omega) only [W,cU]
  exact hK
def EG:bZ Ob:=fun args h=>match args,h with
 | [.ptr 0 0],some (.cells (.int .i64 t:: .int .i64 n:: .int .i64 me::tl))::rest=>some (((0≤me∧me≤100000)∧(0≤n∧n≤100000)),.int .i64 (aN t n me))
 | _,_=>none
theorem MQ:aM.ok E3.I Tryz.prog 144 EG.spec:=by
 intro args h o ho
 unfold bZ.spec at ho
 split at ho
 case h_2=>cases ho
 rename_i p v hv
 unfold EG at hv
 split at hv
 case h_2=>cases hv
 simp only [sI',pI']at hv
 obtain⟨rfl,rfl⟩:=hv
 exact I0 _ _ o ho
def lifeNewS:aM Ob:=fun args h=>match args,h with
 | [.agg [.int .i64 t,.int .i64 n],.int .i64 a],[]=>some (.pre (True) (.ret (.ptr 0 0) ([some (.cells [.int .i64 t,.int .i64 n,.int .i64 0,.int .i64 (bif bQ n a then a else 1),.int .i64 n,.int .u64 0,.bool false])])))
 | _,_=>none
theorem FE:aM.ok E3.I Tryz.prog 143 lifeNewS:=by
 intro args h o ho K hK
 unfold lifeNewS at ho
 split at ho<;>cases ho
 rename_i t n a
 obtain⟨hp,hK⟩:=hK
 have hK:K (.ptr 0 0) ([some (.cells [.int .i64 t,.int .i64 n,.int .i64 0,.int .i64 (bif bQ n a then a else 1),.int .i64 n,.int .u64 0,.bool false])]):=hK
 refine aBs (aE (E:=E3) Tryz.checked.mixed (L:=fun _ _=>none) (n:=10) (aR (q:=True∧bif !bQ n a then K (.ptr 0 0) [some (.cells [.int .i64 t,.int .i64 n,.int .i64 0,.int .i64 1,.int .i64 n,.int .u64 0,.bool false])]else K (.ptr 0 0) [some (.cells [.int .i64 t,.int .i64 n,.int .i64 0,.int .i64 a,.int .i64 n,.int .u64 0,.bool false])]) (by kernel_rfl) ?_))
 refine⟨trivial,aP (fun e=>?_) (fun e=>?_)⟩
 ·have e':bQ n a=false:=by simpa using e
  rw [e']at hK;exact hK
 ·have e':bQ n a=true:=by simpa using e
  rw [e']at hK;exact hK
noncomputable def E4a:=E3.addS 143 lifeNewS FE
noncomputable def E4:=E4a.addR 144 EG MQ
noncomputable def LL:FuncId→Nat→Option (p7 Ob):=fun _ _=>some (.rounds 12)
noncomputable def E5:=E4
abbrev iI'(l:List Int):Option (aG Ob):=some (.ints (some .i64) l)
abbrev cE'(l:List AVal):Option (aG Ob):=some (.cells l)
theorem cM'{E:pZ Ob Tryz.prog}{f:FuncId}{args:List AVal}{h:aD Ob}{K:AVal→aD Ob→Prop}{q:Prop}(e:GY E LL 10 f args h K=q)(hq:q):aC E.I Tryz.prog f args h K:=aE (E:=E) Tryz.checked.mixed (L:=LL) (n:=10) (aR e hq)
abbrev cT':=aC (A:=Ob) (obI tbl) Tryz.prog
abbrev sT':=aM.ok (A:=Ob) (obI tbl) Tryz.prog
def cloneS:aM Ob:=fun args h=>match args,h with
 | [.slice 0 0 n 1],[some (.ints (some .i64) xs)]=>some (.pre (n=xs.length∧n≤4294967296) (.ret (.slice 1 0 xs.length 1) [some (.ints (some .i64) xs),some (.ints (some .i64) xs)]))
 | _,_=>none
theorem LM:aM.ok E5.I Tryz.prog 148 cloneS:=by
 intro args h o ho K hK
 unfold cloneS at ho
 split at ho<;>cases ho
 rename_i n xs
 obtain⟨⟨rfl,hp⟩,hK⟩:=hK
 have hK:K (.slice 1 0 xs.length 1) [some (.ints (some .i64) xs),some (.ints (some .i64) xs)]:=hK
 refine aBs (aB3 (cs:=[(.slot 0,.ints (some .i64))]) (cM' (E:=E5) (q:= ∀(b:Bool),(b=true→List.length xs=0)→bif b then K (.slice 1 0 0 1) [some (.ints (some .i64) xs),some (.ints (some .i64) [])]else(0+List.length xs≤List.length xs∧List.length xs≤(4294967296:Nat))∧K (.slice 1 0 (List.length xs) 1) [some (.ints (some .i64) xs),some (.ints (some .i64) (List.take (List.length xs) (List.drop 0 xs)))]) (by kernel_rfl) ?_))
 intro b hb
 refine aP (fun e=>?_) (fun e=>⟨⟨by omega,by omega⟩,?_⟩)
 ·have h0:=List.length_eq_zero_iff.1 (hb e)
  subst h0;exact hK
 ·simpa using hK
def kD(xs ys:List Int):Bool:=decide (xs=ys)
theorem F0{xs ys:List Int} :kD xs ys=true↔xs=ys:=by unfold kD;exact decide_eq_true_iff
noncomputable def E6:=(E5.addS 148 cloneS LM)
def storeNewS:aM Ob:=fun args h=>match args,h with
 | [.agg [.int .i64 t,.int .i64 n],.int .i64 me],[]=>some (.ret (.ptr 0 0) [some (.cells [.int .i64 t,.int .i64 n,.int .i64 me,.int .i64 0,.raw (.slice none 0 0)])])
 | _,_=>none
theorem C2:aM.ok E6.I Tryz.prog 19 storeNewS:=by
 intro args h o ho K hK
 unfold storeNewS at ho
 split at ho<;>cases ho
 rename_i t n me
 have hK:K (.ptr 0 0) [some (.cells [.int .i64 t,.int .i64 n,.int .i64 me,.int .i64 0,.raw (.slice none 0 0)])]:=hK
 exact aBs (cM' (E:=E6) (by kernel_rfl) hK)
def dR(sp:Int)(xs:List Int):List Int:=bif ieq sp 0 then xs else sp::xs
noncomputable def E7:=((E6.addS 19 storeNewS C2))
def fA(s:Int):List Int:=bif ieq s 1||ieq s 2 then [1,2,3]else bif ieq s 3||ieq s 4 then [4,5]else []
def kindsS:aM Ob:=fun args h=>match args,h with
 | [.int .i64 s],[]=>some (.ret (.slice 0 0 (fA s).length 1) [some (.ints (some .i64) (fA s))])
 | _,_=>none
theorem NQ:aM.ok E7.I Tryz.prog 184 kindsS:=by
 intro args h o ho K hK
 unfold kindsS at ho
 split at ho<;>cases ho
 rename_i s
 have hK:K (.slice 0 0 (fA s).length 1) [some (.ints (some .i64) (fA s))]:=hK
 refine aBs (aB3 (cs:=[(.slot 0,.ints (some .i64))]) (cM' (E:=E7) (q:=bif ieq s 1 then K (.slice 0 0 3 1) [some (.ints (some .i64) [1,2,3])]else bif ieq s 2 then K (.slice 0 0 3 1) [some (.ints (some .i64) [1,2,3])]else bif ieq s 3 then K (.slice 0 0 2 1) [some (.ints (some .i64) [4,5])]else bif ieq s 4 then K (.slice 0 0 2 1) [some (.ints (some .i64) [4,5])]else K (.slice 0 0 0 1) [some (.ints (some .i64) [])]) (by kernel_rfl) ?_))
 unfold fA at hK
 cases e1:ieq s 1<;>cases e2:ieq s 2<;>cases e3:ieq s 3<;>cases e4:ieq s 4<;>simp only [e1,e2,e3,e4,Bool.or_true,Bool.or_false,Bool.true_or,Bool.false_or,cond_true,cond_false]at hK⊢ <;>exact hK
noncomputable def E8:=E7.addS 184 kindsS NQ
theorem bH(a:Int):ieq a a=true:=by rw [b9];simp
def hasB(xs:List Int)(n:Int):Bool:=decide (n∈xs)
theorem xY{xs:List Int}{n:Int} :hasB xs n=true↔n∈xs:=by unfold hasB;exact decide_eq_true_iff
structure okC (xs:List Int) (n:Int) (i:Nat):Prop where
 h1:i≤xs.length
 h2:n∉xs.take i
def HC(xs:List Int)(n:Int):Hint Ob:= {X:=Nat,st:=fun i=>([.slice 0 0 xs.length 1,.int .i64 n,.O,.O,.O,.O,.O,.int .i64 (xs.length:Int),.int .i64 (i:Int)]++List.replicate 10 .O,[some (.ints (some .i64) xs)]),ok:=okC xs n,mu:=fun i=>xs.length - i,keep:=[0,1,7,8] }
def hasS0:aM Ob:=fun args h=>match args,h with
 | [.slice 0 0 k 1,.int .i64 n],[some (.ints (some .i64) xs)]=>some (.pre (k=xs.length∧k≤4294967296) (.ret (.bool (hasB xs n)) [some (.ints (some .i64) xs)]))
 | _,_=>none
theorem Q9:aM.ok E8.I Tryz.prog 124 hasS0:=by
 intro args h o ho K hK
 unfold hasS0 at ho
 split at ho<;>cases ho
 rename_i k n xs
 obtain⟨⟨rfl,hp⟩,hK⟩:=hK
 have hK:K (.bool (hasB xs n)) [some (.ints (some .i64) xs)]:=hK
 refine(aE (E:=E8) Tryz.checked.mixed (L:=fun _ _=>some (.states (HC xs n))) (n:=10) (aR (q:=okSt (HC xs n) (Hint.ok (HC xs n)) [.slice 0 0 (List.length xs) 1,.int .i64 n,.O,.O,.O,.O,.O,.int .i64 (↑(List.length xs):Int),.int .i64 0,.O,.O,.O,.O,.O,.O,.O,.O,.O,.O] [some (.ints (some .i64) xs)]∧ ∀(x:Nat),okC xs n x→bif ilt (↑x:Int) (↑(List.length xs):Int)then((0:Int)≤(↑x:Int)∧(↑x:Int)<(↑(List.length xs):Int))∧0+Int.toNat (↑x:Int)*(1:Nat)<List.length xs∧bif ieq n (List.getD xs (0+Int.toNat (↑x:Int)*1) 0)then K (.bool (ile 0 (↑x:Int))) [some (.ints (some .i64) xs)]else okSt (HC xs n) (fun x'=>Hint.ok (HC xs n) x'∧Hint.mu (HC xs n) x'<Hint.mu (HC xs n) x) [.slice 0 0 (List.length xs) 1,.int .i64 n,.O,.O,.O,.O,.O,.int .i64 (↑(List.length xs):Int),.int .i64 (W ((↑x:Int)+1)),.O,.O,.O,.O,.O,.O,.O,.O,.O,.O] [some (.ints (some .i64) xs)]else K (.bool false) [some (.ints (some .i64) xs)]) (by kernel_rfl) ?_))
 have hS:hasB xs n=decide (n∈xs):=rfl
 refine⟨aW (H:=HC xs n) (0:Nat) rfl ⟨Nat.zero_le _,by simp⟩,?_⟩
 rintro i ⟨h1,h2⟩
 refine aP (fun e1=>?_) (fun e1=>?_)
 ·rw [bS,dT']at e1
  have hi:i<xs.length:=by omega
  have e2:0+(i:Int).toNat *1=i:=by omega
  rw [e2]
  have e4:IntKind.wrap .i64 ((i:Int)+1)=((i+1:Nat):Int):=by rw [cU (by omega)];rfl
  have hg:xs.getD i 0=xs[i]:=by rw [gD',gE' hi];rfl
  refine⟨by omega,hi,aP (fun e3=>?_) (fun e3=>?_)⟩
  ·rw [b9,hg]at e3
   have e3:n=xs[i]:=by simpa using e3
   have hm:n∈xs:=by rw [e3];exact List.getElem_mem hi
   have h0:ile 0 (i:Int)=true:=by rw [cE,dT'];omega
   rw [hS,decide_eq_true hm]at hK
   first | (rw [h0];exact hK) | exact hK
  ·rw [b9,hg]at e3
   have e3: ¬n=xs[i]:=by simpa using e3
   refine aW (H:=HC xs n) (i+1:Nat) (by simp only [W,e4]<;>rfl) ⟨⟨hi,?_⟩,by show xs.length - (i+1)<xs.length - i;omega⟩
   rw [List.take_succ_eq_append_getElem hi]
   intro hm
   rcases List.mem_append.1 hm with h | h
   ·exact h2 h
   ·exact e3 (by simpa using h)
 ·rw [bS,dF']at e1
  rw [List.take_of_length_le (by omega)]at h2
  rw [hS,decide_eq_false h2]at hK
  exact hK
def RB:bZ Ob:=fun args h=>match args,h with
 | [.slice 0 0 k 1,.int .i64 n],[some (.ints (some .i64) xs)]=>some (k=xs.length∧k≤4294967296,.bool (hasB xs n))
 | _,_=>none
theorem M7:aM.ok E8.I Tryz.prog 124 RB.spec:=by
 intro args h o ho
 unfold bZ.spec at ho
 split at ho
 case h_2=>cases ho
 rename_i p v hv
 unfold RB at hv
 split at hv
 case h_2=>cases hv
 simp only [sI',pI']at hv
 obtain⟨rfl,rfl⟩:=hv
 exact Q9 _ _ o ho
noncomputable def E9:=E8.addR 124 RB M7
theorem EU(s:Int):(fA s).length ≤3:=by
 unfold fA
 cases (ieq s 1||ieq s 2)<;>cases (ieq s 3||ieq s 4)<;>simp
def bX(s k y:Int):Bool:=hasB (fA s) k&&(ile 0 y&&ile y (bif ieq k 5 then 0 else 999))
def FY:bZ Ob:=fun args h=>match args,h with
 | [.int .i64 s,.agg [.int .i64 k,.int .i64 y]],[]=>some (True,.bool (bX s k y))
 | _,_=>none
theorem OP:aM.ok E9.I Tryz.prog 126 FY.spec:=by
 intro args h o ho K hK
 unfold bZ.spec at ho
 split at ho
 case h_2=>cases ho
 rename_i p v hv
 unfold FY at hv
 split at hv
 case h_2=>cases hv
 rename_i s k y
 simp only [sI',pI']at hv
 obtain⟨rfl,rfl⟩:=hv
 simp only [sI']at ho;subst ho
 obtain⟨_,hK⟩:=hK
 have hK:K (.bool (bX s k y)) []:=hK
 refine aBs (cM' (E:=E9) (q:=bif ieq k 5 then(lE' (fA s)∧List.length (fA s)≤(4294967296:Nat))∧bif hasB (fA s) k then bif ile 0 y then K (.bool (ile y 0)) []else K (.bool false) []else K (.bool false) []else(lE' (fA s)∧List.length (fA s)≤(4294967296:Nat))∧bif hasB (fA s) k then bif ile 0 y then K (.bool (ile y 999)) []else K (.bool false) []else K (.bool false) []) (by kernel_rfl) ?_)
 have hl:=EU s
 unfold bX at hK
 refine aP (fun e1=>⟨⟨rfl,by omega⟩,aP (fun e2=>aP (fun e3=>?_) (fun e3=>?_)) (fun e2=>?_)⟩) (fun e1=>⟨⟨rfl,by omega⟩,aP (fun e2=>aP (fun e3=>?_) (fun e3=>?_)) (fun e2=>?_)⟩)<;>
  (simp only [e1,e2,cond_true,cond_false,Bool.true_and,Bool.false_and]at hK<;>first | (simp only [e3,Bool.true_and,Bool.false_and]at hK;exact hK) | exact hK)
noncomputable def E10:=E9.addR 126 FY OP
def aA(x a w:Int):Int:=x / 2^a.toNat%2^w.toNat
def bitI(b:Bool):Int:=bif b then 1 else 0
def aH(n w:Int):Bool:=ile 0 n&&ilt n (2^w.toNat)
theorem toNat_ofInt(n:Nat)(x:Int):((BitVec.ofInt n x).toNat :Int)=x%2^n:=by
 rw [BitVec.toNat_ofInt]
 have h:(0:Int)<(2^n:Nat):=by exact_mod_cast Nat.two_pow_pos n
 have h2:0≤x%((2^n:Nat):Int):=Int.emod_nonneg _ (by omega)
 rw [Int.toNat_of_nonneg h2]
 push_cast
 rfl
theorem jE(w:Nat):(0:Int)<2^w:=by
 have:((2^w:Nat):Int)=2^w:=by push_cast;rfl
 have h:0<2^w:=Nat.two_pow_pos w
 omega
theorem PD{w n:Nat}(h:w≤n):(2:Int)^w≤2^n:=by
 have a:((2^w:Nat):Int)=2^w:=by push_cast;rfl
 have b:((2^n:Nat):Int)=2^n:=by push_cast;rfl
 have h:2^w≤2^n:=Nat.pow_le_pow_right (by omega) h
 omega
theorem TB{w n:Nat}(h:w≤n):(2:Int)^w∣2^n:=by
 have a:((2^w:Nat):Int)=2^w:=by push_cast;rfl
 have b:((2^n:Nat):Int)=2^n:=by push_cast;rfl
 rw [←a,←b]
 exact Int.natCast_dvd_natCast.2 (Nat.pow_dvd_pow 2 h)
theorem jN{n w:Nat}(x:Int)(h:w<n):((BitVec.ofInt n x&&&BitVec.ofInt n (2^w - 1)).toNat :Int)=x%2^w:=by
 have hp:=jE w
 have h3:(2:Int)^w≤2^n:=PD (by omega)
 have e1:(BitVec.ofInt n (2^w - 1)).toNat =2^w - 1:=by
  have:((BitVec.ofInt n (2^w - 1)).toNat :Int)=((2^w - 1:Nat):Int):=by
   rw [toNat_ofInt,Int.emod_eq_of_lt (by omega) (by omega)]
   have a:((2^w:Nat):Int)=2^w:=by push_cast;rfl
   have:1≤2^w:=Nat.one_le_two_pow
   omega
  exact_mod_cast this
 rw [BitVec.toNat_and,e1,Nat.and_two_pow_sub_one_eq_mod]
 push_cast
 rw [toNat_ofInt]
 exact Int.emod_emod_of_dvd _ (TB (by omega))
theorem v9{n a:Nat}{x y:Int}(hx:0≤x∧x<2^a)(hy:0≤y)(h:y*2^a+x<2^n):
 ((BitVec.ofInt n x|||BitVec.ofInt n (y*2^a)).toNat :Int)=x+y*2^a:=by
 have hp:=jE a
 have hya:0≤y*2^a:=Int.mul_nonneg hy (by omega)
 obtain⟨u,rfl⟩:=Int.eq_ofNat_of_zero_le hx.1
 obtain⟨v,rfl⟩:=Int.eq_ofNat_of_zero_le hy
 have e1:(BitVec.ofInt n (u:Int)).toNat =u:=by
  have:((BitVec.ofInt n (u:Int)).toNat :Int)=(u:Int):=by
   rw [toNat_ofInt,Int.emod_eq_of_lt (by omega) (by omega)]
  exact_mod_cast this
 have e2:(BitVec.ofInt n ((v:Int)*2^a)).toNat =v*2^a:=by
  have:((BitVec.ofInt n ((v:Int)*2^a)).toNat :Int)=((v*2^a:Nat):Int):=by
   rw [toNat_ofInt,Int.emod_eq_of_lt (by omega) (by omega)];push_cast;rfl
  exact_mod_cast this
 have hu:u<2^a:=by
  have b:((2^a:Nat):Int)=2^a:=by push_cast;rfl
  omega
 rw [BitVec.toNat_or,e1,e2]
 have:u|||v*2^a=u+v*2^a:=by
  have:=Nat.shiftLeft_add_eq_or_of_lt hu v
  rw [Nat.shiftLeft_eq]at this
  rw [Nat.or_comm,←this];omega
 rw [this];push_cast;rfl
theorem lE{x:Int}(h:0≤x∧x≤18446744073709551615):IntKind.wrap IntKind.u64 x=x:=IntWalk.u64_in x h
theorem AR{w n:Nat}(h:w≤n){b:Int}(e:b=2^n):(2:Int)^w≤b:=by rw [e];exact PD h
def US:bZ Ob:=fun args h=>match args,h with
 | [.int .u64 x,.int .i64 a,.int .i64 w],[]=>some ((0≤a∧a≤63)∧(0≤w∧w≤62),.int .i64 (aA x a w))
 | _,_=>none
theorem UT:aM.ok E10.I Tryz.prog 182 US.spec:=by
 intro args h o ho K hK
 unfold bZ.spec at ho
 split at ho
 case h_2=>cases ho
 rename_i p v hv
 unfold US at hv
 split at hv
 case h_2=>cases hv
 rename_i x a w
 simp only [sI',pI']at hv
 obtain⟨rfl,rfl⟩:=hv
 simp only [sI']at ho;subst ho
 obtain⟨⟨ha,hw⟩,hK⟩:=hK
 have hK:K (.int .i64 (aA x a w)) []:=hK
 refine aBs (aE (E:=E10) Tryz.checked.mixed (L:=fun _ _=>none) (n:=10) (aR (q:=(0:Int)≤a∧(0:Int)≤w∧K (.int .i64 (W (WU (↑(BitVec.toNat (BitVec.ofInt (IntKind.bits .u64) (Int.fdiv x (2^min (Int.toNat a) (IntKind.bits .u64)))&&&BitVec.ofInt (IntKind.bits .u64) (WU (WU (1*2^min (Int.toNat w) (IntKind.bits .u64)) - 1)))):Int)))) []) (by kernel_rfl) ?_))
 refine⟨by omega,by omega,?_⟩
 refine cast (congrArg (fun z=>K (AVal.int .i64 z) []) ?_) hK
 show aA x a w=_
 have hb:IntKind.bits .u64 =64:=rfl
 rw [hb]
 have h1:min a.toNat 64=a.toNat:=by omega
 have h2:min w.toNat 64=w.toNat:=by omega
 have h3:(2:Int)^w.toNat≤4611686018427387904:=AR (n:=62) (by omega) (by decide)
 have h4:=jE w.toNat
 have h5:=jE a.toNat
 rw [h1,h2,Int.fdiv_eq_ediv_of_nonneg _ (by omega)]
 simp only [WU,W,Int.one_mul]
 rw [lE (x:=2^w.toNat) (by omega),lE (x:=2^w.toNat - 1) (by omega),jN _ (by omega)]
 have h6:=Int.emod_nonneg (x / 2^a.toNat) (b:=2^w.toNat) (by omega)
 have h7:=Int.emod_lt_of_pos (x / 2^a.toNat) (b:=2^w.toNat) (by omega)
 rw [lE (by omega),cU (by omega)]
 rfl
def UI:bZ Ob:=fun args h=>match args,h with
 | [.bool b],[]=>some (True,.int .i64 (bitI b))
 | _,_=>none
theorem UJ:aM.ok E10.I Tryz.prog 224 UI.spec:=by
 intro args h o ho K hK
 unfold bZ.spec at ho
 split at ho
 case h_2=>cases ho
 rename_i p v hv
 unfold UI at hv
 split at hv
 case h_2=>cases hv
 rename_i b
 simp only [sI',pI']at hv
 obtain⟨rfl,rfl⟩:=hv
 simp only [sI']at ho;subst ho
 obtain⟨_,hK⟩:=hK
 have hK:K (.int .i64 (bitI b)) []:=hK
 refine aBs (aE (E:=E10) Tryz.checked.mixed (L:=fun _ _=>none) (n:=10) (aR (q:=bif b then K (.int .i64 1) []else K (.int .i64 0) []) (by kernel_rfl) ?_))
 cases b<;>exact hK
def VO:bZ Ob:=fun args h=>match args,h with
 | [.agg [.int .i64 n,.int .i64 w]],[]=>some (0≤w∧w≤62,.bool (aH n w))
 | _,_=>none
theorem VP:aM.ok E10.I Tryz.prog 206 VO.spec:=by
 intro args h o ho K hK
 unfold bZ.spec at ho
 split at ho
 case h_2=>cases ho
 rename_i p v hv
 unfold VO at hv
 split at hv
 case h_2=>cases hv
 rename_i n w
 simp only [sI',pI']at hv
 obtain⟨rfl,rfl⟩:=hv
 simp only [sI']at ho;subst ho
 obtain⟨hw,hK⟩:=hK
 have hK:K (.bool (aH n w)) []:=hK
 refine aBs (aE (E:=E10) Tryz.checked.mixed (L:=fun _ _=>none) (n:=10) (aR (q:=bif ile 0 n then(0:Int)≤w∧K (.bool (ilt n (W (1*2^min (Int.toNat w) (IntKind.bits .i64))))) []else K (.bool false) []) (by kernel_rfl) ?_))
 unfold aH at hK
 have hb:IntKind.bits .i64 =64:=rfl
 have h2:min w.toNat 64=w.toNat:=by omega
 have h3:(2:Int)^w.toNat≤4611686018427387904:=AR (n:=62) (by omega) (by decide)
 have h4:=jE w.toNat
 refine aP (fun e=>⟨by omega,?_⟩) (fun e=>?_)
 ·rw [e]at hK
  rw [hb,h2,W,Int.one_mul,cU (by omega)]
  exact hK
 ·rw [e]at hK;exact hK
def aO(v:Int):Int:=(v+1)%262144
def NU:bZ Ob:=fun args h=>match args,h with
 | [.agg [.int .i64 k,.int .i64 x,.bool m,.int .i64 c,.int .i64 v],.int .i64 y],[]=>some (0≤v∧v≤1000000,.agg [.int .i64 k,.int .i64 y,.bool m,.int .i64 c,.int .i64 (aO v)])
 | _,_=>none
theorem RY:aM.ok E10.I Tryz.prog 166 NU.spec:=by
 intro args h o ho K hK
 unfold bZ.spec at ho
 split at ho
 case h_2=>cases ho
 rename_i p v hv
 unfold NU at hv
 split at hv
 case h_2=>cases hv
 rename_i k x m c v y
 simp only [sI',pI']at hv
 obtain⟨rfl,rfl⟩:=hv
 simp only [sI']at ho;subst ho
 obtain⟨hw,hK⟩:=hK
 have hK:K (.agg [.int .i64 k,.int .i64 y,.bool m,.int .i64 c,.int .i64 (aO v)]) []:=hK
 refine aBs (aE (E:=E10) Tryz.checked.mixed (L:=fun _ _=>none) (n:=10) (aR (q:=K (.agg [.int .i64 k,.int .i64 y,.bool m,.int .i64 c,.int .i64 (W (↑(BitVec.toNat (BitVec.ofInt (IntKind.bits .i64) (W (v+1))&&&BitVec.ofInt (IntKind.bits .i64) 262143)):Int))]) []) (by kernel_rfl) ?_))
 refine cast (congrArg (fun z=>K (.agg [.int .i64 k,.int .i64 y,.bool m,.int .i64 c,.int .i64 z]) []) ?_) hK
 show aO v=_
 have hb:IntKind.bits .i64 =64:=rfl
 simp only [W]
 rw [hb,cU (x:=v+1) (by omega)]
 have:=jN (n:=64) (w:=18) (v+1) (by omega)
 have e:(2:Int)^18 - 1=262143:=by decide
 rw [e]at this
 rw [this]
 have e2:(2:Int)^18=262144:=by decide
 rw [e2,cU (by omega)]
 rfl
noncomputable def E11:=((((E10.addR 182 US UT).addR 224 UI UJ).addR 206 VO VP).addR 166 NU RY)
def V5:bZ Ob:=fun args h=>match args,h with
 | [.int .u64 x],[]=>some (True,.agg [.int .i64 (aA x 0 10),.int .i64 (aA x 10 9),.bool (ieq (aA x 19 1) 1),.int .i64 (aA x 20 5),.int .i64 (aA x 25 18)])
 | _,_=>none
set_option maxRecDepth 100000 in
theorem V6:aM.ok E11.I Tryz.prog 122 V5.spec:=by
 intro args h o ho K hK
 unfold bZ.spec at ho
 split at ho
 case h_2=>cases ho
 rename_i p v hv
 unfold V5 at hv
 split at hv
 case h_2=>cases hv
 rename_i x
 simp only [sI',pI']at hv
 obtain⟨rfl,rfl⟩:=hv
 simp only [sI']at ho;subst ho
 obtain⟨_,hK⟩:=hK
 refine aBs (cM' (E:=E11) (q:=((0:Int)≤(0:Int)∧(0:Int)<(↑5:Int))∧((0:Int)≤(0:Int)∧(0:Int)<(↑1:Int))∧1+(1:Nat)≤(4294967296:Nat)∧((0:Int)≤W (0+1)∧W (0+1)<(↑5:Int))∧((0:Int)≤W (0+1)∧W (0+1)<(↑(1+1):Int))∧1+1+(1:Nat)≤(4294967296:Nat)∧((0:Int)≤W (W (0+1)+1)∧W (W (0+1)+1)<(↑5:Int))∧((0:Int)≤W (W (0+1)+1)∧W (W (0+1)+1)<(↑(1+1+1):Int))∧1+1+1+(1:Nat)≤(4294967296:Nat)∧((0:Int)≤W (W (W (0+1)+1)+1)∧W (W (W (0+1)+1)+1)<(↑5:Int))∧((0:Int)≤W (W (W (0+1)+1)+1)∧W (W (W (0+1)+1)+1)<(↑(1+1+1+1):Int))∧1+1+1+1+(1:Nat)≤(4294967296:Nat)∧((0:Int)≤W (W (W (W (0+1)+1)+1)+1)∧W (W (W (W (0+1)+1)+1)+1)<(↑5:Int))∧((0:Int)≤W (W (W (W (0+1)+1)+1)+1)∧W (W (W (W (0+1)+1)+1)+1)<(↑(1+1+1+1+1):Int))∧1+1+1+1+1+(1:Nat)≤(4294967296:Nat)∧((0:Int)≤(0:Int)∧(0:Int)<(↑(1+1+1+1+1+1):Int))∧(((0:Int)≤(0:Int)∧(0:Int)≤(63:Int))∧(0:Int)≤(10:Int)∧(10:Int)≤(62:Int))∧((0:Int)≤(1:Int)∧(1:Int)<(↑(1+1+1+1+1+1):Int))∧(((0:Int)≤W (0+10)∧W (0+10)≤(63:Int))∧(0:Int)≤(9:Int)∧(9:Int)≤(62:Int))∧((0:Int)≤(2:Int)∧(2:Int)<(↑(1+1+1+1+1+1):Int))∧(((0:Int)≤W (W (0+10)+9)∧W (W (0+10)+9)≤(63:Int))∧(0:Int)≤(1:Int)∧(1:Int)≤(62:Int))∧((0:Int)≤(3:Int)∧(3:Int)<(↑(1+1+1+1+1+1):Int))∧(((0:Int)≤W (W (W (0+10)+9)+1)∧W (W (W (0+10)+9)+1)≤(63:Int))∧(0:Int)≤(5:Int)∧(5:Int)≤(62:Int))∧((0:Int)≤(4:Int)∧(4:Int)<(↑(1+1+1+1+1+1):Int))∧(((0:Int)≤W (W (W (W (0+10)+9)+1)+5)∧W (W (W (W (0+10)+9)+1)+5)≤(63:Int))∧(0:Int)≤(18:Int)∧(18:Int)≤(62:Int))∧K (.agg [.int .i64 (aA x 0 10),.int .i64 (aA x (W (0+10)) 9),.bool (ieq (aA x (W (W (0+10)+9)) 1) 1),.int .i64 (aA x (W (W (W (0+10)+9)+1)) 5),.int .i64 (aA x (W (W (W (W (0+10)+9)+1)+5)) 18)]) []) (by kernel_rfl) ?_)
 simp(disch:=omega) only [W,cU,Int.reduceAdd,Int.zero_add]
 repeat refine⟨by omega,?_⟩
 exact hK
theorem cL{n w:Int} :aH n w=true↔0≤n∧n<2^w.toNat:=by
 unfold aH;simp only [cE,bS,Bool.and_eq_true,dT']
theorem gF{a:Nat}{x y p s q:Int}(e:p=2^a)(hx:0≤x∧x<p)(hy:0≤y)(h:y*p+x≤18446744073709551615)(hs:s=x+y*p)(eq:q=p):
 WU (((BitVec.ofInt 64 x|||BitVec.ofInt 64 (WU (WU y*q))).toNat :Int))=s:=by
 subst eq
 have hya:0≤y*q:=Int.mul_nonneg hy (by omega)
 have h1:y≤y*q:=by
  have:=Int.mul_le_mul_of_nonneg_left (show(1:Int)≤q by omega) hy
  omega
 have e1:WU y=y:=lE (by omega)
 rw [e1]
 have e2:WU (y*q)=y*q:=lE (by omega)
 rw [e2]
 subst e
 rw [v9 hx hy (by have:(2:Int)^64=18446744073709551616:=by decide
                  omega)]
 rw [hs]
 exact lE (by omega)
theorem QZ(m:Bool):aH (bitI m) 1=true:=by cases m<;>rfl
theorem t9{n w:Int}(h:(!aH n w)=true):aH n w=false:=by simpa using h
theorem fC{n w:Int}(h:(!aH n w)=false):aH n w=true:=by simpa using h
def wG(k x:Int)(m:Bool)(c v:Int):Bool:=aH k 10&&(aH x 9&&(aH c 5&&aH v 18))
def aT(k x:Int)(m:Bool)(c v:Int):Int:=k+x*1024+bitI m*524288+c*1048576+v*33554432
def XH:bZ Ob:=fun args h=>match args,h with
 | [.agg [.int .i64 k,.int .i64 x,.bool m,.int .i64 c,.int .i64 v]],[]=>some (True,.tup [.int .u64 (bif wG k x m c v then aT k x m c v else 0),.int .i64 (bif wG k x m c v then 0 else 2)])
 | _,_=>none
set_option maxRecDepth 100000 in
theorem XI:aM.ok E11.I Tryz.prog 164 XH.spec:=by
 intro args h o ho K hK
 unfold bZ.spec at ho
 split at ho
 case h_2=>cases ho
 rename_i p v hv
 unfold XH at hv
 split at hv
 case h_2=>cases hv
 rename_i k x m c v
 simp only [sI',pI']at hv
 obtain⟨rfl,rfl⟩:=hv
 simp only [sI']at ho;subst ho
 obtain⟨_,hK⟩:=hK
 refine aBs (cM' (E:=E11) (q:=True∧((0:Int)≤(0:Int)∧(0:Int)<(↑5:Int))∧((0:Int)≤(10:Int)∧(10:Int)≤(62:Int))∧bif !aH k 10 then K (.tup [.int .u64 0,.int .i64 2]) []else(0:Int)≤(0:Int)∧((0:Int)≤W (0+1)∧W (0+1)<(↑5:Int))∧((0:Int)≤(9:Int)∧(9:Int)≤(62:Int))∧bif !aH x 9 then K (.tup [.int .u64 0,.int .i64 2]) []else(0:Int)≤W (0+10)∧((0:Int)≤W (W (0+1)+1)∧W (W (0+1)+1)<(↑5:Int))∧((0:Int)≤(1:Int)∧(1:Int)≤(62:Int))∧bif !aH (bitI m) 1 then K (.tup [.int .u64 0,.int .i64 2]) []else(0:Int)≤W (W (0+10)+9)∧((0:Int)≤W (W (W (0+1)+1)+1)∧W (W (W (0+1)+1)+1)<(↑5:Int))∧((0:Int)≤(5:Int)∧(5:Int)≤(62:Int))∧bif !aH c 5 then K (.tup [.int .u64 0,.int .i64 2]) []else(0:Int)≤W (W (W (0+10)+9)+1)∧((0:Int)≤W (W (W (W (0+1)+1)+1)+1)∧W (W (W (W (0+1)+1)+1)+1)<(↑5:Int))∧((0:Int)≤(18:Int)∧(18:Int)≤(62:Int))∧bif !aH v 18 then K (.tup [.int .u64 0,.int .i64 2]) []else(0:Int)≤W (W (W (W (0+10)+9)+1)+5)∧K (.tup [.int .u64 (WU (↑(BitVec.toNat (BitVec.ofInt (IntKind.bits .u64) (WU (↑(BitVec.toNat (BitVec.ofInt (IntKind.bits .u64) (WU (↑(BitVec.toNat (BitVec.ofInt (IntKind.bits .u64) (WU (↑(BitVec.toNat (BitVec.ofInt (IntKind.bits .u64) (WU (↑(BitVec.toNat (BitVec.ofInt (IntKind.bits .u64) 0|||BitVec.ofInt (IntKind.bits .u64) (WU (WU k*2^min (Int.toNat 0) (IntKind.bits .u64))))):Int))|||BitVec.ofInt (IntKind.bits .u64) (WU (WU x*2^min (Int.toNat (W (0+10))) (IntKind.bits .u64))))):Int))|||BitVec.ofInt (IntKind.bits .u64) (WU (WU (bitI m)*2^min (Int.toNat (W (W (0+10)+9))) (IntKind.bits .u64))))):Int))|||BitVec.ofInt (IntKind.bits .u64) (WU (WU c*2^min (Int.toNat (W (W (W (0+10)+9)+1))) (IntKind.bits .u64))))):Int))|||BitVec.ofInt (IntKind.bits .u64) (WU (WU v*2^min (Int.toNat (W (W (W (W (0+10)+9)+1)+5))) (IntKind.bits .u64))))):Int)),.int .i64 0]) []) (by kernel_rfl) ?_)
 simp(disch:=omega) only [W,cU,Int.reduceAdd,Int.zero_add,Int.reduceToNat]
 refine⟨trivial,⟨by omega,by omega⟩,by omega,aP (fun e=>?_) (fun e1=>⟨by omega,by omega,by omega,aP (fun e=>?_) (fun e2=>⟨by omega,by omega,by omega,aP (fun e=>?_) (fun _=>⟨by omega,by omega,by omega,aP (fun e=>?_) (fun e3=>⟨by omega,by omega,by omega,aP (fun e=>?_) (fun e4=>⟨by omega,?_⟩)⟩)⟩)⟩)⟩)⟩
 ·unfold wG at hK
  rw [t9 e]at hK
  exact hK
 ·unfold wG at hK
  rw [fC e1,t9 e]at hK
  exact hK
 ·rw [QZ]at e;cases e
 ·unfold wG at hK
  rw [fC e1,fC e2,t9 e]at hK
  exact hK
 ·unfold wG at hK
  rw [fC e1,fC e2,fC e3,t9 e]at hK
  exact hK
 ·unfold wG at hK
  rw [fC e1,fC e2,fC e3,fC e4]at hK
  have f1:=cL.1 (fC e1)
  have f2:=cL.1 (fC e2)
  have f3:=cL.1 (fC e3)
  have f4:=cL.1 (fC e4)
  have fm:0≤bitI m∧bitI m≤1:=by cases m<;>decide
  have hb:IntKind.bits .u64 =64:=rfl
  have p1:(2:Int)^(10:Int).toNat =1024:=by decide
  have p2:(2:Int)^(9:Int).toNat =512:=by decide
  have p3:(2:Int)^(5:Int).toNat =32:=by decide
  have p4:(2:Int)^(18:Int).toNat =262144:=by decide
  rw [p1]at f1;rw [p2]at f2;rw [p3]at f3;rw [p4]at f4
  refine cast (congrArg (fun z=>K (AVal.tup [.int .u64 z,.int .i64 0]) []) ?_) hK
  show aT k x m c v=_
  unfold aT
  symm
  have q0:=gF (a:=0) (x:=0) (y:=k) (p:=1) (q:=2^min 0 64) (s:=k) (by decide) (by omega) (by omega) (by omega) (by omega) (by decide)
  have q1:=gF (a:=10) (x:=k) (y:=x) (p:=1024) (q:=2^min 10 64) (s:=k+x*1024) (by decide) (by omega) (by omega) (by omega) (by omega) (by decide)
  have q2:=gF (a:=19) (x:=k+x*1024) (y:=bitI m) (p:=524288) (q:=2^min 19 64) (s:=k+x*1024+bitI m*524288) (by decide) (by omega) (by omega) (by omega) (by omega) (by decide)
  have q3:=gF (a:=20) (x:=k+x*1024+bitI m*524288) (y:=c) (p:=1048576) (q:=2^min 20 64) (s:=k+x*1024+bitI m*524288+c*1048576) (by decide) (by omega) (by omega) (by omega) (by omega) (by decide)
  have q4:=gF (a:=25) (x:=k+x*1024+bitI m*524288+c*1048576) (y:=v) (p:=33554432) (q:=2^min 25 64) (s:=k+x*1024+bitI m*524288+c*1048576+v*33554432) (by decide) (by omega) (by omega) (by omega) (by omega) (by decide)
  rw [hb]
  rw [WU]at q0 q1 q2 q3 q4
  simp only [WU]at q0 q1 q2 q3 q4⊢
  rw [q0,q1,q2,q3,q4]
noncomputable def E12:=(E11.addR 122 V5 V6).addR 164 XH XI
noncomputable def E13a:=E12
theorem y3{x:Int}(h: -9223372036854775808≤x∧x≤9223372036854775807):W x=x:=cU h
noncomputable def E13:=E13a
theorem S8{x t:Int}(h:0≤x)(ht:1≤t):0≤Int.tmod x t∧Int.tmod x t<t:=by
 rw [Int.tmod_eq_emod_of_nonneg h]
 exact⟨Int.emod_nonneg _ (by omega),Int.emod_lt_of_pos _ (by omega)⟩
noncomputable def E14:=E13
theorem QG(x:Int){b:Int}(h:0<b):0≤x%b∧x%b<b:=⟨Int.emod_nonneg _ (by omega),Int.emod_lt_of_pos _ h⟩
theorem fS{x a w:Int} :0≤aA x a w∧aA x a w<2^w.toNat:=QG _ (jE _)
def reS:bZ Ob:=fun args h=>match args,h with
 | [.agg [.int .i64 k,.int .i64 y,.bool m,.int .i64 c,.int .i64 v]],[]=>some ((0≤k∧k<1024)∧(0≤y∧y<512)∧(0≤c∧c<32)∧(0≤v∧v<262144),.int .u64 (aT k y m c v))
 | _,_=>none
theorem ZO:aM.ok E14.I Tryz.prog 66 reS.spec:=by
 intro args h o ho K hK
 unfold bZ.spec at ho
 split at ho
 case h_2=>cases ho
 rename_i p vv hv
 unfold reS at hv
 split at hv
 case h_2=>cases hv
 rename_i k y m c v
 simp only [sI',pI']at hv
 obtain⟨rfl,rfl⟩:=hv
 simp only [sI']at ho;subst ho
 obtain⟨⟨hk,hy,hc,hv⟩,hK⟩:=hK
 have hK:K (.int .u64 (aT k y m c v)) []:=hK
 refine aBs (cM' (E:=E14) (q:=bif m then(1024:Int)≠(0:Int)∧(512:Int)≠(0:Int)∧(32:Int)≠(0:Int)∧(262144:Int)≠(0:Int)∧K (.int .u64 (WU (W (W (W (W (Int.tmod k 1024+W (Int.tmod y 512*1024))+W (1*524288))+W (Int.tmod c 32*1048576))+W (Int.tmod v 262144*33554432))))) []else(1024:Int)≠(0:Int)∧(512:Int)≠(0:Int)∧(32:Int)≠(0:Int)∧(262144:Int)≠(0:Int)∧K (.int .u64 (WU (W (W (W (W (Int.tmod k 1024+W (Int.tmod y 512*1024))+W (0*524288))+W (Int.tmod c 32*1048576))+W (Int.tmod v 262144*33554432))))) []) (by kernel_rfl) ?_)
 have e1:Int.tmod k 1024=k:=by rw [Int.tmod_eq_emod_of_nonneg (by omega)];omega
 have e2:Int.tmod y 512=y:=by rw [Int.tmod_eq_emod_of_nonneg (by omega)];omega
 have e3:Int.tmod c 32=c:=by rw [Int.tmod_eq_emod_of_nonneg (by omega)];omega
 have e4:Int.tmod v 262144=v:=by rw [Int.tmod_eq_emod_of_nonneg (by omega)];omega
 rw [e1,e2,e3,e4]
 unfold aT at hK
 cases m
 all_goals
  simp(disch:=omega) only [W,WU,cU,lE,cond_true,cond_false,bitI]at hK⊢
  repeat refine⟨by omega,?_⟩
  refine cast (congrArg (fun z=>K (AVal.int .u64 z) []) ?_) hK
  omega
noncomputable def E15:=(E14).addR 66 reS ZO
structure TS where
 i:Int
 bad:Bool
 out:Bool
instance:Inhabited TS:=⟨⟨0,false,false⟩⟩
def a0(r:List Int):Int:=List.headD r 0
def a1(r:List Int):Int:=List.headD (List.tail r) 0
def a2(r:List Int):Int:=List.headD (List.tail (List.tail r)) 0
def a3(r:List Int):Int:=List.headD (List.tail (List.tail (List.tail r))) 0
def a4(r:List Int):Bool:=!ieq (List.headD (List.tail (List.tail (List.tail (List.tail r)))) 0) 0
theorem W5{b:Bool}(h:(!b)=true):b=false:=by simpa using h
theorem W4{b:Bool}(h:(!b)=false):b=true:=by simpa using h
noncomputable def E16a:=(E15)
noncomputable def E16:=((((E16a))))
structure okW (xs:List Int):Prop where
 h: ∀x∈xs,0≤x∧x≤18446744073709551615
theorem nP{xs:List Int}(h:okW xs)(a:Int):0≤aB xs a∧aB xs a≤18446744073709551615:=by
 unfold aB
 split
 ·rename_i hi
  have hlt:a.toNat<xs.length:=by omega
  rw [gD',gE' hlt]
  exact h.h _ (List.getElem_mem hlt)
 ·omega
def iO(s:Int):Bool:=ile 1 s&&ile s 4
def aY(a b c d:Int)(m:Bool)(e f:Int):Int:=a+b*4096+c*2097152+d*549755813888+bitI m*281474976710656+e*562949953421312+f*4503599627370496
def dOk(a b c d e f:Int):Bool:=aH a 12&&(aH b 9&&(aH c 18&&(aH d 9&&(aH e 3&&aH f 10))))
theorem P9{x a w:Int}(ha:0≤a∧a≤63)(hw:0≤w∧w≤62):IntKind.wrap .i64 (IntKind.wrap .u64 ((BitVec.ofInt (IntKind.bits .u64) (Int.fdiv x (2^min (Int.toNat a) (IntKind.bits .u64)))&&&BitVec.ofInt (IntKind.bits .u64) (IntKind.wrap .u64 (IntKind.wrap .u64 (1*2^min (Int.toNat w) (IntKind.bits .u64)) - 1))).toNat :Int))=aA x a w:=by
 have hb:IntKind.bits .u64 =64:=rfl
 rw [hb]
 have h1:min a.toNat 64=a.toNat:=by omega
 have h2:min w.toNat 64=w.toNat:=by omega
 have h3:(2:Int)^w.toNat≤4611686018427387904:=AR (n:=62) (by omega) (by decide)
 have h4:=jE w.toNat
 have h5:=jE a.toNat
 rw [h1,h2,Int.fdiv_eq_ediv_of_nonneg _ (by omega)]
 simp only [WU,W,Int.one_mul]
 rw [lE (x:=2^w.toNat) (by omega),lE (x:=2^w.toNat - 1) (by omega),jN _ (by omega)]
 have h6:=Int.emod_nonneg (x / 2^a.toNat) (b:=2^w.toNat) (by omega)
 have h7:=Int.emod_lt_of_pos (x / 2^a.toNat) (b:=2^w.toNat) (by omega)
 rw [lE (by omega),cU (by omega)]
 rfl
def LW:bZ Ob:=fun args h=>match args,h with
 | [.int .u64 x],[]=>some (True,.agg [.int .i64 (aA x 0 12),.int .i64 (aA x 12 9),.int .i64 (aA x 21 18),.int .i64 (aA x 39 9),.bool (ieq (aA x 48 1) 1),.int .i64 (aA x 49 3),.int .i64 (aA x 52 10)])
 | _,_=>none
set_option maxRecDepth 100000 in
theorem QE:aM.ok E16.I Tryz.prog 102 LW.spec:=by
 intro args h o ho K hK
 unfold bZ.spec at ho
 split at ho
 case h_2=>cases ho
 rename_i pp vv hv
 unfold LW at hv
 split at hv
 case h_2=>cases hv
 rename_i x
 simp only [sI',pI']at hv
 obtain⟨rfl,rfl⟩:=hv
 simp only [sI']at ho;subst ho
 obtain⟨hp,hK⟩:=hK
 have hK:K (.agg [.int .i64 (aA x 0 12),.int .i64 (aA x 12 9),.int .i64 (aA x 21 18),.int .i64 (aA x 39 9),.bool (ieq (aA x 48 1) 1),.int .i64 (aA x 49 3),.int .i64 (aA x 52 10)]) []:=hK
 refine aBs (cM' (E:=E16) (q:=((0:Int)≤(0:Int)∧(0:Int)<(↑7:Int))∧((0:Int)≤(0:Int)∧(0:Int)<(↑1:Int))∧1+(1:Nat)≤(4294967296:Nat)∧((0:Int)≤W (0+1)∧W (0+1)<(↑7:Int))∧((0:Int)≤W (0+1)∧W (0+1)<(↑(1+1):Int))∧1+1+(1:Nat)≤(4294967296:Nat)∧((0:Int)≤W (W (0+1)+1)∧W (W (0+1)+1)<(↑7:Int))∧((0:Int)≤W (W (0+1)+1)∧W (W (0+1)+1)<(↑(1+1+1):Int))∧1+1+1+(1:Nat)≤(4294967296:Nat)∧((0:Int)≤W (W (W (0+1)+1)+1)∧W (W (W (0+1)+1)+1)<(↑7:Int))∧((0:Int)≤W (W (W (0+1)+1)+1)∧W (W (W (0+1)+1)+1)<(↑(1+1+1+1):Int))∧1+1+1+1+(1:Nat)≤(4294967296:Nat)∧((0:Int)≤W (W (W (W (0+1)+1)+1)+1)∧W (W (W (W (0+1)+1)+1)+1)<(↑7:Int))∧((0:Int)≤W (W (W (W (0+1)+1)+1)+1)∧W (W (W (W (0+1)+1)+1)+1)<(↑(1+1+1+1+1):Int))∧1+1+1+1+1+(1:Nat)≤(4294967296:Nat)∧((0:Int)≤W (W (W (W (W (0+1)+1)+1)+1)+1)∧W (W (W (W (W (0+1)+1)+1)+1)+1)<(↑7:Int))∧((0:Int)≤W (W (W (W (W (0+1)+1)+1)+1)+1)∧W (W (W (W (W (0+1)+1)+1)+1)+1)<(↑(1+1+1+1+1+1):Int))∧1+1+1+1+1+1+(1:Nat)≤(4294967296:Nat)∧((0:Int)≤W (W (W (W (W (W (0+1)+1)+1)+1)+1)+1)∧W (W (W (W (W (W (0+1)+1)+1)+1)+1)+1)<(↑7:Int))∧((0:Int)≤W (W (W (W (W (W (0+1)+1)+1)+1)+1)+1)∧W (W (W (W (W (W (0+1)+1)+1)+1)+1)+1)<(↑(1+1+1+1+1+1+1):Int))∧1+1+1+1+1+1+1+(1:Nat)≤(4294967296:Nat)∧((0:Int)≤(0:Int)∧(0:Int)<(↑(1+1+1+1+1+1+1+1):Int))∧(0:Int)≤(0:Int)∧((0:Int)≤(0:Int)∧(0:Int)<(↑7:Int))∧(0:Int)≤(12:Int)∧((0:Int)≤(0:Int)∧(0:Int)<(↑7:Int))∧((0:Int)≤W (0+1)∧W (0+1)<(↑(1+1+1+1+1+1+1+1):Int))∧(0:Int)≤W (0+12)∧((0:Int)≤W (0+1)∧W (0+1)<(↑7:Int))∧(0:Int)≤(9:Int)∧((0:Int)≤W (0+1)∧W (0+1)<(↑7:Int))∧((0:Int)≤W (W (0+1)+1)∧W (W (0+1)+1)<(↑(1+1+1+1+1+1+1+1):Int))∧(0:Int)≤W (W (0+12)+9)∧((0:Int)≤W (W (0+1)+1)∧W (W (0+1)+1)<(↑7:Int))∧(0:Int)≤(18:Int)∧((0:Int)≤W (W (0+1)+1)∧W (W (0+1)+1)<(↑7:Int))∧((0:Int)≤W (W (W (0+1)+1)+1)∧W (W (W (0+1)+1)+1)<(↑(1+1+1+1+1+1+1+1):Int))∧(0:Int)≤W (W (W (0+12)+9)+18)∧((0:Int)≤W (W (W (0+1)+1)+1)∧W (W (W (0+1)+1)+1)<(↑7:Int))∧(0:Int)≤(9:Int)∧((0:Int)≤W (W (W (0+1)+1)+1)∧W (W (W (0+1)+1)+1)<(↑7:Int))∧((0:Int)≤W (W (W (W (0+1)+1)+1)+1)∧W (W (W (W (0+1)+1)+1)+1)<(↑(1+1+1+1+1+1+1+1):Int))∧(0:Int)≤W (W (W (W (0+12)+9)+18)+9)∧((0:Int)≤W (W (W (W (0+1)+1)+1)+1)∧W (W (W (W (0+1)+1)+1)+1)<(↑7:Int))∧(0:Int)≤(1:Int)∧((0:Int)≤W (W (W (W (0+1)+1)+1)+1)∧W (W (W (W (0+1)+1)+1)+1)<(↑7:Int))∧((0:Int)≤W (W (W (W (W (0+1)+1)+1)+1)+1)∧W (W (W (W (W (0+1)+1)+1)+1)+1)<(↑(1+1+1+1+1+1+1+1):Int))∧(0:Int)≤W (W (W (W (W (0+12)+9)+18)+9)+1)∧((0:Int)≤W (W (W (W (W (0+1)+1)+1)+1)+1)∧W (W (W (W (W (0+1)+1)+1)+1)+1)<(↑7:Int))∧(0:Int)≤(3:Int)∧((0:Int)≤W (W (W (W (W (0+1)+1)+1)+1)+1)∧W (W (W (W (W (0+1)+1)+1)+1)+1)<(↑7:Int))∧((0:Int)≤W (W (W (W (W (W (0+1)+1)+1)+1)+1)+1)∧W (W (W (W (W (W (0+1)+1)+1)+1)+1)+1)<(↑(1+1+1+1+1+1+1+1):Int))∧(0:Int)≤W (W (W (W (W (W (0+12)+9)+18)+9)+1)+3)∧((0:Int)≤W (W (W (W (W (W (0+1)+1)+1)+1)+1)+1)∧W (W (W (W (W (W (0+1)+1)+1)+1)+1)+1)<(↑7:Int))∧(0:Int)≤(10:Int)∧((0:Int)≤W (W (W (W (W (W (0+1)+1)+1)+1)+1)+1)∧W (W (W (W (W (W (0+1)+1)+1)+1)+1)+1)<(↑7:Int))∧((0:Int)≤(0:Int)∧(0:Int)<(↑7:Int))∧((0:Int)≤(1:Int)∧(1:Int)<(↑7:Int))∧((0:Int)≤(2:Int)∧(2:Int)<(↑7:Int))∧((0:Int)≤(3:Int)∧(3:Int)<(↑7:Int))∧((0:Int)≤(4:Int)∧(4:Int)<(↑7:Int))∧((0:Int)≤(5:Int)∧(5:Int)<(↑7:Int))∧((0:Int)≤(6:Int)∧(6:Int)<(↑7:Int))∧K (.agg [.int .i64 (W (WU (↑(BitVec.toNat (BitVec.ofInt (IntKind.bits .u64) (Int.fdiv x (2^min (Int.toNat 0) (IntKind.bits .u64)))&&&BitVec.ofInt (IntKind.bits .u64) (WU (WU (1*2^min (Int.toNat 12) (IntKind.bits .u64)) - 1)))):Int))),.int .i64 (W (WU (↑(BitVec.toNat (BitVec.ofInt (IntKind.bits .u64) (Int.fdiv x (2^min (Int.toNat (W (0+12))) (IntKind.bits .u64)))&&&BitVec.ofInt (IntKind.bits .u64) (WU (WU (1*2^min (Int.toNat 9) (IntKind.bits .u64)) - 1)))):Int))),.int .i64 (W (WU (↑(BitVec.toNat (BitVec.ofInt (IntKind.bits .u64) (Int.fdiv x (2^min (Int.toNat (W (W (0+12)+9))) (IntKind.bits .u64)))&&&BitVec.ofInt (IntKind.bits .u64) (WU (WU (1*2^min (Int.toNat 18) (IntKind.bits .u64)) - 1)))):Int))),.int .i64 (W (WU (↑(BitVec.toNat (BitVec.ofInt (IntKind.bits .u64) (Int.fdiv x (2^min (Int.toNat (W (W (W (0+12)+9)+18))) (IntKind.bits .u64)))&&&BitVec.ofInt (IntKind.bits .u64) (WU (WU (1*2^min (Int.toNat 9) (IntKind.bits .u64)) - 1)))):Int))),.bool (ieq (W (WU (↑(BitVec.toNat (BitVec.ofInt (IntKind.bits .u64) (Int.fdiv x (2^min (Int.toNat (W (W (W (W (0+12)+9)+18)+9))) (IntKind.bits .u64)))&&&BitVec.ofInt (IntKind.bits .u64) (WU (WU (1*2^min (Int.toNat 1) (IntKind.bits .u64)) - 1)))):Int))) 1),.int .i64 (W (WU (↑(BitVec.toNat (BitVec.ofInt (IntKind.bits .u64) (Int.fdiv x (2^min (Int.toNat (W (W (W (W (W (0+12)+9)+18)+9)+1))) (IntKind.bits .u64)))&&&BitVec.ofInt (IntKind.bits .u64) (WU (WU (1*2^min (Int.toNat 3) (IntKind.bits .u64)) - 1)))):Int))),.int .i64 (W (WU (↑(BitVec.toNat (BitVec.ofInt (IntKind.bits .u64) (Int.fdiv x (2^min (Int.toNat (W (W (W (W (W (W (0+12)+9)+18)+9)+1)+3))) (IntKind.bits .u64)))&&&BitVec.ofInt (IntKind.bits .u64) (WU (WU (1*2^min (Int.toNat 10) (IntKind.bits .u64)) - 1)))):Int)))]) []) (by kernel_rfl) ?_)
 simp(disch:=omega) only [W,WU,cU,Int.reduceAdd,Int.zero_add]
 simp(disch:=omega) only [P9]
 repeat refine⟨by omega,?_⟩
 exact hK
theorem qT{a b:Int}{X Y:Prop}(h1:a<b→X)(h2:b≤a→Y):cond (ilt a b) X Y:=
 aP (fun e=>h1 (by rw [bS,dT']at e;exact e)) (fun e=>h2 (by rw [bS,dF']at e;omega))
theorem vT{a b:Int}{X Y:Prop}(h1:a≤b→X)(h2:b<a→Y):cond (ile a b) X Y:=
 aP (fun e=>h1 (by rw [cE,dT']at e;exact e)) (fun e=>h2 (by rw [cE,dF']at e;omega))
theorem GW{a b:Int}{X Y:Prop}(h1:a=b→X)(h2:a≠b→Y):cond (ieq a b) X Y:=
 aP (fun e=>h1 (by rw [b9]at e;simpa using e)) (fun e=>h2 (by rw [b9]at e;simpa using e))
theorem eS{a b c d e f:Int} :dOk a b c d e f=true↔(0≤a∧a<4096)∧(0≤b∧b<512)∧(0≤c∧c<262144)∧(0≤d∧d<512)∧(0≤e∧e<8)∧(0≤f∧f<1024):=by
 unfold dOk;simp only [Bool.and_eq_true,cL]<;>rfl
def L6:bZ Ob:=fun args h=>match args,h with
 | [.agg [.int .i64 a,.int .i64 b,.int .i64 c,.int .i64 d,.bool m,.int .i64 e,.int .i64 f]],[]=>some (True,.tup [.int .u64 (bif dOk a b c d e f then aY a b c d m e f else 0),.int .i64 (bif dOk a b c d e f then 0 else 2)])
 | _,_=>none
set_option maxRecDepth 100000 in
theorem QF:aM.ok E16.I Tryz.prog 113 L6.spec:=by
 intro args h o ho K hK
 unfold bZ.spec at ho
 split at ho
 case h_2=>cases ho
 rename_i pp vv hv
 unfold L6 at hv
 split at hv
 case h_2=>cases hv
 rename_i a b c d m e f
 simp only [sI',pI']at hv
 obtain⟨rfl,rfl⟩:=hv
 simp only [sI']at ho;subst ho
 obtain⟨hp,hK⟩:=hK
 have hK:K (.tup [.int .u64 (bif dOk a b c d e f then aY a b c d m e f else 0),.int .i64 (bif dOk a b c d e f then 0 else 2)]) []:=hK
 refine aBs (cM' (E:=E16) (q:=((0:Int)≤(0:Int)∧(0:Int)<(↑7:Int))∧((0:Int)≤(0:Int)∧(0:Int)<(↑1:Int))∧1+(1:Nat)≤(4294967296:Nat)∧((0:Int)≤W (0+1)∧W (0+1)<(↑7:Int))∧((0:Int)≤W (0+1)∧W (0+1)<(↑(1+1):Int))∧1+1+(1:Nat)≤(4294967296:Nat)∧((0:Int)≤W (W (0+1)+1)∧W (W (0+1)+1)<(↑7:Int))∧((0:Int)≤W (W (0+1)+1)∧W (W (0+1)+1)<(↑(1+1+1):Int))∧1+1+1+(1:Nat)≤(4294967296:Nat)∧((0:Int)≤W (W (W (0+1)+1)+1)∧W (W (W (0+1)+1)+1)<(↑7:Int))∧((0:Int)≤W (W (W (0+1)+1)+1)∧W (W (W (0+1)+1)+1)<(↑(1+1+1+1):Int))∧1+1+1+1+(1:Nat)≤(4294967296:Nat)∧((0:Int)≤W (W (W (W (0+1)+1)+1)+1)∧W (W (W (W (0+1)+1)+1)+1)<(↑7:Int))∧((0:Int)≤W (W (W (W (0+1)+1)+1)+1)∧W (W (W (W (0+1)+1)+1)+1)<(↑(1+1+1+1+1):Int))∧1+1+1+1+1+(1:Nat)≤(4294967296:Nat)∧((0:Int)≤W (W (W (W (W (0+1)+1)+1)+1)+1)∧W (W (W (W (W (0+1)+1)+1)+1)+1)<(↑7:Int))∧((0:Int)≤W (W (W (W (W (0+1)+1)+1)+1)+1)∧W (W (W (W (W (0+1)+1)+1)+1)+1)<(↑(1+1+1+1+1+1):Int))∧1+1+1+1+1+1+(1:Nat)≤(4294967296:Nat)∧((0:Int)≤W (W (W (W (W (W (0+1)+1)+1)+1)+1)+1)∧W (W (W (W (W (W (0+1)+1)+1)+1)+1)+1)<(↑7:Int))∧((0:Int)≤W (W (W (W (W (W (0+1)+1)+1)+1)+1)+1)∧W (W (W (W (W (W (0+1)+1)+1)+1)+1)+1)<(↑(1+1+1+1+1+1+1):Int))∧1+1+1+1+1+1+1+(1:Nat)≤(4294967296:Nat)∧bif m then((0:Int)≤(0:Int)∧(0:Int)<(↑7:Int))∧bif ilt a 0 then K (.tup [.int .u64 0,.int .i64 2]) []else((0:Int)≤(0:Int)∧(0:Int)<(↑7:Int))∧(0:Int)≤(12:Int)∧bif ile (W (1*2^min (Int.toNat 12) (IntKind.bits .i64))) a then K (.tup [.int .u64 0,.int .i64 2]) []else((0:Int)≤(0:Int)∧(0:Int)<(↑(1+1+1+1+1+1+1+1):Int))∧(0:Int)≤(0:Int)∧((0:Int)≤W (0+1)∧W (0+1)<(↑7:Int))∧bif ilt b 0 then K (.tup [.int .u64 0,.int .i64 2]) []else((0:Int)≤W (0+1)∧W (0+1)<(↑7:Int))∧(0:Int)≤(9:Int)∧bif ile (W (1*2^min (Int.toNat 9) (IntKind.bits .i64))) b then K (.tup [.int .u64 0,.int .i64 2]) []else((0:Int)≤W (0+1)∧W (0+1)<(↑(1+1+1+1+1+1+1+1):Int))∧(0:Int)≤W (0+12)∧((0:Int)≤W (W (0+1)+1)∧W (W (0+1)+1)<(↑7:Int))∧bif ilt c 0 then K (.tup [.int .u64 0,.int .i64 2]) []else((0:Int)≤W (W (0+1)+1)∧W (W (0+1)+1)<(↑7:Int))∧(0:Int)≤(18:Int)∧bif ile (W (1*2^min (Int.toNat 18) (IntKind.bits .i64))) c then K (.tup [.int .u64 0,.int .i64 2]) []else((0:Int)≤W (W (0+1)+1)∧W (W (0+1)+1)<(↑(1+1+1+1+1+1+1+1):Int))∧(0:Int)≤W (W (0+12)+9)∧((0:Int)≤W (W (W (0+1)+1)+1)∧W (W (W (0+1)+1)+1)<(↑7:Int))∧bif ilt d 0 then K (.tup [.int .u64 0,.int .i64 2]) []else((0:Int)≤W (W (W (0+1)+1)+1)∧W (W (W (0+1)+1)+1)<(↑7:Int))∧(0:Int)≤(9:Int)∧bif ile (W (1*2^min (Int.toNat 9) (IntKind.bits .i64))) d then K (.tup [.int .u64 0,.int .i64 2]) []else((0:Int)≤W (W (W (0+1)+1)+1)∧W (W (W (0+1)+1)+1)<(↑(1+1+1+1+1+1+1+1):Int))∧(0:Int)≤W (W (W (0+12)+9)+18)∧((0:Int)≤W (W (W (W (0+1)+1)+1)+1)∧W (W (W (W (0+1)+1)+1)+1)<(↑7:Int))∧((0:Int)≤W (W (W (W (0+1)+1)+1)+1)∧W (W (W (W (0+1)+1)+1)+1)<(↑7:Int))∧(0:Int)≤(1:Int)∧((0:Int)≤W (W (W (W (0+1)+1)+1)+1)∧W (W (W (W (0+1)+1)+1)+1)<(↑(1+1+1+1+1+1+1+1):Int))∧(0:Int)≤W (W (W (W (0+12)+9)+18)+9)∧((0:Int)≤W (W (W (W (W (0+1)+1)+1)+1)+1)∧W (W (W (W (W (0+1)+1)+1)+1)+1)<(↑7:Int))∧bif ilt e 0 then K (.tup [.int .u64 0,.int .i64 2]) []else((0:Int)≤W (W (W (W (W (0+1)+1)+1)+1)+1)∧W (W (W (W (W (0+1)+1)+1)+1)+1)<(↑7:Int))∧(0:Int)≤(3:Int)∧bif ile (W (1*2^min (Int.toNat 3) (IntKind.bits .i64))) e then K (.tup [.int .u64 0,.int .i64 2]) []else((0:Int)≤W (W (W (W (W (0+1)+1)+1)+1)+1)∧W (W (W (W (W (0+1)+1)+1)+1)+1)<(↑(1+1+1+1+1+1+1+1):Int))∧(0:Int)≤W (W (W (W (W (0+12)+9)+18)+9)+1)∧((0:Int)≤W (W (W (W (W (W (0+1)+1)+1)+1)+1)+1)∧W (W (W (W (W (W (0+1)+1)+1)+1)+1)+1)<(↑7:Int))∧bif ilt f 0 then K (.tup [.int .u64 0,.int .i64 2]) []else((0:Int)≤W (W (W (W (W (W (0+1)+1)+1)+1)+1)+1)∧W (W (W (W (W (W (0+1)+1)+1)+1)+1)+1)<(↑7:Int))∧(0:Int)≤(10:Int)∧bif ile (W (1*2^min (Int.toNat 10) (IntKind.bits .i64))) f then K (.tup [.int .u64 0,.int .i64 2]) []else((0:Int)≤W (W (W (W (W (W (0+1)+1)+1)+1)+1)+1)∧W (W (W (W (W (W (0+1)+1)+1)+1)+1)+1)<(↑(1+1+1+1+1+1+1+1):Int))∧(0:Int)≤W (W (W (W (W (W (0+12)+9)+18)+9)+1)+3)∧K (.tup [.int .u64 (WU (↑(BitVec.toNat (BitVec.ofInt (IntKind.bits .u64) (WU (↑(BitVec.toNat (BitVec.ofInt (IntKind.bits .u64) (WU (↑(BitVec.toNat (BitVec.ofInt (IntKind.bits .u64) (WU (↑(BitVec.toNat (BitVec.ofInt (IntKind.bits .u64) (WU (↑(BitVec.toNat (BitVec.ofInt (IntKind.bits .u64) (WU (↑(BitVec.toNat (BitVec.ofInt (IntKind.bits .u64) (WU (↑(BitVec.toNat (BitVec.ofInt (IntKind.bits .u64) 0|||BitVec.ofInt (IntKind.bits .u64) (WU (WU a*2^min (Int.toNat 0) (IntKind.bits .u64))))):Int))|||BitVec.ofInt (IntKind.bits .u64) (WU (WU b*2^min (Int.toNat (W (0+12))) (IntKind.bits .u64))))):Int))|||BitVec.ofInt (IntKind.bits .u64) (WU (WU c*2^min (Int.toNat (W (W (0+12)+9))) (IntKind.bits .u64))))):Int))|||BitVec.ofInt (IntKind.bits .u64) (WU (WU d*2^min (Int.toNat (W (W (W (0+12)+9)+18))) (IntKind.bits .u64))))):Int))|||BitVec.ofInt (IntKind.bits .u64) (WU (WU 1*2^min (Int.toNat (W (W (W (W (0+12)+9)+18)+9))) (IntKind.bits .u64))))):Int))|||BitVec.ofInt (IntKind.bits .u64) (WU (WU e*2^min (Int.toNat (W (W (W (W (W (0+12)+9)+18)+9)+1))) (IntKind.bits .u64))))):Int))|||BitVec.ofInt (IntKind.bits .u64) (WU (WU f*2^min (Int.toNat (W (W (W (W (W (W (0+12)+9)+18)+9)+1)+3))) (IntKind.bits .u64))))):Int)),.int .i64 0]) []else((0:Int)≤(0:Int)∧(0:Int)<(↑7:Int))∧bif ilt a 0 then K (.tup [.int .u64 0,.int .i64 2]) []else((0:Int)≤(0:Int)∧(0:Int)<(↑7:Int))∧(0:Int)≤(12:Int)∧bif ile (W (1*2^min (Int.toNat 12) (IntKind.bits .i64))) a then K (.tup [.int .u64 0,.int .i64 2]) []else((0:Int)≤(0:Int)∧(0:Int)<(↑(1+1+1+1+1+1+1+1):Int))∧(0:Int)≤(0:Int)∧((0:Int)≤W (0+1)∧W (0+1)<(↑7:Int))∧bif ilt b 0 then K (.tup [.int .u64 0,.int .i64 2]) []else((0:Int)≤W (0+1)∧W (0+1)<(↑7:Int))∧(0:Int)≤(9:Int)∧bif ile (W (1*2^min (Int.toNat 9) (IntKind.bits .i64))) b then K (.tup [.int .u64 0,.int .i64 2]) []else((0:Int)≤W (0+1)∧W (0+1)<(↑(1+1+1+1+1+1+1+1):Int))∧(0:Int)≤W (0+12)∧((0:Int)≤W (W (0+1)+1)∧W (W (0+1)+1)<(↑7:Int))∧bif ilt c 0 then K (.tup [.int .u64 0,.int .i64 2]) []else((0:Int)≤W (W (0+1)+1)∧W (W (0+1)+1)<(↑7:Int))∧(0:Int)≤(18:Int)∧bif ile (W (1*2^min (Int.toNat 18) (IntKind.bits .i64))) c then K (.tup [.int .u64 0,.int .i64 2]) []else((0:Int)≤W (W (0+1)+1)∧W (W (0+1)+1)<(↑(1+1+1+1+1+1+1+1):Int))∧(0:Int)≤W (W (0+12)+9)∧((0:Int)≤W (W (W (0+1)+1)+1)∧W (W (W (0+1)+1)+1)<(↑7:Int))∧bif ilt d 0 then K (.tup [.int .u64 0,.int .i64 2]) []else((0:Int)≤W (W (W (0+1)+1)+1)∧W (W (W (0+1)+1)+1)<(↑7:Int))∧(0:Int)≤(9:Int)∧bif ile (W (1*2^min (Int.toNat 9) (IntKind.bits .i64))) d then K (.tup [.int .u64 0,.int .i64 2]) []else((0:Int)≤W (W (W (0+1)+1)+1)∧W (W (W (0+1)+1)+1)<(↑(1+1+1+1+1+1+1+1):Int))∧(0:Int)≤W (W (W (0+12)+9)+18)∧((0:Int)≤W (W (W (W (0+1)+1)+1)+1)∧W (W (W (W (0+1)+1)+1)+1)<(↑7:Int))∧((0:Int)≤W (W (W (W (0+1)+1)+1)+1)∧W (W (W (W (0+1)+1)+1)+1)<(↑7:Int))∧(0:Int)≤(1:Int)∧((0:Int)≤W (W (W (W (0+1)+1)+1)+1)∧W (W (W (W (0+1)+1)+1)+1)<(↑(1+1+1+1+1+1+1+1):Int))∧(0:Int)≤W (W (W (W (0+12)+9)+18)+9)∧((0:Int)≤W (W (W (W (W (0+1)+1)+1)+1)+1)∧W (W (W (W (W (0+1)+1)+1)+1)+1)<(↑7:Int))∧bif ilt e 0 then K (.tup [.int .u64 0,.int .i64 2]) []else((0:Int)≤W (W (W (W (W (0+1)+1)+1)+1)+1)∧W (W (W (W (W (0+1)+1)+1)+1)+1)<(↑7:Int))∧(0:Int)≤(3:Int)∧bif ile (W (1*2^min (Int.toNat 3) (IntKind.bits .i64))) e then K (.tup [.int .u64 0,.int .i64 2]) []else((0:Int)≤W (W (W (W (W (0+1)+1)+1)+1)+1)∧W (W (W (W (W (0+1)+1)+1)+1)+1)<(↑(1+1+1+1+1+1+1+1):Int))∧(0:Int)≤W (W (W (W (W (0+12)+9)+18)+9)+1)∧((0:Int)≤W (W (W (W (W (W (0+1)+1)+1)+1)+1)+1)∧W (W (W (W (W (W (0+1)+1)+1)+1)+1)+1)<(↑7:Int))∧bif ilt f 0 then K (.tup [.int .u64 0,.int .i64 2]) []else((0:Int)≤W (W (W (W (W (W (0+1)+1)+1)+1)+1)+1)∧W (W (W (W (W (W (0+1)+1)+1)+1)+1)+1)<(↑7:Int))∧(0:Int)≤(10:Int)∧bif ile (W (1*2^min (Int.toNat 10) (IntKind.bits .i64))) f then K (.tup [.int .u64 0,.int .i64 2]) []else((0:Int)≤W (W (W (W (W (W (0+1)+1)+1)+1)+1)+1)∧W (W (W (W (W (W (0+1)+1)+1)+1)+1)+1)<(↑(1+1+1+1+1+1+1+1):Int))∧(0:Int)≤W (W (W (W (W (W (0+12)+9)+18)+9)+1)+3)∧K (.tup [.int .u64 (WU (↑(BitVec.toNat (BitVec.ofInt (IntKind.bits .u64) (WU (↑(BitVec.toNat (BitVec.ofInt (IntKind.bits .u64) (WU (↑(BitVec.toNat (BitVec.ofInt (IntKind.bits .u64) (WU (↑(BitVec.toNat (BitVec.ofInt (IntKind.bits .u64) (WU (↑(BitVec.toNat (BitVec.ofInt (IntKind.bits .u64) (WU (↑(BitVec.toNat (BitVec.ofInt (IntKind.bits .u64) (WU (↑(BitVec.toNat (BitVec.ofInt (IntKind.bits .u64) 0|||BitVec.ofInt (IntKind.bits .u64) (WU (WU a*2^min (Int.toNat 0) (IntKind.bits .u64))))):Int))|||BitVec.ofInt (IntKind.bits .u64) (WU (WU b*2^min (Int.toNat (W (0+12))) (IntKind.bits .u64))))):Int))|||BitVec.ofInt (IntKind.bits .u64) (WU (WU c*2^min (Int.toNat (W (W (0+12)+9))) (IntKind.bits .u64))))):Int))|||BitVec.ofInt (IntKind.bits .u64) (WU (WU d*2^min (Int.toNat (W (W (W (0+12)+9)+18))) (IntKind.bits .u64))))):Int))|||BitVec.ofInt (IntKind.bits .u64) (WU (WU 0*2^min (Int.toNat (W (W (W (W (0+12)+9)+18)+9))) (IntKind.bits .u64))))):Int))|||BitVec.ofInt (IntKind.bits .u64) (WU (WU e*2^min (Int.toNat (W (W (W (W (W (0+12)+9)+18)+9)+1))) (IntKind.bits .u64))))):Int))|||BitVec.ofInt (IntKind.bits .u64) (WU (WU f*2^min (Int.toNat (W (W (W (W (W (W (0+12)+9)+18)+9)+1)+3))) (IntKind.bits .u64))))):Int)),.int .i64 0]) []) (by kernel_rfl) ?_)
 have no:dOk a b c d e f=false→K (.tup [.int .u64 0,.int .i64 2]) []:=by intro h;rw [h]at hK;exact hK
 have yes:dOk a b c d e f=true→K (.tup [.int .u64 (aY a b c d m e f),.int .i64 0]) []:=by intro h;rw [h]at hK;exact hK
 clear hK hp
 have w10:W (1*2^min (Int.toNat 10) (IntKind.bits .i64))=1024:=by decide
 have w12:W (1*2^min (Int.toNat 12) (IntKind.bits .i64))=4096:=by decide
 have w9:W (1*2^min (Int.toNat 9) (IntKind.bits .i64))=512:=by decide
 have w18:W (1*2^min (Int.toNat 18) (IntKind.bits .i64))=262144:=by decide
 have w3:W (1*2^min (Int.toNat 3) (IntKind.bits .i64))=8:=by decide
 rw [w10,w12,w9,w18,w3]
 simp(disch:=omega) only [W,cU,Int.reduceAdd,Int.zero_add,Int.reduceToNat]
 cases m
 ·simp only [cond_true,cond_false]
  repeat' first
   | refine⟨by omega,?_⟩
   | refine qT (fun _=>?_) (fun _=>?_)
   | refine vT (fun _=>?_) (fun _=>?_)
  all_goals first
   | exact no (by cases h:dOk a b c d e f with
                  | false=>rfl
                  | true=>have:=eS.1 h;omega)
   | skip
  have ok:dOk a b c d e f=true:=eS.2 (by omega)
  refine cast (congrArg (fun z=>K (AVal.tup [.int .u64 z,.int .i64 0]) []) ?_) (yes ok)
  symm
  have hb:IntKind.bits .u64 =64:=rfl
  rw [hb]
  clear yes no ok
  have q0:=gF (a:=0) (x:=0) (y:=a) (p:=1) (q:=2^min 0 64) (s:=a) (by decide) (by omega) (by omega) (by omega) (by omega) (by decide)
  have q1:=gF (a:=12) (x:=a) (y:=b) (p:=4096) (q:=2^min 12 64) (s:=a+b*4096) (by decide) (by omega) (by omega) (by omega) (by omega) (by decide)
  have q2:=gF (a:=21) (x:=a+b*4096) (y:=c) (p:=2097152) (q:=2^min 21 64) (s:=a+b*4096+c*2097152) (by decide) (by omega) (by omega) (by omega) (by omega) (by decide)
  have q3:=gF (a:=39) (x:=a+b*4096+c*2097152) (y:=d) (p:=549755813888) (q:=2^min 39 64) (s:=a+b*4096+c*2097152+d*549755813888) (by decide) (by omega) (by omega) (by omega) (by omega) (by decide)
  have q4:=gF (a:=48) (x:=a+b*4096+c*2097152+d*549755813888) (y:=0) (p:=281474976710656) (q:=2^min 48 64) (s:=a+b*4096+c*2097152+d*549755813888+0*281474976710656) (by decide) (by omega) (by omega) (by omega) (by omega) (by decide)
  have q5:=gF (a:=49) (x:=a+b*4096+c*2097152+d*549755813888+0*281474976710656) (y:=e) (p:=562949953421312) (q:=2^min 49 64) (s:=a+b*4096+c*2097152+d*549755813888+0*281474976710656+e*562949953421312) (by decide) (by omega) (by omega) (by omega) (by omega) (by decide)
  have q6:=gF (a:=52) (x:=a+b*4096+c*2097152+d*549755813888+0*281474976710656+e*562949953421312) (y:=f) (p:=4503599627370496) (q:=2^min 52 64) (s:=a+b*4096+c*2097152+d*549755813888+0*281474976710656+e*562949953421312+f*4503599627370496) (by decide) (by omega) (by omega) (by omega) (by omega) (by decide)
  simp only [WU]at q0 q1 q2 q3 q4 q5 q6⊢
  rw [q0,q1,q2,q3,q4,q5,q6]
  unfold aY bitI
  rfl
 ·simp only [cond_true,cond_false]
  repeat' first
   | refine⟨by omega,?_⟩
   | refine qT (fun _=>?_) (fun _=>?_)
   | refine vT (fun _=>?_) (fun _=>?_)
  all_goals first
   | exact no (by cases h:dOk a b c d e f with
                  | false=>rfl
                  | true=>have:=eS.1 h;omega)
   | skip
  have ok:dOk a b c d e f=true:=eS.2 (by omega)
  refine cast (congrArg (fun z=>K (AVal.tup [.int .u64 z,.int .i64 0]) []) ?_) (yes ok)
  symm
  have hb:IntKind.bits .u64 =64:=rfl
  rw [hb]
  clear yes no ok
  have q0:=gF (a:=0) (x:=0) (y:=a) (p:=1) (q:=2^min 0 64) (s:=a) (by decide) (by omega) (by omega) (by omega) (by omega) (by decide)
  have q1:=gF (a:=12) (x:=a) (y:=b) (p:=4096) (q:=2^min 12 64) (s:=a+b*4096) (by decide) (by omega) (by omega) (by omega) (by omega) (by decide)
  have q2:=gF (a:=21) (x:=a+b*4096) (y:=c) (p:=2097152) (q:=2^min 21 64) (s:=a+b*4096+c*2097152) (by decide) (by omega) (by omega) (by omega) (by omega) (by decide)
  have q3:=gF (a:=39) (x:=a+b*4096+c*2097152) (y:=d) (p:=549755813888) (q:=2^min 39 64) (s:=a+b*4096+c*2097152+d*549755813888) (by decide) (by omega) (by omega) (by omega) (by omega) (by decide)
  have q4:=gF (a:=48) (x:=a+b*4096+c*2097152+d*549755813888) (y:=1) (p:=281474976710656) (q:=2^min 48 64) (s:=a+b*4096+c*2097152+d*549755813888+1*281474976710656) (by decide) (by omega) (by omega) (by omega) (by omega) (by decide)
  have q5:=gF (a:=49) (x:=a+b*4096+c*2097152+d*549755813888+1*281474976710656) (y:=e) (p:=562949953421312) (q:=2^min 49 64) (s:=a+b*4096+c*2097152+d*549755813888+1*281474976710656+e*562949953421312) (by decide) (by omega) (by omega) (by omega) (by omega) (by decide)
  have q6:=gF (a:=52) (x:=a+b*4096+c*2097152+d*549755813888+1*281474976710656+e*562949953421312) (y:=f) (p:=4503599627370496) (q:=2^min 52 64) (s:=a+b*4096+c*2097152+d*549755813888+1*281474976710656+e*562949953421312+f*4503599627370496) (by decide) (by omega) (by omega) (by omega) (by omega) (by decide)
  simp only [WU]at q0 q1 q2 q3 q4 q5 q6⊢
  rw [q0,q1,q2,q3,q4,q5,q6]
  unfold aY bitI
  rfl
noncomputable def E20:=(E16.addR 102 LW QE).addR 113 L6 QF
def eO(a:Int):Int:=(a+1)%4096
def FI:bZ Ob:=fun args h=>match args,h with
 | [.agg [.int .i64 a,.int .i64 b,.int .i64 c,.int .i64 d,.bool m,.int .i64 e,.int .i64 f]],[]=>some (0≤a∧a≤1000000,.agg [.int .i64 (eO a),.int .i64 0,.int .i64 0,.int .i64 0,.bool false,.int .i64 1,.int .i64 0])
 | _,_=>none
theorem NY:aM.ok E20.I Tryz.prog 214 FI.spec:=by
 intro args h o ho K hK
 unfold bZ.spec at ho
 split at ho
 case h_2=>cases ho
 rename_i pp vv hv
 unfold FI at hv
 split at hv
 case h_2=>cases hv
 rename_i a b c d m e f
 simp only [sI',pI']at hv
 obtain⟨rfl,rfl⟩:=hv
 simp only [sI']at ho;subst ho
 obtain⟨hp,hK⟩:=hK
 have hK:K (.agg [.int .i64 (eO a),.int .i64 0,.int .i64 0,.int .i64 0,.bool false,.int .i64 1,.int .i64 0]) []:=hK
 refine aBs (cM' (E:=E20) (q:=K (.agg [.int .i64 (W (↑(BitVec.toNat (BitVec.ofInt (IntKind.bits .i64) (W (a+1))&&&BitVec.ofInt (IntKind.bits .i64) 4095)):Int)),.int .i64 0,.int .i64 0,.int .i64 0,.bool false,.int .i64 1,.int .i64 0]) []) (by kernel_rfl) ?_)
 refine cast (congrArg (fun z=>K (.agg [.int .i64 z,.int .i64 0,.int .i64 0,.int .i64 0,.bool false,.int .i64 1,.int .i64 0]) []) ?_) hK
 show eO a=_
 have hb:IntKind.bits .i64 =64:=rfl
 simp only [W]
 rw [hb,cU (x:=a+1) (by omega)]
 have:=jN (n:=64) (w:=12) (a+1) (by omega)
 have e:(2:Int)^12 - 1=4095:=by decide
 rw [e]at this
 rw [this]
 have e2:(2:Int)^12=4096:=by decide
 rw [e2,cU (by omega)]
 rfl
def FO:bZ Ob:=fun args h=>match args,h with
 | [.agg [.int .i64 a,.int .i64 b,.int .i64 c,.int .i64 d,.bool m,.int .i64 e,.int .i64 f]],[]=>some (True,.bool (iO e))
 | _,_=>none
theorem N5:aM.ok E8.I Tryz.prog 109 FO.spec:=by
 intro args h o ho K hK
 unfold bZ.spec at ho
 split at ho
 case h_2=>cases ho
 rename_i pp vv hv
 unfold FO at hv
 split at hv
 case h_2=>cases hv
 rename_i a b c d m e f
 simp only [sI',pI']at hv
 obtain⟨rfl,rfl⟩:=hv
 simp only [sI']at ho;subst ho
 obtain⟨hp,hK⟩:=hK
 have hK:K (.bool (iO e)) []:=hK
 refine aBs (cM' (E:=E8) (q:=((0:Int)≤(0:Int)∧(0:Int)<(↑4:Int))∧bif ieq e 1 then K (.bool true) []else((0:Int)≤W (0+1)∧W (0+1)<(↑4:Int))∧bif ieq e 2 then K (.bool true) []else((0:Int)≤W (W (0+1)+1)∧W (W (0+1)+1)<(↑4:Int))∧bif ieq e 3 then K (.bool true) []else((0:Int)≤W (W (W (0+1)+1)+1)∧W (W (W (0+1)+1)+1)<(↑4:Int))∧bif ieq e 4 then K (.bool true) []else K (.bool false) []) (by kernel_rfl) ?_)
 have hb: ∀v:Bool,iO e=v→K (.bool v) []:=by intro v h;rw [←h];exact hK
 have yes:1≤e∧e≤4→iO e=true:=by intro h;unfold iO;rw [cE,cE,decide_eq_true h.1,decide_eq_true h.2];rfl
 have no: ¬(1≤e∧e≤4)→iO e=false:=by
  intro h;unfold iO;rw [cE,cE]
  by_cases h1:1≤e
  ·rw [decide_eq_true h1,decide_eq_false (by omega)];rfl
  ·rw [decide_eq_false h1];rfl
 simp(disch:=omega) only [W,cU,Int.reduceAdd,Int.zero_add]
 repeat' first
  | refine⟨by omega,?_⟩
  | refine GW (fun _=>?_) (fun _=>?_)
 all_goals first
  | exact hb _ (yes (by omega))
  | exact hb _ (no (by omega))
def D9:bZ Ob:=fun args h=>match args,h with
 | [.agg [.int .i64 a,.int .i64 b,.int .i64 c,.int .i64 d,.bool m,.int .i64 e,.int .i64 f],.agg [.int .i64 g,.bool o,.int .i64 v]],[]=>some (True,.agg [.int .i64 a,.int .i64 0,.int .i64 0,.int .i64 (bif ieq g 4 then 1 else 0),.bool o,.int .i64 5,.int .i64 v])
 | _,_=>none
theorem L8:aM.ok E20.I Tryz.prog 114 D9.spec:=by
 intro args h o ho K hK
 unfold bZ.spec at ho
 split at ho
 case h_2=>cases ho
 rename_i pp vv hv
 unfold D9 at hv
 split at hv
 case h_2=>cases hv
 rename_i a b c d m e f g o v
 simp only [sI',pI']at hv
 obtain⟨rfl,rfl⟩:=hv
 simp only [sI']at ho;subst ho
 obtain⟨hp,hK⟩:=hK
 have hK:K (.agg [.int .i64 a,.int .i64 0,.int .i64 0,.int .i64 (bif ieq g 4 then 1 else 0),.bool o,.int .i64 5,.int .i64 v]) []:=hK
 refine aBs (cM' (E:=E20) (q:=bif ieq g 4 then K (.agg [.int .i64 a,.int .i64 0,.int .i64 0,.int .i64 1,.bool o,.int .i64 5,.int .i64 v]) []else K (.agg [.int .i64 a,.int .i64 0,.int .i64 0,.int .i64 0,.bool o,.int .i64 5,.int .i64 v]) []) (by kernel_rfl) ?_)
 generalize ieq g 4=b1 at hK⊢
 cases b1<;>exact hK
noncomputable def E21a:=(((((E20.addR 214 FI NY).addR 109 FO N5)).addR 114 D9 L8))
noncomputable def E21:=(E21a)
theorem eN{s k y:Int} :bX s k y=true↔(((s=1∨s=2)∧1≤k∧k≤3)∨((s=3∨s=4)∧(k=4∨k=5)))∧0≤y∧y≤999∧(k=5→y≤0):=by
 have hm:(bif ieq k 5 then(0:Int)else 999)=if k=5 then 0 else 999:=by
  rw [b9];by_cases h:k=5
  ·simp [h]
  ·have h':(k == 5)=false:=by simpa using h
   rw [h',if_neg h];rfl
 have hk:k∈fA s↔(((s=1∨s=2)∧1≤k∧k≤3)∨((s=3∨s=4)∧(k=4∨k=5))):=by
  unfold fA
  rw [b9,b9,b9,b9]
  by_cases h1:s=1
  ·subst h1;simp;omega
  by_cases h2:s=2
  ·subst h2;simp;omega
  by_cases h3:s=3
  ·subst h3;simp
  by_cases h4:s=4
  ·subst h4;simp
  have g1:(s == 1)=false:=by simpa using h1
  have g2:(s == 2)=false:=by simpa using h2
  have g3:(s == 3)=false:=by simpa using h3
  have g4:(s == 4)=false:=by simpa using h4
  rw [g1,g2,g3,g4]
  simp [h1,h2,h3,h4]
 unfold bX
 rw [Bool.and_eq_true,Bool.and_eq_true,xY,hk,cE,cE,dT',dT',hm]
 by_cases h5:k=5
 ·simp [h5];omega
 ·simp [h5]
def tskV(s k y:Int):Int:=s+8*k+64*y
def PB:bZ Ob:=fun args h=>match args,h with
 | [.agg [.int .i64 s,.int .i64 k,.int .i64 y]],[]=>some (True,.tup [.int .u64 (bif bX s k y then tskV s k y else 0),.int .i64 (bif bX s k y then 0 else 1)])
 | _,_=>none
theorem TA:aM.ok E21.I Tryz.prog 171 PB.spec:=by
 intro args h o ho K hK
 unfold bZ.spec at ho
 split at ho
 case h_2=>cases ho
 rename_i pp vv hv
 unfold PB at hv
 split at hv
 case h_2=>cases hv
 rename_i s k y
 simp only [sI',pI']at hv
 obtain⟨rfl,rfl⟩:=hv
 simp only [sI']at ho;subst ho
 obtain⟨hp,hK⟩:=hK
 have hK:K (.tup [.int .u64 (bif bX s k y then tskV s k y else 0),.int .i64 (bif bX s k y then 0 else 1)]) []:=hK
 refine aBs (cM' (E:=E21) (q:=True∧bif !bX s k y then K (.tup [.int .u64 0,.int .i64 1]) []else(0:Int)≤(3:Int)∧(0:Int)≤(6:Int)∧K (.tup [.int .u64 (WU (W (↑(BitVec.toNat (BitVec.ofInt (IntKind.bits .i64) (W (↑(BitVec.toNat (BitVec.ofInt (IntKind.bits .i64) s|||BitVec.ofInt (IntKind.bits .i64) (W (k*2^min (Int.toNat 3) (IntKind.bits .i64))))):Int))|||BitVec.ofInt (IntKind.bits .i64) (W (y*2^min (Int.toNat 6) (IntKind.bits .i64))))):Int))),.int .i64 0]) []) (by kernel_rfl) ?_)
 refine⟨trivial,aP (fun e=>?_) (fun e=>⟨by omega,by omega,?_⟩)⟩
 ·rw [W5 e]at hK;exact hK
 ·have e:=W4 e
  rw [e]at hK
  have h:=eN.1 e
  refine cast (congrArg (fun z=>K (.tup [.int .u64 z,.int .i64 0]) []) ?_) hK
  show tskV s k y=_
  have hb:IntKind.bits .i64 =64:=rfl
  rw [hb]
  have p3:(2:Int)^min (Int.toNat 3) 64=2^3:=by decide
  have p6:(2:Int)^min (Int.toNat 6) 64=2^6:=by decide
  have v3:(2:Int)^3=8:=by decide
  have v6:(2:Int)^6=64:=by decide
  have v64:(2:Int)^64=18446744073709551616:=by decide
  rw [p3,p6]
  have q1:=v9 (n:=64) (a:=3) (x:=s) (y:=k) (by omega) (by omega) (by omega)
  have w1:W (k*2^3)=k*2^3:=y3 (by omega)
  rw [w1,q1]
  have w2:W (s+k*2^3)=s+k*2^3:=y3 (by omega)
  have w3:W (y*2^6)=y*2^6:=y3 (by omega)
  have q2:=v9 (n:=64) (a:=6) (x:=s+k*2^3) (y:=y) (by omega) (by omega) (by omega)
  rw [w2,w3,q2]
  have w4:W (s+k*2^3+y*2^6)=s+k*2^3+y*2^6:=y3 (by omega)
  have w5:WU (s+k*2^3+y*2^6)=s+k*2^3+y*2^6:=lE (by omega)
  rw [w4,w5,v3,v6]
  unfold tskV
  omega
def WZ:bZ Ob:=fun args h=>match args,h with
 | [.int .i64 s,.agg [.int .i64 k,.int .i64 y]],[]=>some (True,.bool (bX s k y))
 | _,_=>none
theorem W2:aM.ok E21.I Tryz.prog 16 WZ.spec:=by
 intro args h o ho K hK
 unfold bZ.spec at ho
 split at ho
 case h_2=>cases ho
 rename_i pp vv hv
 unfold WZ at hv
 split at hv
 case h_2=>cases hv
 rename_i s k y
 simp only [sI',pI']at hv
 obtain⟨rfl,rfl⟩:=hv
 simp only [sI']at ho;subst ho
 obtain⟨hp,hK⟩:=hK
 have hK:K (.bool (bX s k y)) []:=hK
 refine aBs (cM' (E:=E21) (q:=bif ilt y 0 then K (.bool false) []else bif ilt 999 y then K (.bool false) []else bif ieq s 1 then bif ile 1 k then K (.bool (ile k 3)) []else K (.bool false) []else bif ieq s 2 then bif ile 1 k then K (.bool (ile k 3)) []else K (.bool false) []else bif ieq s 3 then bif ieq k 4 then K (.bool true) []else bif ieq k 5 then K (.bool (ieq y 0)) []else K (.bool false) []else bif ieq s 4 then bif ieq k 4 then K (.bool true) []else bif ieq k 5 then K (.bool (ieq y 0)) []else K (.bool false) []else K (.bool false) []) (by kernel_rfl) ?_)
 have hb: ∀v:Bool,bX s k y=v→K (.bool v) []:=by intro v h;rw [←h];exact hK
 have yes:=(eN (s:=s) (k:=k) (y:=y)).2
 have no: ¬((((s=1∨s=2)∧1≤k∧k≤3)∨((s=3∨s=4)∧(k=4∨k=5)))∧0≤y∧y≤999∧(k=5→y≤0))→bX s k y=false:=by
  intro h
  cases e:bX s k y with
  | false=>rfl
  | true=>exact(h (eN.1 e)).elim
 have hle: ∀a b:Int,K (.bool (ile a b)) []∨ ¬K (.bool (ile a b)) []:=fun _ _=>Classical.em _
 repeat' first
  | refine qT (fun _=>?_) (fun _=>?_)
  | refine vT (fun _=>?_) (fun _=>?_)
  | refine GW (fun _=>?_) (fun _=>?_)
 all_goals first
  | exact hb _ (no (by omega))
  | exact hb _ (yes (by omega))
  | (rw [cE];by_cases c:k≤3
     ·rw [decide_eq_true c];exact hb _ (yes (by omega))
     ·rw [decide_eq_false c];exact hb _ (no (by omega)))
  | (rw [b9];by_cases c:y=0
     ·subst c;exact hb _ (yes (by omega))
     ·have c':(y == 0)=false:=by simpa using c
      rw [c'];exact hb _ (no (by omega)))
noncomputable def E22a:=((E21.addR 171 PB TA)).addR 16 WZ W2
def gX(x:Int):Bool:=ilt x 65536&&bX (aA x 0 3) (aA x 3 3) (aA x 6 10)
theorem zG{z:Int}(w:Nat)(hw:w≤61){c:Int}(hc:c=2^w - 1):IntKind.wrap .i64 (IntKind.wrap .u64 ((BitVec.ofInt 64 z&&&BitVec.ofInt 64 c).toNat :Int))=z%2^w:=by
 subst hc
 rw [jN _ (by omega)]
 have h4:=jE w
 have h3:(2:Int)^w≤2305843009213693952:=AR (n:=61) hw (by decide)
 have h6:=Int.emod_nonneg z (b:=2^w) (by omega)
 have h7:=Int.emod_lt_of_pos z (b:=2^w) (by omega)
 rw [lE (by omega),cU (by omega)]
def O7:bZ Ob:=fun args h=>match args,h with
 | [.int .u64 x],[]=>some (0≤x∧x≤18446744073709551615,.tup [.agg [.int .i64 (bif gX x then aA x 0 3 else 0),.int .i64 (bif gX x then aA x 3 3 else 0),.int .i64 (bif gX x then aA x 6 10 else 0)],.int .i64 (bif gX x then 0 else 3)])
 | _,_=>none
theorem S7:aM.ok E22a.I Tryz.prog 173 O7.spec:=by
 intro args h o ho K hK
 unfold bZ.spec at ho
 split at ho
 case h_2=>cases ho
 rename_i pp vv hv
 unfold O7 at hv
 split at hv
 case h_2=>cases hv
 rename_i x
 simp only [sI',pI']at hv
 obtain⟨rfl,rfl⟩:=hv
 simp only [sI']at ho;subst ho
 obtain⟨hp,hK⟩:=hK
 have hK:K (.tup [.agg [.int .i64 (bif gX x then aA x 0 3 else 0),.int .i64 (bif gX x then aA x 3 3 else 0),.int .i64 (bif gX x then aA x 6 10 else 0)],.int .i64 (bif gX x then 0 else 3)]) []:=hK
 refine aBs (cM' (E:=E22a) (q:=(0:Int)≤(3:Int)∧(0:Int)≤(6:Int)∧(0:Int)≤(16:Int)∧bif !ieq (Int.fdiv x (2^min (Int.toNat 16) (IntKind.bits .u64))) 0 then K (.tup [.agg [.int .i64 0,.int .i64 0,.int .i64 0],.int .i64 3]) []else True∧bif !bX (W (WU (↑(BitVec.toNat (BitVec.ofInt (IntKind.bits .u64) x&&&BitVec.ofInt (IntKind.bits .u64) 7)):Int))) (W (WU (↑(BitVec.toNat (BitVec.ofInt (IntKind.bits .u64) (Int.fdiv x (2^min (Int.toNat 3) (IntKind.bits .u64)))&&&BitVec.ofInt (IntKind.bits .u64) 7)):Int))) (W (WU (↑(BitVec.toNat (BitVec.ofInt (IntKind.bits .u64) (Int.fdiv x (2^min (Int.toNat 6) (IntKind.bits .u64)))&&&BitVec.ofInt (IntKind.bits .u64) 1023)):Int)))then K (.tup [.agg [.int .i64 0,.int .i64 0,.int .i64 0],.int .i64 3]) []else K (.tup [.agg [.int .i64 (W (WU (↑(BitVec.toNat (BitVec.ofInt (IntKind.bits .u64) x&&&BitVec.ofInt (IntKind.bits .u64) 7)):Int))),.int .i64 (W (WU (↑(BitVec.toNat (BitVec.ofInt (IntKind.bits .u64) (Int.fdiv x (2^min (Int.toNat 3) (IntKind.bits .u64)))&&&BitVec.ofInt (IntKind.bits .u64) 7)):Int))),.int .i64 (W (WU (↑(BitVec.toNat (BitVec.ofInt (IntKind.bits .u64) (Int.fdiv x (2^min (Int.toNat 6) (IntKind.bits .u64)))&&&BitVec.ofInt (IntKind.bits .u64) 1023)):Int)))],.int .i64 0]) []) (by kernel_rfl) ?_)
 have hb:IntKind.bits .u64 =64:=rfl
 have p3:(2:Int)^min (Int.toNat 3) 64=8:=by decide
 have p6:(2:Int)^min (Int.toNat 6) 64=64:=by decide
 have p16:(2:Int)^min (Int.toNat 16) 64=65536:=by decide
 have c0:aA x 0 3=x%2^3:=by unfold aA;show x / 1%8=x%8;omega
 have c1:aA x 3 3=Int.fdiv x 8%2^3:=by rw [Int.fdiv_eq_ediv_of_nonneg _ (by omega)];rfl
 have c2:aA x 6 10=Int.fdiv x 64%2^10:=by rw [Int.fdiv_eq_ediv_of_nonneg _ (by omega)];rfl
 rw [hb,p3,p6,p16]
 simp only [W,WU]
 rw [zG (z:=x) 3 (by omega) (c:=7) (by decide),zG (z:=Int.fdiv x 8) 3 (by omega) (c:=7) (by decide),zG (z:=Int.fdiv x 64) 10 (by omega) (c:=1023) (by decide),←c0,←c1,←c2]
 unfold gX at hK
 have e16:ieq (Int.fdiv x 65536) 0=ilt x 65536:=by
  rw [Int.fdiv_eq_ediv_of_nonneg _ (by omega),b9,bS]
  by_cases h:x<65536
  ·rw [decide_eq_true h];simp;omega
  ·rw [decide_eq_false h];simp;omega
 rw [e16]
 generalize ilt x 65536=b1 at hK⊢
 generalize bX (aA x 0 3) (aA x 3 3) (aA x 6 10)=b2 at hK⊢
 refine⟨by omega,by omega,by omega,?_⟩
 cases b1<;>cases b2<;>first | exact hK | exact⟨trivial,hK⟩
noncomputable def E22b:=(E22a.addR 173 O7 S7)
def recNewS:aM Ob:=fun args h=>match args,h with
 | [.agg [.int .i64 t,.int .i64 n],.int .i64 me,.agg [.int .i64 s,.int .i64 k,.int .i64 y]],[]=>some (.ret (.ptr 0 0) [some (.cells [.int .i64 t,.int .i64 n,.int .u64 0,.int .i64 me,.int .i64 0,.int .u64 (bif bX s k y then tskV s k y else 0),.bool (!bX s k y),.int .u64 0])])
 | _,_=>none
theorem KE:aM.ok E22b.I Tryz.prog 104 recNewS:=by
 intro args h o ho K hK
 unfold recNewS at ho
 split at ho<;>cases ho
 rename_i t n me s k y
 have hK:K (.ptr 0 0) [some (.cells [.int .i64 t,.int .i64 n,.int .u64 0,.int .i64 me,.int .i64 0,.int .u64 (bif bX s k y then tskV s k y else 0),.bool (!bX s k y),.int .u64 0])]:=hK
 refine aBs (cM' (E:=E22b) (q:=True∧K (.ptr 0 0) [some (.cells [.int .i64 t,.int .i64 n,.int .u64 0,.int .i64 me,.int .i64 0,.int .u64 (bif bX s k y then tskV s k y else 0),.bool !ieq (bif bX s k y then 0 else 1) 0,.int .u64 0])]) (by kernel_rfl) ?_)
 generalize bX s k y=b at hK⊢
 refine⟨trivial,?_⟩
 cases b<;>exact hK
noncomputable def E22:=(E22b.addS 104 recNewS KE)
noncomputable def E23:=E22
noncomputable def E24:=(((((E23)))))
def guardNewS:aM Ob:=fun args h=>match args,h with
 | [.agg [.int .i64 t,.int .i64 n],.slice 0 0 k 1],[some (.ints (some .i64) xs)]=>some (.pre (k=xs.length∧k≤1000000) (.ret (.ptr 1 0) [some (.ints (some .i64) xs),some (.cells [.int .i64 t,.int .i64 n,.raw (.slice none 0 0),.raw (.slice none 0 0),.slice 2 0 xs.length 1,.map 3,.int .i64 0,.raw (.pointer none)]),some (.ints (some .i64) xs),some (.imap .i64 none [])]))
 | _,_=>none
theorem B4:aM.ok E24.I Tryz.prog 222 guardNewS:=by
 intro args h o ho K hK
 unfold guardNewS at ho
 split at ho<;>cases ho
 rename_i t n k xs
 obtain⟨⟨rfl,hp⟩,hK⟩:=hK
 refine aBs (cM' (E:=E24) (q:=((lE' xs∧List.length xs≤(4294967296:Nat))∧True)∧K (.ptr 1 0) [some (.ints (some .i64) xs),some (.cells [.int .i64 t,.int .i64 n,.raw (Value.slice none 0 0),.raw (Value.slice none 0 0),.slice 2 0 (List.length xs) 1,.map 3,.int .i64 0,.raw (Value.pointer none)]),some (.ints (some .i64) xs),some (.imap .i64 none [])]) (by kernel_rfl) ?_)
 exact⟨⟨⟨rfl,by omega⟩,trivial⟩,hK⟩
def backS:aM Ob:=fun args h=>match args,h with
 | [.agg [.int .i64 t,.int .i64 n],.slice 0 0 k 1],[some (.ints (some .i64) xs)]=>some (.pre (k=xs.length∧k≤1000000) (.ret (.ptr 1 0) [some (.ints (some .i64) xs),some (.cells [.int .i64 t,.int .i64 n,.slice 2 0 xs.length 1]),some (.ints (some .i64) xs)]))
 | _,_=>none
theorem P0:aM.ok E24.I Tryz.prog 232 backS:=by
 intro args h o ho K hK
 unfold backS at ho
 split at ho<;>cases ho
 rename_i t n k xs
 obtain⟨⟨rfl,hp⟩,hK⟩:=hK
 refine aBs (cM' (E:=E24) (q:=((lE' xs∧List.length xs≤(4294967296:Nat))∧True)∧K (.ptr 1 0) [some (.ints (some .i64) xs),some (.cells [.int .i64 t,.int .i64 n,.slice 2 0 (List.length xs) 1]),some (.ints (some .i64) xs)]) (by kernel_rfl) ?_)
 exact⟨⟨⟨rfl,by omega⟩,trivial⟩,hK⟩
noncomputable def E35a:=(E24.addS 222 guardNewS B4).addS 232 backS P0
def mhas(m:List (Int×Int))(n:Int):Bool:=!ieq (Option.getD (mget m n) 0) 0
def cM(m:List (Int×Int))(xs:List Int):List Int:=xs.filter (mhas m)
def aV(m:List (Int×Int))(xs:List Int):List Int:=xs.filter (fun n=>!mhas m n)
structure ZL (m:List (Int×Int)) (xs:List Int) (x:Nat×List Int×List Int):Prop where
 h1:x.1≤xs.length
 h2:x.2.1=cM m (xs.take x.1)
 h3:x.2.2=aV m (xs.take x.1)
def C7(t n at':Int)(m:List (Int×Int))(xs:List Int):Hint Ob:= {X:=Nat×List Int×List Int,st:=fun x=>([.ptr 0 0,.O,.O,.O,.O,.O,.O,.O,.slice 1 0 xs.length 1,.int .i64 (xs.length:Int),.int .i64 (x.1:Int)]++List.replicate 48 .O,[some (.cells [.int .i64 t,.int .i64 n,.slice 3 0 x.2.1.length 1,.slice 4 0 x.2.2.length 1,.slice 1 0 xs.length 1,.map 2,.int .i64 at',.raw (.pointer none)]),some (.ints (some .i64) xs),some (.imap .i64 none m),some (.ints (some .i64) x.2.1),some (.ints (some .i64) x.2.2)]),ok:=ZL m xs,mu:=fun x=>xs.length - x.1,keep:=[0,8,9,10],casts:=[(.cell 0 2,.ints (some .i64)),(.cell 0 3,.ints (some .i64))] }
def partsS:aM Ob:=fun args h=>match args,h with
 | [.ptr 0 0],[some (.cells [.int .i64 t,.int .i64 n,.raw (.slice none 0 0),.raw (.slice none 0 0),.slice 1 0 k 1,.map 2,.int .i64 at',.raw (.pointer none)]),some (.ints (some .i64) xs),some (.imap .i64 none m)]=>some (.pre (k=xs.length∧k≤1000000) (.ret (.bool (ieq ((aV m xs).length :Int) 0)) [some (.cells [.int .i64 t,.int .i64 n,.slice 3 0 (cM m xs).length 1,.slice 4 0 (aV m xs).length 1,.slice 1 0 xs.length 1,.map 2,.int .i64 at',.ptr 5 0]),some (.ints (some .i64) xs),some (.imap .i64 none m),some (.ints (some .i64) (cM m xs)),some (.ints (some .i64) (aV m xs)),some (.cells [.int .i64 t,.int .i64 n,.slice 6 0 (aV m xs).length 1]),some (.ints (some .i64) (aV m xs))]))
 | _,_=>none
theorem vG(p:Int→Bool)(xs:List Int):(xs.filter p).length ≤xs.length:=List.length_filter_le p xs
theorem N3:aM.ok E35a.I Tryz.prog 228 partsS:=by
 intro args h o ho K hK
 unfold partsS at ho
 split at ho<;>cases ho
 rename_i t n k at' xs m
 obtain⟨⟨rfl,hp⟩,hK⟩:=hK
 refine aBs (aE (E:=E35a) Tryz.checked.mixed (L:=fun _ _=>some (.states (C7 t n at' m xs))) (n:=10) (aR (q:=okSt (C7 t n at' m xs) (Hint.ok (C7 t n at' m xs)) [.ptr 0 0,.O,.O,.O,.O,.O,.O,.O,.slice 1 0 (List.length xs) 1,.int .i64 (↑(List.length xs):Int),.int .i64 0,.O,.O,.O,.O,.O,.O,.O,.O,.O,.O,.O,.O,.O,.O,.O,.O,.O,.O,.O,.O,.O,.O,.O,.O,.O,.O,.O,.O,.O,.O,.O,.O,.O,.O,.O,.O,.O,.O,.O,.O,.O,.O,.O,.O,.O,.O,.O,.O] [some (.cells [.int .i64 t,.int .i64 n,.slice 3 0 0 1,.slice 4 0 0 1,.slice 1 0 (List.length xs) 1,.map 2,.int .i64 at',.raw (Value.pointer none)]),some (.ints (some .i64) xs),some (.imap .i64 none m),some (.ints (some .i64) []),some (.ints (some .i64) [])]∧ ∀(x:(Nat×List Int×List Int)),ZL m xs x→bif ilt (↑x.1:Int) (↑(List.length xs):Int)then((0:Int)≤(↑x.1:Int)∧(↑x.1:Int)<(↑(List.length xs):Int))∧0+Int.toNat (↑x.1:Int)*(1:Nat)<List.length xs∧bif !ieq (Option.getD (mget m (List.getD xs (0+Int.toNat (↑x.1:Int)*1) 0)) 0) 0 then(0=0∧lE' (Prod.snd x).1∧1=1∧List.length (Prod.snd x).1+(1:Nat)≤(4294967296:Nat))∧okSt (C7 t n at' m xs) (fun x'=>Hint.ok (C7 t n at' m xs) x'∧Hint.mu (C7 t n at' m xs) x'<Hint.mu (C7 t n at' m xs) x) [.ptr 0 0,.O,.O,.O,.O,.O,.O,.O,.slice 1 0 (List.length xs) 1,.int .i64 (↑(List.length xs):Int),.int .i64 (W ((↑x.1:Int)+1)),.O,.O,.O,.O,.O,.O,.O,.O,.O,.O,.O,.O,.O,.O,.O,.O,.O,.O,.O,.O,.O,.O,.O,.O,.O,.O,.O,.O,.O,.O,.O,.O,.O,.O,.O,.O,.O,.O,.O,.O,.O,.O,.O,.O,.O,.O,.O,.O] [some (.cells [.int .i64 t,.int .i64 n,.slice 3 0 (List.length (Prod.snd x).1+1) 1,.slice 4 0 (List.length (Prod.snd x).2) 1,.slice 1 0 (List.length xs) 1,.map 2,.int .i64 at',.raw (Value.pointer none)]),some (.ints (some .i64) xs),some (.imap .i64 none m),some (.ints (some .i64) ((Prod.snd x).1++ [List.getD xs (0+Int.toNat (↑x.1:Int)*1) 0])),some (.ints (some .i64) (Prod.snd x).2)]else(0=0∧lE' (Prod.snd x).2∧1=1∧List.length (Prod.snd x).2+(1:Nat)≤(4294967296:Nat))∧okSt (C7 t n at' m xs) (fun x'=>Hint.ok (C7 t n at' m xs) x'∧Hint.mu (C7 t n at' m xs) x'<Hint.mu (C7 t n at' m xs) x) [.ptr 0 0,.O,.O,.O,.O,.O,.O,.O,.slice 1 0 (List.length xs) 1,.int .i64 (↑(List.length xs):Int),.int .i64 (W ((↑x.1:Int)+1)),.O,.O,.O,.O,.O,.O,.O,.O,.O,.O,.O,.O,.O,.O,.O,.O,.O,.O,.O,.O,.O,.O,.O,.O,.O,.O,.O,.O,.O,.O,.O,.O,.O,.O,.O,.O,.O,.O,.O,.O,.O,.O,.O,.O,.O,.O,.O,.O] [some (.cells [.int .i64 t,.int .i64 n,.slice 3 0 (List.length (Prod.snd x).1) 1,.slice 4 0 (List.length (Prod.snd x).2+1) 1,.slice 1 0 (List.length xs) 1,.map 2,.int .i64 at',.raw (Value.pointer none)]),some (.ints (some .i64) xs),some (.imap .i64 none m),some (.ints (some .i64) (Prod.snd x).1),some (.ints (some .i64) ((Prod.snd x).2++ [List.getD xs (0+Int.toNat (↑x.1:Int)*1) 0]))]else((lE' (Prod.snd x).2∧List.length (Prod.snd x).2≤(1000000:Nat))∧True)∧K (.bool (ieq (↑(List.length (Prod.snd x).2):Int) 0)) [some (.cells [.int .i64 t,.int .i64 n,.slice 3 0 (List.length (Prod.snd x).1) 1,.slice 4 0 (List.length (Prod.snd x).2) 1,.slice 1 0 (List.length xs) 1,.map 2,.int .i64 at',.ptr 5 0]),some (.ints (some .i64) xs),some (.imap .i64 none m),some (.ints (some .i64) (Prod.snd x).1),some (.ints (some .i64) (Prod.snd x).2),some (.cells [.int .i64 t,.int .i64 n,.slice 6 0 (List.length (Prod.snd x).2) 1]),some (.ints (some .i64) (Prod.snd x).2)]) (by kernel_rfl) ?_))
 refine⟨aW (H:=C7 t n at' m xs) ((0:Nat),([]:List Int),([]:List Int)) rfl ⟨Nat.zero_le _,rfl,rfl⟩,?_⟩
 rintro⟨i,ks,fs⟩ ⟨h1,h2,h3⟩
 dsimp only at h1 h2 h3⊢
 refine qT (fun hi=>?_) (fun hi=>?_)
 ·have hi':i<xs.length:=by omega
  have e2:0+(i:Int).toNat *1=i:=by omega
  have hg:xs.getD i 0=xs[i]:=by rw [gD',gE' hi'];rfl
  have e4:W ((i:Int)+1)=((i+1:Nat):Int):=by rw [y3 (by omega)];rfl
  have hk:cM m (xs.take (i+1))=ks++(bif mhas m xs[i]then [xs[i]]else []):=by
   rw [h2];unfold cM;rw [List.take_succ_eq_append_getElem hi',List.filter_append]
   cases hm:mhas m xs[i]<;>simp [hm]
  have hf:aV m (xs.take (i+1))=fs++(bif mhas m xs[i]then []else [xs[i]]):=by
   rw [h3];unfold aV;rw [List.take_succ_eq_append_getElem hi',List.filter_append]
   cases hm:mhas m xs[i]<;>simp [hm]
  have hkl:ks.length≤xs.length:=by rw [h2];exact Nat.le_trans (vG _ _) (by simp;omega)
  have hfl:fs.length≤xs.length:=by rw [h3];exact Nat.le_trans (vG _ _) (by simp;omega)
  have hmu:xs.length - (i+1)<xs.length - i:=by omega
  rw [e2,e4,hg]
  have hd:(!ieq (Option.getD (mget m xs[i]) 0) 0)=mhas m xs[i]:=rfl
  rw [hd]
  refine⟨by omega,by omega,aP (fun hm=>⟨⟨rfl,rfl,rfl,by omega⟩,?_⟩) (fun hm=>⟨⟨rfl,rfl,rfl,by omega⟩,?_⟩)⟩
  ·rw [hm]at hk hf
   simp only [cond_true,List.append_nil]at hk hf
   exact aW (H:=C7 t n at' m xs) ((i+1:Nat),ks++ [xs[i]],fs) (by simp only [C7,List.length_append]<;>rfl) ⟨⟨hi',hk.symm,hf.symm⟩,hmu⟩
  ·rw [hm]at hk hf
   simp only [cond_false,List.append_nil]at hk hf
   exact aW (H:=C7 t n at' m xs) ((i+1:Nat),ks,fs++ [xs[i]]) (by simp only [C7,List.length_append]<;>rfl) ⟨⟨hi',hk.symm,hf.symm⟩,hmu⟩
 ·rw [List.take_of_length_le (by omega)]at h2 h3
  subst h2 h3
  have:=vG (fun n=>!mhas m n) xs
  refine⟨⟨⟨rfl,?_⟩,trivial⟩,hK⟩
  show(aV m xs).length ≤1000000
  unfold aV
  omega
noncomputable def E35:=E35a.addS 228 partsS N3
def swA(t n me sp:Int)(R:List Int)(s:MS):aD Ob:=[some (.cells [.ptr 1 0,.raw (.pointer none)]),some (.cells [.int .i64 t,.int .i64 n,.int .i64 me,.int .i64 sp,.slice 2 0 R.length 1]),some (.ints (some .i64) R),some (.cells [.int .i64 s.t,.int .i64 s.n,.slice 4 0 s.xs.length 1,.int .i64 s.c,.int .i64 s.k,.int .i64 s.a,.int .u64 s.o,.int .u64 s.w,.bool s.ok]),some (.ints (some .u64) s.xs)]
def ZP(t n me sp:Int)(R:List Int)(s:MS)(m:List (Int×Int))(i:Int):aD Ob:=[some (.cells [.ptr 1 0,.ptr 5 0]),some (.cells [.int .i64 t,.int .i64 n,.int .i64 me,.int .i64 sp,.slice 2 0 R.length 1]),some (.ints (some .i64) R),some (.cells [.int .i64 s.t,.int .i64 s.n,.slice 4 0 s.xs.length 1,.int .i64 s.c,.int .i64 s.k,.int .i64 s.a,.int .u64 s.o,.int .u64 s.w,.bool s.ok]),some (.ints (some .u64) s.xs),some (.cells [.int .i64 t,.int .i64 n,.raw (.slice none 0 0),.raw (.slice none 0 0),.slice 6 0 R.length 1,.map 7,.int .i64 i,.raw (.pointer none)]),some (.ints (some .i64) R),some (.imap .i64 none m)]
def swB(t n me sp:Int)(R N:List Int)(s:MS)(m:List (Int×Int))(i:Int):aD Ob:=[some (.cells [.ptr 1 0,.ptr 3 0]),some (.cells [.int .i64 t,.int .i64 n,.int .i64 me,.int .i64 sp,.slice 2 0 R.length 1]),some (.ints (some .i64) R),some (.cells [.int .i64 t,.int .i64 n,.raw (.slice none 0 0),.raw (.slice none 0 0),.slice 4 0 N.length 1,.map 5,.int .i64 i,.raw (.pointer none)]),some (.ints (some .i64) N),some (.imap .i64 none m),some (.cells [.int .i64 s.t,.int .i64 s.n,.slice 7 0 s.xs.length 1,.int .i64 s.c,.int .i64 s.k,.int .i64 s.a,.int .u64 s.o,.int .u64 s.w,.bool s.ok]),some (.ints (some .u64) s.xs)]
def SS(t n me sp:Int)(st:AVal)(R N ks fs:List Int)(s:MS)(m:List (Int×Int))(i:Int):aD Ob:=[some (.cells [.ptr 1 0,.ptr 3 0]),some (.cells [.int .i64 t,.int .i64 n,.int .i64 me,.int .i64 sp,st]),some (.ints (some .i64) R),some (.cells [.int .i64 t,.int .i64 n,.slice 8 0 ks.length 1,.slice 9 0 fs.length 1,.slice 4 0 N.length 1,.map 5,.int .i64 i,.ptr 10 0]),some (.ints (some .i64) N),some (.imap .i64 none m),some (.cells [.int .i64 s.t,.int .i64 s.n,.slice 7 0 s.xs.length 1,.int .i64 s.c,.int .i64 s.k,.int .i64 s.a,.int .u64 s.o,.int .u64 s.w,.bool s.ok]),some (.ints (some .u64) s.xs),some (.ints (some .i64) ks),some (.ints (some .i64) fs),some (.cells [.int .i64 t,.int .i64 n,.slice 11 0 fs.length 1]),some (.ints (some .i64) fs)]
def ZQ(t n me sp:Int)(st:AVal)(R N ks fs gs:List Int)(s:MS)(m:List (Int×Int))(i:Int)(j l:Nat):aD Ob:=[some (.cells [.ptr 1 0,.ptr 3 0]),some (.cells [.int .i64 t,.int .i64 n,.int .i64 me,.int .i64 sp,st]),some (.ints (some .i64) R),some (.cells [.int .i64 t,.int .i64 n,.slice 4 0 ks.length 1,.slice 5 0 fs.length 1,.slice 6 0 N.length 1,.map 7,.int .i64 i,.ptr 8 0]),some (.ints (some .i64) ks),some (.ints (some .i64) fs),some (.ints (some .i64) N),some (.imap .i64 none m),some (.cells [.int .i64 t,.int .i64 n,.slice 9 j l 1]),some (.ints (some .i64) gs),some (.cells [.int .i64 s.t,.int .i64 s.n,.slice 11 0 s.xs.length 1,.int .i64 s.c,.int .i64 s.k,.int .i64 s.a,.int .u64 s.o,.int .u64 s.w,.bool s.ok]),some (.ints (some .u64) s.xs)]
def fD(w:Nat)(h:aD Ob):Option (Nat×MS):=match h with
 | [some (.cells [.int .i64 t,.int .i64 n,.slice l 0 len 1,.int .i64 c,.int .i64 k,.int .i64 a,.int .u64 o,.int .u64 v,.bool ok]),some (.ints (some .u64) xs)]=>if l=w then some (len,⟨t,n,xs,c,k,a,o,v,ok⟩)else none
 | _=>none
theorem cC{w:Nat}{h:aD Ob}{l:Nat}{s:MS}(e:fD w h=some (l,s))(hl:l=s.xs.length):h=[some (.cells [.int .i64 s.t,.int .i64 s.n,.slice w 0 s.xs.length 1,.int .i64 s.c,.int .i64 s.k,.int .i64 s.a,.int .u64 s.o,.int .u64 s.w,.bool s.ok]),some (.ints (some .u64) s.xs)]:=by
 unfold fD at e
 split at e
 ·split at e
  ·rename_i hw
   simp only [sI',pI']at e
   obtain⟨rfl,rfl⟩:=e
   subst hw
   simp only at hl;subst hl;rfl
  ·cases e
 ·cases e
def bR(n i:Int):Int:=2*n+5+2*0+i
def aU(m:List (Int×Int))(n i:Int)(s:MS):List (Int×Int):=dN m (W (aB s.xs (bR n i))) 1
def bV(n:Int)(gs:List Int)(j:Nat):Int:=n+4+List.getD gs (j+Int.toNat 0*1) 0
noncomputable def swS1:aM Ob:=fun args h=>match args,h with
 | [.ptr 0 0,.ptr 3 0],[some (.cells [.ptr 1 0,.raw (.pointer none)]),some (.cells [.int .i64 t,.int .i64 n,.int .i64 me,.int .i64 sp,.slice 2 0 k 1]),some (.ints (some .i64) R),e1,e2]=>(match fD 4 [e1,e2]with
   | some (l,s)=>some (.pre ((l=s.xs.length∧k=R.length)∧(1≤t∧t≤1000)∧(1≤n∧n≤1000)∧(0≤s.c∧s.c≤1000000)∧R.length≤1000000) (.ret (.bool false) (ZP t n me sp R (s.loadd (bR n 0)) (aU [] n 0 s) 1)))
   | none=>none)
 | _,_=>none
noncomputable def swS2:aM Ob:=fun args h=>match args,h with
 | [.ptr 0 0,.ptr 6 0],[some (.cells [.ptr 1 0,.ptr 3 0]),some (.cells [.int .i64 t,.int .i64 n,.int .i64 me,.int .i64 sp,.slice 2 0 k 1]),some (.ints (some .i64) R),some (.cells [.int .i64 t',.int .i64 n',.raw (.slice none 0 0),.raw (.slice none 0 0),.slice 4 0 k' 1,.map 5,.int .i64 i,.raw (.pointer none)]),some (.ints (some .i64) N),some (.imap .i64 none m),e1,e2]=>(match fD 7 [e1,e2]with
   | some (l,s)=>some (.pre ((l=s.xs.length∧k=R.length∧k'=N.length∧t'=t∧n'=n)∧(1≤t∧t≤1000)∧(1≤n∧n≤1000)∧(0≤s.c∧s.c≤1000000)∧N.length≤1000000∧(0≤i∧i<2*t)) (.ite (ieq (i+1) (2*t))
      (.ite (ieq ((aV (aU m n i s) N).length :Int) 0) (.ret (.bool true) (SS t n me sp (.slice 8 0 (cM (aU m n i s) N).length 1) R N (cM (aU m n i s) N) (aV (aU m n i s) N) (s.loadd (bR n i)) (aU m n i s) (i+1)))
        (.ret (.bool false) (SS t n me sp (.slice 2 0 R.length 1) R N (cM (aU m n i s) N) (aV (aU m n i s) N) (s.loadd (bR n i)) (aU m n i s) (i+1))))
      (.ret (.bool false) (swB t n me sp R N (s.loadd (bR n i)) (aU m n i s) (i+1)))))
   | none=>none)
 | _,_=>none
noncomputable def swS3:aM Ob:=fun args h=>match args,h with
 | [.ptr 0 0,.ptr 10 0],[some (.cells [.ptr 1 0,.ptr 3 0]),some (.cells [.int .i64 t,.int .i64 n,.int .i64 me,.int .i64 sp,.slice 2 0 k 1]),some (.ints (some .i64) R),some (.cells [.int .i64 t',.int .i64 n',.slice 4 0 k1 1,.slice 5 0 k2 1,.slice 6 0 k3 1,.map 7,.int .i64 i,.ptr 8 0]),some (.ints (some .i64) ks),some (.ints (some .i64) fs),some (.ints (some .i64) N),some (.imap .i64 none m),some (.cells [.int .i64 t'',.int .i64 n'',.slice 9 j l' 1]),some (.ints (some .i64) gs),e1,e2]=>(match fD 11 [e1,e2]with
   | some (l,s)=>some (.pre ((l=s.xs.length∧k=R.length∧k1=ks.length∧k2=fs.length∧k3=N.length∧t'=t∧n'=n∧t''=t∧n''=n)∧(1≤t∧t≤1000)∧(1≤n∧n≤1000)∧(0≤s.c∧s.c≤1000000)∧2*t≤i∧(1≤l'∧gs.length=j+l')∧(-1000000≤List.getD gs (j+Int.toNat 0*1) 0∧List.getD gs (j+Int.toNat 0*1) 0≤1000000)) (.ite (ieq ((l' - 1:Nat):Int) 0)
      (.ret (.bool true) (ZQ t n me sp (.slice 4 0 ks.length 1) R N ks fs gs (s.added (bV n gs j) 1) m i (j+1) (l' - 1)))
      (.ret (.bool false) (ZQ t n me sp (.slice 2 0 R.length 1) R N ks fs gs (s.added (bV n gs j) 1) m i (j+1) (l' - 1)))))
   | none=>none)
 | _,_=>none
noncomputable def swStepS:aM Ob:=fun args h=>match swS1 args h with
 | some o=>some o
 | none=>match swS2 args h with
   | some o=>some o
   | none=>swS3 args h
theorem XQ(t n me sp:Int)(R:List Int)(s:MS)(K:AVal→aD Ob→Prop)(ht:1≤t∧t≤1000)(hn:1≤n∧n≤1000)(hc:0≤s.c∧s.c≤1000000)(hR:R.length≤1000000)(hK:K (.bool false) (ZP t n me sp R (s.loadd (bR n 0)) (aU [] n 0 s) 1)):aC E35.I Tryz.prog 195 [.ptr 0 0,.ptr 3 0] (swA t n me sp R s) K:=by
 refine aBs (cM' (E:=E35) (q:=((lE' R∧List.length R≤(1000000:Nat))∧True)∧((((0:Int)≤t∧t≤(100000:Int))∧(0:Int)≤n∧n≤(100000:Int))∧True)∧bif ile (2*t) 0 then False else((((0:Int)≤t∧t≤(100000:Int))∧((0:Int)≤n∧n≤(100000:Int))∧((-1099511627776:Int)≤(0:Int)∧(0:Int)≤(1099511627776:Int))∧(-1099511627776:Int)≤(0:Int)∧(0:Int)≤(1099511627776:Int))∧True)∧((lE' s.3∧(0:Int)≤s.4∧s.4≤(4611686018427387904:Int))∧True)∧((((0:Int)≤t∧t≤(100000:Int))∧(0:Int)≤n∧n≤(100000:Int))∧True)∧bif ieq (W (0+1)) (2*t)then((lE' R∧List.length R≤(1000000:Nat))∧True)∧bif !ieq (↑(List.length (aV (dN [] (W (aB s.3 (2*n+5+2*0+0))) 1) R)):Int) 0 then K (.bool false) [some (.cells [.ptr 1 0,.ptr 5 0]),some (.cells [.int .i64 t,.int .i64 n,.int .i64 me,.int .i64 sp,.slice 2 0 (List.length R) 1]),some (.ints (some .i64) R),some (.cells [.int .i64 s.1,.int .i64 s.2,.slice 4 0 (List.length s.3) 1,.int .i64 (s.4+1),.int .i64 1,.int .i64 (2*n+5+2*0+0),.int .u64 (aB s.3 (2*n+5+2*0+0)),.int .u64 (aB s.3 (2*n+5+2*0+0)),.bool (bL s.3 (2*n+5+2*0+0))]),some (.ints (some .u64) s.3),some (.cells [.int .i64 t,.int .i64 n,.slice 6 0 (List.length (cM (dN [] (W (aB s.3 (2*n+5+2*0+0))) 1) R)) 1,.slice 7 0 (List.length (aV (dN [] (W (aB s.3 (2*n+5+2*0+0))) 1) R)) 1,.slice 8 0 (List.length R) 1,.map 9,.int .i64 (W (0+1)),.ptr 10 0]),some (.ints (some .i64) (cM (dN [] (W (aB s.3 (2*n+5+2*0+0))) 1) R)),some (.ints (some .i64) (aV (dN [] (W (aB s.3 (2*n+5+2*0+0))) 1) R)),some (.ints (some .i64) R),some (.imap .i64 none (dN [] (W (aB s.3 (2*n+5+2*0+0))) 1)),some (.cells [.int .i64 t,.int .i64 n,.slice 11 0 (List.length (aV (dN [] (W (aB s.3 (2*n+5+2*0+0))) 1) R)) 1]),some (.ints (some .i64) (aV (dN [] (W (aB s.3 (2*n+5+2*0+0))) 1) R))]else K (.bool true) [some (.cells [.ptr 1 0,.ptr 5 0]),some (.cells [.int .i64 t,.int .i64 n,.int .i64 me,.int .i64 sp,.slice 6 0 (List.length (cM (dN [] (W (aB s.3 (2*n+5+2*0+0))) 1) R)) 1]),some (.ints (some .i64) R),some (.cells [.int .i64 s.1,.int .i64 s.2,.slice 4 0 (List.length s.3) 1,.int .i64 (s.4+1),.int .i64 1,.int .i64 (2*n+5+2*0+0),.int .u64 (aB s.3 (2*n+5+2*0+0)),.int .u64 (aB s.3 (2*n+5+2*0+0)),.bool (bL s.3 (2*n+5+2*0+0))]),some (.ints (some .u64) s.3),some (.cells [.int .i64 t,.int .i64 n,.slice 6 0 (List.length (cM (dN [] (W (aB s.3 (2*n+5+2*0+0))) 1) R)) 1,.slice 7 0 (List.length (aV (dN [] (W (aB s.3 (2*n+5+2*0+0))) 1) R)) 1,.slice 8 0 (List.length R) 1,.map 9,.int .i64 (W (0+1)),.ptr 10 0]),some (.ints (some .i64) (cM (dN [] (W (aB s.3 (2*n+5+2*0+0))) 1) R)),some (.ints (some .i64) (aV (dN [] (W (aB s.3 (2*n+5+2*0+0))) 1) R)),some (.ints (some .i64) R),some (.imap .i64 none (dN [] (W (aB s.3 (2*n+5+2*0+0))) 1)),some (.cells [.int .i64 t,.int .i64 n,.slice 11 0 (List.length (aV (dN [] (W (aB s.3 (2*n+5+2*0+0))) 1) R)) 1]),some (.ints (some .i64) (aV (dN [] (W (aB s.3 (2*n+5+2*0+0))) 1) R))]else K (.bool false) [some (.cells [.ptr 1 0,.ptr 5 0]),some (.cells [.int .i64 t,.int .i64 n,.int .i64 me,.int .i64 sp,.slice 2 0 (List.length R) 1]),some (.ints (some .i64) R),some (.cells [.int .i64 s.1,.int .i64 s.2,.slice 4 0 (List.length s.3) 1,.int .i64 (s.4+1),.int .i64 1,.int .i64 (2*n+5+2*0+0),.int .u64 (aB s.3 (2*n+5+2*0+0)),.int .u64 (aB s.3 (2*n+5+2*0+0)),.bool (bL s.3 (2*n+5+2*0+0))]),some (.ints (some .u64) s.3),some (.cells [.int .i64 t,.int .i64 n,.raw (Value.slice none 0 0),.raw (Value.slice none 0 0),.slice 6 0 (List.length R) 1,.map 7,.int .i64 (W (0+1)),.raw (Value.pointer none)]),some (.ints (some .i64) R),some (.imap .i64 none (dN [] (W (aB s.3 (2*n+5+2*0+0))) 1))]) (by kernel_rfl) ?_)
 refine⟨⟨⟨rfl,hR⟩,trivial⟩,⟨by omega,trivial⟩,vT (fun h=>by omega) (fun _=>⟨⟨by omega,trivial⟩,⟨⟨rfl,by omega⟩,trivial⟩,⟨by omega,trivial⟩,?_⟩)⟩
 have e:W (0+1)=1:=by decide
 rw [e]
 refine GW (fun h=>by omega) (fun _=>hK)
theorem XR(t n me sp i:Int)(R N:List Int)(s:MS)(m:List (Int×Int))(K:AVal→aD Ob→Prop)(ht:1≤t∧t≤1000)(hn:1≤n∧n≤1000)(hc:0≤s.c∧s.c≤1000000)(hN:N.length≤1000000)(hi:0≤i∧i<2*t)
 (hK:cond (ieq (i+1) (2*t)) (cond (ieq ((aV (aU m n i s) N).length :Int) 0) (K (.bool true) (SS t n me sp (.slice 8 0 (cM (aU m n i s) N).length 1) R N (cM (aU m n i s) N) (aV (aU m n i s) N) (s.loadd (bR n i)) (aU m n i s) (i+1))) (K (.bool false) (SS t n me sp (.slice 2 0 R.length 1) R N (cM (aU m n i s) N) (aV (aU m n i s) N) (s.loadd (bR n i)) (aU m n i s) (i+1)))) (K (.bool false) (swB t n me sp R N (s.loadd (bR n i)) (aU m n i s) (i+1)))):aC E35.I Tryz.prog 195 [.ptr 0 0,.ptr 6 0] (swB t n me sp R N s m i) K:=by
 refine aBs (cM' (E:=E35) (q:=((((0:Int)≤t∧t≤(100000:Int))∧(0:Int)≤n∧n≤(100000:Int))∧True)∧bif ile (2*t) i then False else((((0:Int)≤t∧t≤(100000:Int))∧((0:Int)≤n∧n≤(100000:Int))∧((-1099511627776:Int)≤(0:Int)∧(0:Int)≤(1099511627776:Int))∧(-1099511627776:Int)≤i∧i≤(1099511627776:Int))∧True)∧((lE' s.3∧(0:Int)≤s.4∧s.4≤(4611686018427387904:Int))∧True)∧((((0:Int)≤t∧t≤(100000:Int))∧(0:Int)≤n∧n≤(100000:Int))∧True)∧bif ieq (W (i+1)) (2*t)then((lE' N∧List.length N≤(1000000:Nat))∧True)∧bif !ieq (↑(List.length (aV (dN m (W (aB s.3 (2*n+5+2*0+i))) 1) N)):Int) 0 then K (.bool false) [some (.cells [.ptr 1 0,.ptr 3 0]),some (.cells [.int .i64 t,.int .i64 n,.int .i64 me,.int .i64 sp,.slice 2 0 (List.length R) 1]),some (.ints (some .i64) R),some (.cells [.int .i64 t,.int .i64 n,.slice 8 0 (List.length (cM (dN m (W (aB s.3 (2*n+5+2*0+i))) 1) N)) 1,.slice 9 0 (List.length (aV (dN m (W (aB s.3 (2*n+5+2*0+i))) 1) N)) 1,.slice 4 0 (List.length N) 1,.map 5,.int .i64 (W (i+1)),.ptr 10 0]),some (.ints (some .i64) N),some (.imap .i64 none (dN m (W (aB s.3 (2*n+5+2*0+i))) 1)),some (.cells [.int .i64 s.1,.int .i64 s.2,.slice 7 0 (List.length s.3) 1,.int .i64 (s.4+1),.int .i64 1,.int .i64 (2*n+5+2*0+i),.int .u64 (aB s.3 (2*n+5+2*0+i)),.int .u64 (aB s.3 (2*n+5+2*0+i)),.bool (bL s.3 (2*n+5+2*0+i))]),some (.ints (some .u64) s.3),some (.ints (some .i64) (cM (dN m (W (aB s.3 (2*n+5+2*0+i))) 1) N)),some (.ints (some .i64) (aV (dN m (W (aB s.3 (2*n+5+2*0+i))) 1) N)),some (.cells [.int .i64 t,.int .i64 n,.slice 11 0 (List.length (aV (dN m (W (aB s.3 (2*n+5+2*0+i))) 1) N)) 1]),some (.ints (some .i64) (aV (dN m (W (aB s.3 (2*n+5+2*0+i))) 1) N))]else K (.bool true) [some (.cells [.ptr 1 0,.ptr 3 0]),some (.cells [.int .i64 t,.int .i64 n,.int .i64 me,.int .i64 sp,.slice 8 0 (List.length (cM (dN m (W (aB s.3 (2*n+5+2*0+i))) 1) N)) 1]),some (.ints (some .i64) R),some (.cells [.int .i64 t,.int .i64 n,.slice 8 0 (List.length (cM (dN m (W (aB s.3 (2*n+5+2*0+i))) 1) N)) 1,.slice 9 0 (List.length (aV (dN m (W (aB s.3 (2*n+5+2*0+i))) 1) N)) 1,.slice 4 0 (List.length N) 1,.map 5,.int .i64 (W (i+1)),.ptr 10 0]),some (.ints (some .i64) N),some (.imap .i64 none (dN m (W (aB s.3 (2*n+5+2*0+i))) 1)),some (.cells [.int .i64 s.1,.int .i64 s.2,.slice 7 0 (List.length s.3) 1,.int .i64 (s.4+1),.int .i64 1,.int .i64 (2*n+5+2*0+i),.int .u64 (aB s.3 (2*n+5+2*0+i)),.int .u64 (aB s.3 (2*n+5+2*0+i)),.bool (bL s.3 (2*n+5+2*0+i))]),some (.ints (some .u64) s.3),some (.ints (some .i64) (cM (dN m (W (aB s.3 (2*n+5+2*0+i))) 1) N)),some (.ints (some .i64) (aV (dN m (W (aB s.3 (2*n+5+2*0+i))) 1) N)),some (.cells [.int .i64 t,.int .i64 n,.slice 11 0 (List.length (aV (dN m (W (aB s.3 (2*n+5+2*0+i))) 1) N)) 1]),some (.ints (some .i64) (aV (dN m (W (aB s.3 (2*n+5+2*0+i))) 1) N))]else K (.bool false) [some (.cells [.ptr 1 0,.ptr 3 0]),some (.cells [.int .i64 t,.int .i64 n,.int .i64 me,.int .i64 sp,.slice 2 0 (List.length R) 1]),some (.ints (some .i64) R),some (.cells [.int .i64 t,.int .i64 n,.raw (Value.slice none 0 0),.raw (Value.slice none 0 0),.slice 4 0 (List.length N) 1,.map 5,.int .i64 (W (i+1)),.raw (Value.pointer none)]),some (.ints (some .i64) N),some (.imap .i64 none (dN m (W (aB s.3 (2*n+5+2*0+i))) 1)),some (.cells [.int .i64 s.1,.int .i64 s.2,.slice 7 0 (List.length s.3) 1,.int .i64 (s.4+1),.int .i64 1,.int .i64 (2*n+5+2*0+i),.int .u64 (aB s.3 (2*n+5+2*0+i)),.int .u64 (aB s.3 (2*n+5+2*0+i)),.bool (bL s.3 (2*n+5+2*0+i))]),some (.ints (some .u64) s.3)]) (by kernel_rfl) ?_)
 have e:W (i+1)=i+1:=y3 (by omega)
 rw [e]
 refine⟨⟨by omega,trivial⟩,vT (fun h=>by omega) (fun _=>⟨⟨by omega,trivial⟩,⟨⟨rfl,by omega⟩,trivial⟩,⟨by omega,trivial⟩,?_⟩)⟩
 cases h1:ieq (i+1) (2*t)with
 | false=>rw [h1]at hK;exact hK
 | true=>
   rw [h1]at hK
   refine⟨⟨⟨rfl,hN⟩,trivial⟩,?_⟩
   cases h2:ieq ((aV (aU m n i s) N).length :Int) 0 with
   | false=>rw [h2]at hK;unfold aU bR at h2;rw [h2];exact hK
   | true=>rw [h2]at hK;unfold aU bR at h2;rw [h2];exact hK
theorem XS(t n me sp i:Int)(R N ks fs gs:List Int)(s:MS)(m:List (Int×Int))(j l:Nat)(K:AVal→aD Ob→Prop)(ht:1≤t∧t≤1000)(hn:1≤n∧n≤1000)(hc:0≤s.c∧s.c≤1000000)(hi:2*t≤i)(hl:1≤l∧gs.length=j+l)(hg: -1000000≤List.getD gs (j+Int.toNat 0*1) 0∧List.getD gs (j+Int.toNat 0*1) 0≤1000000)
 (hK:cond (ieq ((l - 1:Nat):Int) 0) (K (.bool true) (ZQ t n me sp (.slice 4 0 ks.length 1) R N ks fs gs (s.added (bV n gs j) 1) m i (j+1) (l - 1))) (K (.bool false) (ZQ t n me sp (.slice 2 0 R.length 1) R N ks fs gs (s.added (bV n gs j) 1) m i (j+1) (l - 1)))):aC E35.I Tryz.prog 195 [.ptr 0 0,.ptr 10 0] (ZQ t n me sp (.slice 2 0 R.length 1) R N ks fs gs s m i j l) K:=by
 refine aBs (cM' (E:=E35) (q:=((((0:Int)≤t∧t≤(100000:Int))∧(0:Int)≤n∧n≤(100000:Int))∧True)∧bif ile (2*t) i then bif ieq (↑l:Int) 0 then(lE' s.3∧(0:Int)≤s.4∧s.4≤(4611686018427387904:Int))∧K (.bool true) [some (.cells [.ptr 1 0,.ptr 3 0]),some (.cells [.int .i64 t,.int .i64 n,.int .i64 me,.int .i64 sp,.slice 4 0 (List.length ks) 1]),some (.ints (some .i64) R),some (.cells [.int .i64 t,.int .i64 n,.slice 4 0 (List.length ks) 1,.slice 5 0 (List.length fs) 1,.slice 6 0 (List.length N) 1,.map 7,.int .i64 i,.ptr 8 0]),some (.ints (some .i64) ks),some (.ints (some .i64) fs),some (.ints (some .i64) N),some (.imap .i64 none m),some (.cells [.int .i64 t,.int .i64 n,.slice 9 j l 1]),some (.ints (some .i64) gs),some (.cells [.int .i64 s.1,.int .i64 s.2,.slice 11 0 (List.length s.3) 1,.int .i64 (s.4+1),.int .i64 1,.int .i64 0,.int .u64 (aB s.3 0),.int .u64 (aB s.3 0),.bool (bL s.3 0)]),some (.ints (some .u64) s.3)]else((0:Int)≤(0:Int)∧(0:Int)<(↑l:Int))∧j+Int.toNat 0*(1:Nat)<List.length gs∧((((0:Int)≤t∧t≤(100000:Int))∧((0:Int)≤n∧n≤(100000:Int))∧(-1099511627776:Int)≤List.getD gs (j+Int.toNat 0*1) 0∧List.getD gs (j+Int.toNat 0*1) (0:Int)≤(1099511627776:Int))∧True)∧((lE' s.3∧(0:Int)≤s.4∧s.4≤(4611686018427387904:Int))∧True)∧((0:Int)≤(1:Int)∧Int.toNat (1:Int)≤l)∧bif !ieq (↑(l - Int.toNat 1):Int) 0 then K (.bool false) [some (.cells [.ptr 1 0,.ptr 3 0]),some (.cells [.int .i64 t,.int .i64 n,.int .i64 me,.int .i64 sp,.slice 2 0 (List.length R) 1]),some (.ints (some .i64) R),some (.cells [.int .i64 t,.int .i64 n,.slice 4 0 (List.length ks) 1,.slice 5 0 (List.length fs) 1,.slice 6 0 (List.length N) 1,.map 7,.int .i64 i,.ptr 8 0]),some (.ints (some .i64) ks),some (.ints (some .i64) fs),some (.ints (some .i64) N),some (.imap .i64 none m),some (.cells [.int .i64 t,.int .i64 n,.slice 9 (j+Int.toNat 1*1) (l - Int.toNat 1) 1]),some (.ints (some .i64) gs),some (.cells [.int .i64 s.1,.int .i64 s.2,.slice 11 0 (List.length (aJ s.3 (n+4+List.getD gs (j+Int.toNat 0*1) 0) (WU (aB s.3 (n+4+List.getD gs (j+Int.toNat 0*1) 0)+1)))) 1,.int .i64 (s.4+1),.int .i64 4,.int .i64 (n+4+List.getD gs (j+Int.toNat 0*1) 0),.int .u64 (aB s.3 (n+4+List.getD gs (j+Int.toNat 0*1) 0)),.int .u64 (bif bL s.3 (n+4+List.getD gs (j+Int.toNat 0*1) 0)then WU (aB s.3 (n+4+List.getD gs (j+Int.toNat 0*1) 0)+1)else 0),.bool (bL s.3 (n+4+List.getD gs (j+Int.toNat 0*1) 0))]),some (.ints (some .u64) (aJ s.3 (n+4+List.getD gs (j+Int.toNat 0*1) 0) (WU (aB s.3 (n+4+List.getD gs (j+Int.toNat 0*1) 0)+1))))]else K (.bool true) [some (.cells [.ptr 1 0,.ptr 3 0]),some (.cells [.int .i64 t,.int .i64 n,.int .i64 me,.int .i64 sp,.slice 4 0 (List.length ks) 1]),some (.ints (some .i64) R),some (.cells [.int .i64 t,.int .i64 n,.slice 4 0 (List.length ks) 1,.slice 5 0 (List.length fs) 1,.slice 6 0 (List.length N) 1,.map 7,.int .i64 i,.ptr 8 0]),some (.ints (some .i64) ks),some (.ints (some .i64) fs),some (.ints (some .i64) N),some (.imap .i64 none m),some (.cells [.int .i64 t,.int .i64 n,.slice 9 (j+Int.toNat 1*1) (l - Int.toNat 1) 1]),some (.ints (some .i64) gs),some (.cells [.int .i64 s.1,.int .i64 s.2,.slice 11 0 (List.length (aJ s.3 (n+4+List.getD gs (j+Int.toNat 0*1) 0) (WU (aB s.3 (n+4+List.getD gs (j+Int.toNat 0*1) 0)+1)))) 1,.int .i64 (s.4+1),.int .i64 4,.int .i64 (n+4+List.getD gs (j+Int.toNat 0*1) 0),.int .u64 (aB s.3 (n+4+List.getD gs (j+Int.toNat 0*1) 0)),.int .u64 (bif bL s.3 (n+4+List.getD gs (j+Int.toNat 0*1) 0)then WU (aB s.3 (n+4+List.getD gs (j+Int.toNat 0*1) 0)+1)else 0),.bool (bL s.3 (n+4+List.getD gs (j+Int.toNat 0*1) 0))]),some (.ints (some .u64) (aJ s.3 (n+4+List.getD gs (j+Int.toNat 0*1) 0) (WU (aB s.3 (n+4+List.getD gs (j+Int.toNat 0*1) 0)+1))))]else((((0:Int)≤t∧t≤(100000:Int))∧((0:Int)≤n∧n≤(100000:Int))∧((-1099511627776:Int)≤(0:Int)∧(0:Int)≤(1099511627776:Int))∧(-1099511627776:Int)≤i∧i≤(1099511627776:Int))∧True)∧((lE' s.3∧(0:Int)≤s.4∧s.4≤(4611686018427387904:Int))∧True)∧((((0:Int)≤t∧t≤(100000:Int))∧(0:Int)≤n∧n≤(100000:Int))∧True)∧bif ieq (W (i+1)) (2*t)then False else K (.bool false) [some (.cells [.ptr 1 0,.ptr 3 0]),some (.cells [.int .i64 t,.int .i64 n,.int .i64 me,.int .i64 sp,.slice 2 0 (List.length R) 1]),some (.ints (some .i64) R),some (.cells [.int .i64 t,.int .i64 n,.slice 4 0 (List.length ks) 1,.slice 5 0 (List.length fs) 1,.slice 6 0 (List.length N) 1,.map 7,.int .i64 (W (i+1)),.ptr 8 0]),some (.ints (some .i64) ks),some (.ints (some .i64) fs),some (.ints (some .i64) N),some (.imap .i64 none (dN m (W (aB s.3 (2*n+5+2*0+i))) 1)),some (.cells [.int .i64 t,.int .i64 n,.slice 9 j l 1]),some (.ints (some .i64) gs),some (.cells [.int .i64 s.1,.int .i64 s.2,.slice 11 0 (List.length s.3) 1,.int .i64 (s.4+1),.int .i64 1,.int .i64 (2*n+5+2*0+i),.int .u64 (aB s.3 (2*n+5+2*0+i)),.int .u64 (aB s.3 (2*n+5+2*0+i)),.bool (bL s.3 (2*n+5+2*0+i))]),some (.ints (some .u64) s.3)]) (by kernel_rfl) ?_)
 refine⟨⟨by omega,trivial⟩,vT (fun h=>GW (fun h0=>by omega) (fun _=>⟨by omega,by omega,⟨by omega,trivial⟩,⟨⟨rfl,by omega⟩,trivial⟩,by omega,?_⟩)) (fun h=>by omega)⟩
 have e:l - Int.toNat 1=l - 1:=rfl
 rw [e]
 cases h1:ieq ((l - 1:Nat):Int) 0 with
 | false=>rw [h1]at hK;exact hK
 | true=>rw [h1]at hK;exact hK
theorem SW:aM.ok E35.I Tryz.prog 195 swS1:=by
 intro args h o ho K hK
 unfold swS1 at ho
 split at ho
 case h_2=>cases ho
 split at ho<;>cases ho
 rename_i hm
 obtain⟨⟨⟨hl,hk⟩,ht,hn,hc,hR⟩,hK⟩:=hK
 have hh:=cC hm hl
 cases hh
 subst hk
 exact XQ _ _ _ _ _ _ K ht hn hc hR hK
theorem SX:aM.ok E35.I Tryz.prog 195 swS2:=by
 intro args h o ho K hK
 unfold swS2 at ho
 split at ho
 case h_2=>cases ho
 split at ho<;>cases ho
 rename_i hm
 obtain⟨⟨⟨hl,hk,hk',h1,h2⟩,ht,hn,hc,hN,hi⟩,hK⟩:=hK
 have hh:=cC hm hl
 cases hh
 subst hk hk' h1 h2
 exact XR _ _ _ _ _ _ _ _ _ K ht hn hc hN hi hK
theorem SY:aM.ok E35.I Tryz.prog 195 swS3:=by
 intro args h o ho K hK
 unfold swS3 at ho
 split at ho
 case h_2=>cases ho
 split at ho<;>cases ho
 rename_i hm
 obtain⟨⟨⟨hl,hk,hk1,hk2,hk3,h1,h2,h3,h4⟩,ht,hn,hc,hi,hl',hg⟩,hK⟩:=hK
 have hh:=cC hm hl
 cases hh
 subst hk hk1 hk2 hk3 h1 h2 h3 h4
 exact XS _ _ _ _ _ _ _ _ _ _ _ _ _ _ K ht hn hc hi hl' hg hK
theorem oT:aM.ok E35.I Tryz.prog 195 swStepS:=by
 intro args h o ho
 unfold swStepS at ho
 split at ho
 ·rename_i e;cases ho;exact SW _ _ _ e
 ·split at ho
  ·rename_i e;cases ho;exact SX _ _ _ e
  ·exact SY _ _ _ ho
noncomputable def E36:=E35.addS 195 swStepS oT
def X4(t n:Int)(x:AL)(s:MS):aD Ob:=[some (.cells [.int .i64 t,.int .i64 n,.int .i64 x.got,.int .i64 x.at',.int .i64 x.left,.int .u64 x.found,.bool x.free]),some (.cells [.int .i64 s.t,.int .i64 s.n,.slice 2 0 s.xs.length 1,.int .i64 s.c,.int .i64 s.k,.int .i64 s.a,.int .u64 s.o,.int .u64 s.w,.bool s.ok]),some (.ints (some .u64) s.xs)]
def oddB(y:Int):Bool:=!ieq (Int.tmod y 2) 0
def cK(n a:Int):Int:=Int.tmod a n+1
def UD(t n:Int)(x:AL)(s:MS):Out Ob:=.ite x.free
 (.ite (aS s.xs (n+4+x.at') x.found) (.ret (.bool true) (X4 t n ⟨x.at',x.at',x.left,x.found,true⟩ (s.cased (n+4+x.at') x.found (WU (x.found+1)))))
   (.ret (.bool (ile (x.left - 1) 0)) (X4 t n ⟨x.got,cK n x.at',x.left - 1,x.found,false⟩ (s.cased (n+4+x.at') x.found (WU (x.found+1))))))
 (.ite (oddB (aB s.xs (n+4+x.at'))) (.ret (.bool (ile (x.left - 1) 0)) (X4 t n ⟨x.got,cK n x.at',x.left - 1,aB s.xs (n+4+x.at'),false⟩ (s.loadd (n+4+x.at'))))
   (.ret (.bool false) (X4 t n ⟨x.got,x.at',x.left,aB s.xs (n+4+x.at'),true⟩ (s.loadd (n+4+x.at')))))
theorem PN(t n:Int)(x:AL)(s:MS)(K:AVal→aD Ob→Prop)(ht:1≤t∧t≤1000)(hn:1≤n∧n≤1000)(ha:1≤x.at'∧x.at'≤n)(hl:0≤x.left∧x.left≤1000)(hc:0≤s.c∧s.c≤1000000)(hK:(UD t n x s).run K):aC E36.I Tryz.prog 145 [.ptr 0 0,.ptr 1 0] (X4 t n x s) K:=by
 refine aBs (cM' (E:=E36) (q:=bif !x.5 then((((0:Int)≤t∧t≤(100000:Int))∧((0:Int)≤n∧n≤(100000:Int))∧(-1099511627776:Int)≤x.2∧x.2≤(1099511627776:Int))∧True)∧((lE' s.3∧(0:Int)≤s.4∧s.4≤(4611686018427387904:Int))∧True)∧(2:Int)≠(0:Int)∧bif !ieq (Int.tmod (aB s.3 (n+4+x.2)) 2) 0 then n≠(0:Int)∧K (.bool (ile (W (x.3 - 1)) 0)) [some (.cells [.int .i64 t,.int .i64 n,.int .i64 x.1,.int .i64 (W (Int.tmod x.2 n+1)),.int .i64 (W (x.3 - 1)),.int .u64 (aB s.3 (n+4+x.2)),.bool false]),some (.cells [.int .i64 s.1,.int .i64 s.2,.slice 2 0 (List.length s.3) 1,.int .i64 (s.4+1),.int .i64 1,.int .i64 (n+4+x.2),.int .u64 (aB s.3 (n+4+x.2)),.int .u64 (aB s.3 (n+4+x.2)),.bool (bL s.3 (n+4+x.2))]),some (.ints (some .u64) s.3)]else K (.bool false) [some (.cells [.int .i64 t,.int .i64 n,.int .i64 x.1,.int .i64 x.2,.int .i64 x.3,.int .u64 (aB s.3 (n+4+x.2)),.bool (ieq (Int.tmod (aB s.3 (n+4+x.2)) 2) 0)]),some (.cells [.int .i64 s.1,.int .i64 s.2,.slice 2 0 (List.length s.3) 1,.int .i64 (s.4+1),.int .i64 1,.int .i64 (n+4+x.2),.int .u64 (aB s.3 (n+4+x.2)),.int .u64 (aB s.3 (n+4+x.2)),.bool (bL s.3 (n+4+x.2))]),some (.ints (some .u64) s.3)]else((((0:Int)≤t∧t≤(100000:Int))∧((0:Int)≤n∧n≤(100000:Int))∧(-1099511627776:Int)≤x.2∧x.2≤(1099511627776:Int))∧True)∧((lE' s.3∧(0:Int)≤s.4∧s.4≤(4611686018427387904:Int))∧True)∧bif aS s.3 (n+4+x.2) x.4 then K (.bool true) [some (.cells [.int .i64 t,.int .i64 n,.int .i64 x.2,.int .i64 x.2,.int .i64 x.3,.int .u64 x.4,.bool x.5]),some (.cells [.int .i64 s.1,.int .i64 s.2,.slice 2 0 (List.length (bif aS s.3 (n+4+x.2) x.4 then aJ s.3 (n+4+x.2) (WU (x.4+1))else s.3)) 1,.int .i64 (s.4+1),.int .i64 3,.int .i64 (n+4+x.2),.int .u64 (aB s.3 (n+4+x.2)),.int .u64 (bif bL s.3 (n+4+x.2)then WU (x.4+1)else 0),.bool (aS s.3 (n+4+x.2) x.4)]),some (.ints (some .u64) (bif aS s.3 (n+4+x.2) x.4 then aJ s.3 (n+4+x.2) (WU (x.4+1))else s.3))]else n≠(0:Int)∧K (.bool (ile (W (x.3 - 1)) 0)) [some (.cells [.int .i64 t,.int .i64 n,.int .i64 x.1,.int .i64 (W (Int.tmod x.2 n+1)),.int .i64 (W (x.3 - 1)),.int .u64 x.4,.bool false]),some (.cells [.int .i64 s.1,.int .i64 s.2,.slice 2 0 (List.length (bif aS s.3 (n+4+x.2) x.4 then aJ s.3 (n+4+x.2) (WU (x.4+1))else s.3)) 1,.int .i64 (s.4+1),.int .i64 3,.int .i64 (n+4+x.2),.int .u64 (aB s.3 (n+4+x.2)),.int .u64 (bif bL s.3 (n+4+x.2)then WU (x.4+1)else 0),.bool (aS s.3 (n+4+x.2) x.4)]),some (.ints (some .u64) (bif aS s.3 (n+4+x.2) x.4 then aJ s.3 (n+4+x.2) (WU (x.4+1))else s.3))]) (by kernel_rfl) ?_)
 obtain⟨got,at',left,found,free⟩:=x
 dsimp only at ha hl⊢
 have hm:=S8 (x:=at') (t:=n) (by omega) (by omega)
 have e1:W (left - 1)=left - 1:=y3 (by omega)
 have e2:W (Int.tmod at' n+1)=cK n at':=y3 (by show _≤Int.tmod at' n+1∧Int.tmod at' n+1≤_;omega)
 rw [e1,e2]
 unfold UD at hK
 dsimp only [Out.run]at hK
 cases free with
 | false=>
   simp only [cond_false,Bool.not_false,cond_true]at hK⊢
   refine⟨⟨by omega,trivial⟩,⟨⟨trivial,by omega⟩,trivial⟩,by omega,?_⟩
   unfold oddB at hK
   generalize ho:ieq (Int.tmod (aB s.xs (n+4+at')) 2) 0=b at hK⊢
   cases b with
   | false=>exact⟨by omega,hK⟩
   | true=>exact hK
 | true=>
   simp only [cond_true,Bool.not_true,cond_false]at hK⊢
   refine⟨⟨by omega,trivial⟩,⟨⟨trivial,by omega⟩,trivial⟩,?_⟩
   unfold X4 at hK
   cases hb:aS s.xs (n+4+at') found with
   | true=>
     rw [hb]at hK
     simp only [cond_true]at hK⊢
     unfold MS.cased at hK
     rw [hb]at hK
     exact hK
   | false=>
     rw [hb]at hK
     simp only [cond_false]at hK⊢
     unfold MS.cased at hK
     rw [hb]at hK
     exact⟨by omega,hK⟩
noncomputable def alS:aM Ob:=fun args h=>match args,h with
 | [.ptr 0 0,.ptr 1 0],[some (.cells [.int .i64 t,.int .i64 n,.int .i64 got,.int .i64 at',.int .i64 left,.int .u64 found,.bool free]),e1,e2]=>match fD 2 [e1,e2]with
   | some (l,s)=>some (.pre (l=s.xs.length∧(1≤t∧t≤1000)∧(1≤n∧n≤1000)∧(1≤at'∧at'≤n)∧(0≤left∧left≤1000)∧(0≤s.c∧s.c≤1000000)) (UD t n ⟨got,at',left,found,free⟩ s))
   | none=>none
 | _,_=>none
theorem YD:aM.ok E36.I Tryz.prog 145 alS:=by
 intro args h o ho K hK
 unfold alS at ho
 split at ho
 case h_2=>cases ho
 split at ho<;>cases ho
 rename_i hm
 obtain⟨⟨hl,ht,hn,ha,hl',hc⟩,hK⟩:=hK
 have hh:=cC hm hl
 cases hh
 exact PN _ _ _ _ K ht hn ha hl' hc hK
noncomputable def E42:=E36.addS 145 alS YD
end Go.Sh
